/- shell: what gives up, what is told, plain digits, a line's words. -/
import Derived.Test.YtbiajfkencamiaaGreatDoorV6
/-! F1 -/
namespace Go.Proofs.YtbiajfkencamiaaGreatDoor.SH
open Go.RowKit Go.Shelf Go.Proofs.YtbiajfkencamiaaGreatDoorW.PrintWords Go.Proofs.YtbiajfkencamiaaGreatDoorW.PrintMore Go.Proofs.YtbiajfkencamiaaGreatDoor.P1 Go.Proofs.YtbiajfkencamiaaGreatDoor Go.Proofs.YtbiajfkencamiaaGreatDoor.Core
set_option linter.unusedVariables false
set_option linter.unusedSimpArgs false
/-- What shell gives up with. -/
def wrongS (e : Int) : List PanicEntry := [{ v := .iface 41 (.agg #[.int .i64 e]), recovered := false }]
theorem need_ok (e : Int) (w : World) : Calls Tryz.prog 11 #[.bool true, .int .i64 e] w fun en w' => en = .returned (.tuple #[]) ∧ w = w' := by
  go_enter Tryz.func11, Tryz.ntmps11
  go_wp2_with fail
  go_end0
  exact ⟨rfl, rfl⟩
theorem need_no (e : Int) (w : World) : Calls Tryz.prog 11 #[.bool false, .int .i64 e] w fun en w' => en = .panicked (wrongS e) ∧ w = w' := by
  go_enter Tryz.func11, Tryz.ntmps11
  go_wp2_with fail
  exact ⟨rfl, rfl, rfl⟩
def toldL (e : Nat) : List UInt8 := if e = 0 then [111, 107, 10] else [101, 114, 114, 111, 114, 32] ++ Lib.decDigits e ++ [10]
theorem decDigits_len (e : Nat) (h : e < 100) : (Lib.decDigits e).length ≤ 2 := by
  have : ∀ x : Fin 100, (Lib.decDigits x.val).length ≤ 2 := by decide +kernel
  exact this ⟨e, h⟩
set_option maxHeartbeats 4000000 in
theorem told_any (e : Nat) (h : e < 100) (w : World) : Calls Tryz.prog 9 #[.int .i64 (e : Int)] w fun en w' => en = .returned (.string ⟨(toldL e).toArray⟩) ∧ w = w' := by
  by_cases h0 : e = 0
  · subst h0
    go_enter Tryz.func9, Tryz.ntmps9
    go_wp2_with fail
    go_ret
    exact ⟨rfl, rfl⟩
  · have e0 : ((e : Int) == 0) = false := by rw [beq_eq_false_iff_ne]; omega
    have HI := Lib.hid (fun W => Tryz.strconv_Itoa_small e h W)
    have hl := decDigits_len e h
    have HT : Hid (toldL e = [101, 114, 114, 111, 114, 32] ++ Lib.decDigits e ++ [10]) := by show _ = _; unfold toldL; rw [if_neg h0]
    obtain ⟨D, hD⟩ : ∃ D, Lib.decDigits e = D := ⟨_, rfl⟩
    rw [hD] at HI HT hl
    have hs1 : (⟨#[101, 114, 114, 111, 114, 32]⟩ : ByteArray).size + (⟨D.toArray⟩ : ByteArray).size ≤ 9223372036854775807 := by simp [ByteArray.size]; omega
    clear h0 hD h
    go_enter Tryz.func9, Tryz.ntmps9
    go_wp2_with (refine (HI.out _).mono ?_; rintro _ _ ⟨rfl, rfl⟩)
    go_ret
    rw [HT.out]
    exact ⟨rfl, rfl⟩
/-- A number, or a panic. -/
def GivesS (w : World) : Option Int → Ending → World → Prop
  | some n, e, w' => e = .returned (.int .i64 n) ∧ Below w.heap.size w w'
  | none, e, w' => e = .panicked (wrongS 13) ∧ Below w.heap.size w w'
def plainS (t : List UInt8) : Option Int := if plainB 9 t = true then some (val 0 t : Int) else none
set_option maxHeartbeats 4000000 in
theorem plain_any (t : List UInt8) (w : World) : Calls Tryz.prog 65 #[.string ⟨t.toArray⟩] w (GivesS w (plainS t)) := by
  cases t with
  | nil =>
    go_enter Tryz.func65, Tryz.ntmps65
    go_wp2_with fail
    refine (need_no 13 _).mono ?_
    rintro _ _ ⟨rfl, rfl⟩
    exact ⟨rfl, rfl, Below.refl _ _⟩
  | cons a r =>
    by_cases h6 : (a :: r).length ≤ 9
    · have HT := Lib.hid (trim_any (a :: r) (by omega) w)
      have HA := Lib.hid (fun (h : plainB 9 (a :: r) = true) W1 => Tryz.strconv_Atoi ⟨(a :: r).toArray⟩ (val 0 (a :: r) : Int) (by simp [ByteArray.size] at h6 ⊢; omega) (by simpa using atoi_val (a :: r) (by simp) ((plainM_iff 9 _).1 h).2.2.1) W1)
      have hr10 : r.length ≤ 8 := by simpa using h6
      have H6 := Lib.hid h6
      have h6i : (r.length : Int) + 1 ≤ 9 := by omega
      have h6i2 : decide ((r.length : Int) + 1 ≤ 9) = true := decide_eq_true h6i
      clear h6 hr10
      go_enter Tryz.func65, Tryz.ntmps65
      go_wp2_with first
        | (refine HT.out.mono ?_
           rintro _ w5 ⟨rfl, hb⟩)
      · have e1 : Lib.trimS (a :: r) digs = [] := ‹_›
        have hbb : (a == 48 && r.isEmpty || ((a.toNat : Int) != 48)) = plainB 9 (a :: r) := by
          rw [plainM_ok 9 a r e1 H6.out, u8_ne]
          by_cases ha : a = 48 <;> cases r <;> simp [ha]
        show Calls Tryz.prog 11 #[.bool (a == 48 && r.isEmpty || ((a.toNat : Int) != 48)), _] w5 _
        rw [hbb]
        rcases hpl : plainB 9 (a :: r) with _ | _
        · refine (need_no 13 _).mono ?_
          rintro _ _ ⟨rfl, rfl⟩
          have HL : plainS (a :: r) = none := by unfold plainS; rw [hpl]; rfl
          rw [HL]
          exact ⟨rfl, rfl, hb⟩
        · have HL : plainS (a :: r) = some (val 0 (a :: r) : Int) := by unfold plainS; rw [hpl]; rfl
          generalize (val 0 (a :: r) : Int) = nv at HA HL
          have HLL := Lib.hid HL
          have HX := Lib.hid (HA.out hpl)
          clear HL HA hbb hpl
          refine (need_ok 13 _).mono ?_
          rintro _ _ ⟨rfl, rfl⟩
          go_wp2_with fail
          refine (HX.out _).mono ?_
          rintro _ _ ⟨rfl, t6, rfl⟩
          have hb6 := bytes_below hb hb.size 5 t6
          go_wp2_with fail
          go_ret
          rw [HLL.out]
          exact ⟨rfl, hb6⟩
      · have hab : a = 48 ∧ r = [] := by
          have h := ‹¬(¬a = 48 ∨ ¬r = [])›
          exact ⟨Classical.byContradiction fun h1 => h (.inl h1), Classical.byContradiction fun h1 => h (.inr h1)⟩
        have HL : plainS (a :: r) = some 0 := by rw [hab.1, hab.2]; decide
        have HX := Lib.hid (fun W1 => Tryz.strconv_Atoi ⟨#[48]⟩ 0 (by decide) (by decide) W1)
        have HLL := Lib.hid HL
        refine (need_ok 13 _).mono ?_
        rintro _ _ ⟨rfl, rfl⟩
        clear HL HA
        go_wp2_with fail
        refine (HX.out _).mono ?_
        rintro _ _ ⟨rfl, t6, rfl⟩
        have hb6 := bytes_below hb hb.size 5 t6
        go_wp2_with fail
        go_ret
        first | rw [HLL.out] | (rw [hab.1, hab.2] at HLL; rw [HLL.out])
        exact ⟨rfl, hb6⟩
      · exfalso
        simp_all
      · have e1 : ¬ Lib.trimS (a :: r) digs = [] := ‹_›
        have HL : plainS (a :: r) = none := by unfold plainS; rw [plainM_no 9 a r e1]; rfl
        rw [HL]
        have he : (Lib.trimS (a :: r) digs).isEmpty = false := by
          cases e : Lib.trimS (a :: r) digs
          · exact absurd e e1
          · rfl
        first
          | (refine (need_no 13 _).mono ?_
             rintro _ _ ⟨rfl, rfl⟩
             exact ⟨rfl, rfl, hb⟩)
          | (rw [he]
             refine (need_no 13 _).mono ?_
             rintro _ _ ⟨rfl, rfl⟩
             exact ⟨rfl, rfl, hb⟩)
    · have h6i : ¬ (r.length : Int) + 1 ≤ 9 := by simp at h6; omega
      have h6i2 : decide ((r.length : Int) + 1 ≤ 9) = false := decide_eq_false h6i
      have HL : Hid (plainS (a :: r) = none) := by show _ = _; unfold plainS; rw [plainM_long 9 a r h6]; rfl
      clear h6
      go_enter Tryz.func65, Tryz.ntmps65
      go_wp2_with fail
      refine (need_no 13 _).mono ?_
      rintro _ _ ⟨rfl, rfl⟩
      rw [HL.out]
      exact ⟨rfl, rfl, Below.refl _ _⟩
theorem plainS_range {t : List UInt8} {n : Int} (h : plainS t = some n) : 0 ≤ n ∧ n < 1000000000 := by
  unfold plainS at h
  split at h
  · rename_i hp
    injection h with h
    obtain ⟨_, hl, hd, _⟩ := (plainM_iff 9 t).1 hp
    have h1 := val_le t 0 hd
    have h2 : 10 ^ t.length ≤ 10 ^ 9 := Nat.pow_le_pow_right (by omega) hl
    have h3 : (10 : Nat) ^ 9 = 1000000000 := by rfl
    omega
  · cases h
theorem isblank_any (r : Nat) (w : World) : Calls Tryz.prog 22 #[.int .i32 (r : Int)] w fun e w' => e = .returned (.bool (blankR r)) ∧ w' = w := by
  by_cases h1 : r = 32
  · subst h1
    go_enter Tryz.func22, Tryz.ntmps22
    go_wp2_with fail
    go_ret
    exact ⟨rfl, rfl⟩
  · by_cases h2 : r = 9
    · subst h2
      go_enter Tryz.func22, Tryz.ntmps22
      go_wp2_with fail
      go_ret
      exact ⟨rfl, rfl⟩
    · have e1 : (((r : Int)) == 32) = false := by rw [beq_eq_false_iff_ne]; omega
      have e2 : (((r : Int)) == 9) = false := by rw [beq_eq_false_iff_ne]; omega
      have e3 : (((r : Int)) == 13) = blankR r := by
        unfold blankR
        by_cases h3 : r = 13
        · subst h3; rfl
        · rw [decide_eq_false h1, decide_eq_false h2, decide_eq_false h3, beq_eq_false_iff_ne.2 (by omega)]; rfl
      generalize blankR r = b at e3 ⊢
      generalize (r : Int) = ri at *
      clear h1 h2
      go_enter Tryz.func22, Tryz.ntmps22
      go_wp2_with fail
      go_ret
      exact ⟨rfl, rfl⟩
theorem isblank_at (w : World) : PredAtRunes Tryz.prog 22 #[] blankR w := fun W x hx hb => by
  refine (isblank_any x W).mono ?_
  rintro e w' ⟨rfl, rfl⟩
  exact ⟨rfl, 0, rfl⟩
/-- A line's words, in memory of the call's own. -/
def GivesW (w : World) (L : List (List UInt8)) (e : Ending) (w' : World) : Prop := ∃ A, e = .returned (.slice (some ⟨A, 0, none⟩) L.length L.length) ∧ w.heap.size ≤ A ∧ w'.ownsRow w.heap.size 9 1 (.slice (some ⟨A, 0, none⟩) L.length L.length) L.length ((wB L).map Value.string) ∧ Below w.heap.size w w'
set_option maxRecDepth 100000 in
set_option maxHeartbeats 4000000 in
theorem words_any (t : List UInt8) (hs : t.length ≤ 80000) (w : World) (ht : TabA w) : Calls Tryz.prog 13 #[.string ⟨t.toArray⟩] w (GivesW w (wordsL t)) := by
  obtain ⟨mm, hm⟩ := ht.2
  have hcut := Tryz.strings_Cut ⟨t.toArray⟩ ⟨#[35]⟩ mm w (by simp [ByteArray.size]; omega) hm
  obtain ⟨T, hT⟩ : ∃ T : ByteArray, T = ⟨t.toArray⟩ := ⟨_, rfl⟩
  rw [← hT] at hcut ⊢
  obtain ⟨C1, hC1⟩ : ∃ C : ByteArray, C = ⟨(Lib.cut T.data.toList (⟨#[35]⟩ : ByteArray).data.toList).1.toArray⟩ := ⟨_, rfl⟩
  rw [← hC1] at hcut
  generalize (⟨(Lib.cut T.data.toList (⟨#[35]⟩ : ByteArray).data.toList).2.1.toArray⟩ : ByteArray) = C2 at hcut
  generalize (Lib.cut T.data.toList (⟨#[35]⟩ : ByteArray).data.toList).2.2 = C3 at hcut
  have hCw : Lib.goFieldsP blankR C1 = wB (wordsL t) := by
    have := words_eq t
    unfold wordsB at this
    rw [hC1, hT]
    simpa using this
  have hCs : C1.size ≤ 4294967296 := by
    have h := cut_len t
    rw [hC1, hT]
    simp [ByteArray.size]
    omega
  have HFF := Lib.hid (fun W => Tryz.strings_FieldsFunc_runes 22 #[] (enters_of Tryz.func22 (by kernel_rfl) rfl) blankR C1 W hCs (isblank_at _))
  rw [hCw] at HFF
  have HCUT := Lib.hid hcut
  generalize wordsL t = L at *
  clear hcut hT hC1 hCw hCs ht hm
  go_enter Tryz.func13, Tryz.ntmps13
  go_wp2_with fail
  refine HCUT.out.mono ?_
  rintro _ W1 ⟨rfl, nq, hw1⟩
  rw [hw1]
  obtain ⟨WA, hWA⟩ : ∃ X, w.drewN nq = X := ⟨_, rfl⟩
  have HBA : Hid (Below w.heap.size w WA ∧ WA.heap.size = w.heap.size) := by rw [← hWA]; exact ⟨pw_below_drewN (Below.refl _ _) _, rfl⟩
  rw [hWA]
  clear hWA hw1 HCUT
  go_wp2_with fail
  refine (HFF.out _).mono ?_
  rintro _ W2 ⟨A1, rfl, hA1, hrow, hb2⟩
  rw [HBA.out.2] at hA1 hrow
  have HB2 : Hid (Below w.heap.size w W2) := HBA.out.1.trans (hb2.mono (Nat.le_of_eq HBA.out.2.symm))
  have e9 : (wB L).length = L.length := by simp
  rw [e9] at hrow ⊢
  have HROW := Lib.hid hrow
  clear e9
  have HA1 := Lib.hid hA1
  clear hb2 hrow hA1
  go_wp2_with fail
  go_ret
  exact ⟨A1, rfl, HA1.out, HROW.out, HB2.out⟩
end Go.Proofs.YtbiajfkencamiaaGreatDoor.SH
