/- shell: what the lines' verbs do while there is no runtime. Printed by gen_sf3.py. -/
import Derived.Test.YtbiajfkencamiaaGreatDoorF2
import Derived.Test.YtbiajfkencamiaaGreatDoorE12
/-! F3 -/
namespace Go.Proofs.YtbiajfkencamiaaGreatDoor.SH
open Go.RowKit Go.Shelf Go.Proofs.YtbiajfkencamiaaGreatDoorW.PrintWords Go.Proofs.YtbiajfkencamiaaGreatDoorW.PrintMore Go.Proofs.YtbiajfkencamiaaGreatDoor.P1 Go.Proofs.YtbiajfkencamiaaGreatDoor Go.Proofs.YtbiajfkencamiaaGreatDoor.Core
open Go.Proofs.YtbiajfkencamiaaGreatDoor.EV (Upd Upd.set Upd.below Upd.trans)
open Go.Proofs.YtbiajfkencamiaaGreatDoor.PK (S121 k121 z121 S124 k124 z124 at_T124 at_T121 rd_T124 rd_T121)
set_option linter.unusedVariables false
set_option linter.unusedSimpArgs false
abbrev shC (T : List UInt8) : Array Value := #[.string ⟨T.toArray⟩, .int .i64 100, .int .i64 4, .pointer none, .int .i64 0]
/-- A shell that has no runtime. -/
def ShW (gs : Nat) (T : List UInt8) (W : World) : Prop := W.heap[gs]? = some (.cells (shC T) 38 (0, 0))
theorem ShW.below {gs : Nat} {T : List UInt8} {W W' : World} (h : ShW gs T W) (hb : Below W.heap.size W W') : ShW gs T W' := blk_below h hb
/-- What a verb answers: a text, or an error; the shell's text is turned. -/
def GivesX (gs : Nat) (T' : List UInt8) (w : World) : Except Nat (List UInt8) → Ending → World → Prop
  | .ok s, e, w' => e = .returned (.string ⟨s.toArray⟩) ∧ ShW gs T' w' ∧ Upd gs w w'
  | .error x, e, w' => e = .panicked (wrongS (x : Int)) ∧ ShW gs T' w' ∧ Upd gs w w'
theorem runtime_nil {gs : Nat} {T : List UInt8} {w : World} (h : ShW gs T w) : Calls Tryz.prog 44 #[.pointer (some ⟨gs, 0, none⟩)] w fun en w' => en = .panicked (wrongS 11) ∧ w = w' := by
  have c2 := (blk_cell h 3).trans rfl
  clear h
  go_enter Tryz.func44, Tryz.ntmps44
  go_wp2_with fail
  refine (need_no 11 _).mono ?_
  rintro _ _ ⟨rfl, rfl⟩
  exact ⟨rfl, rfl, rfl⟩
theorem parse_err : ∀ (ls : List (List UInt8)) (p : List Core.Fn) (n : Nat) (x : Nat × Int), parseL p n ls = .error x → ∃ k : Nat, x.2 = (k : Int) ∧ (k = 3 ∨ k = 4)
  | [], p, n, x, h => by cases h
  | l :: t, p, n, x, h => by
    unfold parseL at h
    split at h
    · exact parse_err t _ _ x h
    · rename_i e he
      injection h with h
      subst h
      rcases take_err he with rfl | rfl
      · exact ⟨3, rfl, .inl rfl⟩
      · exact ⟨4, rfl, .inr rfl⟩
/-- A program, or a panic. -/
def GivesQ (w : World) : Except (Nat × Int) (List Core.Fn) → Ending → World → Prop
  | .ok q, e, w' => ∃ u, e = .returned u ∧ PrgP w' w.heap.size u q ∧ Below w.heap.size w w'
  | .error x, e, w' => e = .panicked (wrongS x.2) ∧ Below w.heap.size w w'
set_option maxHeartbeats 4000000 in
theorem program_any {gs : Nat} {T : List UInt8} {w : World} (h : ShW gs T w) (hl : T.length ≤ 65536) (hT : TabA w) : Calls Tryz.prog 46 #[.pointer (some ⟨gs, 0, none⟩)] w (GivesQ w (parseL [] 0 (splitB 10 T))) := by
  have c0 := (blk_cell h 0).trans rfl
  obtain ⟨r, hr⟩ : ∃ r, parseL [] 0 (splitB 10 T) = r := ⟨_, rfl⟩
  have HP := Lib.hid (parse_any T hl w hT)
  rw [hr] at HP ⊢
  have HE := Lib.hid (fun x (hx : r = .error x) => parse_err _ _ _ x (hr.trans hx))
  clear hr h hl hT
  go_enter Tryz.func46, Tryz.ntmps46
  go_wp2_with fail
  refine HP.out.mono ?_
  intro e w1 hg
  cases r with
  | ok q =>
    obtain ⟨u, rfl, hp, hb⟩ := hg
    obtain ⟨A0, c9, rfl, _⟩ := hp.slice
    have HQ := Lib.hid (And.intro hp hb)
    clear hp hb c0 HP HE
    go_wp2_with fail
    refine (need_ok 0 _).mono ?_
    rintro _ w2 ⟨rfl, hw2⟩
    obtain rfl := hw2
    go_wp2_with fail
    go_ret
    exact ⟨_, rfl, HQ.out.1, HQ.out.2⟩
  | error x =>
    obtain ⟨k, hk, hk2⟩ := HE.out x rfl
    obtain ⟨x1, x2⟩ := x
    change x2 = (k : Int) at hk
    subst hk
    obtain ⟨rfl, hb⟩ := hg
    have e0 : (((k : Int)) == 0) = false := by rw [beq_eq_false_iff_ne]; omega
    have HB := Lib.hid hb
    clear hb hk2 c0 HP HE
    go_wp2_with fail
    refine (need_no (k : Int) _).mono ?_
    rintro _ _ ⟨rfl, rfl⟩
    exact ⟨rfl, rfl, HB.out⟩
set_option maxRecDepth 100000 in
set_option maxHeartbeats 4000000 in
theorem shut_nil {gs : Nat} {T : List UInt8} {w : World} {v : Value} (own : List (List UInt8)) (h : ShW gs T w) (hw : WordsR w v own) (hl : own.length ≤ 1000000) : Calls Tryz.prog 31 #[.pointer (some ⟨gs, 0, none⟩), v] w (GivesX gs T w (if (numbersS own 0).isSome then .error 11 else .error 13)) := by
  obtain ⟨r, hr⟩ : ∃ r, numbersS own 0 = r := ⟨_, rfl⟩
  have HN := Lib.hid (numbers_any own 0 v w hw hl)
  rw [hr] at HN ⊢
  have HLN : Hid (∀ l, r = some l → l.length = 0) := fun l hl2 => by
    have h1 := hr.trans hl2
    unfold numbersS at h1
    split at h1
    · rename_i h2
      rw [mapP_len _ _ h1, h2]
    · cases h1
  have HS0 := Lib.hid h
  obtain ⟨rr, hrr⟩ : ∃ rr : Except Nat (List UInt8), (if r.isSome = true then .error 11 else .error 13) = rr := ⟨_, rfl⟩
  rw [hrr]
  have HRR := Lib.hid hrr
  clear hrr
  obtain ⟨bk, o, c, rfl, _⟩ := hw
  clear h hl hr
  go_enter Tryz.func31, Tryz.ntmps31
  go_wp2_with fail
  refine HN.out.mono ?_
  intro e w1 hg
  cases r with
  | none =>
    obtain ⟨rfl, hb⟩ := hg
    rw [← HRR.out]
    exact ⟨rfl, rfl, HS0.out.below hb, Upd.below hb⟩
  | some l =>
    obtain ⟨v', rfl, ho, hb⟩ := hg
    have hll := HLN.out l rfl
    have HS1 := Lib.hid (HS0.out.below hb)
    have HU1 : Hid (Upd gs w w1) := Upd.below hb
    obtain ⟨A5, c5, rfl⟩ := own_slice ho
    clear ho hb hll HN HLN
    go_wp2_with fail
    refine (runtime_nil HS1.out).mono ?_
    rintro e9 w2 ⟨q1, q2⟩
    subst q2
    subst q1
    rw [← HRR.out]
    exact ⟨rfl, rfl, HS1.out, HU1.out⟩
set_option maxRecDepth 100000 in
set_option maxHeartbeats 4000000 in
theorem stats_nil {gs : Nat} {T : List UInt8} {w : World} {v : Value} (own : List (List UInt8)) (h : ShW gs T w) (hw : WordsR w v own) (hl : own.length ≤ 1000000) : Calls Tryz.prog 34 #[.pointer (some ⟨gs, 0, none⟩), v] w (GivesX gs T w (if (numbersS own 0).isSome then .error 11 else .error 13)) := by
  obtain ⟨r, hr⟩ : ∃ r, numbersS own 0 = r := ⟨_, rfl⟩
  have HN := Lib.hid (numbers_any own 0 v w hw hl)
  rw [hr] at HN ⊢
  have HLN : Hid (∀ l, r = some l → l.length = 0) := fun l hl2 => by
    have h1 := hr.trans hl2
    unfold numbersS at h1
    split at h1
    · rename_i h2
      rw [mapP_len _ _ h1, h2]
    · cases h1
  have HS0 := Lib.hid h
  obtain ⟨rr, hrr⟩ : ∃ rr : Except Nat (List UInt8), (if r.isSome = true then .error 11 else .error 13) = rr := ⟨_, rfl⟩
  rw [hrr]
  have HRR := Lib.hid hrr
  clear hrr
  obtain ⟨bk, o, c, rfl, _⟩ := hw
  clear h hl hr
  go_enter Tryz.func34, Tryz.ntmps34
  go_wp2_with fail
  refine HN.out.mono ?_
  intro e w1 hg
  cases r with
  | none =>
    obtain ⟨rfl, hb⟩ := hg
    rw [← HRR.out]
    exact ⟨rfl, rfl, HS0.out.below hb, Upd.below hb⟩
  | some l =>
    obtain ⟨v', rfl, ho, hb⟩ := hg
    have hll := HLN.out l rfl
    have HS1 := Lib.hid (HS0.out.below hb)
    have HU1 : Hid (Upd gs w w1) := Upd.below hb
    obtain ⟨A5, c5, rfl⟩ := own_slice ho
    clear ho hb hll HN HLN
    go_wp2_with fail
    refine (runtime_nil HS1.out).mono ?_
    rintro e9 w2 ⟨q1, q2⟩
    subst q2
    subst q1
    rw [← HRR.out]
    exact ⟨rfl, rfl, HS1.out, HU1.out⟩
set_option maxRecDepth 100000 in
set_option maxHeartbeats 4000000 in
theorem cancel_nil {gs : Nat} {T : List UInt8} {w : World} {v : Value} (own : List (List UInt8)) (h : ShW gs T w) (hw : WordsR w v own) (hl : own.length ≤ 1000000) : Calls Tryz.prog 30 #[.pointer (some ⟨gs, 0, none⟩), v] w (GivesX gs T w (if (numbersS own 1).isSome then .error 11 else .error 13)) := by
  obtain ⟨r, hr⟩ : ∃ r, numbersS own 1 = r := ⟨_, rfl⟩
  have HN := Lib.hid (numbers_any own 1 v w hw hl)
  rw [hr] at HN ⊢
  have HLN : Hid (∀ l, r = some l → l.length = 1) := fun l hl2 => by
    have h1 := hr.trans hl2
    unfold numbersS at h1
    split at h1
    · rename_i h2
      rw [mapP_len _ _ h1, h2]
    · cases h1
  have HS0 := Lib.hid h
  obtain ⟨rr, hrr⟩ : ∃ rr : Except Nat (List UInt8), (if r.isSome = true then .error 11 else .error 13) = rr := ⟨_, rfl⟩
  rw [hrr]
  have HRR := Lib.hid hrr
  clear hrr
  obtain ⟨bk, o, c, rfl, _⟩ := hw
  clear h hl hr
  go_enter Tryz.func30, Tryz.ntmps30
  go_wp2_with fail
  refine HN.out.mono ?_
  intro e w1 hg
  cases r with
  | none =>
    obtain ⟨rfl, hb⟩ := hg
    rw [← HRR.out]
    exact ⟨rfl, rfl, HS0.out.below hb, Upd.below hb⟩
  | some l =>
    obtain ⟨v', rfl, ho, hb⟩ := hg
    have hll := HLN.out l rfl
    obtain ⟨k0, rfl⟩ : ∃ k0 : Int, l = [k0] := by
      match l, hll with
      | [k0], _ => exact ⟨k0, rfl⟩
    obtain ⟨g, cap, rfl⟩ : ∃ g cap, v' = .slice (some ⟨g, 0, none⟩) 1 cap := ownsRow_succ ho
    have HC := Lib.hid ho
    have HS1 := Lib.hid (HS0.out.below hb)
    have HU1 : Hid (Upd gs w w1) := Upd.below hb
    clear ho hb hll HN HLN
    go_wp2_with fail
    refine Reg.wp_region_phase (by kernel_rfl) [1, 5, 6] (fun i => match i with | 0 => fun v => v = .pointer (some ⟨gs, 0, none⟩) | 2 => fun v => v = .slice (some ⟨g, 0, none⟩) 1 cap | 3 => fun v => v = .pointer (some ⟨g, 0, none⟩) | 4 => fun v => v = .int .i64 k0 | _ => fun _ => True) (fun k f9 X => match k with | 0 => Below w1.heap.size w1 X | _ => False) (by kernel_rfl) (by kernel_rfl) (by decide) (by decide) ?hJ ?h0 ?pure ?act ?fin
    case hJ => (intro k f9 f' X h hj; match k, hj with
    | 0, hj => exact hj
    | k + 1, hj => exact hj.elim)
    case h0 => exact pw_below_drewN (Below.refl _ _) 1
    case pure =>
      intro i o k a w_ ho hE hk hmc hf hst hkn hj
      have hi : i < 8 := (Array.getElem?_eq_some_iff.1 ho).1
      obtain rfl | rfl | rfl | rfl | rfl : i = 0 ∨ i = 2 ∨ i = 3 ∨ i = 4 ∨ i = 7 := by
        simp only [List.mem_cons, List.not_mem_nil, or_false, not_or] at hE
        omega
      · skip
        obtain rfl := Reg.oper_eq ho rfl
        have e0 : a.eval (.tmp 0) = .pointer (some ⟨gs, 0, none⟩) := (hf.eval 0 (by kernel_rfl)).trans rfl
        have g0 := Reg.eval_getD e0
        exact Reg.op_value rfl rfl (by simp only [List.getElem_toArray, List.getElem_cons_zero, List.getElem_cons_succ, execOp, e0]; go_simp) ⟨_, rfl, rfl, hj⟩
      · skip
        obtain rfl := Reg.oper_eq ho rfl
        have e5 : a.eval (.tmp 5) = .slice (some ⟨g, 0, none⟩) 1 cap := (hf.eval 5 (by kernel_rfl)).trans rfl
        have g5 := Reg.eval_getD e5
        exact Reg.op_value rfl rfl (by simp only [List.getElem_toArray, List.getElem_cons_zero, List.getElem_cons_succ, execOp, e5]; go_simp) ⟨_, rfl, rfl, hj⟩
      · skip
        obtain rfl := Reg.oper_eq ho rfl
        have e10 : a.eval (.tmp 10) = .slice (some ⟨g, 0, none⟩) 1 cap := hkn.eval 2 10 (by kernel_rfl) (by kernel_rfl)
        have g10 := Reg.eval_getD e10
        exact Reg.op_value rfl rfl (by simp only [List.getElem_toArray, List.getElem_cons_zero, List.getElem_cons_succ, execOp, e10]; go_simp) ⟨_, rfl, rfl, hj⟩
      · skip
        obtain rfl := Reg.oper_eq ho rfl
        have e11 : a.eval (.tmp 11) = .pointer (some ⟨g, 0, none⟩) := hkn.eval 3 11 (by kernel_rfl) (by kernel_rfl)
        have g11 := Reg.eval_getD e11
        have hz : w_.cell? ⟨g, 0, none⟩ = some (.int .i64 k0) := by
          match k, hj with
          | 0, hj => exact (hj.cell (p := ⟨g, 0, none⟩) (World.block_lt_of_cell? _ _ ((World.ownsRow.cellAt HC.out 0 (by decide)).trans rfl))).trans ((World.ownsRow.cellAt HC.out 0 (by decide)).trans rfl)
          | k + 1, hj => exact hj.elim
        exact Reg.op_value rfl rfl (by simp only [List.getElem_toArray, List.getElem_cons_zero, List.getElem_cons_succ, execOp, e11]; go_simp) ⟨_, rfl, rfl, hj⟩
      · skip
        obtain rfl := Reg.oper_eq ho rfl
        match k, hj with
        | 0, hj => exact Bool.noConfusion (hmc.symm.trans (show Reg.mayComeB _ _ _ _ = false from by kernel_rfl))
        | k + 1, hj => exact hj.elim
    case act =>
      intro k o a w_ hk ho hf hst hkn hj
      obtain rfl | rfl | rfl : k = 0 ∨ k = 1 ∨ k = 2 := by simp only [List.length_cons, List.length_nil] at hk; omega
      · skip
        obtain rfl := Reg.oper_eq ho rfl
        have e8 : a.eval (.tmp 8) = .pointer (some ⟨gs, 0, none⟩) := hkn.eval 0 8 (by kernel_rfl) (by kernel_rfl)
        have g8 := Reg.eval_getD e8
        refine Reg.op_call (f := 44) (args := #[.pointer (some ⟨gs, 0, none⟩)]) (w' := w_) rfl rfl (by simp only [List.getElem_toArray, List.getElem_cons_zero, List.getElem_cons_succ, execOp, e8]; go_simp) ((runtime_nil (HS1.out.below hj)).mono ?_)
        rintro e9 w2 ⟨q1, q2⟩
        subst q2
        rw [← HRR.out]
        exact .inr ⟨_, q1, hf.defers, rfl, HS1.out.below hj, HU1.out.trans (Upd.below hj)⟩
      · skip
        obtain rfl := Reg.oper_eq ho rfl
        have e12 : a.eval (.tmp 12) = .int .i64 k0 := hkn.eval 4 12 (by kernel_rfl) (by kernel_rfl)
        have g12 := Reg.eval_getD e12
        exact hj.elim
      · skip
        obtain rfl := Reg.oper_eq ho rfl
        exact hj.elim
    case fin =>
      intro a w_ hf hkn hj
      exact hj.elim
set_option maxRecDepth 100000 in
set_option maxHeartbeats 4000000 in
theorem pick_nil {gs : Nat} {T : List UInt8} {w : World} {v : Value} (own : List (List UInt8)) (h : ShW gs T w) (hw : WordsR w v own) (hl : own.length ≤ 1000000) : Calls Tryz.prog 32 #[.pointer (some ⟨gs, 0, none⟩), v] w (GivesX gs T w (if (numbersS own 2).isSome then .error 11 else .error 13)) := by
  obtain ⟨r, hr⟩ : ∃ r, numbersS own 2 = r := ⟨_, rfl⟩
  have HN := Lib.hid (numbers_any own 2 v w hw hl)
  rw [hr] at HN ⊢
  have HLN : Hid (∀ l, r = some l → l.length = 2) := fun l hl2 => by
    have h1 := hr.trans hl2
    unfold numbersS at h1
    split at h1
    · rename_i h2
      rw [mapP_len _ _ h1, h2]
    · cases h1
  have HS0 := Lib.hid h
  obtain ⟨rr, hrr⟩ : ∃ rr : Except Nat (List UInt8), (if r.isSome = true then .error 11 else .error 13) = rr := ⟨_, rfl⟩
  rw [hrr]
  have HRR := Lib.hid hrr
  clear hrr
  obtain ⟨bk, o, c, rfl, _⟩ := hw
  clear h hl hr
  go_enter Tryz.func32, Tryz.ntmps32
  go_wp2_with fail
  refine HN.out.mono ?_
  intro e w1 hg
  cases r with
  | none =>
    obtain ⟨rfl, hb⟩ := hg
    rw [← HRR.out]
    exact ⟨rfl, rfl, HS0.out.below hb, Upd.below hb⟩
  | some l =>
    obtain ⟨v', rfl, ho, hb⟩ := hg
    have hll := HLN.out l rfl
    obtain ⟨k0, k1, rfl⟩ : ∃ k0 k1 : Int, l = [k0, k1] := by
      match l, hll with
      | [k0, k1], _ => exact ⟨k0, k1, rfl⟩
    obtain ⟨g, cap, rfl⟩ : ∃ g cap, v' = .slice (some ⟨g, 0, none⟩) 2 cap := ownsRow_succ ho
    have HC := Lib.hid ho
    have HS1 := Lib.hid (HS0.out.below hb)
    have HU1 : Hid (Upd gs w w1) := Upd.below hb
    clear ho hb hll HN HLN
    go_wp2_with fail
    refine Reg.wp_region_phase (by kernel_rfl) [1, 8, 9] (fun i => match i with | 0 => fun v => v = .pointer (some ⟨gs, 0, none⟩) | 2 => fun v => v = .slice (some ⟨g, 0, none⟩) 2 cap | 3 => fun v => v = .pointer (some ⟨g, 0, none⟩) | 4 => fun v => v = .int .i64 k0 | 5 => fun v => v = .slice (some ⟨g, 0, none⟩) 2 cap | 6 => fun v => v = .pointer (some ⟨g, 1, none⟩) | 7 => fun v => v = .int .i64 k1 | _ => fun _ => True) (fun k f9 X => match k with | 0 => Below w1.heap.size w1 X | _ => False) (by kernel_rfl) (by kernel_rfl) (by decide) (by decide) ?hJ ?h0 ?pure ?act ?fin
    case hJ => (intro k f9 f' X h hj; match k, hj with
    | 0, hj => exact hj
    | k + 1, hj => exact hj.elim)
    case h0 => exact pw_below_drewN (Below.refl _ _) 1
    case pure =>
      intro i o k a w_ ho hE hk hmc hf hst hkn hj
      have hi : i < 11 := (Array.getElem?_eq_some_iff.1 ho).1
      obtain rfl | rfl | rfl | rfl | rfl | rfl | rfl | rfl : i = 0 ∨ i = 2 ∨ i = 3 ∨ i = 4 ∨ i = 5 ∨ i = 6 ∨ i = 7 ∨ i = 10 := by
        simp only [List.mem_cons, List.not_mem_nil, or_false, not_or] at hE
        omega
      · skip
        obtain rfl := Reg.oper_eq ho rfl
        have e0 : a.eval (.tmp 0) = .pointer (some ⟨gs, 0, none⟩) := (hf.eval 0 (by kernel_rfl)).trans rfl
        have g0 := Reg.eval_getD e0
        exact Reg.op_value rfl rfl (by simp only [List.getElem_toArray, List.getElem_cons_zero, List.getElem_cons_succ, execOp, e0]; go_simp) ⟨_, rfl, rfl, hj⟩
      · skip
        obtain rfl := Reg.oper_eq ho rfl
        have e5 : a.eval (.tmp 5) = .slice (some ⟨g, 0, none⟩) 2 cap := (hf.eval 5 (by kernel_rfl)).trans rfl
        have g5 := Reg.eval_getD e5
        exact Reg.op_value rfl rfl (by simp only [List.getElem_toArray, List.getElem_cons_zero, List.getElem_cons_succ, execOp, e5]; go_simp) ⟨_, rfl, rfl, hj⟩
      · skip
        obtain rfl := Reg.oper_eq ho rfl
        have e10 : a.eval (.tmp 10) = .slice (some ⟨g, 0, none⟩) 2 cap := hkn.eval 2 10 (by kernel_rfl) (by kernel_rfl)
        have g10 := Reg.eval_getD e10
        exact Reg.op_value rfl rfl (by simp only [List.getElem_toArray, List.getElem_cons_zero, List.getElem_cons_succ, execOp, e10]; go_simp) ⟨_, rfl, rfl, hj⟩
      · skip
        obtain rfl := Reg.oper_eq ho rfl
        have e11 : a.eval (.tmp 11) = .pointer (some ⟨g, 0, none⟩) := hkn.eval 3 11 (by kernel_rfl) (by kernel_rfl)
        have g11 := Reg.eval_getD e11
        have hz : w_.cell? ⟨g, 0, none⟩ = some (.int .i64 k0) := by
          match k, hj with
          | 0, hj => exact (hj.cell (p := ⟨g, 0, none⟩) (World.block_lt_of_cell? _ _ ((World.ownsRow.cellAt HC.out 0 (by decide)).trans rfl))).trans ((World.ownsRow.cellAt HC.out 0 (by decide)).trans rfl)
          | k + 1, hj => exact hj.elim
        exact Reg.op_value rfl rfl (by simp only [List.getElem_toArray, List.getElem_cons_zero, List.getElem_cons_succ, execOp, e11]; go_simp) ⟨_, rfl, rfl, hj⟩
      · skip
        obtain rfl := Reg.oper_eq ho rfl
        have e5 : a.eval (.tmp 5) = .slice (some ⟨g, 0, none⟩) 2 cap := (hf.eval 5 (by kernel_rfl)).trans rfl
        have g5 := Reg.eval_getD e5
        exact Reg.op_value rfl rfl (by simp only [List.getElem_toArray, List.getElem_cons_zero, List.getElem_cons_succ, execOp, e5]; go_simp) ⟨_, rfl, rfl, hj⟩
      · skip
        obtain rfl := Reg.oper_eq ho rfl
        have e13 : a.eval (.tmp 13) = .slice (some ⟨g, 0, none⟩) 2 cap := hkn.eval 5 13 (by kernel_rfl) (by kernel_rfl)
        have g13 := Reg.eval_getD e13
        exact Reg.op_value rfl rfl (by simp only [List.getElem_toArray, List.getElem_cons_zero, List.getElem_cons_succ, execOp, e13]; go_simp) ⟨_, rfl, rfl, hj⟩
      · skip
        obtain rfl := Reg.oper_eq ho rfl
        have e14 : a.eval (.tmp 14) = .pointer (some ⟨g, 1, none⟩) := hkn.eval 6 14 (by kernel_rfl) (by kernel_rfl)
        have g14 := Reg.eval_getD e14
        have hz : w_.cell? ⟨g, 1, none⟩ = some (.int .i64 k1) := by
          match k, hj with
          | 0, hj => exact (hj.cell (p := ⟨g, 1, none⟩) (World.block_lt_of_cell? _ _ ((World.ownsRow.cellAt HC.out 1 (by decide)).trans rfl))).trans ((World.ownsRow.cellAt HC.out 1 (by decide)).trans rfl)
          | k + 1, hj => exact hj.elim
        exact Reg.op_value rfl rfl (by simp only [List.getElem_toArray, List.getElem_cons_zero, List.getElem_cons_succ, execOp, e14]; go_simp) ⟨_, rfl, rfl, hj⟩
      · skip
        obtain rfl := Reg.oper_eq ho rfl
        match k, hj with
        | 0, hj => exact Bool.noConfusion (hmc.symm.trans (show Reg.mayComeB _ _ _ _ = false from by kernel_rfl))
        | k + 1, hj => exact hj.elim
    case act =>
      intro k o a w_ hk ho hf hst hkn hj
      obtain rfl | rfl | rfl : k = 0 ∨ k = 1 ∨ k = 2 := by simp only [List.length_cons, List.length_nil] at hk; omega
      · skip
        obtain rfl := Reg.oper_eq ho rfl
        have e8 : a.eval (.tmp 8) = .pointer (some ⟨gs, 0, none⟩) := hkn.eval 0 8 (by kernel_rfl) (by kernel_rfl)
        have g8 := Reg.eval_getD e8
        refine Reg.op_call (f := 44) (args := #[.pointer (some ⟨gs, 0, none⟩)]) (w' := w_) rfl rfl (by simp only [List.getElem_toArray, List.getElem_cons_zero, List.getElem_cons_succ, execOp, e8]; go_simp) ((runtime_nil (HS1.out.below hj)).mono ?_)
        rintro e9 w2 ⟨q1, q2⟩
        subst q2
        rw [← HRR.out]
        exact .inr ⟨_, q1, hf.defers, rfl, HS1.out.below hj, HU1.out.trans (Upd.below hj)⟩
      · skip
        obtain rfl := Reg.oper_eq ho rfl
        have e12 : a.eval (.tmp 12) = .int .i64 k0 := hkn.eval 4 12 (by kernel_rfl) (by kernel_rfl)
        have e15 : a.eval (.tmp 15) = .int .i64 k1 := hkn.eval 7 15 (by kernel_rfl) (by kernel_rfl)
        have g12 := Reg.eval_getD e12
        have g15 := Reg.eval_getD e15
        exact hj.elim
      · skip
        obtain rfl := Reg.oper_eq ho rfl
        exact hj.elim
    case fin =>
      intro a w_ hf hkn hj
      exact hj.elim
set_option maxRecDepth 100000 in
set_option maxHeartbeats 4000000 in
theorem poll_nil {gs : Nat} {T : List UInt8} {w : World} {v : Value} (own : List (List UInt8)) (h : ShW gs T w) (hw : WordsR w v own) (hl : own.length ≤ 1000000) : Calls Tryz.prog 29 #[.pointer (some ⟨gs, 0, none⟩), v] w (GivesX gs T w (if (numbersS own 1).isSome then .error 11 else .error 13)) := by
  obtain ⟨r, hr⟩ : ∃ r, numbersS own 1 = r := ⟨_, rfl⟩
  have HN := Lib.hid (numbers_any own 1 v w hw hl)
  rw [hr] at HN ⊢
  have HLN : Hid (∀ l, r = some l → l.length = 1) := fun l hl2 => by
    have h1 := hr.trans hl2
    unfold numbersS at h1
    split at h1
    · rename_i h2
      rw [mapP_len _ _ h1, h2]
    · cases h1
  have HS0 := Lib.hid h
  obtain ⟨rr, hrr⟩ : ∃ rr : Except Nat (List UInt8), (if r.isSome = true then .error 11 else .error 13) = rr := ⟨_, rfl⟩
  rw [hrr]
  have HRR := Lib.hid hrr
  clear hrr
  obtain ⟨bk, o, c, rfl, _⟩ := hw
  clear h hl hr
  go_enter Tryz.func29, Tryz.ntmps29
  go_wp2_with fail
  refine HN.out.mono ?_
  intro e w1 hg
  cases r with
  | none =>
    obtain ⟨rfl, hb⟩ := hg
    rw [← HRR.out]
    exact ⟨rfl, rfl, HS0.out.below hb, Upd.below hb⟩
  | some l =>
    obtain ⟨v', rfl, ho, hb⟩ := hg
    have hll := HLN.out l rfl
    obtain ⟨k0, rfl⟩ : ∃ k0 : Int, l = [k0] := by
      match l, hll with
      | [k0], _ => exact ⟨k0, rfl⟩
    obtain ⟨g, cap, rfl⟩ : ∃ g cap, v' = .slice (some ⟨g, 0, none⟩) 1 cap := ownsRow_succ ho
    have HC := Lib.hid ho
    have HS1 := Lib.hid (HS0.out.below hb)
    have HU1 : Hid (Upd gs w w1) := Upd.below hb
    clear ho hb hll HN HLN
    go_wp2_with fail
    refine Reg.wp_region_phase (by kernel_rfl) [1, 5, 10] (fun i => match i with | 0 => fun v => v = .pointer (some ⟨gs, 0, none⟩) | 2 => fun v => v = .slice (some ⟨g, 0, none⟩) 1 cap | 3 => fun v => v = .pointer (some ⟨g, 0, none⟩) | 4 => fun v => v = .int .i64 k0 | _ => fun _ => True) (fun k f9 X => match k with | 0 => Below w1.heap.size w1 X | _ => False) (by kernel_rfl) (by kernel_rfl) (by decide) (by decide) ?hJ ?h0 ?pure ?act ?fin
    case hJ => (intro k f9 f' X h hj; match k, hj with
    | 0, hj => exact hj
    | k + 1, hj => exact hj.elim)
    case h0 => exact pw_below_drewN (Below.refl _ _) 1
    case pure =>
      intro i o k a w_ ho hE hk hmc hf hst hkn hj
      have hi : i < 12 := (Array.getElem?_eq_some_iff.1 ho).1
      obtain rfl | rfl | rfl | rfl | rfl | rfl | rfl | rfl | rfl : i = 0 ∨ i = 2 ∨ i = 3 ∨ i = 4 ∨ i = 6 ∨ i = 7 ∨ i = 8 ∨ i = 9 ∨ i = 11 := by
        simp only [List.mem_cons, List.not_mem_nil, or_false, not_or] at hE
        omega
      · skip
        obtain rfl := Reg.oper_eq ho rfl
        have e0 : a.eval (.tmp 0) = .pointer (some ⟨gs, 0, none⟩) := (hf.eval 0 (by kernel_rfl)).trans rfl
        have g0 := Reg.eval_getD e0
        exact Reg.op_value rfl rfl (by simp only [List.getElem_toArray, List.getElem_cons_zero, List.getElem_cons_succ, execOp, e0]; go_simp) ⟨_, rfl, rfl, hj⟩
      · skip
        obtain rfl := Reg.oper_eq ho rfl
        have e5 : a.eval (.tmp 5) = .slice (some ⟨g, 0, none⟩) 1 cap := (hf.eval 5 (by kernel_rfl)).trans rfl
        have g5 := Reg.eval_getD e5
        exact Reg.op_value rfl rfl (by simp only [List.getElem_toArray, List.getElem_cons_zero, List.getElem_cons_succ, execOp, e5]; go_simp) ⟨_, rfl, rfl, hj⟩
      · skip
        obtain rfl := Reg.oper_eq ho rfl
        have e13 : a.eval (.tmp 13) = .slice (some ⟨g, 0, none⟩) 1 cap := hkn.eval 2 13 (by kernel_rfl) (by kernel_rfl)
        have g13 := Reg.eval_getD e13
        exact Reg.op_value rfl rfl (by simp only [List.getElem_toArray, List.getElem_cons_zero, List.getElem_cons_succ, execOp, e13]; go_simp) ⟨_, rfl, rfl, hj⟩
      · skip
        obtain rfl := Reg.oper_eq ho rfl
        have e14 : a.eval (.tmp 14) = .pointer (some ⟨g, 0, none⟩) := hkn.eval 3 14 (by kernel_rfl) (by kernel_rfl)
        have g14 := Reg.eval_getD e14
        have hz : w_.cell? ⟨g, 0, none⟩ = some (.int .i64 k0) := by
          match k, hj with
          | 0, hj => exact (hj.cell (p := ⟨g, 0, none⟩) (World.block_lt_of_cell? _ _ ((World.ownsRow.cellAt HC.out 0 (by decide)).trans rfl))).trans ((World.ownsRow.cellAt HC.out 0 (by decide)).trans rfl)
          | k + 1, hj => exact hj.elim
        exact Reg.op_value rfl rfl (by simp only [List.getElem_toArray, List.getElem_cons_zero, List.getElem_cons_succ, execOp, e14]; go_simp) ⟨_, rfl, rfl, hj⟩
      · skip
        obtain rfl := Reg.oper_eq ho rfl
        match k, hj with
        | 0, hj => exact Bool.noConfusion (hmc.symm.trans (show Reg.mayComeB _ _ _ _ = false from by kernel_rfl))
        | k + 1, hj => exact hj.elim
      · skip
        obtain rfl := Reg.oper_eq ho rfl
        match k, hj with
        | 0, hj => exact Bool.noConfusion (hmc.symm.trans (show Reg.mayComeB _ _ _ _ = false from by kernel_rfl))
        | k + 1, hj => exact hj.elim
      · skip
        obtain rfl := Reg.oper_eq ho rfl
        match k, hj with
        | 0, hj => exact Bool.noConfusion (hmc.symm.trans (show Reg.mayComeB _ _ _ _ = false from by kernel_rfl))
        | k + 1, hj => exact hj.elim
      · skip
        obtain rfl := Reg.oper_eq ho rfl
        match k, hj with
        | 0, hj => exact Reg.op_value (v := .pointer (some ⟨w_.heap.size, 0, none⟩)) (w' := w_.alloc (.cells #[.int .i64 0, .int .i64 0, .int .i64 0, .slice none 0 0] 97)) rfl rfl (by simp only [List.getElem_toArray, List.getElem_cons_zero, List.getElem_cons_succ, execOp]; go_simp) ⟨_, rfl, trivial, hj.alloc hj.size _⟩
        | k + 1, hj => exact hj.elim
      · skip
        obtain rfl := Reg.oper_eq ho rfl
        match k, hj with
        | 0, hj => exact Bool.noConfusion (hmc.symm.trans (show Reg.mayComeB _ _ _ _ = false from by kernel_rfl))
        | k + 1, hj => exact hj.elim
    case act =>
      intro k o a w_ hk ho hf hst hkn hj
      obtain rfl | rfl | rfl : k = 0 ∨ k = 1 ∨ k = 2 := by simp only [List.length_cons, List.length_nil] at hk; omega
      · skip
        obtain rfl := Reg.oper_eq ho rfl
        have e11 : a.eval (.tmp 11) = .pointer (some ⟨gs, 0, none⟩) := hkn.eval 0 11 (by kernel_rfl) (by kernel_rfl)
        have g11 := Reg.eval_getD e11
        refine Reg.op_call (f := 44) (args := #[.pointer (some ⟨gs, 0, none⟩)]) (w' := w_) rfl rfl (by simp only [List.getElem_toArray, List.getElem_cons_zero, List.getElem_cons_succ, execOp, e11]; go_simp) ((runtime_nil (HS1.out.below hj)).mono ?_)
        rintro e9 w2 ⟨q1, q2⟩
        subst q2
        rw [← HRR.out]
        exact .inr ⟨_, q1, hf.defers, rfl, HS1.out.below hj, HU1.out.trans (Upd.below hj)⟩
      · skip
        obtain rfl := Reg.oper_eq ho rfl
        have e15 : a.eval (.tmp 15) = .int .i64 k0 := hkn.eval 4 15 (by kernel_rfl) (by kernel_rfl)
        have g15 := Reg.eval_getD e15
        exact hj.elim
      · skip
        obtain rfl := Reg.oper_eq ho rfl
        exact hj.elim
    case fin =>
      intro a w_ hf hkn hj
      exact hj.elim
end Go.Proofs.YtbiajfkencamiaaGreatDoor.SH
