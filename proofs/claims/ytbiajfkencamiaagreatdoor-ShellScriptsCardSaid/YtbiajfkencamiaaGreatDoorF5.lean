/- shell: clear, code, rounds, eval. Printed by gen_sf5.py. -/
import Derived.Test.YtbiajfkencamiaaGreatDoorF4
/-! F5 -/
namespace Go.Proofs.YtbiajfkencamiaaGreatDoor.SH
open Go.RowKit Go.Shelf Go.Proofs.YtbiajfkencamiaaGreatDoorW.PrintWords Go.Proofs.YtbiajfkencamiaaGreatDoorW.PrintMore Go.Proofs.YtbiajfkencamiaaGreatDoor.P1 Go.Proofs.YtbiajfkencamiaaGreatDoor Go.Proofs.YtbiajfkencamiaaGreatDoor.Core
open Go.Proofs.YtbiajfkencamiaaGreatDoor.EV (Upd Upd.set Upd.below Upd.trans R64 evalF GivesE ArgsR evalF_v evalF_err ResV eval_any res0 Kq)
open Go.Proofs.YtbiajfkencamiaaGreatDoor.PK (S121 k121 z121 S124 k124 z124 at_T124 at_T121 rd_T124 rd_T121)
set_option linter.unusedVariables false
set_option linter.unusedSimpArgs false
theorem ShW.turn {gs : Nat} {T : List UInt8} {W : World} (h : ShW gs T W) (T' : List UInt8) : ShW gs T' (W.setCell ⟨gs, 0, none⟩ (.string ⟨T'.toArray⟩)) := by
  unfold ShW
  rw [blk_set h 0]
  rfl
def okL : List UInt8 := [111, 107, 10]
def clearF (T : List UInt8) (own : List (List UInt8)) : Except Nat (List UInt8) × List UInt8 := if (numbersS own 0).isSome = true then (.ok okL, []) else (.error 13, T)
set_option maxHeartbeats 4000000 in
theorem clear_any {gs : Nat} {T : List UInt8} {w : World} {v : Value} (own : List (List UInt8)) (h : ShW gs T w) (hw : WordsR w v own) (hl : own.length ≤ 1000000) : Calls Tryz.prog 24 #[.pointer (some ⟨gs, 0, none⟩), v] w (GivesX gs (clearF T own).2 w (clearF T own).1) := by
  obtain ⟨r, hr⟩ : ∃ r, numbersS own 0 = r := ⟨_, rfl⟩
  have HN := Lib.hid (numbers_any own 0 v w hw hl)
  obtain ⟨rr, hrr⟩ : ∃ rr, clearF T own = rr := ⟨_, rfl⟩
  rw [hrr]
  unfold clearF at hrr
  rw [hr] at HN hrr
  have HRR := Lib.hid hrr
  have HS0 := Lib.hid h
  obtain ⟨bk, o, c, rfl, _⟩ := hw
  clear h hl hr hrr
  go_enter Tryz.func24, Tryz.ntmps24
  go_wp2_with fail
  refine HN.out.mono ?_
  intro e w1 hg
  cases r with
  | none =>
    obtain ⟨rfl, hb⟩ := hg
    rw [← HRR.out]
    exact ⟨rfl, rfl, HS0.out.below hb, Upd.below hb⟩
  | some l =>
    obtain ⟨v', rfl, ho, hb⟩ := hg
    obtain ⟨A5, c5, rfl⟩ := own_slice ho
    have hs1 := HS0.out.below hb
    have k0 := (blk_cell hs1 0).trans rfl
    have z0 := blk_frozen hs1 0
    have HS1 := Lib.hid hs1
    have HU1 : Hid (Upd gs w w1) := Upd.below hb
    clear ho hb hs1 HN
    go_wp2_with (refine (told_any 0 (by decide) _).mono ?_; rintro _ w2 ⟨rfl, hw2⟩; obtain rfl := hw2)
    go_ret
    rw [← HRR.out]
    exact ⟨rfl, HS1.out.turn [], HU1.out.set 0 _⟩
def roundsF (own : List (List UInt8)) : Except Nat (List UInt8) := match numbersS own 1 with
  | some [k] => if k ≤ 10000 then .error 11 else .error 13
  | _ => .error 13
set_option maxHeartbeats 4000000 in
theorem rounds_nil {gs : Nat} {T : List UInt8} {w : World} {v : Value} (own : List (List UInt8)) (h : ShW gs T w) (hw : WordsR w v own) (hl : own.length ≤ 1000000) : Calls Tryz.prog 33 #[.pointer (some ⟨gs, 0, none⟩), v] w (GivesX gs T w (roundsF own)) := by
  obtain ⟨r, hr⟩ : ∃ r, numbersS own 1 = r := ⟨_, rfl⟩
  have HN := Lib.hid (numbers_any own 1 v w hw hl)
  have HLN : Hid (∀ l, r = some l → l.length = 1) := fun l hl2 => by
    have h1 := hr.trans hl2
    unfold numbersS at h1
    split at h1
    · rename_i h2
      rw [mapP_len _ _ h1, h2]
    · cases h1
  obtain ⟨rr, hrr⟩ : ∃ rr, roundsF own = rr := ⟨_, rfl⟩
  rw [hrr]
  unfold roundsF at hrr
  rw [hr] at HN hrr
  have HRR := Lib.hid hrr
  have HS0 := Lib.hid h
  obtain ⟨bk, o, c, rfl, _⟩ := hw
  clear h hl hr hrr
  go_enter Tryz.func33, Tryz.ntmps33
  go_wp2_with fail
  refine HN.out.mono ?_
  intro e w1 hg
  cases r with
  | none =>
    obtain ⟨rfl, hb⟩ := hg
    rw [← HRR.out]
    exact ⟨rfl, rfl, HS0.out.below hb, Upd.below hb⟩
  | some l =>
    obtain ⟨v', rfl, ho, hb⟩ := hg
    have hll := HLN.out l rfl
    obtain ⟨k0, rfl⟩ : ∃ k0 : Int, l = [k0] := by
      match l, hll with
      | [k0], _ => exact ⟨k0, rfl⟩
    obtain ⟨g, cap, rfl⟩ : ∃ g cap, v' = .slice (some ⟨g, 0, none⟩) 1 cap := ownsRow_succ ho
    have cx : w1.cell? ⟨g, 0, none⟩ = some (.int .i64 k0) := (World.ownsRow.cellAt ho 0 (by decide)).trans rfl
    have HS1 := Lib.hid (HS0.out.below hb)
    have HU1 : Hid (Upd gs w w1) := Upd.below hb
    clear ho hb hll HN HLN
    by_cases hk : k0 ≤ 10000
    · have g1 : decide (k0 ≤ 10000) = true := decide_eq_true hk
      have HF : Hid (rr = .error 11) := by show rr = _; rw [← HRR.out]; show (if k0 ≤ 10000 then _ else _) = _; rw [if_pos hk]
      go_wp2_with fail
      refine (need_ok 13 _).mono ?_
      rintro _ w2 ⟨rfl, hw2⟩
      obtain rfl := hw2
      clear g1 hk
      go_wp2_with fail
      refine (runtime_nil HS1.out).mono ?_
      rintro e9 w2 ⟨q1, q2⟩
      subst q2
      subst q1
      rw [HF.out]
      exact ⟨rfl, rfl, HS1.out, HU1.out⟩
    · have g1 : decide (k0 ≤ 10000) = false := decide_eq_false hk
      have HF : Hid (rr = .error 13) := by show rr = _; rw [← HRR.out]; show (if k0 ≤ 10000 then _ else _) = _; rw [if_neg hk]
      go_wp2_with fail
      refine (need_no 13 _).mono ?_
      rintro _ w2 ⟨rfl, hw2⟩
      subst hw2
      rw [HF.out]
      exact ⟨rfl, rfl, HS1.out, HU1.out⟩
theorem bx_size (l : List UInt8) : (⟨l.toArray⟩ : ByteArray).size = l.length := by simp [ByteArray.size]
def codeF (T : List UInt8) (own : List (List UInt8)) : List UInt8 := T ++ (Lib.join own [32] ++ [10])
set_option maxRecDepth 100000 in
set_option maxHeartbeats 4000000 in
theorem code_any {gs : Nat} {T : List UInt8} {w : World} {v : Value} (own : List (List UInt8)) (h : ShW gs T w) (hw : WordsR w v own) (hl : own.length ≤ 1000000) (hlen : (codeF T own).length ≤ 1000000) : Calls Tryz.prog 23 #[.pointer (some ⟨gs, 0, none⟩), v] w (GivesX gs (codeF T own) w (.ok okL)) := by
  obtain ⟨bk, o, c, rfl, hc, hbk, hr⟩ := hw
  obtain ⟨JB, hJB⟩ : ∃ JB : ByteArray, JB = ⟨(Lib.join own [32]).toArray⟩ := ⟨_, rfl⟩
  obtain ⟨TB, hTB⟩ : ∃ TB : ByteArray, TB = ⟨T.toArray⟩ := ⟨_, rfl⟩
  have hm : (own.map (fun x => (⟨x.toArray⟩ : ByteArray))).map (·.data.toList) = own := by
    rw [List.map_map]
    exact (List.map_congr_left (fun x _ => by simp)).trans (List.map_id _)
  have hjl : (Lib.join own [32]).length ≤ 1000000 := by
    unfold codeF at hlen
    simp only [List.length_append] at hlen
    omega
  have HJ : Hid (∀ X, Below w.heap.size w X → Calls Tryz.prog 40 #[.slice (some ⟨bk, o, none⟩) own.length c, .string ⟨#[32]⟩] X fun e w' => e = .returned (.string JB) ∧ Below X.heap.size X w') := fun X hX => by
    have := Tryz.strings_Join bk o c (own.map (fun x => (⟨x.toArray⟩ : ByteArray))) ⟨#[32]⟩ X (fun j x hj => by
      rw [List.getElem?_map] at hj
      obtain ⟨y, hy, rfl⟩ := Option.map_eq_some_iff.1 hj
      exact (hX.cell (p := ⟨bk, o + j, none⟩) hbk).trans (hr j y hy)) (Nat.lt_of_lt_of_le hbk hX.size) (by rw [List.length_map]; omega) (by rw [List.length_map]; exact hc) (by rw [hm]; show (Lib.join own [32]).length ≤ _; omega)
    rw [hm, List.length_map] at this
    rw [hJB]
    exact this
  have s1 : JB.size ≤ 9223372036854775806 := by
    rw [hJB, bx_size]; omega
  have s2 : TB.size + (JB.size + 1) ≤ 9223372036854775807 := by
    rw [hTB, hJB, bx_size, bx_size]
    unfold codeF at hlen
    simp only [List.length_append, List.length_cons, List.length_nil] at hlen
    omega
  have HE : Hid (TB ++ (JB ++ (⟨#[10]⟩ : ByteArray)) = ⟨(codeF T own).toArray⟩) := by
    show _ = _
    rw [hTB, hJB, show ((⟨(Lib.join own [32]).toArray⟩ : ByteArray) ++ ⟨#[10]⟩) = ⟨(Lib.join own [32] ++ [10]).toArray⟩ from bx_app _ _, bx_app]
    rfl
  have HS0 := Lib.hid h
  have HTB := Lib.hid hTB
  obtain ⟨n, hn⟩ : ∃ n, n = own.length := ⟨_, rfl⟩
  rw [← hn] at HJ ⊢
  clear h hl hlen hJB hTB hm hjl hr hbk hc hn
  go_enter Tryz.func23, Tryz.ntmps23
  go_wp2_with fail
  refine Reg.wp_region_phase (by kernel_rfl) [5, 10] (fun i => match i with | 0 => fun v => v = .pointer (some ⟨gs, 0, none⟩) | 1 => fun v => v = .pointer (some ⟨gs, 0, none⟩) | 2 => fun v => v = .pointer (some ⟨gs, 0, none⟩) | 3 => fun v => v = .string TB | 4 => fun v => v = .slice (some ⟨bk, o, none⟩) n c | 5 => fun v => v = .string JB | 6 => fun v => v = .string (JB ++ ⟨#[10]⟩) | 7 => fun v => v = .string (TB ++ (JB ++ ⟨#[10]⟩)) | 8 => fun v => v = .pointer (some ⟨gs, 0, none⟩) | 9 => fun v => v = .pointer (some ⟨gs, 0, none⟩) | _ => fun _ => True) (fun k f9 X => match k with | 0 => Below w.heap.size w X | 1 => Below w.heap.size w X | _ => ShW gs (codeF T own) X ∧ Upd gs w X) (by kernel_rfl) (by kernel_rfl) (by decide) (by decide) ?hJ ?h0 ?pure ?act ?fin
  case hJ => (intro k f9 f' X h hj; exact hj)
  case h0 => exact pw_below_drewN (Below.refl _ _) 1
  case pure =>
    intro i o k a w_ ho hE hk hmc hf hst hkn hj
    have hi : i < 11 := (Array.getElem?_eq_some_iff.1 ho).1
    obtain rfl | rfl | rfl | rfl | rfl | rfl | rfl | rfl | rfl : i = 0 ∨ i = 1 ∨ i = 2 ∨ i = 3 ∨ i = 4 ∨ i = 6 ∨ i = 7 ∨ i = 8 ∨ i = 9 := by
      simp only [List.mem_cons, List.not_mem_nil, or_false, not_or] at hE
      omega
    · skip
      obtain rfl := Reg.oper_eq ho rfl
      have e0 : a.eval (.tmp 0) = .pointer (some ⟨gs, 0, none⟩) := (hf.eval 0 (by kernel_rfl)).trans rfl
      have g0 := Reg.eval_getD e0
      exact Reg.op_value rfl rfl (by simp only [List.getElem_toArray, List.getElem_cons_zero, List.getElem_cons_succ, execOp, e0]; go_simp) ⟨_, rfl, rfl, hj⟩
    · skip
      obtain rfl := Reg.oper_eq ho rfl
      have e5 : a.eval (.tmp 5) = .pointer (some ⟨gs, 0, none⟩) := hkn.eval 0 5 (by kernel_rfl) (by kernel_rfl)
      have g5 := Reg.eval_getD e5
      exact Reg.op_value rfl rfl (by simp only [List.getElem_toArray, List.getElem_cons_zero, List.getElem_cons_succ, execOp, e5]; go_simp) ⟨_, rfl, rfl, hj⟩
    · skip
      obtain rfl := Reg.oper_eq ho rfl
      have e6 : a.eval (.tmp 6) = .pointer (some ⟨gs, 0, none⟩) := hkn.eval 1 6 (by kernel_rfl) (by kernel_rfl)
      have g6 := Reg.eval_getD e6
      exact Reg.op_value rfl rfl (by simp only [List.getElem_toArray, List.getElem_cons_zero, List.getElem_cons_succ, execOp, e6]; go_simp) ⟨_, rfl, rfl, hj⟩
    · skip
      obtain rfl := Reg.oper_eq ho rfl
      have e7 : a.eval (.tmp 7) = .pointer (some ⟨gs, 0, none⟩) := hkn.eval 2 7 (by kernel_rfl) (by kernel_rfl)
      have g7 := Reg.eval_getD e7
      have hz : w_.cell? ⟨gs, 0, none⟩ = some (.string TB) := by
        have hk3 : k = 0 ∨ k = 1 ∨ k = 2 := by (simp only [List.length_cons, List.length_nil] at hk; omega)
        rw [HTB.out]
        rcases hk3 with rfl | rfl | rfl
        · exact (blk_cell (HS0.out.below hj) 0).trans rfl
        · exact (blk_cell (HS0.out.below hj) 0).trans rfl
        · exact Bool.noConfusion (hmc.symm.trans (show Reg.mayComeB _ _ _ _ = false from by kernel_rfl))
      exact Reg.op_value rfl rfl (by simp only [List.getElem_toArray, List.getElem_cons_zero, List.getElem_cons_succ, execOp, e7]; go_simp) ⟨_, rfl, rfl, hj⟩
    · skip
      obtain rfl := Reg.oper_eq ho rfl
      have e1 : a.eval (.tmp 1) = .slice (some ⟨bk, o, none⟩) n c := (hf.eval 1 (by kernel_rfl)).trans rfl
      have g1 := Reg.eval_getD e1
      exact Reg.op_value rfl rfl (by simp only [List.getElem_toArray, List.getElem_cons_zero, List.getElem_cons_succ, execOp, e1]; go_simp) ⟨_, rfl, rfl, hj⟩
    · skip
      obtain rfl := Reg.oper_eq ho rfl
      have e10 : a.eval (.tmp 10) = .string JB := hkn.eval 5 10 (by kernel_rfl) (by kernel_rfl)
      have g10 := Reg.eval_getD e10
      exact Reg.op_value rfl rfl (by simp only [List.getElem_toArray, List.getElem_cons_zero, List.getElem_cons_succ, execOp, e10]; go_simp) ⟨_, rfl, rfl, hj⟩
    · skip
      obtain rfl := Reg.oper_eq ho rfl
      have e8 : a.eval (.tmp 8) = .string TB := hkn.eval 3 8 (by kernel_rfl) (by kernel_rfl)
      have e11 : a.eval (.tmp 11) = .string (JB ++ ⟨#[10]⟩) := hkn.eval 6 11 (by kernel_rfl) (by kernel_rfl)
      have g8 := Reg.eval_getD e8
      have g11 := Reg.eval_getD e11
      exact Reg.op_value rfl rfl (by simp only [List.getElem_toArray, List.getElem_cons_zero, List.getElem_cons_succ, execOp, e8, e11]; go_simp) ⟨_, rfl, rfl, hj⟩
    · skip
      obtain rfl := Reg.oper_eq ho rfl
      have e5 : a.eval (.tmp 5) = .pointer (some ⟨gs, 0, none⟩) := hkn.eval 0 5 (by kernel_rfl) (by kernel_rfl)
      have g5 := Reg.eval_getD e5
      exact Reg.op_value rfl rfl (by simp only [List.getElem_toArray, List.getElem_cons_zero, List.getElem_cons_succ, execOp, e5]; go_simp) ⟨_, rfl, rfl, hj⟩
    · skip
      obtain rfl := Reg.oper_eq ho rfl
      have e13 : a.eval (.tmp 13) = .pointer (some ⟨gs, 0, none⟩) := hkn.eval 8 13 (by kernel_rfl) (by kernel_rfl)
      have g13 := Reg.eval_getD e13
      exact Reg.op_value rfl rfl (by simp only [List.getElem_toArray, List.getElem_cons_zero, List.getElem_cons_succ, execOp, e13]; go_simp) ⟨_, rfl, rfl, hj⟩
  case act =>
    intro k o a w_ hk ho hf hst hkn hj
    obtain rfl | rfl : k = 0 ∨ k = 1 := by simp only [List.length_cons, List.length_nil] at hk; omega
    · skip
      obtain rfl := Reg.oper_eq ho rfl
      have e9 : a.eval (.tmp 9) = .slice (some ⟨bk, o, none⟩) n c := hkn.eval 4 9 (by kernel_rfl) (by kernel_rfl)
      have g9 := Reg.eval_getD e9
      refine Reg.op_call (f := 40) (args := #[.slice (some ⟨bk, o, none⟩) n c, .string ⟨#[32]⟩]) (w' := w_) rfl rfl (by simp only [List.getElem_toArray, List.getElem_cons_zero, List.getElem_cons_succ, execOp, e9]; go_simp) ((HJ.out w_ hj).mono ?_)
      rintro e9 w2 ⟨rfl, hb2⟩
      exact .inl ⟨_, rfl, _, rfl, rfl, hj.trans (hb2.mono hj.size)⟩
    · skip
      obtain rfl := Reg.oper_eq ho rfl
      have e14 : a.eval (.tmp 14) = .pointer (some ⟨gs, 0, none⟩) := hkn.eval 9 14 (by kernel_rfl) (by kernel_rfl)
      have e12 : a.eval (.tmp 12) = .string (TB ++ (JB ++ ⟨#[10]⟩)) := hkn.eval 7 12 (by kernel_rfl) (by kernel_rfl)
      have g14 := Reg.eval_getD e14
      have g12 := Reg.eval_getD e12
      have hs := HS0.out.below hj
      have kf := (blk_cell hs 0).trans rfl
      have qf := blk_frozen hs 0
      refine Reg.op_unit (w' := w_.setCell ⟨gs, 0, none⟩ (.string (TB ++ (JB ++ ⟨#[10]⟩)))) rfl rfl (by simp only [List.getElem_toArray, List.getElem_cons_zero, List.getElem_cons_succ, execOp, e14, e12]; go_simp) ⟨_, rfl, trivial, ?_⟩
      rw [HE.out]
      exact ⟨hs.turn _, (Upd.below hj).set 0 _⟩
  case fin =>
    intro a w_ hf hkn hj
    have e5 : Reg.val a 5 = _ := hkn 0 5 (by show _ < _; decide) (by kernel_rfl)
    have e6 : Reg.val a 6 = _ := hkn 1 6 (by show _ < _; decide) (by kernel_rfl)
    have e7 : Reg.val a 7 = _ := hkn 2 7 (by show _ < _; decide) (by kernel_rfl)
    have e8 : Reg.val a 8 = _ := hkn 3 8 (by show _ < _; decide) (by kernel_rfl)
    have e9 : Reg.val a 9 = _ := hkn 4 9 (by show _ < _; decide) (by kernel_rfl)
    have e10 : Reg.val a 10 = _ := hkn 5 10 (by show _ < _; decide) (by kernel_rfl)
    have e11 : Reg.val a 11 = _ := hkn 6 11 (by show _ < _; decide) (by kernel_rfl)
    have e12 : Reg.val a 12 = _ := hkn 7 12 (by show _ < _; decide) (by kernel_rfl)
    have e13 : Reg.val a 13 = _ := hkn 8 13 (by show _ < _; decide) (by kernel_rfl)
    have e14 : Reg.val a 14 = _ := hkn 9 14 (by show _ < _; decide) (by kernel_rfl)
    rw [Reg.frm_fold hf [5, 6, 7, 8, 9, 10, 11, 12, 13, 14] (by kernel_rfl) (by kernel_rfl)]
    simp only [List.foldl_cons, List.foldl_nil, Act.put, List.setIfInBounds_toArray, List.set_cons_zero, List.set_cons_succ, e5, e6, e7, e8, e9, e10, e11, e12, e13, e14]
    clear hkn hf e5 e6 e7 e8 e9 e10 e11 e12 e13 e14
    have HEND := Lib.hid hj
    clear hj s1 s2
    go_wp2_with (refine (told_any 0 (by decide) _).mono ?_; rintro _ w2 ⟨rfl, hw2⟩; obtain rfl := hw2)
    go_ret
    exact ⟨rfl, HEND.out.1, HEND.out.2⟩
end Go.Proofs.YtbiajfkencamiaaGreatDoor.SH
