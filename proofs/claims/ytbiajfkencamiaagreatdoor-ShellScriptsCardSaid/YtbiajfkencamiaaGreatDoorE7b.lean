/- eval: spawn and future, too deep. Printed by gen_se7b.py. -/
import Derived.Test.YtbiajfkencamiaaGreatDoorE7
/-! E7b -/
namespace Go.Proofs.YtbiajfkencamiaaGreatDoor.EV
open Go.Proofs.YtbiajfkencamiaaGreatDoorW.PrintMore Go.Proofs.YtbiajfkencamiaaGreatDoor Go.Proofs.YtbiajfkencamiaaGreatDoor.Core Go.RowKit Go.Proofs.YtbiajfkencamiaaGreatDoorW.PrintWords
set_option linter.unusedVariables false
set_option linter.unusedSimpArgs false
set_option maxRecDepth 100000 in
set_option maxHeartbeats 8000000 in
theorem tspawn_deep {c : Cx} {b0 gt : Nat} {W : World} {t : Tk} {e : Ev} (o : Int) (oa rb f : Nat) (k0 : Int) (h : TkR b0 gt c.gw W t) (hE : c.ev W e) (hd : (t.dep : Int) = c.D) :
    Calls Tryz.prog 214 #[.pointer (some ⟨gt, 0, none⟩), .agg #[.int .i64 o, .int .i64 (oa : Int), .int .i64 (rb : Int), .int .i64 (f : Int), .int .i64 k0]] W (DF gt W 4) := by
  obtain ⟨W1, hW1⟩ : ∃ X : World, X = W.alloc (.cells #[.int .i64 o, .int .i64 (oa : Int), .int .i64 (rb : Int), .int .i64 (f : Int), .int .i64 k0] 121) := ⟨_, rfl⟩
  have ha0 : Below W.heap.size W W1 := by rw [hW1]; exact (Below.refl _ _).alloc (Nat.le_refl _) _
  have HXX : Hid (W1.heap[W.heap.size]? = some (.cells #[.int .i64 o, .int .i64 (oa : Int), .int .i64 (rb : Int), .int .i64 (f : Int), .int .i64 k0] 121 (0, 0))) := by rw [hW1]; exact heap_alloc_new _ _
  have HT1 : Hid (TkR b0 gt c.gw W1 t) := h.below ha0
  obtain ⟨wv, hwv, _⟩ := HT1.out.waitAt
  have HWV := Lib.hid hwv
  have HUW : Hid (∀ X, Below W1.heap.size W1 X → Upd gt W X) := fun X hX => Upd.below (ha0.trans (hX.mono ha0.size))
  have HKD : Hid (∀ X, Below W1.heap.size W1 X → Calls Tryz.prog 249 #[.pointer (some ⟨gt, 0, none⟩), .agg #[.int .i64 o, .int .i64 (oa : Int), .int .i64 (rb : Int), .int .i64 (f : Int), .int .i64 k0]] X (DF gt X 4)) := fun X hX => by
    have hWX : Below W.heap.size W X := ha0.trans (hX.mono ha0.size)
    exact kid_deep o (oa : Int) rb f k0 (h.below hWX) (EvR.below hE hWX) hd
  have HW1 := Lib.hid hW1
  clear h hE hd ha0 hwv hW1
  go_enter Tryz.func214, Tryz.ntmps214
  go_wp2_with fail
  rw [← HW1.out]
  refine Reg.wp_region_phase (by kernel_rfl) [9, 10, 11, 12, 15] (fun i => match i with | 0 => fun v => v = .pointer (some ⟨gt, 0, none⟩) | 1 => fun v => v = .pointer (some ⟨gt, 0, none⟩) | 2 => fun v => v = .pointer (some ⟨gt, 0, none⟩) | 3 => fun v => v = .pointer (some ⟨gt, 18, none⟩) | 4 => fun v => v = wv | 5 => fun v => v = .pointer (some ⟨W.heap.size, 1, none⟩) | 6 => fun v => v = .int .i64 (oa : Int) | 7 => fun v => v = .pointer (some ⟨gt, 0, none⟩) | 8 => fun v => v = .agg #[.int .i64 o, .int .i64 (oa : Int), .int .i64 (rb : Int), .int .i64 (f : Int), .int .i64 k0] | 13 => fun v => v = .pointer (some ⟨gt, 0, none⟩) | 14 => fun v => v = .pointer (some ⟨gt, 18, none⟩) | _ => fun _ => True) (fun k f9 X => match k with | 0 => Below W1.heap.size W1 X | _ => False) (by kernel_rfl) (by kernel_rfl) (by decide) (by decide) ?hJ ?h0 ?pure ?act ?fin
  case hJ => (intro k f9 f' X h hj; match k, hj with
    | 0, hj => exact hj
    | k + 1, hj => exact hj.elim)
  case h0 => exact pw_below_drewN (Below.refl _ _) 1
  case pure =>
    intro i o k a w_ ho hE hk hmc hf hst hkn hj
    have hi : i < 16 := (Array.getElem?_eq_some_iff.1 ho).1
    obtain rfl | rfl | rfl | rfl | rfl | rfl | rfl | rfl | rfl | rfl | rfl : i = 0 ∨ i = 1 ∨ i = 2 ∨ i = 3 ∨ i = 4 ∨ i = 5 ∨ i = 6 ∨ i = 7 ∨ i = 8 ∨ i = 13 ∨ i = 14 := by
      simp only [List.mem_cons, List.not_mem_nil, or_false, not_or] at hE
      omega
    · skip
      obtain rfl := Reg.oper_eq ho rfl
      have e0 : a.eval (.tmp 0) = .pointer (some ⟨gt, 0, none⟩) := (hf.eval 0 (by kernel_rfl)).trans rfl
      have g0 := Reg.eval_getD e0
      exact Reg.op_value rfl rfl (by simp only [List.getElem_toArray, List.getElem_cons_zero, List.getElem_cons_succ, execOp, e0]; go_simp) ⟨_, rfl, rfl, hj⟩
    · skip
      obtain rfl := Reg.oper_eq ho rfl
      have e0 : a.eval (.tmp 0) = .pointer (some ⟨gt, 0, none⟩) := (hf.eval 0 (by kernel_rfl)).trans rfl
      have g0 := Reg.eval_getD e0
      exact Reg.op_value rfl rfl (by simp only [List.getElem_toArray, List.getElem_cons_zero, List.getElem_cons_succ, execOp, e0]; go_simp) ⟨_, rfl, rfl, hj⟩
    · skip
      obtain rfl := Reg.oper_eq ho rfl
      have e5 : a.eval (.tmp 5) = .pointer (some ⟨gt, 0, none⟩) := hkn.eval 1 5 (by kernel_rfl) (by kernel_rfl)
      have g5 := Reg.eval_getD e5
      exact Reg.op_value rfl rfl (by simp only [List.getElem_toArray, List.getElem_cons_zero, List.getElem_cons_succ, execOp, e5]; go_simp) ⟨_, rfl, rfl, hj⟩
    · skip
      obtain rfl := Reg.oper_eq ho rfl
      have e6 : a.eval (.tmp 6) = .pointer (some ⟨gt, 0, none⟩) := hkn.eval 2 6 (by kernel_rfl) (by kernel_rfl)
      have g6 := Reg.eval_getD e6
      exact Reg.op_value rfl rfl (by simp only [List.getElem_toArray, List.getElem_cons_zero, List.getElem_cons_succ, execOp, e6]; go_simp) ⟨_, rfl, rfl, hj⟩
    · skip
      obtain rfl := Reg.oper_eq ho rfl
      have e7 : a.eval (.tmp 7) = .pointer (some ⟨gt, 18, none⟩) := hkn.eval 3 7 (by kernel_rfl) (by kernel_rfl)
      have g7 := Reg.eval_getD e7
      have hz : w_.cell? ⟨gt, 18, none⟩ = some wv ∧ w_.heap[W.heap.size]? = some (.cells #[.int .i64 o, .int .i64 (oa : Int), .int .i64 (rb : Int), .int .i64 (f : Int), .int .i64 k0] 121 (0, 0)) := by
        match k, hj with
        | 0, hj => exact ⟨(tk_cell HT1.out hj 18).trans HWV.out, blk_below HXX.out hj⟩
        | k + 1, hj => exact hj.elim
      have kf := hz.1
      exact Reg.op_value rfl rfl (by simp only [List.getElem_toArray, List.getElem_cons_zero, List.getElem_cons_succ, execOp, e7]; go_simp) ⟨_, rfl, rfl, hj⟩
    · skip
      obtain rfl := Reg.oper_eq ho rfl
      have e3 : a.eval (.tmp 3) = .pointer (some ⟨W.heap.size, 0, none⟩) := (hf.eval 3 (by kernel_rfl)).trans rfl
      have g3 := Reg.eval_getD e3
      exact Reg.op_value rfl rfl (by simp only [List.getElem_toArray, List.getElem_cons_zero, List.getElem_cons_succ, execOp, e3]; go_simp) ⟨_, rfl, rfl, hj⟩
    · skip
      obtain rfl := Reg.oper_eq ho rfl
      have e9 : a.eval (.tmp 9) = .pointer (some ⟨W.heap.size, 1, none⟩) := hkn.eval 5 9 (by kernel_rfl) (by kernel_rfl)
      have g9 := Reg.eval_getD e9
      have hz : w_.cell? ⟨gt, 18, none⟩ = some wv ∧ w_.heap[W.heap.size]? = some (.cells #[.int .i64 o, .int .i64 (oa : Int), .int .i64 (rb : Int), .int .i64 (f : Int), .int .i64 k0] 121 (0, 0)) := by
        match k, hj with
        | 0, hj => exact ⟨(tk_cell HT1.out hj 18).trans HWV.out, blk_below HXX.out hj⟩
        | k + 1, hj => exact hj.elim
      have kf := (blk_cell hz.2 1).trans rfl
      exact Reg.op_value rfl rfl (by simp only [List.getElem_toArray, List.getElem_cons_zero, List.getElem_cons_succ, execOp, e9]; go_simp) ⟨_, rfl, rfl, hj⟩
    · skip
      obtain rfl := Reg.oper_eq ho rfl
      have e0 : a.eval (.tmp 0) = .pointer (some ⟨gt, 0, none⟩) := (hf.eval 0 (by kernel_rfl)).trans rfl
      have g0 := Reg.eval_getD e0
      exact Reg.op_value rfl rfl (by simp only [List.getElem_toArray, List.getElem_cons_zero, List.getElem_cons_succ, execOp, e0]; go_simp) ⟨_, rfl, rfl, hj⟩
    · skip
      obtain rfl := Reg.oper_eq ho rfl
      have e3 : a.eval (.tmp 3) = .pointer (some ⟨W.heap.size, 0, none⟩) := (hf.eval 3 (by kernel_rfl)).trans rfl
      have g3 := Reg.eval_getD e3
      have hz : w_.cell? ⟨gt, 18, none⟩ = some wv ∧ w_.heap[W.heap.size]? = some (.cells #[.int .i64 o, .int .i64 (oa : Int), .int .i64 (rb : Int), .int .i64 (f : Int), .int .i64 k0] 121 (0, 0)) := by
        match k, hj with
        | 0, hj => exact ⟨(tk_cell HT1.out hj 18).trans HWV.out, blk_below HXX.out hj⟩
        | k + 1, hj => exact hj.elim
      have x0 := (blk_cell hz.2 0).trans rfl
      have x1 := (blk_cell hz.2 1).trans rfl
      have x2 := (blk_cell hz.2 2).trans rfl
      have x3 := (blk_cell hz.2 3).trans rfl
      have x4 := (blk_cell hz.2 4).trans rfl
      exact Reg.op_value rfl rfl (by simp only [List.getElem_toArray, List.getElem_cons_zero, List.getElem_cons_succ, execOp, e3]; go_simp) ⟨_, rfl, rfl, hj⟩
    · skip
      obtain rfl := Reg.oper_eq ho rfl
      have e4 : a.eval (.tmp 4) = .pointer (some ⟨gt, 0, none⟩) := hkn.eval 0 4 (by kernel_rfl) (by kernel_rfl)
      have g4 := Reg.eval_getD e4
      exact Reg.op_value rfl rfl (by simp only [List.getElem_toArray, List.getElem_cons_zero, List.getElem_cons_succ, execOp, e4]; go_simp) ⟨_, rfl, rfl, hj⟩
    · skip
      obtain rfl := Reg.oper_eq ho rfl
      have e17 : a.eval (.tmp 17) = .pointer (some ⟨gt, 0, none⟩) := hkn.eval 13 17 (by kernel_rfl) (by kernel_rfl)
      have g17 := Reg.eval_getD e17
      exact Reg.op_value rfl rfl (by simp only [List.getElem_toArray, List.getElem_cons_zero, List.getElem_cons_succ, execOp, e17]; go_simp) ⟨_, rfl, rfl, hj⟩
  case act =>
    intro k o a w_ hk ho hf hst hkn hj
    obtain rfl | rfl | rfl | rfl | rfl : k = 0 ∨ k = 1 ∨ k = 2 ∨ k = 3 ∨ k = 4 := by simp only [List.length_cons, List.length_nil] at hk; omega
    · skip
      obtain rfl := Reg.oper_eq ho rfl
      have e11 : a.eval (.tmp 11) = .pointer (some ⟨gt, 0, none⟩) := hkn.eval 7 11 (by kernel_rfl) (by kernel_rfl)
      have e12 : a.eval (.tmp 12) = .agg #[.int .i64 o, .int .i64 (oa : Int), .int .i64 (rb : Int), .int .i64 (f : Int), .int .i64 k0] := hkn.eval 8 12 (by kernel_rfl) (by kernel_rfl)
      have g11 := Reg.eval_getD e11
      have g12 := Reg.eval_getD e12
      refine Reg.op_call (f := 249) (args := #[.pointer (some ⟨gt, 0, none⟩), .agg #[.int .i64 o, .int .i64 (oa : Int), .int .i64 (rb : Int), .int .i64 (f : Int), .int .i64 k0]]) (w' := w_) rfl rfl (by simp only [List.getElem_toArray, List.getElem_cons_zero, List.getElem_cons_succ, execOp, e11, e12]; go_simp) ((HKD.out w_ hj).mono ?_)
      rintro e9 w2 ⟨q1, q2⟩
      exact .inr ⟨_, q1, hf.defers, ⟨rfl, (HUW.out w_ hj).trans q2⟩⟩
    · skip
      obtain rfl := Reg.oper_eq ho rfl
      have e10 : a.eval (.tmp 10) = .int .i64 (oa : Int) := hkn.eval 6 10 (by kernel_rfl) (by kernel_rfl)
      have g10 := Reg.eval_getD e10
      exact hj.elim
    · skip
      obtain rfl := Reg.oper_eq ho rfl
      exact hj.elim
    · skip
      obtain rfl := Reg.oper_eq ho rfl
      have e8 : a.eval (.tmp 8) = wv := hkn.eval 4 8 (by kernel_rfl) (by kernel_rfl)
      have g8 := Reg.eval_getD e8
      exact hj.elim
    · skip
      obtain rfl := Reg.oper_eq ho rfl
      have e18 : a.eval (.tmp 18) = .pointer (some ⟨gt, 18, none⟩) := hkn.eval 14 18 (by kernel_rfl) (by kernel_rfl)
      have g18 := Reg.eval_getD e18
      exact hj.elim
  case fin =>
    intro a w_ hf hkn hj
    have e4 : Reg.val a 4 = _ := hkn 0 4 (by show _ < _; decide) (by kernel_rfl)
    have e5 : Reg.val a 5 = _ := hkn 1 5 (by show _ < _; decide) (by kernel_rfl)
    have e6 : Reg.val a 6 = _ := hkn 2 6 (by show _ < _; decide) (by kernel_rfl)
    have e7 : Reg.val a 7 = _ := hkn 3 7 (by show _ < _; decide) (by kernel_rfl)
    have e8 : Reg.val a 8 = _ := hkn 4 8 (by show _ < _; decide) (by kernel_rfl)
    have e9 : Reg.val a 9 = _ := hkn 5 9 (by show _ < _; decide) (by kernel_rfl)
    have e10 : Reg.val a 10 = _ := hkn 6 10 (by show _ < _; decide) (by kernel_rfl)
    have e11 : Reg.val a 11 = _ := hkn 7 11 (by show _ < _; decide) (by kernel_rfl)
    have e12 : Reg.val a 12 = _ := hkn 8 12 (by show _ < _; decide) (by kernel_rfl)
    have e17 : Reg.val a 17 = _ := hkn 13 17 (by show _ < _; decide) (by kernel_rfl)
    have e18 : Reg.val a 18 = _ := hkn 14 18 (by show _ < _; decide) (by kernel_rfl)
    rw [Reg.frm_fold hf [4, 5, 6, 7, 8, 9, 10, 11, 12, 13, 14, 15, 16, 17, 18] (by kernel_rfl) (by kernel_rfl)]
    simp only [List.foldl_cons, List.foldl_nil, Act.put, List.setIfInBounds_toArray, List.set_cons_zero, List.set_cons_succ, e4, e5, e6, e7, e8, e9, e10, e11, e12, e17, e18]
    generalize Reg.val a 13 = v13_ at *
    generalize Reg.val a 14 = v14_ at *
    generalize Reg.val a 15 = v15_ at *
    generalize Reg.val a 16 = v16_ at *
    clear hkn hf e4 e5 e6 e7 e8 e9 e10 e11 e12 e17 e18
    exact hj.elim
set_option maxRecDepth 100000 in
set_option maxHeartbeats 8000000 in
theorem tfuture_deep {c : Cx} {b0 gt : Nat} {W : World} {t : Tk} {e : Ev} (o : Int) (oa rb f : Nat) (k0 : Int) (hoa : oa < 4) (h : TkR b0 gt c.gw W t) (hE : c.ev W e) (hd : (t.dep : Int) = c.D) :
    Calls Tryz.prog 215 #[.pointer (some ⟨gt, 0, none⟩), .agg #[.int .i64 o, .int .i64 (oa : Int), .int .i64 (rb : Int), .int .i64 (f : Int), .int .i64 k0]] W (DF gt W 4) := by
  obtain ⟨W1, hW1⟩ : ∃ X : World, X = W.alloc (.cells #[.int .i64 o, .int .i64 (oa : Int), .int .i64 (rb : Int), .int .i64 (f : Int), .int .i64 k0] 121) := ⟨_, rfl⟩
  have ha0 : Below W.heap.size W W1 := by rw [hW1]; exact (Below.refl _ _).alloc (Nat.le_refl _) _
  have HXX : Hid (W1.heap[W.heap.size]? = some (.cells #[.int .i64 o, .int .i64 (oa : Int), .int .i64 (rb : Int), .int .i64 (f : Int), .int .i64 k0] 121 (0, 0))) := by rw [hW1]; exact heap_alloc_new _ _
  have HT1 : Hid (TkR b0 gt c.gw W1 t) := h.below ha0
  obtain ⟨wv, hwv, _⟩ := HT1.out.waitAt
  have HWV := Lib.hid hwv
  have HOA := Lib.hid hoa
  have HUW : Hid (∀ X, Below W1.heap.size W1 X → Upd gt W X) := fun X hX => Upd.below (ha0.trans (hX.mono ha0.size))
  have HKD : Hid (∀ X, Below W1.heap.size W1 X → Calls Tryz.prog 249 #[.pointer (some ⟨gt, 0, none⟩), .agg #[.int .i64 o, .int .i64 (oa : Int), .int .i64 (rb : Int), .int .i64 (f : Int), .int .i64 k0]] X (DF gt X 4)) := fun X hX => by
    have hWX : Below W.heap.size W X := ha0.trans (hX.mono ha0.size)
    exact kid_deep o (oa : Int) rb f k0 (h.below hWX) (EvR.below hE hWX) hd
  have HW1 := Lib.hid hW1
  clear h hE hd hoa ha0 hwv hW1
  go_enter Tryz.func215, Tryz.ntmps215
  go_wp2_with fail
  rw [← HW1.out]
  refine Reg.wp_region_phase (by kernel_rfl) [5, 6, 10] (fun i => match i with | 0 => fun v => v = .pointer (some ⟨gt, 0, none⟩) | 1 => fun v => v = .pointer (some ⟨W.heap.size, 1, none⟩) | 2 => fun v => v = .int .i64 (oa : Int) | 3 => fun v => v = .pointer (some ⟨gt, 0, none⟩) | 4 => fun v => v = .agg #[.int .i64 o, .int .i64 (oa : Int), .int .i64 (rb : Int), .int .i64 (f : Int), .int .i64 k0] | 7 => fun v => v = .pointer (some ⟨gt, 0, none⟩) | 8 => fun v => v = .pointer (some ⟨gt, 10, none⟩) | 9 => fun v => v = .pointer (some ⟨gt, 10 + oa * 2, none⟩) | _ => fun _ => True) (fun k f9 X => match k with | 0 => Below W1.heap.size W1 X | _ => False) (by kernel_rfl) (by kernel_rfl) (by decide) (by decide) ?hJ ?h0 ?pure ?act ?fin
  case hJ => (intro k f9 f' X h hj; match k, hj with
    | 0, hj => exact hj
    | k + 1, hj => exact hj.elim)
  case h0 => exact pw_below_drewN (Below.refl _ _) 1
  case pure =>
    intro i o k a w_ ho hE hk hmc hf hst hkn hj
    have hi : i < 11 := (Array.getElem?_eq_some_iff.1 ho).1
    obtain rfl | rfl | rfl | rfl | rfl | rfl | rfl | rfl : i = 0 ∨ i = 1 ∨ i = 2 ∨ i = 3 ∨ i = 4 ∨ i = 7 ∨ i = 8 ∨ i = 9 := by
      simp only [List.mem_cons, List.not_mem_nil, or_false, not_or] at hE
      omega
    · skip
      obtain rfl := Reg.oper_eq ho rfl
      have e0 : a.eval (.tmp 0) = .pointer (some ⟨gt, 0, none⟩) := (hf.eval 0 (by kernel_rfl)).trans rfl
      have g0 := Reg.eval_getD e0
      exact Reg.op_value rfl rfl (by simp only [List.getElem_toArray, List.getElem_cons_zero, List.getElem_cons_succ, execOp, e0]; go_simp) ⟨_, rfl, rfl, hj⟩
    · skip
      obtain rfl := Reg.oper_eq ho rfl
      have e3 : a.eval (.tmp 3) = .pointer (some ⟨W.heap.size, 0, none⟩) := (hf.eval 3 (by kernel_rfl)).trans rfl
      have g3 := Reg.eval_getD e3
      exact Reg.op_value rfl rfl (by simp only [List.getElem_toArray, List.getElem_cons_zero, List.getElem_cons_succ, execOp, e3]; go_simp) ⟨_, rfl, rfl, hj⟩
    · skip
      obtain rfl := Reg.oper_eq ho rfl
      have e5 : a.eval (.tmp 5) = .pointer (some ⟨W.heap.size, 1, none⟩) := hkn.eval 1 5 (by kernel_rfl) (by kernel_rfl)
      have g5 := Reg.eval_getD e5
      have hz : w_.cell? ⟨gt, 18, none⟩ = some wv ∧ w_.heap[W.heap.size]? = some (.cells #[.int .i64 o, .int .i64 (oa : Int), .int .i64 (rb : Int), .int .i64 (f : Int), .int .i64 k0] 121 (0, 0)) := by
        match k, hj with
        | 0, hj => exact ⟨(tk_cell HT1.out hj 18).trans HWV.out, blk_below HXX.out hj⟩
        | k + 1, hj => exact hj.elim
      have kf := (blk_cell hz.2 1).trans rfl
      exact Reg.op_value rfl rfl (by simp only [List.getElem_toArray, List.getElem_cons_zero, List.getElem_cons_succ, execOp, e5]; go_simp) ⟨_, rfl, rfl, hj⟩
    · skip
      obtain rfl := Reg.oper_eq ho rfl
      have e0 : a.eval (.tmp 0) = .pointer (some ⟨gt, 0, none⟩) := (hf.eval 0 (by kernel_rfl)).trans rfl
      have g0 := Reg.eval_getD e0
      exact Reg.op_value rfl rfl (by simp only [List.getElem_toArray, List.getElem_cons_zero, List.getElem_cons_succ, execOp, e0]; go_simp) ⟨_, rfl, rfl, hj⟩
    · skip
      obtain rfl := Reg.oper_eq ho rfl
      have e3 : a.eval (.tmp 3) = .pointer (some ⟨W.heap.size, 0, none⟩) := (hf.eval 3 (by kernel_rfl)).trans rfl
      have g3 := Reg.eval_getD e3
      have hz : w_.cell? ⟨gt, 18, none⟩ = some wv ∧ w_.heap[W.heap.size]? = some (.cells #[.int .i64 o, .int .i64 (oa : Int), .int .i64 (rb : Int), .int .i64 (f : Int), .int .i64 k0] 121 (0, 0)) := by
        match k, hj with
        | 0, hj => exact ⟨(tk_cell HT1.out hj 18).trans HWV.out, blk_below HXX.out hj⟩
        | k + 1, hj => exact hj.elim
      have x0 := (blk_cell hz.2 0).trans rfl
      have x1 := (blk_cell hz.2 1).trans rfl
      have x2 := (blk_cell hz.2 2).trans rfl
      have x3 := (blk_cell hz.2 3).trans rfl
      have x4 := (blk_cell hz.2 4).trans rfl
      exact Reg.op_value rfl rfl (by simp only [List.getElem_toArray, List.getElem_cons_zero, List.getElem_cons_succ, execOp, e3]; go_simp) ⟨_, rfl, rfl, hj⟩
    · skip
      obtain rfl := Reg.oper_eq ho rfl
      have e4 : a.eval (.tmp 4) = .pointer (some ⟨gt, 0, none⟩) := hkn.eval 0 4 (by kernel_rfl) (by kernel_rfl)
      have g4 := Reg.eval_getD e4
      exact Reg.op_value rfl rfl (by simp only [List.getElem_toArray, List.getElem_cons_zero, List.getElem_cons_succ, execOp, e4]; go_simp) ⟨_, rfl, rfl, hj⟩
    · skip
      obtain rfl := Reg.oper_eq ho rfl
      have e11 : a.eval (.tmp 11) = .pointer (some ⟨gt, 0, none⟩) := hkn.eval 7 11 (by kernel_rfl) (by kernel_rfl)
      have g11 := Reg.eval_getD e11
      exact Reg.op_value rfl rfl (by simp only [List.getElem_toArray, List.getElem_cons_zero, List.getElem_cons_succ, execOp, e11]; go_simp) ⟨_, rfl, rfl, hj⟩
    · skip
      obtain rfl := Reg.oper_eq ho rfl
      have e12 : a.eval (.tmp 12) = .pointer (some ⟨gt, 10, none⟩) := hkn.eval 8 12 (by kernel_rfl) (by kernel_rfl)
      have e6 : a.eval (.tmp 6) = .int .i64 (oa : Int) := hkn.eval 2 6 (by kernel_rfl) (by kernel_rfl)
      have g12 := Reg.eval_getD e12
      have g6 := Reg.eval_getD e6
      have i0 : (0 : Int) ≤ (oa : Int) := by omega
      have i1 : (oa : Int) < 4 := by have := HOA.out; omega
      exact Reg.op_value rfl rfl (by simp only [List.getElem_toArray, List.getElem_cons_zero, List.getElem_cons_succ, execOp, e12, e6]; go_simp) ⟨_, rfl, rfl, hj⟩
  case act =>
    intro k o a w_ hk ho hf hst hkn hj
    obtain rfl | rfl | rfl : k = 0 ∨ k = 1 ∨ k = 2 := by simp only [List.length_cons, List.length_nil] at hk; omega
    · skip
      obtain rfl := Reg.oper_eq ho rfl
      have e7 : a.eval (.tmp 7) = .pointer (some ⟨gt, 0, none⟩) := hkn.eval 3 7 (by kernel_rfl) (by kernel_rfl)
      have e8 : a.eval (.tmp 8) = .agg #[.int .i64 o, .int .i64 (oa : Int), .int .i64 (rb : Int), .int .i64 (f : Int), .int .i64 k0] := hkn.eval 4 8 (by kernel_rfl) (by kernel_rfl)
      have g7 := Reg.eval_getD e7
      have g8 := Reg.eval_getD e8
      refine Reg.op_call (f := 249) (args := #[.pointer (some ⟨gt, 0, none⟩), .agg #[.int .i64 o, .int .i64 (oa : Int), .int .i64 (rb : Int), .int .i64 (f : Int), .int .i64 k0]]) (w' := w_) rfl rfl (by simp only [List.getElem_toArray, List.getElem_cons_zero, List.getElem_cons_succ, execOp, e7, e8]; go_simp) ((HKD.out w_ hj).mono ?_)
      rintro e9 w2 ⟨q1, q2⟩
      exact .inr ⟨_, q1, hf.defers, ⟨rfl, (HUW.out w_ hj).trans q2⟩⟩
    · skip
      obtain rfl := Reg.oper_eq ho rfl
      exact hj.elim
    · skip
      obtain rfl := Reg.oper_eq ho rfl
      have e13 : a.eval (.tmp 13) = .pointer (some ⟨gt, 10 + oa * 2, none⟩) := hkn.eval 9 13 (by kernel_rfl) (by kernel_rfl)
      have g13 := Reg.eval_getD e13
      exact hj.elim
  case fin =>
    intro a w_ hf hkn hj
    have e4 : Reg.val a 4 = _ := hkn 0 4 (by show _ < _; decide) (by kernel_rfl)
    have e5 : Reg.val a 5 = _ := hkn 1 5 (by show _ < _; decide) (by kernel_rfl)
    have e6 : Reg.val a 6 = _ := hkn 2 6 (by show _ < _; decide) (by kernel_rfl)
    have e7 : Reg.val a 7 = _ := hkn 3 7 (by show _ < _; decide) (by kernel_rfl)
    have e8 : Reg.val a 8 = _ := hkn 4 8 (by show _ < _; decide) (by kernel_rfl)
    have e11 : Reg.val a 11 = _ := hkn 7 11 (by show _ < _; decide) (by kernel_rfl)
    have e12 : Reg.val a 12 = _ := hkn 8 12 (by show _ < _; decide) (by kernel_rfl)
    have e13 : Reg.val a 13 = _ := hkn 9 13 (by show _ < _; decide) (by kernel_rfl)
    rw [Reg.frm_fold hf [4, 5, 6, 7, 8, 9, 10, 11, 12, 13] (by kernel_rfl) (by kernel_rfl)]
    simp only [List.foldl_cons, List.foldl_nil, Act.put, List.setIfInBounds_toArray, List.set_cons_zero, List.set_cons_succ, e4, e5, e6, e7, e8, e11, e12, e13]
    generalize Reg.val a 9 = v9_ at *
    generalize Reg.val a 10 = v10_ at *
    clear hkn hf e4 e5 e6 e7 e8 e11 e12 e13
    exact hj.elim
end Go.Proofs.YtbiajfkencamiaaGreatDoor.EV
