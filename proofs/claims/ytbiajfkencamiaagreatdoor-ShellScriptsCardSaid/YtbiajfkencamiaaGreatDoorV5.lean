/- valid: what Check's deferred function does. -/
import Derived.Test.YtbiajfkencamiaaGreatDoorV4
/-! V5 -/
namespace Go.Proofs.YtbiajfkencamiaaGreatDoor.Core
open Go.RowKit Go.Shelf Go.Proofs.YtbiajfkencamiaaGreatDoorW.PrintWords Go.Proofs.YtbiajfkencamiaaGreatDoorW.PrintMore Go.Proofs.YtbiajfkencamiaaGreatDoor.P1 Go.Proofs.YtbiajfkencamiaaGreatDoor
set_option linter.unusedVariables false
set_option linter.unusedSimpArgs false
set_option maxRecDepth 100000 in
theorem vcatch_idle (p q r : Addr) (w : World) :
    CallsD Tryz.prog 113 #[.pointer (some p), .pointer (some q), .pointer (some r)] .returning w fun en u' w' => en = .returned (.tuple #[]) ∧ u' = .returning ∧ w' = w := by
  refine callsD_of_wpS Tryz.func113 rfl fun c₀ cs hu => ?_
  apply wpS_seq
  apply wpS_region
  simp [wpOpsS, go_sem, recoverD, hu, Tryz.ntmps113, Exit.thenS]
  refine wpS_of_wp ?_
  simp only [Array.replicate_succ, Array.replicate_zero, List.push_toArray, List.append_toArray, List.nil_append, List.cons_append, List.setIfInBounds_toArray, List.set_cons_zero, List.set_cons_succ]
  go_wp2_with fail
  cases c₀
  simp_all [bodyPostS, results, Tryz.results113]
theorem cell3 {W : World} {b t : Nat} {cs : Array Value} (h : W.heap[b]? = some (.cells cs t (0, 0))) (j : Nat) {v : Value} (hj : cs[j]? = some v) : W.cell? ⟨b, j, none⟩ = some v := (blk_cell h j).trans hj
/-- Check's three results and what has been caught, in blocks. -/
structure CSt (w : World) (m : Nat) (fx ax ex y0 y1 y2 : Int) (W : World) : Prop where
  lt : m + 2 < w.heap.size
  below : Below m w W
  e : W.heap[w.heap.size]? = some (.cells #[.int .i64 fx, .int .i64 ax, .int .i64 ex] 207 (0, 0))
  b0 : W.heap[m]? = some (.cells #[.int .i64 y0] 3 (0, 0))
  b1 : W.heap[m + 1]? = some (.cells #[.int .i64 y1] 3 (0, 0))
  b2 : W.heap[m + 2]? = some (.cells #[.int .i64 y2] 29 (0, 0))
theorem CSt.drew {w : World} {m : Nat} {fx ax ex y0 y1 y2 : Int} {W : World} (h : CSt w m fx ax ex y0 y1 y2 W) : CSt w m fx ax ex y0 y1 y2 W.drew := ⟨h.lt, below_drew h.below, h.e, h.b0, h.b1, h.b2⟩
theorem CSt.s0 {w : World} {m : Nat} {fx ax ex y0 y1 y2 v : Int} {W : World} (h : CSt w m fx ax ex y0 y1 y2 W) : CSt w m fx ax ex v y1 y2 (W.setCell ⟨m, 0, none⟩ (.int .i64 v)) :=
  ⟨h.lt, h.below.setCell (p := ⟨m, 0, none⟩) (Nat.le_refl _) _, blk_far h.e (by have := h.lt; show w.heap.size ≠ m; omega) _, blk_set h.b0 0 _, blk_far h.b1 (by show m + 1 ≠ m; omega) _, blk_far h.b2 (by show m + 2 ≠ m; omega) _⟩
theorem CSt.s1 {w : World} {m : Nat} {fx ax ex y0 y1 y2 v : Int} {W : World} (h : CSt w m fx ax ex y0 y1 y2 W) : CSt w m fx ax ex y0 v y2 (W.setCell ⟨m + 1, 0, none⟩ (.int .i64 v)) :=
  ⟨h.lt, h.below.setCell (p := ⟨m + 1, 0, none⟩) (by show m ≤ m + 1; omega) _, blk_far h.e (by have := h.lt; show w.heap.size ≠ m + 1; omega) _, blk_far h.b0 (by show m ≠ m + 1; omega) _, blk_set h.b1 0 _, blk_far h.b2 (by show m + 2 ≠ m + 1; omega) _⟩
theorem CSt.s2 {w : World} {m : Nat} {fx ax ex y0 y1 y2 v : Int} {W : World} (h : CSt w m fx ax ex y0 y1 y2 W) : CSt w m fx ax ex y0 y1 v (W.setCell ⟨m + 2, 0, none⟩ (.int .i64 v)) :=
  ⟨h.lt, h.below.setCell (p := ⟨m + 2, 0, none⟩) (by show m ≤ m + 2; omega) _, blk_far h.e (by have := h.lt; show w.heap.size ≠ m + 2; omega) _, blk_far h.b0 (by show m ≠ m + 2; omega) _, blk_far h.b1 (by show m + 1 ≠ m + 2; omega) _, blk_set h.b2 0 _⟩
set_option maxRecDepth 100000 in
set_option maxHeartbeats 4000000 in
theorem vcatch_panicking (m : Nat) (x0 x1 x2 fx ax ex : Int) (older : List PanicEntry) (w : World) (h0 : w.heap[m]? = some (.cells #[.int .i64 x0] 3 (0, 0))) (h1 : w.heap[m + 1]? = some (.cells #[.int .i64 x1] 3 (0, 0))) (h2 : w.heap[m + 2]? = some (.cells #[.int .i64 x2] 29 (0, 0))) :
    CallsD Tryz.prog 113 #[.pointer (some ⟨m, 0, none⟩), .pointer (some ⟨m + 1, 0, none⟩), .pointer (some ⟨m + 2, 0, none⟩)] (.panicking ({ v := .iface 207 (.agg #[.int .i64 fx, .int .i64 ax, .int .i64 ex]), recovered := false } :: older)) w fun en u' w' =>
      en = .returned (.tuple #[]) ∧ u' = .panicking ({ v := .iface 207 (.agg #[.int .i64 fx, .int .i64 ax, .int .i64 ex]), recovered := true } :: older) ∧ CSt w m fx ax ex fx ax ex w' := by
  have hta : ∀ (w : World), (Instr.typeAssert (.iface 207 (.agg #[.int .i64 fx, .int .i64 ax, .int .i64 ex])) 20 207 true).run Tryz.prog w = .ok (.tuple #[.agg #[.int .i64 fx, .int .i64 ax, .int .i64 ex], .bool true]) w := fun _ => by kernel_rfl
  have HC0 : Hid (CSt w m fx ax ex x0 x1 x2 (w.alloc (.cells #[.int .i64 fx, .int .i64 ax, .int .i64 ex] 207))) := ⟨blk_lt h2, (Below.refl _ _).alloc (by have := blk_lt h2; omega) _, heap_alloc_new _ _, (Below.heap_alloc _ _ _ (blk_lt h0)).trans h0, (Below.heap_alloc _ _ _ (blk_lt h1)).trans h1, (Below.heap_alloc _ _ _ (blk_lt h2)).trans h2⟩
  clear h0 h1 h2
  refine callsD_of_wpS Tryz.func113 rfl fun c₀ cs hu => ?_
  apply wpS_seq
  apply wpS_region
  simp [wpOpsS, go_sem, recoverD, hu, Tryz.ntmps113, Exit.thenS]
  refine wpS_of_wp ?_
  simp only [Array.replicate_succ, Array.replicate_zero, List.push_toArray, List.append_toArray, List.nil_append, List.cons_append, List.setIfInBounds_toArray, List.set_cons_zero, List.set_cons_succ]
  go_wp2_with fail
  refine Reg.wp_region_phase (by kernel_rfl) [6, 7, 8] (fun i => match i with | 0 => fun v => v = .pointer (some ⟨w.heap.size, 0, none⟩) | 1 => fun v => v = .int .i64 fx | 2 => fun v => v = .pointer (some ⟨w.heap.size, 1, none⟩) | 3 => fun v => v = .int .i64 ax | 4 => fun v => v = .pointer (some ⟨w.heap.size, 2, none⟩) | 5 => fun v => v = .int .i64 ex | _ => fun _ => True) (fun k _ Wx => CSt w m fx ax ex (match k with | 0 => x0 | _ => fx) (match k with | 0 => x1 | 1 => x1 | _ => ax) (match k with | 0 => x2 | 1 => x2 | 2 => x2 | _ => ex) Wx) (by kernel_rfl) (by kernel_rfl) (by decide) (by decide) ?hJ ?h0 ?pure ?act ?fin
  case hJ => intro k f f' W h hj; exact hj
  case h0 => exact HC0.out.drew
  case pure =>
    intro i o k a w_ ho hE hk hmc hf hst hkn hj
    have hi : i < 9 := (Array.getElem?_eq_some_iff.1 ho).1
    obtain rfl | rfl | rfl | rfl | rfl | rfl : i = 0 ∨ i = 1 ∨ i = 2 ∨ i = 3 ∨ i = 4 ∨ i = 5 := by
      simp only [List.mem_cons, List.not_mem_nil, or_false, not_or] at hE
      omega
    · skip
      obtain rfl := Reg.oper_eq ho rfl
      have e4 : a.eval (.tmp 4) = .pointer (some ⟨w.heap.size, 0, none⟩) := (hf.eval 4 (by kernel_rfl)).trans rfl
      have g4 := Reg.eval_getD e4
      exact Reg.op_value rfl rfl (by simp only [List.getElem_toArray, List.getElem_cons_zero, List.getElem_cons_succ, execOp, e4]; go_simp) ⟨_, rfl, rfl, hj⟩
    · skip
      obtain rfl := Reg.oper_eq ho rfl
      have e17 : a.eval (.tmp 17) = .pointer (some ⟨w.heap.size, 0, none⟩) := hkn.eval 0 17 (by kernel_rfl) (by kernel_rfl)
      have g17 := Reg.eval_getD e17
      have kk := cell3 hj.e 0 rfl
      exact Reg.op_value rfl rfl (by simp only [List.getElem_toArray, List.getElem_cons_zero, List.getElem_cons_succ, execOp, e17]; go_simp) ⟨_, rfl, rfl, hj⟩
    · skip
      obtain rfl := Reg.oper_eq ho rfl
      have e4 : a.eval (.tmp 4) = .pointer (some ⟨w.heap.size, 0, none⟩) := (hf.eval 4 (by kernel_rfl)).trans rfl
      have g4 := Reg.eval_getD e4
      exact Reg.op_value rfl rfl (by simp only [List.getElem_toArray, List.getElem_cons_zero, List.getElem_cons_succ, execOp, e4]; go_simp) ⟨_, rfl, rfl, hj⟩
    · skip
      obtain rfl := Reg.oper_eq ho rfl
      have e19 : a.eval (.tmp 19) = .pointer (some ⟨w.heap.size, 1, none⟩) := hkn.eval 2 19 (by kernel_rfl) (by kernel_rfl)
      have g19 := Reg.eval_getD e19
      have kk := cell3 hj.e 1 rfl
      exact Reg.op_value rfl rfl (by simp only [List.getElem_toArray, List.getElem_cons_zero, List.getElem_cons_succ, execOp, e19]; go_simp) ⟨_, rfl, rfl, hj⟩
    · skip
      obtain rfl := Reg.oper_eq ho rfl
      have e4 : a.eval (.tmp 4) = .pointer (some ⟨w.heap.size, 0, none⟩) := (hf.eval 4 (by kernel_rfl)).trans rfl
      have g4 := Reg.eval_getD e4
      exact Reg.op_value rfl rfl (by simp only [List.getElem_toArray, List.getElem_cons_zero, List.getElem_cons_succ, execOp, e4]; go_simp) ⟨_, rfl, rfl, hj⟩
    · skip
      obtain rfl := Reg.oper_eq ho rfl
      have e21 : a.eval (.tmp 21) = .pointer (some ⟨w.heap.size, 2, none⟩) := hkn.eval 4 21 (by kernel_rfl) (by kernel_rfl)
      have g21 := Reg.eval_getD e21
      have kk := cell3 hj.e 2 rfl
      exact Reg.op_value rfl rfl (by simp only [List.getElem_toArray, List.getElem_cons_zero, List.getElem_cons_succ, execOp, e21]; go_simp) ⟨_, rfl, rfl, hj⟩
  case act =>
    intro k o a w_ hk ho hf hst hkn hj
    obtain rfl | rfl | rfl : k = 0 ∨ k = 1 ∨ k = 2 := by simp only [List.length_cons, List.length_nil] at hk; omega
    · skip
      obtain rfl := Reg.oper_eq ho rfl
      have e0 : a.eval (.tmp 0) = .pointer (some ⟨m, 0, none⟩) := (hf.eval 0 (by kernel_rfl)).trans rfl
      have e18 : a.eval (.tmp 18) = .int .i64 fx := hkn.eval 1 18 (by kernel_rfl) (by kernel_rfl)
      have g0 := Reg.eval_getD e0
      have g18 := Reg.eval_getD e18
      have kk := cell3 hj.b0 0 rfl
      have qq := blk_frozen hj.b0 0
      refine Reg.op_unit (w' := w_.setCell ⟨m, 0, none⟩ (.int .i64 fx)) rfl rfl (by simp only [List.getElem_toArray, List.getElem_cons_zero, List.getElem_cons_succ, execOp, e0, e18]; go_simp) ⟨_, rfl, trivial, hj.s0⟩
    · skip
      obtain rfl := Reg.oper_eq ho rfl
      have e1 : a.eval (.tmp 1) = .pointer (some ⟨m + 1, 0, none⟩) := (hf.eval 1 (by kernel_rfl)).trans rfl
      have e20 : a.eval (.tmp 20) = .int .i64 ax := hkn.eval 3 20 (by kernel_rfl) (by kernel_rfl)
      have g1 := Reg.eval_getD e1
      have g20 := Reg.eval_getD e20
      have kk := cell3 hj.b1 0 rfl
      have qq := blk_frozen hj.b1 0
      refine Reg.op_unit (w' := w_.setCell ⟨m + 1, 0, none⟩ (.int .i64 ax)) rfl rfl (by simp only [List.getElem_toArray, List.getElem_cons_zero, List.getElem_cons_succ, execOp, e1, e20]; go_simp) ⟨_, rfl, trivial, hj.s1⟩
    · skip
      obtain rfl := Reg.oper_eq ho rfl
      have e2 : a.eval (.tmp 2) = .pointer (some ⟨m + 2, 0, none⟩) := (hf.eval 2 (by kernel_rfl)).trans rfl
      have e22 : a.eval (.tmp 22) = .int .i64 ex := hkn.eval 5 22 (by kernel_rfl) (by kernel_rfl)
      have g2 := Reg.eval_getD e2
      have g22 := Reg.eval_getD e22
      have kk := cell3 hj.b2 0 rfl
      have qq := blk_frozen hj.b2 0
      refine Reg.op_unit (w' := w_.setCell ⟨m + 2, 0, none⟩ (.int .i64 ex)) rfl rfl (by simp only [List.getElem_toArray, List.getElem_cons_zero, List.getElem_cons_succ, execOp, e2, e22]; go_simp) ⟨_, rfl, trivial, hj.s2⟩
  case fin =>
    intro a w_ hf hkn hj
    have e17 : Reg.val a 17 = _ := hkn 0 17 (by show _ < _; decide) (by kernel_rfl)
    have e18 : Reg.val a 18 = _ := hkn 1 18 (by show _ < _; decide) (by kernel_rfl)
    have e19 : Reg.val a 19 = _ := hkn 2 19 (by show _ < _; decide) (by kernel_rfl)
    have e20 : Reg.val a 20 = _ := hkn 3 20 (by show _ < _; decide) (by kernel_rfl)
    have e21 : Reg.val a 21 = _ := hkn 4 21 (by show _ < _; decide) (by kernel_rfl)
    have e22 : Reg.val a 22 = _ := hkn 5 22 (by show _ < _; decide) (by kernel_rfl)
    rw [Reg.frm_fold hf [17, 18, 19, 20, 21, 22] (by kernel_rfl) (by kernel_rfl)]
    simp only [List.foldl_cons, List.foldl_nil, Act.put, List.setIfInBounds_toArray, List.set_cons_zero, List.set_cons_succ, e17, e18, e19, e20, e21, e22]
    clear hkn hf e17 e18 e19 e20 e21 e22
    have HC9 : Hid (CSt w m fx ax ex fx ax ex w_) := hj
    clear hj
    go_wp2_with fail
    simp [bodyPostS, results, Tryz.results113]
    exact HC9.out
end Go.Proofs.YtbiajfkencamiaaGreatDoor.Core
