/- sched.Config.shape; pool.Shape.right, words: what each comes to. Printed by gen_gb2.py. -/
import Derived.Test.YtponjobacdimeaaGreatB1
namespace Go.Proofs.YtponjobacdimeaaGreat.Core
open Go.RowKit Go.Proofs.YtponjobacdimeaaGreatW.PrintWords Go.Proofs.YtponjobacdimeaaGreat.PBoundLeast Go.Proofs.YtponjobacdimeaaGreat
set_option linter.unusedVariables false
set_option linter.unusedSimpArgs false
theorem mul_in {W m : Int} (hW : 1 ≤ W ∧ W ≤ 64) (h : 0 ≤ m ∧ m ≤ 1000) : 0 ≤ W * m ∧ W * m ≤ 64000 := by
  constructor
  · exact Int.mul_nonneg (by omega) h.1
  · calc W * m ≤ 64 * m := Int.mul_le_mul_of_nonneg_right hW.2 h.1
      _ ≤ 64000 := by omega
abbrev shapeA (W m0 m1 m2 : Int) : Value := .agg #[.int .i64 W, .int .i64 2, .int .i64 3, .int .i64 5, .int .i64 m0, .int .i64 m1, .int .i64 m2]
set_option maxRecDepth 100000 in
set_option maxHeartbeats 4000000 in
theorem shape_any (W K R m0 m1 m2 : Int) (w : World) :
    Calls Tryz.prog 19 #[.agg #[.int .i64 W, .int .i64 K, .int .i64 R, .int .i64 m0, .int .i64 m1, .int .i64 m2]] w fun e w' => e = .returned (shapeA W m0 m1 m2) ∧ Below w.heap.size w w' := by
  go_enter Tryz.func19, Tryz.ntmps19
  go_wp2_with fail
  exact bodyPost_ret (v := shapeA W m0 m1 m2) (by simp [results, Tryz.results19, go_sem]) rfl ⟨rfl, ((Below.refl _ _).alloc (Nat.le_refl _) _).alloc (by simp) _⟩
set_option maxRecDepth 100000 in
set_option maxHeartbeats 4000000 in
theorem sright_any (W m0 m1 m2 : Int) (hW : 1 ≤ W ∧ W ≤ 64) (h0 : 0 ≤ m0 ∧ m0 ≤ 1000) (h1 : 0 ≤ m1 ∧ m1 ≤ 1000) (h2 : 0 ≤ m2 ∧ m2 ≤ 1000) (w : World) :
    Calls Tryz.prog 27 #[shapeA W m0 m1 m2] w fun e w' => e = .returned (.bool true) ∧ Below w.heap.size w w' := by
  have g0 : decide (W ≥ 1) = true := decide_eq_true hW.1
  have g1 : decide (W ≤ 64) = true := decide_eq_true hW.2
  have g2 : decide (m0 ≥ 0) = true := decide_eq_true h0.1
  have g3 : decide (m0 ≤ 1000) = true := decide_eq_true h0.2
  have g4 : decide (m1 ≥ 0) = true := decide_eq_true h1.1
  have g5 : decide (m1 ≤ 1000) = true := decide_eq_true h1.2
  have g6 : decide (m2 ≥ 0) = true := decide_eq_true h2.1
  have g7 : decide (m2 ≤ 1000) = true := decide_eq_true h2.2
  have HBW : Hid (Below w.heap.size w (w.alloc (.cells (ints [W, 2, 3, 5, m0, m1, m2]) 54))) := (Below.refl _ _).alloc (Nat.le_refl _) _
  clear hW h0 h1 h2
  go_enter Tryz.func27, Tryz.ntmps27
  go_wp2_with fail
  go_rounds 4
  go_wp2_with fail
  go_ret
  exact ⟨rfl, HBW.out⟩
set_option maxRecDepth 100000 in
set_option maxHeartbeats 4000000 in
theorem swords_any (W m0 m1 m2 : Int) (hW : 1 ≤ W ∧ W ≤ 64) (h0 : 0 ≤ m0 ∧ m0 ≤ 1000) (h1 : 0 ≤ m1 ∧ m1 ≤ 1000) (h2 : 0 ≤ m2 ∧ m2 ≤ 1000) (w : World) :
    Calls Tryz.prog 28 #[shapeA W m0 m1 m2] w fun e w' => e = .returned (.int .i64 (W * m0 * 2 + W * m1 * 3 + W * m2 * 5)) ∧ Below w.heap.size w w' := by
  obtain ⟨a0, ha0⟩ : ∃ a, W * m0 = a := ⟨_, rfl⟩
  obtain ⟨a1, ha1⟩ : ∃ a, W * m1 = a := ⟨_, rfl⟩
  obtain ⟨a2, ha2⟩ : ∃ a, W * m2 = a := ⟨_, rfl⟩
  have b0 := mul_in hW h0
  have b1 := mul_in hW h1
  have b2 := mul_in hW h2
  rw [ha0] at b0 ⊢
  rw [ha1] at b1 ⊢
  rw [ha2] at b2 ⊢
  have e0 : IntKind.i64.wrap (W * m0) = a0 := by rw [ha0, IntKind.wrap_i64]; omega
  have e1 : IntKind.i64.wrap (W * m1) = a1 := by rw [ha1, IntKind.wrap_i64]; omega
  have e2 : IntKind.i64.wrap (W * m2) = a2 := by rw [ha2, IntKind.wrap_i64]; omega
  have d0 : IntKind.i64.wrap (a0 * 2) = a0 * 2 := by rw [IntKind.wrap_i64]; omega
  have d1 : IntKind.i64.wrap (a1 * 3) = a1 * 3 := by rw [IntKind.wrap_i64]; omega
  have d2 : IntKind.i64.wrap (a2 * 5) = a2 * 5 := by rw [IntKind.wrap_i64]; omega
  have s0 : IntKind.i64.wrap (a0 * 2) = a0 * 2 := d0
  have s1 : IntKind.i64.wrap (a0 * 2 + a1 * 3) = a0 * 2 + a1 * 3 := by rw [IntKind.wrap_i64]; omega
  have s2 : IntKind.i64.wrap (a0 * 2 + a1 * 3 + a2 * 5) = a0 * 2 + a1 * 3 + a2 * 5 := by rw [IntKind.wrap_i64]; omega
  have HBW : Hid (∀ n, Below w.heap.size w ((w.alloc (.cells (ints [W, 2, 3, 5, m0, m1, m2]) 54)).drewN n)) := fun n => pw_below_drewN ((Below.refl _ _).alloc (Nat.le_refl _) _) n
  have HI : Hid (∀ n, ((w.alloc (.cells (ints [W, 2, 3, 5, m0, m1, m2]) 54)).drewN n).heap[w.heap.size]? = some (.cells (ints [W, 2, 3, 5, m0, m1, m2]) 54 (0, 0))) := fun n => blk_drewN (heap_alloc_new w _) n
  clear ha0 ha1 ha2 b0 b1 b2 hW h0 h1 h2
  go_enter Tryz.func28, Tryz.ntmps28
  go_wp2_with fail
  refine wp_loop_rounds 4 ?_
  rw [rounds_succ]
  go_wp2_with fail
  go_quiet (fail)
  go_wp2_with fail
  rw [rounds_succ]
  go_wp2_with fail
  go_quiet (fail)
  go_wp2_with fail
  rw [rounds_succ]
  go_wp2_with fail
  go_quiet (fail)
  go_wp2_with fail
  rw [rounds_succ]
  go_wp2_with fail
  go_ret
  exact ⟨rfl, pw_below_drewN ((Below.refl _ _).alloc (Nat.le_refl _) _) _⟩
end Go.Proofs.YtponjobacdimeaaGreat.Core
