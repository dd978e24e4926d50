/- sched.Config.right, shape; pool.Shape.right, words; mem.Mem.Words: what each comes to. Printed by gen_gb1.py. -/
import Derived.Test.YtponjobacdimeaaGreatA
import Derived.Test.YtponjobacdimeaaGreatPureB
import Derived.Test.YtponjobacdimeaaGreatRegion
import Derived.Lib.Hide
import Derived.Deep.QuietTactic
import Derived.BigQuiet
import Derived.Handy
import Derived.IntWalk
namespace Go.Proofs.YtponjobacdimeaaGreat.Core
open Go.RowKit Go.Proofs.YtponjobacdimeaaGreatW.PrintWords Go.Proofs.YtponjobacdimeaaGreat.PBoundLeast Go.Proofs.YtponjobacdimeaaGreat
set_option linter.unusedVariables false
set_option linter.unusedSimpArgs false
abbrev ints (l : List Int) : Array Value := (l.map (Value.int .i64)).toArray
/-- How many words a deque has. -/
def wordsD (r : Int) : Int := if 1 ≤ r ∧ r ≤ 1000 then r + 2 else 0
theorem words_any (r : Int) (w : World) : Calls Tryz.prog 18 #[.int .i64 r] w fun e w' => e = .returned (.int .i64 (wordsD r)) ∧ Below w.heap.size w w' := by
  have hf : deque_Words.f r = some (wordsD r) := by
    unfold deque_Words.f wordsD
    by_cases h1 : r < 1
    · rw [if_pos h1, if_neg (by omega)]
    · rw [if_neg h1]
      by_cases h2 : r > 1000
      · rw [if_pos h2, if_neg (by omega)]
      · rw [if_neg h2, if_pos (by omega)]
        congr 1
        unfold wrap64
        omega
  refine (deque_Words.calls r _ w hf).mono ?_
  rintro e w' ⟨he, hd⟩
  obtain ⟨nd, rfl⟩ := hd
  exact ⟨he, pw_below_drewN (Below.refl _ _) nd⟩
theorem cell_ints {W : World} {b t : Nat} {l : List Int} (h : W.heap[b]? = some (.cells (ints l) t (0, 0))) (j : Nat) (v : Int) (hj : l[j]? = some v) : W.cell? ⟨b, j, none⟩ = some (.int .i64 v) := by
  rw [blk_cell h j]
  simp [hj]
theorem idx27 (p1 p2 p3 : Int) (j : Nat) (hj : j < 3) (W : World) : (Instr.index 27 (.agg #[.int .i64 p1, .int .i64 p2, .int .i64 p3]) (.int .i64 (j : Int))).run Tryz.prog W = .ok (.int .i64 ([p1, p2, p3].getD j 0)) W := by
  have h94 := Tryz.underlying27
  have h89 := Tryz.underlying3
  match j, hj with
  | 0, _ => (first | kernel_rfl | (simp [Instr.index, run_underlying h94, h94, asIntOf, part, Tryz.isAgg3, Tryz.sizeOf3]; done))
  | 1, _ => (first | kernel_rfl | (simp [Instr.index, run_underlying h94, h94, asIntOf, part, Tryz.isAgg3, Tryz.sizeOf3]; done))
  | 2, _ => (first | kernel_rfl | (simp [Instr.index, run_underlying h94, h94, asIntOf, part, Tryz.isAgg3, Tryz.sizeOf3]; done))
/-- May a config be? -/
def rightB (W K R m0 m1 m2 : Int) : Bool := decide (1 ≤ W ∧ W ≤ 64 ∧ 1 ≤ K ∧ K ≤ 3 ∧ 1 ≤ R ∧ R ≤ 1000 ∧ 0 ≤ m0 ∧ m0 ≤ 1000 ∧ 0 ≤ m1 ∧ m1 ≤ 1000 ∧ 0 ≤ m2 ∧ m2 ≤ 1000)
theorem right_no {W K R m0 m1 m2 : Int} (h : ¬ (1 ≤ W ∧ W ≤ 64 ∧ 1 ≤ K ∧ K ≤ 3 ∧ 1 ≤ R ∧ R ≤ 1000 ∧ 0 ≤ m0 ∧ m0 ≤ 1000 ∧ 0 ≤ m1 ∧ m1 ≤ 1000 ∧ 0 ≤ m2 ∧ m2 ≤ 1000)) : rightB W K R m0 m1 m2 = false := decide_eq_false h
set_option maxRecDepth 100000 in
set_option maxHeartbeats 4000000 in
theorem right_any (W K R m0 m1 m2 : Int) (w : World) :
    Calls Tryz.prog 17 #[.agg #[.int .i64 W, .int .i64 K, .int .i64 R, .int .i64 m0, .int .i64 m1, .int .i64 m2]] w fun e w' => e = .returned (.bool (rightB W K R m0 m1 m2)) ∧ Below w.heap.size w w' := by
  have HW := Lib.hid (fun W => words_any R W)
  have ix0 : ∀ W' : World, (Instr.index 27 (.agg #[.int .i64 m0, .int .i64 m1, .int .i64 m2]) (.int .i64 0)).run Tryz.prog W' = .ok (.int .i64 m0) W' := fun W' => idx27 m0 m1 m2 0 (by omega) W'
  have ix1 : ∀ W' : World, (Instr.index 27 (.agg #[.int .i64 m0, .int .i64 m1, .int .i64 m2]) (.int .i64 1)).run Tryz.prog W' = .ok (.int .i64 m1) W' := fun W' => idx27 m0 m1 m2 1 (by omega) W'
  have ix2 : ∀ W' : World, (Instr.index 27 (.agg #[.int .i64 m0, .int .i64 m1, .int .i64 m2]) (.int .i64 2)).run Tryz.prog W' = .ok (.int .i64 m2) W' := fun W' => idx27 m0 m1 m2 2 (by omega) W'
  obtain ⟨B, hB⟩ : ∃ B, B = rightB W K R m0 m1 m2 := ⟨_, rfl⟩
  rw [← hB]
  by_cases h0 : 1 ≤ W
  · have g0 : decide (W ≥ 1) = true := decide_eq_true h0
    by_cases h1 : W ≤ 64
    · have g1 : decide (W ≤ 64) = true := decide_eq_true h1
      by_cases h2 : 1 ≤ K
      · have g2 : decide (K ≥ 1) = true := decide_eq_true h2
        by_cases h3 : K ≤ 3
        · have g3 : decide (K ≤ 3) = true := decide_eq_true h3
          by_cases h4 : 1 ≤ R ∧ R ≤ 1000
          · have g4 : decide (wordsD R > 0) = true := decide_eq_true (by unfold wordsD; rw [if_pos h4]; omega)
            by_cases h5 : 0 ≤ m0
            · have g5 : decide (m0 ≥ 0) = true := decide_eq_true h5
              by_cases h6 : m0 ≤ 1000
              · have g6 : decide (m0 ≤ 1000) = true := decide_eq_true h6
                by_cases h7 : 0 ≤ m1
                · have g7 : decide (m1 ≥ 0) = true := decide_eq_true h7
                  by_cases h8 : m1 ≤ 1000
                  · have g8 : decide (m1 ≤ 1000) = true := decide_eq_true h8
                    by_cases h9 : 0 ≤ m2
                    · have g9 : decide (m2 ≥ 0) = true := decide_eq_true h9
                      by_cases h10 : m2 ≤ 1000
                      · have g10 : decide (m2 ≤ 1000) = true := decide_eq_true h10
                        have HB : Hid (B = true) := by show _ = _; rw [hB]; exact decide_eq_true ⟨h0, h1, h2, h3, h4.1, h4.2, h5, h6, h7, h8, h9, h10⟩
                        clear hB h0 h1 h2 h3 h4 h5 h6 h7 h8 h9 h10
                        go_enter Tryz.func17, Tryz.ntmps17
                        go_wp2_with fail
                        refine (HW.out _).mono ?_
                        rintro _ w1 ⟨rfl, hb1⟩
                        have HBW : Hid (Below w.heap.size w w1) := ((Below.refl _ _).alloc (Nat.le_refl _) _).trans (hb1.mono (by simp))
                        have HI : Hid (w1.heap[w.heap.size]? = some (.cells (ints [W, K, R, m0, m1, m2]) 29 (0, 0))) := blk_below (heap_alloc_new w _) hb1
                        have k3 := cell_ints HI.out 3 _ rfl
                        have k4 := cell_ints HI.out 4 _ rfl
                        have k5 := cell_ints HI.out 5 _ rfl
                        clear hb1
                        go_wp2_with fail
                        go_rounds 4
                        go_wp2_with fail
                        go_ret
                        rw [HB.out]
                        exact ⟨rfl, HBW.out⟩
                      · have g10 : decide (m2 ≤ 1000) = false := decide_eq_false h10
                        have HB : Hid (B = false) := by show _ = _; rw [hB]; exact right_no (by omega)
                        clear hB h0 h1 h2 h3 h4 h5 h6 h7 h8 h9 h10
                        go_enter Tryz.func17, Tryz.ntmps17
                        go_wp2_with fail
                        refine (HW.out _).mono ?_
                        rintro _ w1 ⟨rfl, hb1⟩
                        have HBW : Hid (Below w.heap.size w w1) := ((Below.refl _ _).alloc (Nat.le_refl _) _).trans (hb1.mono (by simp))
                        have HI : Hid (w1.heap[w.heap.size]? = some (.cells (ints [W, K, R, m0, m1, m2]) 29 (0, 0))) := blk_below (heap_alloc_new w _) hb1
                        have k3 := cell_ints HI.out 3 _ rfl
                        have k4 := cell_ints HI.out 4 _ rfl
                        have k5 := cell_ints HI.out 5 _ rfl
                        clear hb1
                        go_wp2_with fail
                        go_rounds 4
                        go_wp2_with fail
                        go_ret
                        rw [HB.out]
                        exact ⟨rfl, HBW.out⟩
                    · have g9 : decide (m2 ≥ 0) = false := decide_eq_false h9
                      have HB : Hid (B = false) := by show _ = _; rw [hB]; exact right_no (by omega)
                      clear hB h0 h1 h2 h3 h4 h5 h6 h7 h8 h9
                      go_enter Tryz.func17, Tryz.ntmps17
                      go_wp2_with fail
                      refine (HW.out _).mono ?_
                      rintro _ w1 ⟨rfl, hb1⟩
                      have HBW : Hid (Below w.heap.size w w1) := ((Below.refl _ _).alloc (Nat.le_refl _) _).trans (hb1.mono (by simp))
                      have HI : Hid (w1.heap[w.heap.size]? = some (.cells (ints [W, K, R, m0, m1, m2]) 29 (0, 0))) := blk_below (heap_alloc_new w _) hb1
                      have k3 := cell_ints HI.out 3 _ rfl
                      have k4 := cell_ints HI.out 4 _ rfl
                      have k5 := cell_ints HI.out 5 _ rfl
                      clear hb1
                      go_wp2_with fail
                      go_rounds 4
                      go_wp2_with fail
                      go_ret
                      rw [HB.out]
                      exact ⟨rfl, HBW.out⟩
                  · have g8 : decide (m1 ≤ 1000) = false := decide_eq_false h8
                    have HB : Hid (B = false) := by show _ = _; rw [hB]; exact right_no (by omega)
                    clear hB h0 h1 h2 h3 h4 h5 h6 h7 h8
                    go_enter Tryz.func17, Tryz.ntmps17
                    go_wp2_with fail
                    refine (HW.out _).mono ?_
                    rintro _ w1 ⟨rfl, hb1⟩
                    have HBW : Hid (Below w.heap.size w w1) := ((Below.refl _ _).alloc (Nat.le_refl _) _).trans (hb1.mono (by simp))
                    have HI : Hid (w1.heap[w.heap.size]? = some (.cells (ints [W, K, R, m0, m1, m2]) 29 (0, 0))) := blk_below (heap_alloc_new w _) hb1
                    have k3 := cell_ints HI.out 3 _ rfl
                    have k4 := cell_ints HI.out 4 _ rfl
                    have k5 := cell_ints HI.out 5 _ rfl
                    clear hb1
                    go_wp2_with fail
                    go_rounds 4
                    go_wp2_with fail
                    go_ret
                    rw [HB.out]
                    exact ⟨rfl, HBW.out⟩
                · have g7 : decide (m1 ≥ 0) = false := decide_eq_false h7
                  have HB : Hid (B = false) := by show _ = _; rw [hB]; exact right_no (by omega)
                  clear hB h0 h1 h2 h3 h4 h5 h6 h7
                  go_enter Tryz.func17, Tryz.ntmps17
                  go_wp2_with fail
                  refine (HW.out _).mono ?_
                  rintro _ w1 ⟨rfl, hb1⟩
                  have HBW : Hid (Below w.heap.size w w1) := ((Below.refl _ _).alloc (Nat.le_refl _) _).trans (hb1.mono (by simp))
                  have HI : Hid (w1.heap[w.heap.size]? = some (.cells (ints [W, K, R, m0, m1, m2]) 29 (0, 0))) := blk_below (heap_alloc_new w _) hb1
                  have k3 := cell_ints HI.out 3 _ rfl
                  have k4 := cell_ints HI.out 4 _ rfl
                  have k5 := cell_ints HI.out 5 _ rfl
                  clear hb1
                  go_wp2_with fail
                  go_rounds 4
                  go_wp2_with fail
                  go_ret
                  rw [HB.out]
                  exact ⟨rfl, HBW.out⟩
              · have g6 : decide (m0 ≤ 1000) = false := decide_eq_false h6
                have HB : Hid (B = false) := by show _ = _; rw [hB]; exact right_no (by omega)
                clear hB h0 h1 h2 h3 h4 h5 h6
                go_enter Tryz.func17, Tryz.ntmps17
                go_wp2_with fail
                refine (HW.out _).mono ?_
                rintro _ w1 ⟨rfl, hb1⟩
                have HBW : Hid (Below w.heap.size w w1) := ((Below.refl _ _).alloc (Nat.le_refl _) _).trans (hb1.mono (by simp))
                have HI : Hid (w1.heap[w.heap.size]? = some (.cells (ints [W, K, R, m0, m1, m2]) 29 (0, 0))) := blk_below (heap_alloc_new w _) hb1
                have k3 := cell_ints HI.out 3 _ rfl
                have k4 := cell_ints HI.out 4 _ rfl
                have k5 := cell_ints HI.out 5 _ rfl
                clear hb1
                go_wp2_with fail
                go_rounds 4
                go_wp2_with fail
                go_ret
                rw [HB.out]
                exact ⟨rfl, HBW.out⟩
            · have g5 : decide (m0 ≥ 0) = false := decide_eq_false h5
              have HB : Hid (B = false) := by show _ = _; rw [hB]; exact right_no (by omega)
              clear hB h0 h1 h2 h3 h4 h5
              go_enter Tryz.func17, Tryz.ntmps17
              go_wp2_with fail
              refine (HW.out _).mono ?_
              rintro _ w1 ⟨rfl, hb1⟩
              have HBW : Hid (Below w.heap.size w w1) := ((Below.refl _ _).alloc (Nat.le_refl _) _).trans (hb1.mono (by simp))
              have HI : Hid (w1.heap[w.heap.size]? = some (.cells (ints [W, K, R, m0, m1, m2]) 29 (0, 0))) := blk_below (heap_alloc_new w _) hb1
              have k3 := cell_ints HI.out 3 _ rfl
              have k4 := cell_ints HI.out 4 _ rfl
              have k5 := cell_ints HI.out 5 _ rfl
              clear hb1
              go_wp2_with fail
              go_rounds 4
              go_wp2_with fail
              go_ret
              rw [HB.out]
              exact ⟨rfl, HBW.out⟩
          · have g4 : decide (wordsD R > 0) = false := decide_eq_false (by unfold wordsD; rw [if_neg h4]; omega)
            have HB : Hid (B = false) := by show _ = _; rw [hB]; exact right_no (by omega)
            clear hB h0 h1 h2 h3 h4
            go_enter Tryz.func17, Tryz.ntmps17
            go_wp2_with fail
            refine (HW.out _).mono ?_
            rintro _ w1 ⟨rfl, hb1⟩
            have HBW : Hid (Below w.heap.size w w1) := ((Below.refl _ _).alloc (Nat.le_refl _) _).trans (hb1.mono (by simp))
            have HI : Hid (w1.heap[w.heap.size]? = some (.cells (ints [W, K, R, m0, m1, m2]) 29 (0, 0))) := blk_below (heap_alloc_new w _) hb1
            have k3 := cell_ints HI.out 3 _ rfl
            have k4 := cell_ints HI.out 4 _ rfl
            have k5 := cell_ints HI.out 5 _ rfl
            clear hb1
            go_wp2_with fail
            go_rounds 4
            go_wp2_with fail
            go_ret
            rw [HB.out]
            exact ⟨rfl, HBW.out⟩
        · have g3 : decide (K ≤ 3) = false := decide_eq_false h3
          have HB : Hid (B = false) := by show _ = _; rw [hB]; exact right_no (by omega)
          clear hB h0 h1 h2 h3
          go_enter Tryz.func17, Tryz.ntmps17
          go_wp2_with fail
          have HBW : Hid (Below w.heap.size w (w.alloc (.cells (ints [W, K, R, m0, m1, m2]) 29))) := (Below.refl _ _).alloc (Nat.le_refl _) _
          go_rounds 4
          go_wp2_with fail
          go_ret
          rw [HB.out]
          exact ⟨rfl, HBW.out⟩
      · have g2 : decide (K ≥ 1) = false := decide_eq_false h2
        have HB : Hid (B = false) := by show _ = _; rw [hB]; exact right_no (by omega)
        clear hB h0 h1 h2
        go_enter Tryz.func17, Tryz.ntmps17
        go_wp2_with fail
        have HBW : Hid (Below w.heap.size w (w.alloc (.cells (ints [W, K, R, m0, m1, m2]) 29))) := (Below.refl _ _).alloc (Nat.le_refl _) _
        go_rounds 4
        go_wp2_with fail
        go_ret
        rw [HB.out]
        exact ⟨rfl, HBW.out⟩
    · have g1 : decide (W ≤ 64) = false := decide_eq_false h1
      have HB : Hid (B = false) := by show _ = _; rw [hB]; exact right_no (by omega)
      clear hB h0 h1
      go_enter Tryz.func17, Tryz.ntmps17
      go_wp2_with fail
      have HBW : Hid (Below w.heap.size w (w.alloc (.cells (ints [W, K, R, m0, m1, m2]) 29))) := (Below.refl _ _).alloc (Nat.le_refl _) _
      go_rounds 4
      go_wp2_with fail
      go_ret
      rw [HB.out]
      exact ⟨rfl, HBW.out⟩
  · have g0 : decide (W ≥ 1) = false := decide_eq_false h0
    have HB : Hid (B = false) := by show _ = _; rw [hB]; exact right_no (by omega)
    clear hB h0
    go_enter Tryz.func17, Tryz.ntmps17
    go_wp2_with fail
    have HBW : Hid (Below w.heap.size w (w.alloc (.cells (ints [W, K, R, m0, m1, m2]) 29))) := (Below.refl _ _).alloc (Nat.le_refl _) _
    go_rounds 4
    go_wp2_with fail
    go_ret
    rw [HB.out]
    exact ⟨rfl, HBW.out⟩
end Go.Proofs.YtponjobacdimeaaGreat.Core
