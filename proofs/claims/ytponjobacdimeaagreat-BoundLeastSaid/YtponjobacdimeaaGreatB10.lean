/- haymowref16.Wrong: what it comes to. Printed by gen_gb10.py. -/
import Derived.Test.YtponjobacdimeaaGreatB9
namespace Go.Proofs.YtponjobacdimeaaGreat.Core
open Go.RowKit Go.Proofs.YtponjobacdimeaaGreatW.PrintWords Go.Proofs.YtponjobacdimeaaGreat.PBoundLeast Go.Proofs.YtponjobacdimeaaGreat
set_option linter.unusedVariables false
set_option linter.unusedSimpArgs false
set_option maxRecDepth 100000 in
set_option maxHeartbeats 16000000 in
theorem wrong_any (W K R m0 m1 m2 : Int) (w : World) :
    Calls Tryz.prog 9 #[.agg #[.int .i64 W, .int .i64 K, .int .i64 R, .int .i64 m0, .int .i64 m1, .int .i64 m2]] w fun e w' => e = .returned (.int .i64 (errC W K R m0 m1 m2)) ∧ Below w.heap.size w w' := by
  have HA : Hid (Below w.heap.size w (w.alloc (.cells (ints [W, K, R, m0, m1, m2]) 38))) := (Below.refl _ _).alloc (Nat.le_refl _) _
  by_cases h0 : W < 1
  · have g0 : decide (W < 1) = true := decide_eq_true h0
    have he : errC W K R m0 m1 m2 = 1 := by unfold errC; rw [right_no (by omega), if_neg (by decide)]
    rw [he]
    clear he h0
    go_enter Tryz.func9, Tryz.ntmps9
    go_wp2_with fail
    go_ret
    exact ⟨rfl, HA.out⟩
  have g0 : decide (W < 1) = false := decide_eq_false h0
  by_cases h1 : W > 64
  · have g1 : decide (W > 64) = true := decide_eq_true h1
    have he : errC W K R m0 m1 m2 = 1 := by unfold errC; rw [right_no (by omega), if_neg (by decide)]
    rw [he]
    clear he h0 h1
    go_enter Tryz.func9, Tryz.ntmps9
    go_wp2_with fail
    go_ret
    exact ⟨rfl, HA.out⟩
  have g1 : decide (W > 64) = false := decide_eq_false h1
  by_cases h2 : K < 1
  · have g2 : decide (K < 1) = true := decide_eq_true h2
    have he : errC W K R m0 m1 m2 = 1 := by unfold errC; rw [right_no (by omega), if_neg (by decide)]
    rw [he]
    clear he h0 h1 h2
    go_enter Tryz.func9, Tryz.ntmps9
    go_wp2_with fail
    go_ret
    exact ⟨rfl, HA.out⟩
  have g2 : decide (K < 1) = false := decide_eq_false h2
  by_cases h3 : K > 3
  · have g3 : decide (K > 3) = true := decide_eq_true h3
    have he : errC W K R m0 m1 m2 = 1 := by unfold errC; rw [right_no (by omega), if_neg (by decide)]
    rw [he]
    clear he h0 h1 h2 h3
    go_enter Tryz.func9, Tryz.ntmps9
    go_wp2_with fail
    go_ret
    exact ⟨rfl, HA.out⟩
  have g3 : decide (K > 3) = false := decide_eq_false h3
  by_cases h4 : R < 1
  · have g4 : decide (R < 1) = true := decide_eq_true h4
    have he : errC W K R m0 m1 m2 = 1 := by unfold errC; rw [right_no (by omega), if_neg (by decide)]
    rw [he]
    clear he h0 h1 h2 h3 h4
    go_enter Tryz.func9, Tryz.ntmps9
    go_wp2_with fail
    go_ret
    exact ⟨rfl, HA.out⟩
  have g4 : decide (R < 1) = false := decide_eq_false h4
  by_cases h5 : R > 1000
  · have g5 : decide (R > 1000) = true := decide_eq_true h5
    have he : errC W K R m0 m1 m2 = 1 := by unfold errC; rw [right_no (by omega), if_neg (by decide)]
    rw [he]
    clear he h0 h1 h2 h3 h4 h5
    go_enter Tryz.func9, Tryz.ntmps9
    go_wp2_with fail
    go_ret
    exact ⟨rfl, HA.out⟩
  have g5 : decide (R > 1000) = false := decide_eq_false h5
  by_cases h6 : m0 < 0
  · have g6 : decide (m0 < 0) = true := decide_eq_true h6
    have he : errC W K R m0 m1 m2 = 1 := by unfold errC; rw [right_no (by omega), if_neg (by decide)]
    rw [he]
    clear he h0 h1 h2 h3 h4 h5 h6
    go_enter Tryz.func9, Tryz.ntmps9
    go_wp2_with fail
    go_rounds 4
    go_wp2_with fail
    go_ret
    exact ⟨rfl, HA.out⟩
  have g6 : decide (m0 < 0) = false := decide_eq_false h6
  by_cases h7 : m0 > 1000
  · have g7 : decide (m0 > 1000) = true := decide_eq_true h7
    have he : errC W K R m0 m1 m2 = 1 := by unfold errC; rw [right_no (by omega), if_neg (by decide)]
    rw [he]
    clear he h0 h1 h2 h3 h4 h5 h6 h7
    go_enter Tryz.func9, Tryz.ntmps9
    go_wp2_with fail
    go_rounds 4
    go_wp2_with fail
    go_ret
    exact ⟨rfl, HA.out⟩
  have g7 : decide (m0 > 1000) = false := decide_eq_false h7
  by_cases h8 : m1 < 0
  · have g8 : decide (m1 < 0) = true := decide_eq_true h8
    have he : errC W K R m0 m1 m2 = 1 := by unfold errC; rw [right_no (by omega), if_neg (by decide)]
    rw [he]
    clear he h0 h1 h2 h3 h4 h5 h6 h7 h8
    go_enter Tryz.func9, Tryz.ntmps9
    go_wp2_with fail
    go_rounds 4
    go_wp2_with fail
    go_ret
    exact ⟨rfl, HA.out⟩
  have g8 : decide (m1 < 0) = false := decide_eq_false h8
  by_cases h9 : m1 > 1000
  · have g9 : decide (m1 > 1000) = true := decide_eq_true h9
    have he : errC W K R m0 m1 m2 = 1 := by unfold errC; rw [right_no (by omega), if_neg (by decide)]
    rw [he]
    clear he h0 h1 h2 h3 h4 h5 h6 h7 h8 h9
    go_enter Tryz.func9, Tryz.ntmps9
    go_wp2_with fail
    go_rounds 4
    go_wp2_with fail
    go_ret
    exact ⟨rfl, HA.out⟩
  have g9 : decide (m1 > 1000) = false := decide_eq_false h9
  by_cases h10 : m2 < 0
  · have g10 : decide (m2 < 0) = true := decide_eq_true h10
    have he : errC W K R m0 m1 m2 = 1 := by unfold errC; rw [right_no (by omega), if_neg (by decide)]
    rw [he]
    clear he h0 h1 h2 h3 h4 h5 h6 h7 h8 h9 h10
    go_enter Tryz.func9, Tryz.ntmps9
    go_wp2_with fail
    go_rounds 4
    go_wp2_with fail
    go_ret
    exact ⟨rfl, HA.out⟩
  have g10 : decide (m2 < 0) = false := decide_eq_false h10
  by_cases h11 : m2 > 1000
  · have g11 : decide (m2 > 1000) = true := decide_eq_true h11
    have he : errC W K R m0 m1 m2 = 1 := by unfold errC; rw [right_no (by omega), if_neg (by decide)]
    rw [he]
    clear he h0 h1 h2 h3 h4 h5 h6 h7 h8 h9 h10 h11
    go_enter Tryz.func9, Tryz.ntmps9
    go_wp2_with fail
    go_rounds 4
    go_wp2_with fail
    go_ret
    exact ⟨rfl, HA.out⟩
  have g11 : decide (m2 > 1000) = false := decide_eq_false h11
  obtain ⟨s, hs⟩ : ∃ x, x = R + 2 + m0 * 3 + m1 * 3 + m2 * 5 := ⟨_, rfl⟩
  have hsb : 0 ≤ s ∧ s ≤ 20000 := by omega
  have hp0 : 0 ≤ W * s := Int.mul_nonneg (by omega) hsb.1
  have hW64 : W ≤ 64 := by omega
  have hp2 : W * s ≤ 64 * s := Int.mul_le_mul_of_nonneg_right hW64 hsb.1
  have hp1 : W * s ≤ 1280000 := by omega
  obtain ⟨q, hq⟩ : ∃ x, x = W * s := ⟨_, rfl⟩
  rw [← hq] at hp0 hp1
  have w0 : IntKind.i64.wrap (R + 2) = R + 2 := by rw [IntKind.wrap_i64]; omega
  have w1 : IntKind.i64.wrap (m0 * 3) = m0 * 3 := by rw [IntKind.wrap_i64]; omega
  have w2 : IntKind.i64.wrap (m1 * 3) = m1 * 3 := by rw [IntKind.wrap_i64]; omega
  have w3 : IntKind.i64.wrap (m2 * 5) = m2 * 5 := by rw [IntKind.wrap_i64]; omega
  have w4 : IntKind.i64.wrap (R + 2 + m0 * 3) = R + 2 + m0 * 3 := by rw [IntKind.wrap_i64]; omega
  have w5 : IntKind.i64.wrap (R + 2 + m0 * 3 + m1 * 3) = R + 2 + m0 * 3 + m1 * 3 := by rw [IntKind.wrap_i64]; omega
  have w6 : IntKind.i64.wrap (R + 2 + m0 * 3 + m1 * 3 + m2 * 5) = s := by rw [IntKind.wrap_i64]; omega
  have w7 : IntKind.i64.wrap (W * s) = q := by rw [← hq, IntKind.wrap_i64]; omega
  have hr : rightB W K R m0 m1 m2 = true := decide_eq_true (by omega)
  have he : errC W K R m0 m1 m2 = if q > 65536 then 3 else 0 := by unfold errC; rw [if_pos hr, ← hs, ← hq]
  rw [he]
  have hkeep : True := trivial
  clear he hr hs hsb hp0 hp1 hp2 hW64 hq h0 h1 h2 h3 h4 h5 h6 h7 h8 h9 h10 h11
  by_cases hb : q > 65536
  · have gb : decide (q > 65536) = true := decide_eq_true hb
    rw [if_pos hb]
    clear hb
    go_enter Tryz.func9, Tryz.ntmps9
    go_wp2_with fail
    go_rounds 4
    go_wp2_with fail
    go_ret
    exact ⟨rfl, HA.out⟩
  · have gb : decide (q > 65536) = false := decide_eq_false hb
    rw [if_neg hb]
    clear hb
    go_enter Tryz.func9, Tryz.ntmps9
    go_wp2_with fail
    go_rounds 4
    go_wp2_with fail
    go_ret
    exact ⟨rfl, HA.out⟩
end Go.Proofs.YtponjobacdimeaaGreat.Core
