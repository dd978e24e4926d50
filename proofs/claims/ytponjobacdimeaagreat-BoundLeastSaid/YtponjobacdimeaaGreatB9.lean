/- sched.New for every config; bound.Least; haymowref16.Wrong: what each comes to. -/
import Derived.Test.YtponjobacdimeaaGreatB8
namespace Go.Proofs.YtponjobacdimeaaGreat.Core
open Go.RowKit Go.Proofs.YtponjobacdimeaaGreatW.PrintWords Go.Proofs.YtponjobacdimeaaGreat.PBoundLeast Go.Proofs.YtponjobacdimeaaGreat
set_option linter.unusedVariables false
set_option linter.unusedSimpArgs false
/-- Which error a config gives. -/
def errC (W K R m0 m1 m2 : Int) : Int := if rightB W K R m0 m1 m2 = true then (if W * (R + 2 + m0 * 3 + m1 * 3 + m2 * 5) > 65536 then 3 else 0) else 1
set_option maxRecDepth 100000 in
set_option maxHeartbeats 4000000 in
theorem snew_any (W K R m0 m1 m2 : Int) (w : World) :
    Calls Tryz.prog 14 #[.agg #[.int .i64 W, .int .i64 K, .int .i64 R, .int .i64 m0, .int .i64 m1, .int .i64 m2]] w (GivesS w (errC W K R m0 m1 m2)) := by
  by_cases h : rightB W K R m0 m1 m2 = true
  · have h' := of_decide_eq_true h
    obtain ⟨W', rfl⟩ := Int.eq_ofNat_of_zero_le (a := W) (by omega)
    obtain ⟨K', rfl⟩ := Int.eq_ofNat_of_zero_le (a := K) (by omega)
    obtain ⟨R', rfl⟩ := Int.eq_ofNat_of_zero_le (a := R) (by omega)
    obtain ⟨a0, rfl⟩ := Int.eq_ofNat_of_zero_le (a := m0) (by omega)
    obtain ⟨a1, rfl⟩ := Int.eq_ofNat_of_zero_le (a := m1) (by omega)
    obtain ⟨a2, rfl⟩ := Int.eq_ofNat_of_zero_le (a := m2) (by omega)
    have := snew_ok W' K' R' a0 a1 a2 (by omega) (by omega) (by omega) (by omega) (by omega) (by omega) w
    have he : errC (W' : Int) K' R' a0 a1 a2 = if W' * (R' + 2 + a0) + W' * a0 * 2 + W' * a1 * 3 + W' * a2 * 5 > 65536 then 3 else 0 := by
      unfold errC
      rw [if_pos h]
      have e1 : W' * (R' + 2 + a0) + W' * a0 * 2 + W' * a1 * 3 + W' * a2 * 5 = W' * (R' + 2 + a0 * 3 + a1 * 3 + a2 * 5) := by
        rw [Nat.mul_assoc, Nat.mul_assoc, Nat.mul_assoc, ← Nat.mul_add, ← Nat.mul_add, ← Nat.mul_add]
        congr 1
        omega
      have e2 : (W' : Int) * ((R' : Int) + 2 + (a0 : Int) * 3 + (a1 : Int) * 3 + (a2 : Int) * 5) = ((W' * (R' + 2 + a0 * 3 + a1 * 3 + a2 * 5) : Nat) : Int) := by push_cast; rfl
      rw [e1, e2]
      by_cases hb : W' * (R' + 2 + a0 * 3 + a1 * 3 + a2 * 5) > 65536
      · rw [if_pos hb, if_pos (by omega)]
      · rw [if_neg hb, if_neg (by omega)]
    rw [he]
    exact this
  · have hf : rightB W K R m0 m1 m2 = false := by simpa using h
    have he : errC W K R m0 m1 m2 = 1 := by unfold errC; rw [if_neg h]
    rw [he]
    have hr := fun X => right_any W K R m0 m1 m2 X
    rw [hf] at hr
    have HR := Lib.hid hr
    have HA : Hid (Below w.heap.size w (w.alloc (.cells (ints [W, K, R, m0, m1, m2]) 29))) := (Below.refl _ _).alloc (Nat.le_refl _) _
    clear hr h hf he
    go_enter Tryz.func14, Tryz.ntmps14
    go_wp2_with fail
    refine (HR.out _).mono ?_
    rintro _ w1 ⟨rfl, hb1⟩
    have HB : Hid (Below w.heap.size w w1) := HA.out.trans (hb1.mono HA.out.size)
    clear hb1
    go_wp2_with fail
    go_ret2
    exact ⟨_, rfl, HB.out⟩
theorem errC_zero {W K R m0 m1 m2 : Int} (h : errC W K R m0 m1 m2 = 0) : 1 ≤ W ∧ W ≤ 64 ∧ 1 ≤ K ∧ K ≤ 3 ∧ 1 ≤ R ∧ R ≤ 1000 ∧ 0 ≤ m0 ∧ m0 ≤ 1000 ∧ 0 ≤ m1 ∧ m1 ≤ 1000 ∧ 0 ≤ m2 ∧ m2 ≤ 1000 := by
  unfold errC at h
  by_cases hr : rightB W K R m0 m1 m2 = true
  · exact of_decide_eq_true hr
  · rw [if_neg hr] at h
    omega
end Go.Proofs.YtponjobacdimeaaGreat.Core
