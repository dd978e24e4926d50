/- valid: what gives up, and a field. -/
import Derived.Test.YtbiajfkencamiaaGreatDoorAB
/-! V1 -/
namespace Go.Proofs.YtbiajfkencamiaaGreatDoor.Core
open Go.RowKit Go.Shelf Go.Proofs.YtbiajfkencamiaaGreatDoorW.PrintWords Go.Proofs.YtbiajfkencamiaaGreatDoorW.PrintMore Go.Proofs.YtbiajfkencamiaaGreatDoor.P1 Go.Proofs.YtbiajfkencamiaaGreatDoor
open Go.Proofs.YtbiajfkencamiaaGreatDoor.PK (S121 k121 z121 S124 k124 z124 at_T124 at_T121 rd_T124 rd_T121)
set_option linter.unusedVariables false
set_option linter.unusedSimpArgs false
theorem step_lt {j d m : Nat} (h : j + d = m) (hj : j < m) : m - (j + 1) < d := by omega
theorem step_eq {j m : Nat} (hj : j < m) : j + 1 + (m - (j + 1)) = m := by omega
/-- What valid gives up with. -/
def wrongV (f at' e : Int) : List PanicEntry := [{ v := .iface 207 (.agg #[.int .i64 f, .int .i64 at', .int .i64 e]), recovered := false }]
/-- All is well, or a panic with an error. -/
def GivesV (w : World) (ok : Bool) (en : Ending) (w' : World) : Prop :=
  (if ok = true then en = .returned (.tuple #[]) else ∃ f at' e : Int, e ≠ 0 ∧ en = .panicked (wrongV f at' e)) ∧ Below w.heap.size w w'
set_option maxRecDepth 100000 in
theorem vneed_any (A : Option Addr) (n c : Nat) (f at' : Int) (b : Bool) (e : Int) (he : e ≠ 0) (w : World) : Calls Tryz.prog 114 #[.agg #[.slice A n c, .int .i64 f, .int .i64 at'], .bool b, .int .i64 e] w (GivesV w b) := by
  have HE := Lib.hid he
  clear he
  cases b with
  | true =>
    go_enter Tryz.func114, Tryz.ntmps114
    go_wp2_with fail
    go_end0
    exact ⟨rfl, (Below.refl _ _).alloc (Nat.le_refl _) _⟩
  | false =>
    go_enter Tryz.func114, Tryz.ntmps114
    go_wp2_with fail
    refine ⟨rfl, ?_, (Below.refl _ _).alloc (Nat.le_refl _) _⟩
    exact ⟨f, at', e, HE.out, rfl⟩
/-- May a field be so? -/
def fieldB (np cl : Nat) (n part : Int) : Bool :=
  if part = 1 then decide (0 ≤ n) && decide (n < 8) else if part = 2 then decide (0 ≤ n) && decide (n < 4) else if part = 3 then decide (0 ≤ n) && decide (n < np)
  else if part = 5 then decide (0 ≤ n) && decide (n < cl) else if part = 6 then decide (16 ≤ n) && decide (n < 2147483648) else if part = 4 then decide (-2147483648 ≤ n) && decide (n < 2147483648) else true
set_option maxRecDepth 100000 in
set_option maxHeartbeats 4000000 in
theorem vfield_any (part : Int) (hp : part = 0 ∨ part = 1 ∨ part = 2 ∨ part = 3 ∨ part = 6 ∨ part = 4) (A : Option Addr) (n c cl : Nat) (f at' v : Int) (w : World) :
    Calls Tryz.prog 158 #[.agg #[.slice A n c, .int .i64 f, .int .i64 at'], .int .i64 v, .int .i64 part] w (GivesV w (fieldB n cl v part)) := by
  rcases hp with rfl | rfl | rfl | rfl | rfl | rfl
  · have hf : fieldB n cl v 0 = true := by simp [fieldB]
    rw [hf]
    clear hf
    go_enter Tryz.func158, Tryz.ntmps158
    go_wp2_with fail
    go_end0
    exact ⟨rfl, (Below.refl _ _).alloc (Nat.le_refl _) _⟩
  · -- part 1
    by_cases h1 : 0 ≤ v
    · have g1 : decide (v ≥ 0) = true := decide_eq_true h1
      by_cases h2 : v < 8
      · have g2 : decide (v < 8) = true := decide_eq_true h2
        have hf : fieldB n cl v 1 = true := by simp [fieldB, h1, h2]
        rw [hf]
        clear hf
        go_enter Tryz.func158, Tryz.ntmps158
        go_wp2_with fail
        refine (vneed_any A n c f at' true 6 (by decide) _).mono ?_
        rintro e w1 ⟨he, hb⟩
        obtain rfl : e = .returned (.tuple #[]) := he
        go_wp2_with fail
        go_end0
        exact ⟨rfl, ((Below.refl _ _).alloc (Nat.le_refl _) _).trans (hb.mono (by simp))⟩
      · have g2 : decide (v < 8) = false := decide_eq_false h2
        have hf : fieldB n cl v 1 = false := by simp [fieldB, h2]
        rw [hf]
        clear hf
        go_enter Tryz.func158, Tryz.ntmps158
        go_wp2_with fail
        refine (vneed_any A n c f at' false 6 (by decide) _).mono ?_
        rintro e w1 ⟨he, hb⟩
        obtain ⟨f', a', e', hne, rfl⟩ := he
        exact ⟨rfl, ⟨f', a', e', hne, rfl⟩, ((Below.refl _ _).alloc (Nat.le_refl _) _).trans (hb.mono (by simp))⟩
    · have g1 : decide (v ≥ 0) = false := decide_eq_false h1
      have hf : fieldB n cl v 1 = false := by simp [fieldB, h1]
      rw [hf]
      clear hf
      go_enter Tryz.func158, Tryz.ntmps158
      go_wp2_with fail
      refine (vneed_any A n c f at' false 6 (by decide) _).mono ?_
      rintro e w1 ⟨he, hb⟩
      obtain ⟨f', a', e', hne, rfl⟩ := he
      exact ⟨rfl, ⟨f', a', e', hne, rfl⟩, ((Below.refl _ _).alloc (Nat.le_refl _) _).trans (hb.mono (by simp))⟩
  · -- part 2
    by_cases h1 : 0 ≤ v
    · have g1 : decide (v ≥ 0) = true := decide_eq_true h1
      by_cases h2 : v < 4
      · have g2 : decide (v < 4) = true := decide_eq_true h2
        have hf : fieldB n cl v 2 = true := by simp [fieldB, h1, h2]
        rw [hf]
        clear hf
        go_enter Tryz.func158, Tryz.ntmps158
        go_wp2_with fail
        refine (vneed_any A n c f at' true 6 (by decide) _).mono ?_
        rintro e w1 ⟨he, hb⟩
        obtain rfl : e = .returned (.tuple #[]) := he
        go_wp2_with fail
        go_end0
        exact ⟨rfl, ((Below.refl _ _).alloc (Nat.le_refl _) _).trans (hb.mono (by simp))⟩
      · have g2 : decide (v < 4) = false := decide_eq_false h2
        have hf : fieldB n cl v 2 = false := by simp [fieldB, h2]
        rw [hf]
        clear hf
        go_enter Tryz.func158, Tryz.ntmps158
        go_wp2_with fail
        refine (vneed_any A n c f at' false 6 (by decide) _).mono ?_
        rintro e w1 ⟨he, hb⟩
        obtain ⟨f', a', e', hne, rfl⟩ := he
        exact ⟨rfl, ⟨f', a', e', hne, rfl⟩, ((Below.refl _ _).alloc (Nat.le_refl _) _).trans (hb.mono (by simp))⟩
    · have g1 : decide (v ≥ 0) = false := decide_eq_false h1
      have hf : fieldB n cl v 2 = false := by simp [fieldB, h1]
      rw [hf]
      clear hf
      go_enter Tryz.func158, Tryz.ntmps158
      go_wp2_with fail
      refine (vneed_any A n c f at' false 6 (by decide) _).mono ?_
      rintro e w1 ⟨he, hb⟩
      obtain ⟨f', a', e', hne, rfl⟩ := he
      exact ⟨rfl, ⟨f', a', e', hne, rfl⟩, ((Below.refl _ _).alloc (Nat.le_refl _) _).trans (hb.mono (by simp))⟩
  · -- part 3
    by_cases h1 : 0 ≤ v
    · have g1 : decide (v ≥ 0) = true := decide_eq_true h1
      by_cases h2 : v < (n : Int)
      · have g2 : decide (v < (n : Int)) = true := decide_eq_true h2
        have hf : fieldB n cl v 3 = true := by simp [fieldB, h1, h2]
        rw [hf]
        clear hf
        go_enter Tryz.func158, Tryz.ntmps158
        go_wp2_with fail
        refine (vneed_any A n c f at' true 5 (by decide) _).mono ?_
        rintro e w1 ⟨he, hb⟩
        obtain rfl : e = .returned (.tuple #[]) := he
        go_wp2_with fail
        go_end0
        exact ⟨rfl, ((Below.refl _ _).alloc (Nat.le_refl _) _).trans (hb.mono (by simp))⟩
      · have g2 : decide (v < (n : Int)) = false := decide_eq_false h2
        have hf : fieldB n cl v 3 = false := by simp [fieldB, h2]
        rw [hf]
        clear hf
        go_enter Tryz.func158, Tryz.ntmps158
        go_wp2_with fail
        refine (vneed_any A n c f at' false 5 (by decide) _).mono ?_
        rintro e w1 ⟨he, hb⟩
        obtain ⟨f', a', e', hne, rfl⟩ := he
        exact ⟨rfl, ⟨f', a', e', hne, rfl⟩, ((Below.refl _ _).alloc (Nat.le_refl _) _).trans (hb.mono (by simp))⟩
    · have g1 : decide (v ≥ 0) = false := decide_eq_false h1
      have hf : fieldB n cl v 3 = false := by simp [fieldB, h1]
      rw [hf]
      clear hf
      go_enter Tryz.func158, Tryz.ntmps158
      go_wp2_with fail
      refine (vneed_any A n c f at' false 5 (by decide) _).mono ?_
      rintro e w1 ⟨he, hb⟩
      obtain ⟨f', a', e', hne, rfl⟩ := he
      exact ⟨rfl, ⟨f', a', e', hne, rfl⟩, ((Below.refl _ _).alloc (Nat.le_refl _) _).trans (hb.mono (by simp))⟩
  · -- part 6
    by_cases h1 : 16 ≤ v
    · have g1 : decide (v ≥ 16) = true := decide_eq_true h1
      by_cases h2 : v < 2147483648
      · have g2 : decide (v < 2147483648) = true := decide_eq_true h2
        have hf : fieldB n cl v 6 = true := by simp [fieldB, h1, h2]
        rw [hf]
        clear hf
        go_enter Tryz.func158, Tryz.ntmps158
        go_wp2_with fail
        refine (vneed_any A n c f at' true 6 (by decide) _).mono ?_
        rintro e w1 ⟨he, hb⟩
        obtain rfl : e = .returned (.tuple #[]) := he
        go_wp2_with fail
        go_end0
        exact ⟨rfl, ((Below.refl _ _).alloc (Nat.le_refl _) _).trans (hb.mono (by simp))⟩
      · have g2 : decide (v < 2147483648) = false := decide_eq_false h2
        have hf : fieldB n cl v 6 = false := by simp [fieldB, h2]
        rw [hf]
        clear hf
        go_enter Tryz.func158, Tryz.ntmps158
        go_wp2_with fail
        refine (vneed_any A n c f at' false 6 (by decide) _).mono ?_
        rintro e w1 ⟨he, hb⟩
        obtain ⟨f', a', e', hne, rfl⟩ := he
        exact ⟨rfl, ⟨f', a', e', hne, rfl⟩, ((Below.refl _ _).alloc (Nat.le_refl _) _).trans (hb.mono (by simp))⟩
    · have g1 : decide (v ≥ 16) = false := decide_eq_false h1
      have hf : fieldB n cl v 6 = false := by simp [fieldB, h1]
      rw [hf]
      clear hf
      go_enter Tryz.func158, Tryz.ntmps158
      go_wp2_with fail
      refine (vneed_any A n c f at' false 6 (by decide) _).mono ?_
      rintro e w1 ⟨he, hb⟩
      obtain ⟨f', a', e', hne, rfl⟩ := he
      exact ⟨rfl, ⟨f', a', e', hne, rfl⟩, ((Below.refl _ _).alloc (Nat.le_refl _) _).trans (hb.mono (by simp))⟩
  · -- part 4
    by_cases h1 : -2147483648 ≤ v
    · have g1 : decide (v ≥ -2147483648) = true := decide_eq_true h1
      by_cases h2 : v < 2147483648
      · have g2 : decide (v < 2147483648) = true := decide_eq_true h2
        have hf : fieldB n cl v 4 = true := by simp [fieldB, h1, h2]
        rw [hf]
        clear hf
        go_enter Tryz.func158, Tryz.ntmps158
        go_wp2_with fail
        refine (vneed_any A n c f at' true 6 (by decide) _).mono ?_
        rintro e w1 ⟨he, hb⟩
        obtain rfl : e = .returned (.tuple #[]) := he
        go_wp2_with fail
        go_end0
        exact ⟨rfl, ((Below.refl _ _).alloc (Nat.le_refl _) _).trans (hb.mono (by simp))⟩
      · have g2 : decide (v < 2147483648) = false := decide_eq_false h2
        have hf : fieldB n cl v 4 = false := by simp [fieldB, h2]
        rw [hf]
        clear hf
        go_enter Tryz.func158, Tryz.ntmps158
        go_wp2_with fail
        refine (vneed_any A n c f at' false 6 (by decide) _).mono ?_
        rintro e w1 ⟨he, hb⟩
        obtain ⟨f', a', e', hne, rfl⟩ := he
        exact ⟨rfl, ⟨f', a', e', hne, rfl⟩, ((Below.refl _ _).alloc (Nat.le_refl _) _).trans (hb.mono (by simp))⟩
    · have g1 : decide (v ≥ -2147483648) = false := decide_eq_false h1
      have hf : fieldB n cl v 4 = false := by simp [fieldB, h1]
      rw [hf]
      clear hf
      go_enter Tryz.func158, Tryz.ntmps158
      go_wp2_with fail
      refine (vneed_any A n c f at' false 6 (by decide) _).mono ?_
      rintro e w1 ⟨he, hb⟩
      obtain ⟨f', a', e', hne, rfl⟩ := he
      exact ⟨rfl, ⟨f', a', e', hne, rfl⟩, ((Below.refl _ _).alloc (Nat.le_refl _) _).trans (hb.mono (by simp))⟩
end Go.Proofs.YtbiajfkencamiaaGreatDoor.Core
