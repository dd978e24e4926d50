/- The reader: what an act comes to. -/
import Derived.Test.YthnefjkpjhfkgaaC11
namespace Go.Proofs.Ythnefjkpjhfkgaa.Core
open Go.RowKit Go.Proofs.YthnefjkpjhfkgaaW.PrintWords Go.Proofs.YthnefjkpjhfkgaaW.PrintMore Go.Proofs.Ythnefjkpjhfkgaa.PScriptWrites
set_option linter.unusedVariables false
set_option linter.unusedSimpArgs false
/-- An act of bytes: the act and what is left, or what is wrong. -/
def dec : List Int → Except Int (S47 × List Int)
  | [] => .error 2
  | k :: r =>
    if k = 1 then (match r with | x :: y :: r => .ok (⟨1, x, y, 0, [], []⟩, r) | _ => .error 2)
    else if k = 2 then (match r with
      | x :: y :: r => if x + 256 * y ≤ r.length then (match r.drop (x + 256 * y).toNat with
        | m :: r2 => if 8 * m.toNat ≤ r2.length then .ok (⟨2, 0, 0, 0, r.take (x + 256 * y).toNat, argsN m.toNat r2⟩, r2.drop (8 * m.toNat)) else .error 2
        | [] => .error 2) else .error 2
      | _ => .error 2)
    else if k = 3 ∨ k = 4 then (match r with | x :: r => .ok (⟨k, 0, 0, x, [], []⟩, r) | _ => .error 2)
    else if k = 5 ∨ k = 6 then .ok (⟨k, 0, 0, 0, [], []⟩, r)
    else if k = 7 then (match r with | x :: y :: r => .ok (⟨7, 0, 0, x + 256 * y, [], []⟩, r) | _ => .error 2)
    else .error 4
/-- What the reader's act comes to. -/
def ActRead (w0 W : World) (g : Nat) (d : Except Int (S47 × List Int)) (e : Ending) (w' : World) : Prop :=
  match d with
  | .ok (x, r) => ∃ cs : List Value, e = .returned (.agg cs.toArray) ∧ Kd.FK k47 w' (fun k => W.heap.size < k) x cs ∧ Rd w0 w' g r ∧ W.grownBy w' (some g)
  | .error n => e = .panicked (chain n) ∧ W.grownBy w' (some g)
theorem plainF (w : World) (ok : Nat → Prop) (a b c d : Int) : Kd.FK k47 w ok ⟨a, b, c, d, [], []⟩ [.int .i64 a, .int .i64 b, .int .i64 c, .int .i64 d, .slice none 0 0, .slice none 0 0] :=
  k47_mkF w ok ⟨a, b, c, d, [], []⟩ (A4 := none) (c4 := 0) (Nat.le_refl _) (Kd.F_nil _ _ _) (A5 := none) (c5 := 0) (Nat.le_refl _) (Kd.F_nil _ _ _)
theorem act_any (w0 W : World) (g : Nat) (rs : List Int) (hby : Byts rs) (h : Rd w0 W g rs) :
    Calls Try.prog 21 #[.pointer (some ⟨g, 0, none⟩)] W (ActRead w0 W g (dec rs)) := by
  cases rs with
  | nil => exact act_none w0 W g hby h
  | cons k r =>
    by_cases h1 : k = 1
    · subst h1
      match r, hby, h with
      | [], hby, h => exact act_pick0 w0 W g hby h
      | [x], hby, h => exact act_pick1 w0 W g x hby h
      | x :: y :: r, hby, h =>
        refine (act_pick w0 W g x y r hby h).mono ?_
        rintro e w' ⟨rfl, h1, h2⟩
        exact ⟨_, rfl, plainF _ _ _ _ _ _, h1, h2⟩
    by_cases h2 : k = 2
    · subst h2
      match r, hby, h with
      | [], hby, h => exact act_sub_a w0 W g [] (by decide) hby h
      | [x], hby, h => exact act_sub_a w0 W g [x] (by simp) hby h
      | x :: y :: R1, hby, h =>
        have hx := hby.tl.hd
        have hy := hby.tl.tl.hd
        by_cases hl : x + 256 * y ≤ R1.length
        · have hfl : (R1.take (x + 256 * y).toNat).length = (x + 256 * y).toNat := by rw [List.length_take]; omega
          have hR1 : R1 = R1.take (x + 256 * y).toNat ++ R1.drop (x + 256 * y).toNat := (List.take_append_drop _ _).symm
          have hd : dec (2 :: x :: y :: R1) = (match R1.drop (x + 256 * y).toNat with
              | m :: r2 => if 8 * m.toNat ≤ r2.length then .ok (⟨2, 0, 0, 0, R1.take (x + 256 * y).toNat, argsN m.toNat r2⟩, r2.drop (8 * m.toNat)) else .error 2
              | [] => .error 2) := by simp only [dec]; rw [if_neg (by decide), if_pos trivial, if_pos hl]
          rw [hd]
          cases hr1 : R1.drop (x + 256 * y).toNat with
          | nil => exact act_sub_1 w0 W g x y _ rfl (R1.take (x + 256 * y).toNat) (R1.drop (x + 256 * y).toNat) R1 hR1 (by omega) hr1 (by omega) hby h
          | cons m r2 =>
            have hm : 0 ≤ m ∧ m < 256 := hby m (by
              have : m ∈ R1.drop (x + 256 * y).toNat := by rw [hr1]; simp
              have := List.mem_of_mem_drop this
              simp [this])
            refine (act_sub w0 W g x y _ rfl (R1.take (x + 256 * y).toNat) (R1.drop (x + 256 * y).toNat) R1 r2 m.toNat hR1 (by rw [hr1, Int.toNat_of_nonneg hm.1]) (by omega) (by omega) hby h).mono ?_
            rintro e w' (⟨hle, A4, k4, A5, k5, rfl, h4, f4, h5, f5, hr, hg⟩ | ⟨hgt, rfl, hg⟩)
            · dsimp only
              rw [if_pos hle]
              exact ⟨_, rfl, k47_mkF _ _ ⟨2, 0, 0, 0, R1.take (x + 256 * y).toNat, argsN m.toNat r2⟩ h4 f4 h5 f5, hr, hg⟩
            · dsimp only
              rw [if_neg (by omega)]
              exact ⟨rfl, hg⟩
        · have hd : dec (2 :: x :: y :: R1) = .error 2 := by simp only [dec]; rw [if_neg (by decide), if_pos trivial, if_neg hl]
          rw [hd]
          exact act_sub_b w0 W g x y _ rfl R1 (by omega) hby h
    by_cases h3 : k = 3
    · subst h3
      match r, hby, h with
      | [], hby, h => exact act_poll03 w0 W g hby h
      | x :: r, hby, h =>
        refine (act_poll3 w0 W g x r hby h).mono ?_
        rintro e w' ⟨rfl, h1, h2⟩
        exact ⟨_, rfl, plainF _ _ _ _ _ _, h1, h2⟩
    by_cases h4 : k = 4
    · subst h4
      match r, hby, h with
      | [], hby, h => exact act_poll04 w0 W g hby h
      | x :: r, hby, h =>
        refine (act_poll4 w0 W g x r hby h).mono ?_
        rintro e w' ⟨rfl, h1, h2⟩
        exact ⟨_, rfl, plainF _ _ _ _ _ _, h1, h2⟩
    by_cases h5 : k = 5 ∨ k = 6
    · have hd : dec (k :: r) = .ok (⟨k, 0, 0, 0, [], []⟩, r) := by
        simp only [dec]
        rw [if_neg h1, if_neg h2, if_neg (by omega), if_pos h5]
      rw [hd]
      refine (act_shut w0 W g k r h5 hby h).mono ?_
      rintro e w' ⟨rfl, h1, h2⟩
      exact ⟨_, rfl, plainF _ _ _ _ _ _, h1, h2⟩
    by_cases h7 : k = 7
    · subst h7
      match r, hby, h with
      | [], hby, h => exact act_rounds0 w0 W g [] (by decide) hby h
      | [x], hby, h => exact act_rounds0 w0 W g [x] (by simp) hby h
      | x :: y :: r, hby, h =>
        refine (act_rounds w0 W g x y _ rfl r hby h).mono ?_
        rintro e w' ⟨rfl, h1, h2⟩
        exact ⟨_, rfl, plainF _ _ _ _ _ _, h1, h2⟩
    have hd : dec (k :: r) = .error 4 := by
      simp only [dec]
      rw [if_neg h1, if_neg h2, if_neg (by omega), if_neg h5, if_neg h7]
    rw [hd]
    exact act_bad w0 W g k r h1 h2 h3 h4 (by omega) (by omega) h7 hby h
end Go.Proofs.Ythnefjkpjhfkgaa.Core
