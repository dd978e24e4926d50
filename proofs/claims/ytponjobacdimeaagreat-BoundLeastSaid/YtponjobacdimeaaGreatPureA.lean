/- The printed functions of BoundSums, as numbers and lists: how they end, for every list of at most 1000 needs. -/
import Derived.Test.YtponjobacdimeaaGreatBoundLeastK
import Derived.Test.YtponjobacdimeaaGreatPBoundLeastx1
import Derived.Test.YtponjobacdimeaaGreatPBoundLeastx2
namespace Go.Proofs.YtponjobacdimeaaGreat.PBoundLeast
set_option linter.unusedVariables false
set_option linter.unusedSimpArgs false
open Go.RowKit Go.Proofs.YtponjobacdimeaaGreatW.PrintWords

theorem wrap_next {i : Int} {n : Nat} (h0 : 0 ≤ i) (h : i < (n : Int)) (hn : n ≤ 1000) : wrap64 (i + 1) = i + 1 := by
  unfold wrap64
  omega

def cv (x : S36) : S43 := ⟨x.f0, x.f1, x.f2, x.f3⟩

theorem right_some (l : List S36) (hn : l.length ≤ 1000) (d : Nat) : ∀ (k : Nat) (i : Int), 0 ≤ i → i ≤ l.length → (l.length : Int) - i = d → d < k → ∃ b, haymowref21_Right.l0 k l i = some b := by
  induction d with
  | zero =>
    intro k i h0 h1 hd hk
    obtain ⟨k, rfl⟩ : ∃ m, k = m + 1 := ⟨k - 1, by omega⟩
    exact ⟨true, by simp only [haymowref21_Right.l0]; rw [if_neg (by omega)]⟩
  | succ d ih =>
    intro k i h0 h1 hd hk
    obtain ⟨k, rfl⟩ : ∃ m, k = m + 1 := ⟨k - 1, by omega⟩
    obtain ⟨b, hb⟩ := ih k (i + 1) (by omega) (by omega) (by omega) (by omega)
    simp only [haymowref21_Right.l0]
    rw [if_pos (by omega), if_pos h0, wrap_next h0 (by omega) hn, hb]
    repeat (first | exact ⟨_, rfl⟩ | split)

theorem right_f (l : List S36) (hn : l.length ≤ 1000) : ∃ k b, haymowref21_Right.f k l = some b := by
  obtain ⟨b, hb⟩ := right_some l hn l.length (l.length + 1) 0 (by omega) (by omega) (by omega) (by omega)
  exact ⟨l.length + 1, b, by unfold haymowref21_Right.f; rw [if_neg (by omega), hb]⟩

theorem of_some (l : List S36) (hn : l.length ≤ 1000) (d : Nat) : ∀ (k i : Nat), l.length - i = d → i ≤ l.length → d < k → haymowlaw21_of.l0 k l ((l.take i).map cv) i = some (l.map cv) := by
  induction d with
  | zero =>
    intro k i hd hi hk
    obtain ⟨k, rfl⟩ : ∃ m, k = m + 1 := ⟨k - 1, by omega⟩
    obtain rfl : i = l.length := by omega
    simp only [haymowlaw21_of.l0]
    rw [if_neg (by omega), List.take_length]
  | succ d ih =>
    intro k i hd hi hk
    obtain ⟨k, rfl⟩ : ∃ m, k = m + 1 := ⟨k - 1, by omega⟩
    simp only [haymowlaw21_of.l0]
    rw [if_pos (by omega), if_pos (by omega), if_pos (by simp; omega), wrap_next (n := l.length) (by omega) (by omega) hn]
    have h := ih k (i + 1) (by omega) (by omega) (by omega)
    have e : (l.take (i + 1)).map cv = (l.take i).map cv ++ [(⟨(rd_T36 l i).f0, (rd_T36 l i).f1, (rd_T36 l i).f2, (rd_T36 l i).f3⟩ : S43)] := by
      rw [List.take_succ_eq_append_getElem (by omega), List.map_append]
      simp [cv, rd_T36, List.getD, List.getElem?_eq_getElem (show i < l.length by omega)]
    rw [e] at h
    exact h

theorem of_f (l : List S36) (hn : l.length ≤ 1000) : haymowlaw21_of.f (l.length + 1) l = some (l.map cv) :=
  of_some l hn l.length (l.length + 1) 0 (by omega) (by omega) (by omega)

/-- Both sums are the same numbers. -/
theorem sums_some (l : List S36) (hn : l.length ≤ 1000) (d : Nat) : ∀ (k : Nat) (i a b c e : Int), 0 ≤ i → i ≤ l.length → (l.length : Int) - i = d → d < k →
    ∃ r1 r2 r3 r4, haymowref21_Sum.l0 k l i a b c e = some (r1, r2, r3, r4) ∧ bound_Sum.l0 k (l.map cv) ((l.map cv).length : Int) i a b c e = some (r1, r2, r3, r4) := by
  induction d with
  | zero =>
    intro k i a b c e h0 h1 hd hk
    obtain ⟨k, rfl⟩ : ∃ m, k = m + 1 := ⟨k - 1, by omega⟩
    refine ⟨a, b, c, e, ?_, ?_⟩
    · simp only [haymowref21_Sum.l0]; rw [if_neg (by omega)]
    · simp only [bound_Sum.l0]; rw [if_neg (by simp; omega)]
  | succ d ih =>
    intro k i a b c e h0 h1 hd hk
    obtain ⟨k, rfl⟩ : ∃ m, k = m + 1 := ⟨k - 1, by omega⟩
    simp only [haymowref21_Sum.l0, bound_Sum.l0]
    rw [if_pos (by omega), if_pos h0, wrap_next h0 (show i < (l.length : Int) by omega) hn, if_pos (by simp; omega), if_pos (by omega), if_pos (by simp; omega)]
    have e1 : rd_T43 (l.map cv) i = cv (rd_T36 l i) := by
      have hi : i.toNat < l.length := by omega
      simp [rd_T43, rd_T36, List.getD, hi]
    rw [e1]
    exact ih k (i + 1) _ _ _ _ (by omega) (by omega) (by omega) (by omega)

theorem sums_f (l : List S36) (hn : l.length ≤ 1000) : ∃ r1 r2 r3 r4, haymowref21_Sum.f (l.length + 1) l = some (r1, r2, r3, r4) ∧ bound_Sum.f (l.length + 1) (l.map cv) = some (r1, r2, r3, r4) :=
  sums_some l hn l.length (l.length + 1) 0 0 0 0 0 (by omega) (by omega) (by omega) (by omega)

theorem awake_f : haymowlaw21_awake.f = some true := by simp [haymowlaw21_awake.f, bound_Rounds.f, wrap64]
end Go.Proofs.YtponjobacdimeaaGreat.PBoundLeast
