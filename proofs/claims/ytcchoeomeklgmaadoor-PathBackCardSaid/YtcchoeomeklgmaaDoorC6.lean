/- What is told is read as it was. -/
import Derived.Test.YtcchoeomeklgmaaDoorC5
namespace Go.Proofs.YtcchoeomeklgmaaDoor.Core
open Go.RowKit Go.Shelf Go.Proofs.YtcchoeomeklgmaaDoorW.PrintWords Go.Proofs.YtcchoeomeklgmaaDoorW.PrintMore Go.Proofs.YtcchoeomeklgmaaDoor.P1 Go.Proofs.YtcchoeomeklgmaaDoor
set_option linter.unusedVariables false
set_option linter.unusedSimpArgs false
theorem split_app (c : UInt8) (s : List UInt8) : ∀ x : List UInt8, c ∉ x → splitB c (x ++ s) = consH x (splitB c s)
  | [], _ => by
    cases e : splitB c s with
    | nil => exact absurd e (splitB_ne c s)
    | cons a r => simp [consH, e]
  | b :: x, h => by
    have h1 : ¬ b = c := fun e => h (by rw [e]; exact List.mem_cons_self)
    have ih := split_app c s x (fun e => h (List.mem_cons_of_mem _ e))
    rw [List.cons_append, splitB, if_neg h1, ih]
    cases e : splitB c s with
    | nil => exact absurd e (splitB_ne c s)
    | cons a r => simp [consH]
theorem split_join : ∀ (r : List (List UInt8)) (x : List UInt8), (∀ y ∈ x :: r, (46 : UInt8) ∉ y) → splitB 46 (Lib.join (x :: r) [46]) = x :: r
  | [], x, h => by
    rw [Lib.join_cons]
    have e : Lib.joinTail [46] [] = [] := by simp [Lib.joinTail]
    rw [e, split_app 46 [] x (h x List.mem_cons_self)]
    simp [splitB, consH]
  | y :: r, x, h => by
    have ih := split_join r y (fun z hz => h z (List.mem_cons_of_mem _ hz))
    rw [Lib.join_cons] at ih ⊢
    have e : Lib.joinTail [46] (y :: r) = 46 :: (y ++ Lib.joinTail [46] r) := by simp [Lib.joinTail]
    rw [e, split_app 46 _ x (h x List.mem_cons_self), splitB, if_pos rfl, ih]
    simp [consH]
theorem dig_is (d : Nat) (h : d < 10) : isDig (UInt8.ofNat (48 + d)) = true ∧ (UInt8.ofNat (48 + d)).toNat - 48 = d ∧ (UInt8.ofNat (48 + d) = 48 → d = 0) := by
  have h2 : ∀ n : Fin 10, isDig (UInt8.ofNat (48 + n.val)) = true ∧ (UInt8.ofNat (48 + n.val)).toNat - 48 = n.val ∧ (UInt8.ofNat (48 + n.val) = 48 → n.val = 0) := by decide +kernel
  exact h2 ⟨d, h⟩
theorem dec_is : ∀ (k n : Nat), n < 10 ^ (k + 1) → (Lib.decDigits n).all isDig = true ∧ val 0 (Lib.decDigits n) = n ∧ (Lib.decDigits n).length ≤ k + 1 ∧ Lib.decDigits n ≠ [] ∧ (n ≠ 0 → (Lib.decDigits n).head? ≠ some 48)
  | k, n, h => by
    by_cases h10 : n < 10
    · have e : Lib.decDigits n = [UInt8.ofNat (48 + n)] := by rw [Lib.decDigits, dif_pos h10]
      obtain ⟨d1, d2, d3⟩ := dig_is n h10
      rw [e]
      refine ⟨by rw [List.all_cons, d1]; rfl, by simp only [val, List.foldl_cons, List.foldl_nil, Nat.zero_mul, Nat.zero_add]; exact d2, by simp, by simp, fun hn => ?_⟩
      rw [List.head?_cons]
      intro e
      injection e with e
      exact hn (d3 e)
    · cases k with
      | zero => simp at h; omega
      | succ k =>
        obtain ⟨i1, i2, i3, i4, i5⟩ := dec_is k (n / 10) (by rw [Nat.pow_succ] at h; omega)
        have e : Lib.decDigits n = Lib.decDigits (n / 10) ++ [UInt8.ofNat (48 + n % 10)] := by rw [Lib.decDigits, dif_neg h10]
        obtain ⟨d1, d2, d3⟩ := dig_is (n % 10) (by omega)
        rw [e]
        refine ⟨by rw [List.all_append, i1, List.all_cons, d1]; rfl, ?_, by rw [List.length_append]; simp; omega, by simp, fun hn => ?_⟩
        · rw [val_snoc, i2, d2]; omega
        · have h5 := i5 (by omega)
          cases e2 : Lib.decDigits (n / 10) with
          | nil => exact absurd e2 i4
          | cons b r => rw [e2] at h5; exact h5
theorem itoa_plain (x : Int) (h0 : 0 ≤ x) (h1 : x < 1000000) : plainB 6 (Lib.itoa x) = true ∧ atoiV (Lib.itoa x) = x ∧ (46 : UInt8) ∉ Lib.itoa x := by
  obtain ⟨n, rfl⟩ := Int.eq_ofNat_of_zero_le h0
  have e : Lib.itoa (n : Int) = Lib.decDigits n := by unfold Lib.itoa; rw [if_neg (by omega), Int.toNat_natCast]
  obtain ⟨i1, i2, i3, i4, i5⟩ := dec_is 5 n (by show n < 1000000; omega)
  have hp : plainB 6 (Lib.decDigits n) = true := by
    refine (plainB_iff _).2 ⟨i4, i3, i1, ?_⟩
    by_cases hn : n = 0
    · left; subst hn; rw [Lib.decDigits, dif_pos (by omega)]; rfl
    · exact .inr (i5 hn)
  rw [e]
  refine ⟨hp, by rw [atoiV_val _ hp, i2], fun hm => ?_⟩
  have := List.all_eq_true.1 i1 _ hm
  exact absurd this (by decide)
theorem read_text (p : List Int) (hp : ∀ x ∈ p, 0 ≤ x ∧ x < 1000000) (hl : p.length ≤ 30) : readL (textL p) = (p, 0) := by
  cases p with
  | nil => rfl
  | cons x r =>
    have e : textL (x :: r) = Lib.join ((x :: r).map Lib.itoa) [46] := by unfold textL; rw [if_neg (by simp)]
    have hs : splitB 46 (textL (x :: r)) = (x :: r).map Lib.itoa := by
      rw [e, List.map_cons]
      refine split_join _ _ (fun y hy => ?_)
      rw [← List.map_cons (f := Lib.itoa)] at hy
      obtain ⟨z, hz, rfl⟩ := List.mem_map.1 hy
      exact (itoa_plain z (hp z hz).1 (hp z hz).2).2.2
    have hne : textL (x :: r) ≠ [46] := fun h => by
      rw [h] at hs
      have h2 : splitB 46 [46] = [[], []] := by decide
      rw [h2, List.map_cons] at hs
      injection hs with h3 _
      have := (plainB_iff _).1 (itoa_plain x (hp x List.mem_cons_self).1 (hp x List.mem_cons_self).2).1
      exact this.1 h3.symm
    unfold readL
    rw [if_neg hne, hs]
    unfold fin
    rw [if_pos (List.all_eq_true.2 fun y hy => by
      obtain ⟨z, hz, rfl⟩ := List.mem_map.1 hy
      exact (itoa_plain z (hp z hz).1 (hp z hz).2).1), if_neg (by simp at hl ⊢; omega)]
    simp only [List.nil_append, List.map_map]
    congr 1
    refine (List.map_congr_left (g := id) fun z hz => ?_).trans (List.map_id _)
    exact (itoa_plain z (hp z hz).1 (hp z hz).2).2.1
end Go.Proofs.YtcchoeomeklgmaaDoor.Core
