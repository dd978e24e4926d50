/- What the functions of paths come to: one order of lists, and beginnings. -/
import Derived.Test.YtcchoeomeklgmaaDoorR6
import Derived.Lib.Hide
namespace Go.Proofs.YtcchoeomeklgmaaDoor.Core
open Go.RowKit Go.Proofs.YtcchoeomeklgmaaDoorW.PrintWords Go.Proofs.YtcchoeomeklgmaaDoorW.PrintMore Go.Proofs.YtcchoeomeklgmaaDoor.P1
set_option linter.unusedVariables false
set_option linter.unusedSimpArgs false
/-- Which list stands ahead. -/
def cmpL : List Int → List Int → Int
  | [], [] => 0
  | [], _ :: _ => -1
  | _ :: _, [] => 1
  | a :: x, b :: y => if a < b then -1 else if a > b then 1 else cmpL x y
/-- Is b a beginning of a? -/
def undL : List Int → List Int → Bool
  | _, [] => true
  | [], _ :: _ => false
  | a :: x, b :: y => if a = b then undL x y else false
theorem rd_at {l t : List Int} {p : Nat} {y : Int} (h : l.drop p = y :: t) : rd l (p : Int) = y ∧ p < l.length ∧ l.drop (p + 1) = t := by
  have hl : p < l.length := by
    have := congrArg List.length h
    simp only [List.length_drop, List.length_cons] at this
    omega
  refine ⟨?_, hl, ?_⟩
  · have := congrArg (fun l => l[0]?) h
    simp only [List.getElem?_drop, Nat.add_zero, List.getElem?_cons_zero] at this
    simp [rd, List.getD, this]
  · have := congrArg (List.drop 1) h
    rw [List.drop_drop] at this
    simpa using this
theorem nil_at {l : List Int} {p : Nat} (h : l.drop p = []) : l.length ≤ p := by
  have := congrArg List.length h
  simp only [List.length_drop, List.length_nil] at this
  omega
theorem cmp_f (a b : Int) : cmp_Compare_int.f a b = some (if a < b then -1 else if a > b then 1 else 0) := by
  simp only [cmp_Compare_int.f, cmp_isNaN_int.f, Option.bind_some]
  rw [if_neg (by simp), if_neg (by simp)]
  split
  · rfl
  · split <;> rfl
theorem compare_l (a b : List Int) (ha : a.length ≤ 1000000) (hb : b.length ≤ 1000000) (d : Nat) : ∀ (k p : Nat), a.length - p = d → p ≤ a.length → p ≤ b.length → d < k →
    slices_Compare_int_int.l0 k a b a a.length p = some (cmpL (a.drop p) (b.drop p)) := by
  induction d with
  | zero =>
    intro k p hd hp hpb hk
    obtain ⟨k, rfl⟩ : ∃ m, k = m + 1 := ⟨k - 1, by omega⟩
    obtain rfl : p = a.length := by omega
    rw [slices_Compare_int_int.l0.eq_2, if_neg (by omega), List.drop_length]
    cases hb2 : b.drop a.length with
    | nil => have := nil_at hb2; rw [if_neg (by omega)]; rfl
    | cons y t => obtain ⟨_, h, _⟩ := rd_at hb2; rw [if_pos (by omega)]; rfl
  | succ d ih =>
    intro k p hd hp hpb hk
    obtain ⟨k, rfl⟩ : ∃ m, k = m + 1 := ⟨k - 1, by omega⟩
    cases ha2 : a.drop p with
    | nil => have := nil_at ha2; omega
    | cons x s =>
      obtain ⟨r1, l1, e1⟩ := rd_at ha2
      rw [slices_Compare_int_int.l0.eq_2, if_pos (by omega), if_pos (by omega), if_pos (by omega)]
      cases hb2 : b.drop p with
      | nil => have := nil_at hb2; rw [if_pos (by omega)]; rfl
      | cons y t =>
        obtain ⟨r2, l2, e2⟩ := rd_at hb2
        rw [if_neg (by omega), if_pos (by omega), cmp_f, r1, r2]
        simp only [Option.bind_some]
        have h := ih k (p + 1) (by omega) (by omega) (by omega) (by omega)
        rw [e1, e2] at h
        have e : wrap64 ((p : Int) + 1) = ((p + 1 : Nat) : Int) := by rw [wr (by omega) (by omega)]; omega
        rw [e]
        show _ = some (if x < y then -1 else if x > y then 1 else cmpL s t)
        by_cases h1 : x < y
        · rw [if_pos h1, if_neg (by omega), if_pos h1]
        · by_cases h2 : x > y
          · rw [if_neg h1, if_pos h2, if_neg (by omega), if_neg h1, if_pos h2]
          · rw [if_neg h1, if_neg h2, if_pos rfl, h, if_neg h1, if_neg h2]
theorem compare_f (a b : List Int) (ha : a.length ≤ 1000000) (hb : b.length ≤ 1000000) : path_Compare.f (a.length + 1) a b = some (cmpL a b) := by
  have h := compare_l a b ha hb a.length (a.length + 1) 0 (by omega) (by omega) (by omega) (by omega)
  unfold path_Compare.f slices_Compare_int_int.f
  rw [show (0 : Int) = ((0 : Nat) : Int) from rfl, h]
  rfl
theorem rcompare_l (a b : List Int) (ha : a.length ≤ 1000000) (hb : b.length ≤ 1000000) (d : Nat) : ∀ (k p : Nat), a.length - p = d → p ≤ a.length → p ≤ b.length → 2 * d + 1 < k →
    haymowref05_Compare.l0 k a b p = some (cmpL (a.drop p) (b.drop p)) := by
  induction d with
  | zero =>
    intro k p hd hp hpb hk
    obtain ⟨k, rfl⟩ : ∃ m, k = m + 2 := ⟨k - 2, by omega⟩
    obtain rfl : p = a.length := by omega
    rw [haymowref05_Compare.l0.eq_2, if_neg (by omega), haymowref05_Compare.j1.eq_2, if_neg (by simp), List.drop_length]
    cases hb2 : b.drop a.length with
    | nil => have := nil_at hb2; rw [if_neg (by omega), if_neg (by omega)]; rfl
    | cons y t => obtain ⟨_, h, _⟩ := rd_at hb2; rw [if_pos (by omega)]; rfl
  | succ d ih =>
    intro k p hd hp hpb hk
    obtain ⟨k, rfl⟩ : ∃ m, k = m + 2 := ⟨k - 2, by omega⟩
    cases ha2 : a.drop p with
    | nil => have := nil_at ha2; omega
    | cons x s =>
      obtain ⟨r1, l1, e1⟩ := rd_at ha2
      rw [haymowref05_Compare.l0.eq_2, if_pos (by omega), haymowref05_Compare.j1.eq_2]
      cases hb2 : b.drop p with
      | nil => have := nil_at hb2; rw [if_neg (by simp; omega), if_neg (by omega), if_pos (by omega)]; rfl
      | cons y t =>
        obtain ⟨r2, l2, e2⟩ := rd_at hb2
        rw [if_pos (by simp; omega), if_pos (by omega), if_pos (by omega), if_pos (by omega), r1, r2]
        have h := ih k (p + 1) (by omega) (by omega) (by omega) (by omega)
        rw [e1, e2] at h
        have e : wrap64 ((p : Int) + 1) = ((p + 1 : Nat) : Int) := by rw [wr (by omega) (by omega)]; omega
        rw [e, h]
        show _ = some (if x < y then -1 else if x > y then 1 else cmpL s t)
        by_cases h1 : x < y
        · rw [if_pos h1, if_pos h1]
        · by_cases h2 : x > y
          · rw [if_neg h1, if_pos h2, if_neg h1, if_pos h2]
          · rw [if_neg h1, if_neg h2, if_neg h1, if_neg h2]
theorem rcompare_f (a b : List Int) (ha : a.length ≤ 1000000) (hb : b.length ≤ 1000000) : haymowref05_Compare.f (2 * a.length + 2) a b = some (cmpL a b) := by
  have h := rcompare_l a b ha hb a.length (2 * a.length + 2) 0 (by omega) (by omega) (by omega) (by omega)
  unfold haymowref05_Compare.f
  rw [show (0 : Int) = ((0 : Nat) : Int) from rfl, h]
  rfl
theorem same_f (a b : List Int) (ha : a.length ≤ 1000000) (hb : b.length ≤ 1000000) : haymowlaw05_same.f (2 * a.length + 2) a b = some (cmpL a b == 0) := by
  unfold haymowlaw05_same.f
  rw [rcompare_f a b ha hb]
  rfl
theorem cmpL_refl : ∀ a : List Int, cmpL a a = 0
  | [] => rfl
  | x :: a => by show (if x < x then -1 else if x > x then 1 else cmpL a a) = 0; rw [if_neg (by omega), if_neg (by omega), cmpL_refl a]
theorem cmpL_neg : ∀ a b : List Int, cmpL a b = -cmpL b a
  | [], [] => rfl
  | [], _ :: _ => rfl
  | _ :: _, [] => rfl
  | x :: a, y :: b => by
    show (if x < y then -1 else if x > y then 1 else cmpL a b) = -(if y < x then -1 else if y > x then 1 else cmpL b a)
    have := cmpL_neg a b
    by_cases h1 : x < y
    · rw [if_pos h1, if_neg (by omega), if_pos (by omega)]
    · by_cases h2 : x > y
      · rw [if_neg h1, if_pos h2, if_pos (by omega)]; rfl
      · rw [if_neg h1, if_neg h2, if_neg (by omega), if_neg (by omega)]; exact this
theorem cmpL_range : ∀ a b : List Int, cmpL a b = -1 ∨ cmpL a b = 0 ∨ cmpL a b = 1
  | [], [] => .inr (.inl rfl)
  | [], _ :: _ => .inl rfl
  | _ :: _, [] => .inr (.inr rfl)
  | x :: a, y :: b => by
    show (if x < y then -1 else if x > y then 1 else cmpL a b) = -1 ∨ (if x < y then -1 else if x > y then 1 else cmpL a b) = 0 ∨ (if x < y then -1 else if x > y then 1 else cmpL a b) = 1
    split
    · exact .inl rfl
    · split
      · exact .inr (.inr rfl)
      · exact cmpL_range a b
theorem cmpL_zero : ∀ {a b : List Int}, cmpL a b = 0 → a = b
  | [], [], _ => rfl
  | [], _ :: _, h => by cases h
  | _ :: _, [], h => by cases h
  | x :: a, y :: b, h => by
    have h' : (if x < y then -1 else if x > y then 1 else cmpL a b) = 0 := h
    split at h'
    · omega
    · split at h'
      · omega
      · obtain rfl : x = y := by omega
        rw [cmpL_zero h']
end Go.Proofs.YtcchoeomeklgmaaDoor.Core
