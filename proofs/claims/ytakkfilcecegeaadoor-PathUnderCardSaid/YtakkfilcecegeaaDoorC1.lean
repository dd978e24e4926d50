/- What the functions of paths come to: one order of lists, and beginnings. -/
import Derived.Test.YtakkfilcecegeaaDoorP1
import Derived.Lib.Hide
namespace Go.Proofs.YtakkfilcecegeaaDoor.Core
open Go.RowKit Go.Proofs.YtakkfilcecegeaaDoorW.PrintWords Go.Proofs.YtakkfilcecegeaaDoorW.PrintMore Go.Proofs.YtakkfilcecegeaaDoor.P1
set_option linter.unusedVariables false
set_option linter.unusedSimpArgs false
/-- Which list stands ahead. -/
def cmpL : List Int → List Int → Int
  | [], [] => 0
  | [], _ :: _ => -1
  | _ :: _, [] => 1
  | a :: x, b :: y => if a < b then -1 else if a > b then 1 else cmpL x y
/-- Is b a beginning of a? -/
def undL : List Int → List Int → Bool
  | _, [] => true
  | [], _ :: _ => false
  | a :: x, b :: y => if a = b then undL x y else false
theorem wr {n : Int} (h0 : -1000000000 ≤ n) (h1 : n ≤ 1000000000) : wrap64 n = n := by unfold wrap64; omega
theorem rd_at {l t : List Int} {p : Nat} {y : Int} (h : l.drop p = y :: t) : rd l (p : Int) = y ∧ p < l.length ∧ l.drop (p + 1) = t := by
  have hl : p < l.length := by
    have := congrArg List.length h
    simp only [List.length_drop, List.length_cons] at this
    omega
  refine ⟨?_, hl, ?_⟩
  · have := congrArg (fun l => l[0]?) h
    simp only [List.getElem?_drop, Nat.add_zero, List.getElem?_cons_zero] at this
    simp [rd, List.getD, this]
  · have := congrArg (List.drop 1) h
    rw [List.drop_drop] at this
    simpa using this
theorem nil_at {l : List Int} {p : Nat} (h : l.drop p = []) : l.length ≤ p := by
  have := congrArg List.length h
  simp only [List.length_drop, List.length_nil] at this
  omega
theorem cmp_f (a b : Int) : cmp_Compare_int.f a b = some (if a < b then -1 else if a > b then 1 else 0) := by
  simp only [cmp_Compare_int.f, cmp_isNaN_int.f, Option.bind_some]
  rw [if_neg (by simp), if_neg (by simp)]
  split
  · rfl
  · split <;> rfl
theorem compare_l (a b : List Int) (ha : a.length ≤ 1000000) (hb : b.length ≤ 1000000) (d : Nat) : ∀ (k p : Nat), a.length - p = d → p ≤ a.length → p ≤ b.length → d < k →
    slices_Compare_int_int.l0 k a b a a.length p = some (cmpL (a.drop p) (b.drop p)) := by
  induction d with
  | zero =>
    intro k p hd hp hpb hk
    obtain ⟨k, rfl⟩ : ∃ m, k = m + 1 := ⟨k - 1, by omega⟩
    obtain rfl : p = a.length := by omega
    rw [slices_Compare_int_int.l0.eq_2, if_neg (by omega), List.drop_length]
    cases hb2 : b.drop a.length with
    | nil => have := nil_at hb2; rw [if_neg (by omega)]; rfl
    | cons y t => obtain ⟨_, h, _⟩ := rd_at hb2; rw [if_pos (by omega)]; rfl
  | succ d ih =>
    intro k p hd hp hpb hk
    obtain ⟨k, rfl⟩ : ∃ m, k = m + 1 := ⟨k - 1, by omega⟩
    cases ha2 : a.drop p with
    | nil => have := nil_at ha2; omega
    | cons x s =>
      obtain ⟨r1, l1, e1⟩ := rd_at ha2
      rw [slices_Compare_int_int.l0.eq_2, if_pos (by omega), if_pos (by omega), if_pos (by omega)]
      cases hb2 : b.drop p with
      | nil => have := nil_at hb2; rw [if_pos (by omega)]; rfl
      | cons y t =>
        obtain ⟨r2, l2, e2⟩ := rd_at hb2
        rw [if_neg (by omega), if_pos (by omega), cmp_f, r1, r2]
        simp only [Option.bind_some]
        have h := ih k (p + 1) (by omega) (by omega) (by omega) (by omega)
        rw [e1, e2] at h
        have e : wrap64 ((p : Int) + 1) = ((p + 1 : Nat) : Int) := by rw [wr (by omega) (by omega)]; omega
        rw [e]
        show _ = some (if x < y then -1 else if x > y then 1 else cmpL s t)
        by_cases h1 : x < y
        · rw [if_pos h1, if_neg (by omega), if_pos h1]
        · by_cases h2 : x > y
          · rw [if_neg h1, if_pos h2, if_neg (by omega), if_neg h1, if_pos h2]
          · rw [if_neg h1, if_neg h2, if_pos rfl, h, if_neg h1, if_neg h2]
theorem compare_f (a b : List Int) (ha : a.length ≤ 1000000) (hb : b.length ≤ 1000000) : path_Compare.f (a.length + 1) a b = some (cmpL a b) := by
  have h := compare_l a b ha hb a.length (a.length + 1) 0 (by omega) (by omega) (by omega) (by omega)
  unfold path_Compare.f slices_Compare_int_int.f
  rw [show (0 : Int) = ((0 : Nat) : Int) from rfl, h]
  rfl
theorem rcompare_l (a b : List Int) (ha : a.length ≤ 1000000) (hb : b.length ≤ 1000000) (d : Nat) : ∀ (k p : Nat), a.length - p = d → p ≤ a.length → p ≤ b.length → 2 * d + 1 < k →
    haymowref05_Compare.l0 k a b p = some (cmpL (a.drop p) (b.drop p)) := by
  induction d with
  | zero =>
    intro k p hd hp hpb hk
    obtain ⟨k, rfl⟩ : ∃ m, k = m + 2 := ⟨k - 2, by omega⟩
    obtain rfl : p = a.length := by omega
    rw [haymowref05_Compare.l0.eq_2, if_neg (by omega), haymowref05_Compare.j1.eq_2, if_neg (by simp), List.drop_length]
    cases hb2 : b.drop a.length with
    | nil => have := nil_at hb2; rw [if_neg (by omega), if_neg (by omega)]; rfl
    | cons y t => obtain ⟨_, h, _⟩ := rd_at hb2; rw [if_pos (by omega)]; rfl
  | succ d ih =>
    intro k p hd hp hpb hk
    obtain ⟨k, rfl⟩ : ∃ m, k = m + 2 := ⟨k - 2, by omega⟩
    cases ha2 : a.drop p with
    | nil => have := nil_at ha2; omega
    | cons x s =>
      obtain ⟨r1, l1, e1⟩ := rd_at ha2
      rw [haymowref05_Compare.l0.eq_2, if_pos (by omega), haymowref05_Compare.j1.eq_2]
      cases hb2 : b.drop p with
      | nil => have := nil_at hb2; rw [if_neg (by simp; omega), if_neg (by omega), if_pos (by omega)]; rfl
      | cons y t =>
        obtain ⟨r2, l2, e2⟩ := rd_at hb2
        rw [if_pos (by simp; omega), if_pos (by omega), if_pos (by omega), if_pos (by omega), r1, r2]
        have h := ih k (p + 1) (by omega) (by omega) (by omega) (by omega)
        rw [e1, e2] at h
        have e : wrap64 ((p : Int) + 1) = ((p + 1 : Nat) : Int) := by rw [wr (by omega) (by omega)]; omega
        rw [e, h]
        show _ = some (if x < y then -1 else if x > y then 1 else cmpL s t)
        by_cases h1 : x < y
        · rw [if_pos h1, if_pos h1]
        · by_cases h2 : x > y
          · rw [if_neg h1, if_pos h2, if_neg h1, if_pos h2]
          · rw [if_neg h1, if_neg h2, if_neg h1, if_neg h2]
theorem rcompare_f (a b : List Int) (ha : a.length ≤ 1000000) (hb : b.length ≤ 1000000) : haymowref05_Compare.f (2 * a.length + 2) a b = some (cmpL a b) := by
  have h := rcompare_l a b ha hb a.length (2 * a.length + 2) 0 (by omega) (by omega) (by omega) (by omega)
  unfold haymowref05_Compare.f
  rw [show (0 : Int) = ((0 : Nat) : Int) from rfl, h]
  rfl
theorem same_f (a b : List Int) (ha : a.length ≤ 1000000) (hb : b.length ≤ 1000000) : haymowlaw05_same.f (2 * a.length + 2) a b = some (cmpL a b == 0) := by
  unfold haymowlaw05_same.f
  rw [rcompare_f a b ha hb]
  rfl
theorem equal_l (a b : List Int) (ha : a.length ≤ 1000000) (hb : b.length = a.length) (d : Nat) : ∀ (k p : Nat), a.length - p = d → p ≤ a.length → d < k →
    slices_Equal_int_int.l0 k a b a.length p = some (undL (a.drop p) (b.drop p)) := by
  induction d with
  | zero =>
    intro k p hd hp hk
    obtain ⟨k, rfl⟩ : ∃ m, k = m + 1 := ⟨k - 1, by omega⟩
    obtain rfl : p = a.length := by omega
    rw [slices_Equal_int_int.l0.eq_2, if_neg (by omega), List.drop_length, ← hb, List.drop_length]
    rfl
  | succ d ih =>
    intro k p hd hp hk
    obtain ⟨k, rfl⟩ : ∃ m, k = m + 1 := ⟨k - 1, by omega⟩
    cases ha2 : a.drop p with
    | nil => have := nil_at ha2; omega
    | cons x s =>
      obtain ⟨r1, l1, e1⟩ := rd_at ha2
      rw [slices_Equal_int_int.l0.eq_2, if_pos (by omega), if_pos (by omega), if_pos (by omega)]
      cases hb2 : b.drop p with
      | nil => have := nil_at hb2; omega
      | cons y t =>
        obtain ⟨r2, l2, e2⟩ := rd_at hb2
        rw [if_pos (by omega), r1, r2]
        have h := ih k (p + 1) (by omega) (by omega) (by omega)
        rw [e1, e2] at h
        have e : wrap64 ((p : Int) + 1) = ((p + 1 : Nat) : Int) := by rw [wr (by omega) (by omega)]; omega
        rw [e, h]
        show _ = some (if x = y then undL s t else false)
        by_cases h1 : x = y
        · rw [if_pos h1, if_pos h1]
        · rw [if_neg h1, if_neg h1]
theorem equal_f (a b : List Int) (ha : a.length ≤ 1000000) (hb : b.length = a.length) : slices_Equal_int_int.f (a.length + 1) a b = some (undL a b) := by
  have h := equal_l a b ha hb a.length (a.length + 1) 0 (by omega) (by omega) (by omega)
  unfold slices_Equal_int_int.f
  rw [if_pos (by omega), show (0 : Int) = ((0 : Nat) : Int) from rfl, h]
  rfl
theorem undL_take : ∀ (a b : List Int), b.length ≤ a.length → undL (a.take b.length) b = undL a b
  | a, [], _ => by cases a <;> rfl
  | [], _ :: _, h => by simp at h
  | x :: a, y :: b, h => by
    show (if x = y then undL (a.take b.length) b else false) = if x = y then undL a b else false
    rw [undL_take a b (by simpa using h)]
theorem undL_short : ∀ (a b : List Int), a.length < b.length → undL a b = false
  | a, [], h => by simp at h
  | [], _ :: _, _ => rfl
  | x :: a, y :: b, h => by
    show (if x = y then undL a b else false) = false
    rw [undL_short a b (by simpa using h)]
    split <;> rfl
theorem runder_l (a b : List Int) (ha : a.length ≤ 1000000) (hb : b.length ≤ a.length) (d : Nat) : ∀ (k p : Nat), b.length - p = d → p ≤ b.length → d < k →
    haymowref05_Under.l0 k a b p = some (undL (a.drop p) (b.drop p)) := by
  induction d with
  | zero =>
    intro k p hd hp hk
    obtain ⟨k, rfl⟩ : ∃ m, k = m + 1 := ⟨k - 1, by omega⟩
    obtain rfl : p = b.length := by omega
    rw [haymowref05_Under.l0.eq_2, if_neg (by omega), List.drop_length]
    cases a.drop b.length <;> rfl
  | succ d ih =>
    intro k p hd hp hk
    obtain ⟨k, rfl⟩ : ∃ m, k = m + 1 := ⟨k - 1, by omega⟩
    cases hb2 : b.drop p with
    | nil => have := nil_at hb2; omega
    | cons y t =>
      obtain ⟨r2, l2, e2⟩ := rd_at hb2
      rw [haymowref05_Under.l0.eq_2, if_pos (by omega), if_pos (by omega), if_pos (by omega)]
      cases ha2 : a.drop p with
      | nil => have := nil_at ha2; omega
      | cons x s =>
        obtain ⟨r1, l1, e1⟩ := rd_at ha2
        rw [r1, r2]
        have h := ih k (p + 1) (by omega) (by omega) (by omega)
        rw [e1, e2] at h
        have e : wrap64 ((p : Int) + 1) = ((p + 1 : Nat) : Int) := by rw [wr (by omega) (by omega)]; omega
        rw [e, h]
        show _ = some (if x = y then undL s t else false)
        by_cases h1 : x = y
        · rw [if_pos h1, if_pos h1]
        · rw [if_neg h1, if_neg h1]
theorem runder_f (a b : List Int) (ha : a.length ≤ 1000000) : haymowref05_Under.f (b.length + 1) a b = some (undL a b) := by
  unfold haymowref05_Under.f
  by_cases h : b.length ≤ a.length
  · rw [if_neg (by omega)]
    have h := runder_l a b ha h b.length (b.length + 1) 0 (by omega) (by omega) (by omega)
    rw [show (0 : Int) = ((0 : Nat) : Int) from rfl, h]
    rfl
  · rw [if_pos (by omega), undL_short a b (by omega)]
/-! The order. -/
theorem cmpL_refl : ∀ a : List Int, cmpL a a = 0
  | [] => rfl
  | x :: a => by show (if x < x then -1 else if x > x then 1 else cmpL a a) = 0; rw [if_neg (by omega), if_neg (by omega), cmpL_refl a]
theorem cmpL_neg : ∀ a b : List Int, cmpL a b = -cmpL b a
  | [], [] => rfl
  | [], _ :: _ => rfl
  | _ :: _, [] => rfl
  | x :: a, y :: b => by
    show (if x < y then -1 else if x > y then 1 else cmpL a b) = -(if y < x then -1 else if y > x then 1 else cmpL b a)
    have := cmpL_neg a b
    by_cases h1 : x < y
    · rw [if_pos h1, if_neg (by omega), if_pos (by omega)]
    · by_cases h2 : x > y
      · rw [if_neg h1, if_pos h2, if_pos (by omega)]; rfl
      · rw [if_neg h1, if_neg h2, if_neg (by omega), if_neg (by omega)]; exact this
theorem cmpL_range : ∀ a b : List Int, cmpL a b = -1 ∨ cmpL a b = 0 ∨ cmpL a b = 1
  | [], [] => .inr (.inl rfl)
  | [], _ :: _ => .inl rfl
  | _ :: _, [] => .inr (.inr rfl)
  | x :: a, y :: b => by
    show (if x < y then -1 else if x > y then 1 else cmpL a b) = -1 ∨ (if x < y then -1 else if x > y then 1 else cmpL a b) = 0 ∨ (if x < y then -1 else if x > y then 1 else cmpL a b) = 1
    split
    · exact .inl rfl
    · split
      · exact .inr (.inr rfl)
      · exact cmpL_range a b
theorem cmpL_zero : ∀ {a b : List Int}, cmpL a b = 0 → a = b
  | [], [], _ => rfl
  | [], _ :: _, h => by cases h
  | _ :: _, [], h => by cases h
  | x :: a, y :: b, h => by
    have h' : (if x < y then -1 else if x > y then 1 else cmpL a b) = 0 := h
    split at h'
    · omega
    · split at h'
      · omega
      · obtain rfl : x = y := by omega
        rw [cmpL_zero h']
theorem cmpL_trans : ∀ {a b c : List Int}, cmpL a b ≤ 0 → cmpL b c ≤ 0 → cmpL a c ≤ 0
  | [], b, [], _, _ => by decide
  | [], b, _ :: _, _, _ => by show (-1 : Int) ≤ 0; decide
  | _ :: _, [], c, h, _ => by have h' : (1 : Int) ≤ 0 := h; omega
  | _ :: _, _ :: _, [], _, h => by have h' : (1 : Int) ≤ 0 := h; omega
  | x :: a, y :: b, z :: c, h1, h2 => by
    have g1 : (if x < y then -1 else if x > y then 1 else cmpL a b) ≤ 0 := h1
    have g2 : (if y < z then -1 else if y > z then 1 else cmpL b c) ≤ 0 := h2
    show (if x < z then -1 else if x > z then 1 else cmpL a c) ≤ 0
    by_cases e1 : x < z
    · rw [if_pos e1]; decide
    · rw [if_neg e1]
      by_cases l1 : x < y
      · by_cases l2 : y < z
        · omega
        · rw [if_neg l2] at g2
          by_cases l3 : y > z
          · rw [if_pos l3] at g2; omega
          · omega
      · rw [if_neg l1] at g1
        by_cases l2 : x > y
        · rw [if_pos l2] at g1; omega
        · rw [if_neg l2] at g1
          by_cases l3 : y < z
          · omega
          · rw [if_neg l3] at g2
            by_cases l4 : y > z
            · rw [if_pos l4] at g2; omega
            · rw [if_neg l4] at g2
              rw [if_neg (by omega)]
              exact cmpL_trans g1 g2
theorem cmpL_le {a b : List Int} : cmpL a b ≤ 0 ↔ ¬ cmpL a b > 0 := by omega
theorem undL_self : ∀ (a : List Int) (k : Nat), undL a (a.take k) = true
  | a, 0 => by cases a <;> rfl
  | [], _ + 1 => rfl
  | x :: a, k + 1 => by show (if x = x then undL a (a.take k) else false) = true; rw [if_pos rfl, undL_self a k]
theorem undL_len : ∀ {a b : List Int}, undL a b = true → b.length ≤ a.length
  | a, [], _ => by simp
  | [], _ :: _, h => by cases h
  | x :: a, y :: b, h => by
    have h' : (if x = y then undL a b else false) = true := h
    split at h'
    · have := undL_len h'; simp; omega
    · cases h'
/-- What stands between two that are under a path is under it. -/
theorem undL_between : ∀ {a b c : List Int} (k : Nat), k ≤ a.length → undL c (a.take k) = true → cmpL a b ≤ 0 → cmpL b c ≤ 0 → undL b (a.take k) = true
  | a, b, c, 0, _, _, _, _ => by cases b <;> rfl
  | [], b, c, k + 1, h, _, _, _ => by simp at h
  | x :: a, [], c, k + 1, _, _, h, _ => by have h' : (1 : Int) ≤ 0 := h; omega
  | x :: a, y :: b, [], k + 1, _, h, _, _ => by cases h
  | x :: a, y :: b, z :: c, k + 1, hk, hu, h1, h2 => by
    have g1 : (if x < y then -1 else if x > y then 1 else cmpL a b) ≤ 0 := h1
    have g2 : (if y < z then -1 else if y > z then 1 else cmpL b c) ≤ 0 := h2
    have gu : (if z = x then undL c (a.take k) else false) = true := hu
    show (if y = x then undL b (a.take k) else false) = true
    by_cases e : z = x
    · rw [if_pos e] at gu
      have exy : y = x := by
        by_cases l1 : x < y
        · by_cases l2 : y < z
          · omega
          · rw [if_neg l2] at g2
            by_cases l3 : y > z
            · rw [if_pos l3] at g2; omega
            · omega
        · rw [if_neg l1] at g1
          by_cases l2 : x > y
          · rw [if_pos l2] at g1; omega
          · omega
      rw [if_pos exy]
      rw [if_neg (by omega), if_neg (by omega)] at g1
      rw [if_neg (by omega), if_neg (by omega)] at g2
      exact undL_between k (by simpa using hk) gu g1 g2
    · rw [if_neg e] at gu; cases gu
theorem cmpL_take : ∀ (a : List Int) (k : Nat), cmpL (a.take k) a ≤ 0
  | [], k => by simp [cmpL]
  | x :: a, 0 => by show (-1 : Int) ≤ 0; decide
  | x :: a, k + 1 => by
    show (if x < x then -1 else if x > x then 1 else cmpL (a.take k) a) ≤ 0
    rw [if_neg (by omega), if_neg (by omega)]
    exact cmpL_take a k
theorem undL_eq_len {a b : List Int} (h : a.length ≤ b.length) (hu : undL a b = true) : a.length = b.length := by
  have := undL_len hu
  omega
theorem cmpL_app : ∀ (p a b : List Int), cmpL (p ++ a) (p ++ b) = cmpL a b
  | [], _, _ => rfl
  | x :: p, a, b => by
    show (if x < x then -1 else if x > x then 1 else cmpL (p ++ a) (p ++ b)) = cmpL a b
    rw [if_neg (by omega), if_neg (by omega), cmpL_app p a b]
end Go.Proofs.YtakkfilcecegeaaDoor.Core
