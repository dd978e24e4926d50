/- The printed functions of BoundGrows, as numbers and lists: sums of needs from 0 to 10^6, of a list and of a beginning of it. -/
import Derived.Test.YtponjobacdimeaaGreatPureA
namespace Go.Proofs.YtponjobacdimeaaGreat.PBoundLeast
set_option linter.unusedVariables false
set_option linter.unusedSimpArgs false
open Go.RowKit Go.Proofs.YtponjobacdimeaaGreatW.PrintWords

def ok36 (x : S36) : Prop := (0 ≤ x.f0 ∧ x.f0 ≤ 1000000) ∧ (0 ≤ x.f1 ∧ x.f1 ≤ 1000000) ∧ (0 ≤ x.f2 ∧ x.f2 ≤ 1000000) ∧ (0 ≤ x.f3 ∧ x.f3 ≤ 1000000)

theorem right_ok (l : List S36) (hn : l.length ≤ 1000) (d : Nat) : ∀ (k : Nat) (i : Int), 0 ≤ i → i ≤ l.length → (l.length : Int) - i = d → haymowref21_Right.l0 k l i = some true → ∀ j : Nat, i ≤ j → j < l.length → ok36 (rd_T36 l j) := by
  induction d with
  | zero => intro k i h0 h1 hd _ j hj hl; omega
  | succ d ih =>
    intro k i h0 h1 hd h j hj hl
    cases k with
    | zero => simp [haymowref21_Right.l0] at h
    | succ k =>
      simp only [haymowref21_Right.l0] at h
      rw [if_pos (by omega), if_pos h0, wrap_next h0 (by omega) hn] at h
      by_cases b0 : (rd_T36 l i).f0 < 0
      · rw [if_pos b0] at h; cases h
      rw [if_neg b0] at h
      by_cases b1 : (rd_T36 l i).f1 < 0
      · rw [if_pos b1] at h; cases h
      rw [if_neg b1] at h
      by_cases b2 : (rd_T36 l i).f2 < 0
      · rw [if_pos b2] at h; cases h
      rw [if_neg b2] at h
      by_cases b3 : (rd_T36 l i).f3 < 0
      · rw [if_pos b3] at h; cases h
      rw [if_neg b3] at h
      by_cases c0 : (rd_T36 l i).f0 > 1000000
      · rw [if_pos c0] at h; cases h
      rw [if_neg c0] at h
      by_cases c1 : (rd_T36 l i).f1 > 1000000
      · rw [if_pos c1] at h; cases h
      rw [if_neg c1] at h
      by_cases c2 : (rd_T36 l i).f2 > 1000000
      · rw [if_pos c2] at h; cases h
      rw [if_neg c2] at h
      by_cases c3 : (rd_T36 l i).f3 > 1000000
      · rw [if_pos c3] at h; cases h
      rw [if_neg c3] at h
      by_cases e : i = j
      · subst e
        exact ⟨⟨by omega, by omega⟩, ⟨by omega, by omega⟩, ⟨by omega, by omega⟩, ⟨by omega, by omega⟩⟩
      · exact ih k (i + 1) (by omega) (by omega) (by omega) h j (by omega) hl

theorem right_all (l : List S36) (hn : l.length ≤ 1000) (k : Nat) (h : haymowref21_Right.f k l = some true) : ∀ x ∈ l, ok36 x := by
  unfold haymowref21_Right.f at h
  rw [if_neg (by omega)] at h
  intro x hx
  obtain ⟨j, hj⟩ := List.mem_iff_getElem?.1 hx
  obtain ⟨hl, hj'⟩ := List.getElem?_eq_some_iff.1 hj
  have := right_ok l hn l.length k 0 (by omega) (by omega) (by omega) h j (by omega) hl
  simp only [rd_T36, Int.toNat_natCast, List.getD, hj, Option.getD_some] at this
  exact this

def tot (g : S36 → Int) (l : List S36) : Int := (l.map g).sum
theorem tot_le (g : S36 → Int) (l : List S36) (h : ∀ x ∈ l, 0 ≤ g x ∧ g x ≤ 1000000) : 0 ≤ tot g l ∧ tot g l ≤ l.length * 1000000 := by
  unfold tot
  induction l with
  | nil => simp
  | cons x l ih =>
    have h1 := h x (by simp)
    have h2 := ih (fun y hy => h y (by simp [hy]))
    simp only [List.map_cons, List.sum_cons, List.length_cons]
    omega
theorem tot_take (g : S36 → Int) (l : List S36) (n : Nat) (h : ∀ x ∈ l, 0 ≤ g x ∧ g x ≤ 1000000) : tot g (l.take n) ≤ tot g l := by
  have h2 := tot_le g (l.drop n) (fun x hx => h x (List.mem_of_mem_drop hx))
  have h3 : tot g l = tot g (l.take n) + tot g (l.drop n) := by
    unfold tot
    rw [← List.sum_append, ← List.map_append, List.take_append_drop]
  omega
theorem tot_succ (g : S36 → Int) (l : List S36) (i : Nat) (h : i < l.length) : tot g (l.take (i + 1)) = tot g (l.take i) + g (rd_T36 l i) := by
  unfold tot
  rw [List.take_succ_eq_append_getElem h, List.map_append, List.sum_append]
  simp [rd_T36, List.getD, List.getElem?_eq_getElem h]

theorem add_wrap {a b : Int} (h0 : 0 ≤ a) (h1 : a ≤ 1000000000) (h2 : 0 ≤ b) (h3 : b ≤ 1000000) : wrap64 (a + b) = a + b := by
  unfold wrap64
  omega

theorem sum_tot (l : List S36) (hn : l.length ≤ 1000) (hok : ∀ x ∈ l, ok36 x) (d : Nat) : ∀ (k i : Nat), l.length - i = d → i ≤ l.length → d < k →
    bound_Sum.l0 k (l.map cv) ((l.map cv).length : Int) i (tot S36.f0 (l.take i)) (tot S36.f1 (l.take i)) (tot S36.f2 (l.take i)) (tot S36.f3 (l.take i)) = some (tot S36.f0 l, tot S36.f1 l, tot S36.f2 l, tot S36.f3 l) := by
  induction d with
  | zero =>
    intro k i hd hi hk
    obtain ⟨k, rfl⟩ : ∃ m, k = m + 1 := ⟨k - 1, by omega⟩
    obtain rfl : i = l.length := by omega
    simp only [bound_Sum.l0]
    rw [if_neg (by simp), List.take_length]
  | succ d ih =>
    intro k i hd hi hk
    obtain ⟨k, rfl⟩ : ∃ m, k = m + 1 := ⟨k - 1, by omega⟩
    have e1 : rd_T43 (l.map cv) i = cv (rd_T36 l i) := by
      have hi : i < l.length := by omega
      simp [rd_T43, rd_T36, List.getD, hi]
    have hx : ok36 (rd_T36 l i) := hok _ (by simp [rd_T36, List.getD, List.getElem?_eq_getElem (show i < l.length by omega)])
    have hb : ∀ g : S36 → Int, (∀ x ∈ l, 0 ≤ g x ∧ g x ≤ 1000000) → 0 ≤ tot g (l.take i) ∧ tot g (l.take i) ≤ 1000000000 := by
      intro g hg
      have h1 := tot_le g (l.take i) (fun x hx => hg x (List.mem_of_mem_take hx))
      have h2 : (l.take i).length ≤ 1000 := by rw [List.length_take]; omega
      omega
    simp only [bound_Sum.l0]
    rw [if_pos (by simp; omega), if_pos (by omega), if_pos (by simp; omega), wrap_next (n := l.length) (by omega) (by omega) hn, e1]
    have g0 := hb S36.f0 (fun x hx => (hok x hx).1)
    have g1 := hb S36.f1 (fun x hx => (hok x hx).2.1)
    have g2 := hb S36.f2 (fun x hx => (hok x hx).2.2.1)
    have g3 := hb S36.f3 (fun x hx => (hok x hx).2.2.2)
    have h := ih k (i + 1) (by omega) (by omega) (by omega)
    rw [tot_succ _ _ _ (by omega), tot_succ _ _ _ (by omega), tot_succ _ _ _ (by omega), tot_succ _ _ _ (by omega)] at h
    rw [show (cv (rd_T36 l i)).f0 = (rd_T36 l i).f0 from rfl, show (cv (rd_T36 l i)).f1 = (rd_T36 l i).f1 from rfl, show (cv (rd_T36 l i)).f2 = (rd_T36 l i).f2 from rfl, show (cv (rd_T36 l i)).f3 = (rd_T36 l i).f3 from rfl]
    rw [add_wrap g0.1 g0.2 hx.1.1 hx.1.2, add_wrap g1.1 g1.2 hx.2.1.1 hx.2.1.2, add_wrap g2.1 g2.2 hx.2.2.1.1 hx.2.2.1.2, add_wrap g3.1 g3.2 hx.2.2.2.1 hx.2.2.2.2]
    exact h

theorem sum_tot_f (l : List S36) (hn : l.length ≤ 1000) (hok : ∀ x ∈ l, ok36 x) : bound_Sum.f (l.length + 1) (l.map cv) = some (tot S36.f0 l, tot S36.f1 l, tot S36.f2 l, tot S36.f3 l) :=
  sum_tot l hn hok l.length (l.length + 1) 0 (by omega) (by omega) (by omega)

theorem rounds_eq (a b c d n : Int) (ha : 0 ≤ a ∧ a ≤ 1000000000) (hd : 0 ≤ d ∧ d ≤ 1000000000) (hn : 0 ≤ n ∧ n ≤ 100) : bound_Rounds.f a b c d n = some (1000 + 100 * (d + 10 * a + 10 * n)) := by
  unfold bound_Rounds.f
  have e1 : wrap64 (10 * a) = 10 * a := by unfold wrap64; omega
  have e2 : wrap64 (10 * n) = 10 * n := by unfold wrap64; omega
  rw [e1, e2]
  have e3 : wrap64 (d + 10 * a) = d + 10 * a := by unfold wrap64; omega
  rw [e3]
  have e4 : wrap64 (d + 10 * a + 10 * n) = d + 10 * a + 10 * n := by unfold wrap64; omega
  rw [e4]
  have e5 : wrap64 (100 * (d + 10 * a + 10 * n)) = 100 * (d + 10 * a + 10 * n) := by unfold wrap64; omega
  rw [e5]
  have e6 : wrap64 (1000 + 100 * (d + 10 * a + 10 * n)) = 1000 + 100 * (d + 10 * a + 10 * n) := by unfold wrap64; omega
  rw [e6]

/-- What BoundGrows wants to know of a list and of its beginning. -/
theorem grows (l : List S36) (n : Nat) (hn : l.length ≤ 100) (hok : ∀ x ∈ l, ok36 x) :
    ∃ r1 r2 r3 r4 s1 s2 s3 s4 x y, bound_Sum.f (l.length + 1) (l.map cv) = some (r1, r2, r3, r4) ∧ bound_Sum.f ((l.take n).length + 1) ((l.take n).map cv) = some (s1, s2, s3, s4) ∧ s1 ≤ r1 ∧ s2 ≤ r2 ∧ s3 ≤ r3 ∧
      bound_Rounds.f r1 r2 r3 r4 3 = some x ∧ bound_Rounds.f s1 s2 s3 s4 2 = some y ∧ y ≤ x := by
  have hok' : ∀ x ∈ l.take n, ok36 x := fun x hx => hok x (List.mem_of_mem_take hx)
  have hl : (l.take n).length ≤ l.length := by rw [List.length_take]; omega
  have b0 := tot_le S36.f0 l (fun x hx => (hok x hx).1)
  have b3 := tot_le S36.f3 l (fun x hx => (hok x hx).2.2.2)
  have c0 := tot_le S36.f0 (l.take n) (fun x hx => (hok' x hx).1)
  have c3 := tot_le S36.f3 (l.take n) (fun x hx => (hok' x hx).2.2.2)
  have t0 := tot_take S36.f0 l n (fun x hx => (hok x hx).1)
  have t1 := tot_take S36.f1 l n (fun x hx => (hok x hx).2.1)
  have t2 := tot_take S36.f2 l n (fun x hx => (hok x hx).2.2.1)
  have t3 := tot_take S36.f3 l n (fun x hx => (hok x hx).2.2.2)
  exact ⟨_, _, _, _, _, _, _, _, _, _, sum_tot_f l (by omega) hok, sum_tot_f (l.take n) (by omega) hok', t0, t1, t2, rounds_eq _ _ _ _ _ (by omega) (by omega) (by omega), rounds_eq _ _ _ _ _ (by omega) (by omega) (by omega), by omega⟩
end Go.Proofs.YtponjobacdimeaaGreat.PBoundLeast
