/- Acts as bytes and bytes as acts: the one is the other's way back. -/
import Derived.Test.YthnefjkpjhfkgaaC15
import Derived.Test.YthnefjkpjhfkgaaC14
namespace Go.Proofs.Ythnefjkpjhfkgaa.Core
open Go.RowKit Go.Proofs.YthnefjkpjhfkgaaW.PrintWords Go.Proofs.YthnefjkpjhfkgaaW.PrintMore Go.Proofs.Ythnefjkpjhfkgaa.PScriptWrites
set_option linter.unusedVariables false
set_option linter.unusedSimpArgs false
theorem le_leN : ∀ {t : List Int}, Byts t → le t.length (leN t) = t := by
  intro t
  induction t with
  | nil => intro _; rfl
  | cons c r ih =>
    intro h
    have hc := h.hd
    have hr := leN_nonneg (l := r) (fun x hx => h.tl x hx)
    show (leN (c :: r)) % 256 :: le r.length ((leN (c :: r)) / 256) = c :: r
    have e : leN (c :: r) = c + 256 * leN r := rfl
    rw [e, show (c + 256 * leN r) % 256 = c by omega, show (c + 256 * leN r) / 256 = leN r by omega, ih h.tl]
theorem leN_le (n : Int) : leN (le 8 n) = n % 18446744073709551616 := by
  simp only [le, leN]
  omega
theorem le_wrap64 (n : Int) : le 8 (wrap64 n) = le 8 n := by
  unfold wrap64
  simp only [le, List.cons.injEq, and_true]
  omega
theorem le_byts (k : Nat) : ∀ n : Int, Byts (le k n) := by
  induction k with
  | zero => intro n x hx; simp [le] at hx
  | succ k ih =>
    intro n x hx
    simp only [le, List.mem_cons] at hx
    rcases hx with rfl | hx
    · omega
    · exact ih _ x hx
theorem args_back : ∀ {f : List Int} (r : List Int), (∀ n ∈ f, -9223372036854775808 ≤ n ∧ n ≤ 9223372036854775807) → argsN f.length (f.flatMap (le 8) ++ r) = f ∧ (f.flatMap (le 8) ++ r).drop (8 * f.length) = r := by
  intro f
  induction f with
  | nil => intro r _; exact ⟨rfl, rfl⟩
  | cons n f ih =>
    intro r h
    obtain ⟨i1, i2⟩ := ih r (fun m hm => h m (by simp [hm]))
    have hn := h n (by simp)
    have hl := le_len 8 n
    have e1 : ((n :: f).flatMap (le 8) ++ r).take 8 = le 8 n := by rw [List.flatMap_cons, List.append_assoc, List.take_left' hl]
    have e2 : ((n :: f).flatMap (le 8) ++ r).drop 8 = f.flatMap (le 8) ++ r := by rw [List.flatMap_cons, List.append_assoc, List.drop_left' hl]
    constructor
    · show wrap64 (leN (((n :: f).flatMap (le 8) ++ r).take 8)) :: argsN f.length (((n :: f).flatMap (le 8) ++ r).drop 8) = n :: f
      rw [e1, e2, i1, leN_le]
      congr 1
      unfold wrap64
      omega
    · rw [show 8 * (n :: f).length = 8 + 8 * f.length by simp; omega, ← List.drop_drop, e2, i2]
theorem args_forth : ∀ (m : Nat) (r : List Int), Byts r → 8 * m ≤ r.length → (argsN m r).flatMap (le 8) ++ r.drop (8 * m) = r := by
  intro m
  induction m with
  | zero => intro r _ _; rfl
  | succ m ih =>
    intro r hr hl
    show (wrap64 (leN (r.take 8)) :: argsN m (r.drop 8)).flatMap (le 8) ++ _ = r
    have e := ih (r.drop 8) (hr.drop 8) (by rw [List.length_drop]; omega)
    rw [List.drop_drop, show 8 + 8 * m = 8 * (m + 1) by omega] at e
    rw [List.flatMap_cons, List.append_assoc, e, le_wrap64]
    have h8 : (r.take 8).length = 8 := by rw [List.length_take]; omega
    have := le_leN (hr.take 8)
    rw [h8] at this
    rw [this, List.take_append_drop]
/-- What an act of the document may be. -/
structure Good (x : S47) : Prop where
  l4 : x.f4.length ≤ 60000
  l5 : x.f5.length ≤ 1000000
  a5 : ∀ n ∈ x.f5, -9223372036854775808 ≤ n ∧ n ≤ 9223372036854775807
theorem errOf_zero {x : S47} (h : errOf x = 0) : 1 ≤ x.f0 ∧ x.f0 ≤ 7 ∧ bareB x = true ∧ fits x = true := by
  unfold errOf at h
  split at h
  · rename_i hk
    split at h
    · rename_i hf
      exact ⟨hk.1, hk.2.1, hk.2.2, hf⟩
    · cases h
  · cases h
theorem dec_byts {x : S47} (r : List Int) (h : errOf x = 0) (hg : Good x) : dec (byts x ++ r) = .ok (x, r) := by
  obtain ⟨h1, h7, hb, hf⟩ := errOf_zero h
  obtain ⟨g4, g5, ga⟩ := hg
  obtain ⟨k, a, b, c, d, e⟩ := x
  dsimp only at h1 h7 g4 g5 ga
  rcases (show k = 1 ∨ k = 2 ∨ k = 3 ∨ k = 4 ∨ k = 5 ∨ k = 6 ∨ k = 7 by omega) with rfl | rfl | rfl | rfl | rfl | rfl | rfl
  · simp [bareB, fits] at hb hf
    obtain ⟨rfl, rfl, rfl⟩ := hb
    simp [byts, dec, le]
    omega
  · simp [bareB, fits] at hb hf
    obtain ⟨rfl, rfl, rfl⟩ := hb
    have n1 : (d.length : Int) % 256 + 256 * ((d.length : Int) / 256 % 256) = d.length := by omega
    have hb2 : byts (⟨2, 0, 0, 0, d, e⟩ : S47) ++ r = 2 :: ((d.length : Int) % 256) :: ((d.length : Int) / 256 % 256) :: (d ++ ((e.length : Int) % 256) :: (e.flatMap (le 8) ++ r)) := by
      simp [byts, le]
    rw [hb2]
    simp only [dec]
    rw [if_neg (by decide), if_pos trivial, n1, if_pos (by simp; omega), show ((d.length : Int)).toNat = d.length by omega, List.drop_left, List.take_left]
    dsimp only
    obtain ⟨a1, a2⟩ := args_back r ga
    rw [show ((e.length : Int) % 256).toNat = e.length by omega, if_pos (by have := fm_len e; simp only [List.length_append] at this ⊢; omega), a1, a2]
  · simp [bareB, fits] at hb hf
    obtain ⟨rfl, rfl, rfl, rfl⟩ := hb
    simp [byts, dec, le]
    omega
  · simp [bareB, fits] at hb hf
    obtain ⟨rfl, rfl, rfl, rfl⟩ := hb
    simp [byts, dec, le]
    omega
  · simp [bareB, fits] at hb hf
    obtain ⟨rfl, rfl, rfl, rfl, rfl⟩ := hb
    simp [byts, dec]
  · simp [bareB, fits] at hb hf
    obtain ⟨rfl, rfl, rfl, rfl, rfl⟩ := hb
    simp [byts, dec]
  · simp [bareB, fits] at hb hf
    obtain ⟨rfl, rfl, rfl, rfl⟩ := hb
    simp [byts, dec, le]
    omega
theorem byts_dec {rs r : List Int} {x : S47} (hby : Byts rs) (h : dec rs = .ok (x, r)) : errOf x = 0 ∧ rs = byts x ++ r := by
  cases rs with
  | nil => simp [dec] at h
  | cons k t =>
    have hk := hby.hd
    by_cases q1 : k = 1
    · subst q1
      match t, hby, h with
      | [], _, h => simp [dec] at h
      | [_], _, h => simp [dec] at h
      | x1 :: y1 :: t, hby, h =>
        have a := hby.tl.hd
        have b := hby.tl.tl.hd
        simp only [dec, if_true, Except.ok.injEq, Prod.mk.injEq] at h
        obtain ⟨rfl, rfl⟩ := h
        refine ⟨?_, ?_⟩
        · simp [errOf, bareB, fits]; omega
        · simp [byts, le]; omega
    by_cases q2 : k = 2
    · subst q2
      match t, hby, h with
      | [], _, h => simp [dec] at h
      | [_], _, h => simp [dec] at h
      | x1 :: y1 :: t, hby, h =>
        have a := hby.tl.hd
        have b := hby.tl.tl.hd
        have ht := hby.tl.tl.tl
        simp only [dec] at h
        rw [if_neg (by decide), if_pos trivial] at h
        by_cases hl : x1 + 256 * y1 ≤ t.length
        · rw [if_pos hl] at h
          cases h4 : t.drop (x1 + 256 * y1).toNat with
          | nil => rw [h4] at h; simp at h
          | cons m t2 =>
            rw [h4] at h
            dsimp only at h
            have hm : Byts (m :: t2) := h4 ▸ ht.drop _
            have bm := hm.hd
            by_cases hl2 : 8 * m.toNat ≤ t2.length
            · rw [if_pos hl2] at h
              simp only [Except.ok.injEq, Prod.mk.injEq] at h
              obtain ⟨rfl, rfl⟩ := h
              have hlen : ((t.take (x1 + 256 * y1).toNat).length : Int) = x1 + 256 * y1 := by rw [List.length_take]; omega
              refine ⟨?_, ?_⟩
              · simp [errOf, bareB, fits, argsN_len]; omega
              · have e := args_forth m.toNat t2 hm.tl hl2
                have e2 : t = t.take (x1 + 256 * y1).toNat ++ (m :: t2) := by rw [← h4, List.take_append_drop]
                have e3 : byts (⟨2, 0, 0, 0, t.take (x1 + 256 * y1).toNat, argsN m.toNat t2⟩ : S47) = 2 :: ((x1 + 256 * y1) % 256) :: ((x1 + 256 * y1) / 256 % 256) :: (t.take (x1 + 256 * y1).toNat ++ ((m.toNat : Int) % 256) :: (argsN m.toNat t2).flatMap (le 8)) := by
                  simp only [byts, hlen, argsN_len]
                  simp [le]
                rw [e3, show (x1 + 256 * y1) % 256 = x1 by omega, show (x1 + 256 * y1) / 256 % 256 = y1 by omega, show (m.toNat : Int) % 256 = m by omega]
                simp only [List.cons_append, List.append_assoc]
                rw [e, ← e2]
            · rw [if_neg hl2] at h; cases h
        · rw [if_neg hl] at h; cases h
    by_cases q3 : k = 3 ∨ k = 4
    · match t, hby, h with
      | [], _, h => simp only [dec] at h; rw [if_neg q1, if_neg q2, if_pos q3] at h; cases h
      | x1 :: t, hby, h =>
        have a := hby.tl.hd
        simp only [dec] at h
        rw [if_neg q1, if_neg q2, if_pos q3] at h
        simp only [Except.ok.injEq, Prod.mk.injEq] at h
        obtain ⟨rfl, rfl⟩ := h
        rcases q3 with rfl | rfl
        · refine ⟨?_, ?_⟩
          · simp [errOf, bareB, fits]; omega
          · simp [byts, le]; omega
        · refine ⟨?_, ?_⟩
          · simp [errOf, bareB, fits]; omega
          · simp [byts, le]; omega
    by_cases q5 : k = 5 ∨ k = 6
    · simp only [dec] at h
      rw [if_neg q1, if_neg q2, if_neg q3, if_pos q5] at h
      simp only [Except.ok.injEq, Prod.mk.injEq] at h
      obtain ⟨rfl, rfl⟩ := h
      rcases q5 with rfl | rfl
      · exact ⟨by simp [errOf, bareB, fits], by simp [byts]⟩
      · exact ⟨by simp [errOf, bareB, fits], by simp [byts]⟩
    by_cases q7 : k = 7
    · subst q7
      match t, hby, h with
      | [], _, h => simp [dec] at h
      | [_], _, h => simp [dec] at h
      | x1 :: y1 :: t, hby, h =>
        have a := hby.tl.hd
        have b := hby.tl.tl.hd
        simp only [dec] at h
        rw [if_neg (by decide), if_neg (by decide), if_neg (by decide), if_neg (by decide), if_pos (by decide)] at h
        simp only [Except.ok.injEq, Prod.mk.injEq] at h
        obtain ⟨rfl, rfl⟩ := h
        refine ⟨?_, ?_⟩
        · simp [errOf, bareB, fits]; omega
        · simp [byts, le]; omega
    · simp only [dec] at h
      rw [if_neg q1, if_neg q2, if_neg q3, if_neg q5, if_neg q7] at h
      cases h
theorem steps_back {r : List Int} : ∀ {l : List S47}, (∀ x ∈ l, errOf x = 0) → (∀ x ∈ l, Good x) → Core.Steps (bytL l ++ r) l r := by
  have H : ∀ (n : Nat) (l : List S47) (r : List Int), l.length = n → (∀ x ∈ l, errOf x = 0) → (∀ x ∈ l, Good x) → Core.Steps (bytL l ++ r) l r := by
    intro n
    induction n with
    | zero =>
      intro l r hl _ _
      obtain rfl := List.eq_nil_of_length_eq_zero hl
      exact .nil
    | succ n ih =>
      intro l r hl he hg
      obtain ⟨l', x, rfl⟩ : ∃ l' x, l = l' ++ [x] := ⟨l.dropLast, l.getLast (by intro e; rw [e] at hl; simp at hl), (List.dropLast_concat_getLast (by intro e; rw [e] at hl; simp at hl)).symm⟩
      have := ih l' (byts x ++ r) (by simpa using hl) (fun y hy => he y (by simp [hy])) (fun y hy => hg y (by simp [hy]))
      have e : bytL (l' ++ [x]) ++ r = bytL l' ++ (byts x ++ r) := by simp [bytL]
      rw [e]
      exact .snoc this (dec_byts r (he x (by simp)) (hg x (by simp)))
  intro l he hg
  exact H l.length l r rfl he hg
theorem steps_forth {b rs : List Int} {l : List S47} (hb : Byts b) (h : Core.Steps b l rs) : (∀ x ∈ l, errOf x = 0) ∧ b = bytL l ++ rs := by
  induction h with
  | nil => exact ⟨by simp, rfl⟩
  | snoc hs hd ih =>
    obtain ⟨i1, i2⟩ := ih
    obtain ⟨j1, j2⟩ := byts_dec (hs.byts hb) hd
    refine ⟨fun x hx => ?_, ?_⟩
    · rcases List.mem_append.1 hx with hx | hx
      · exact i1 x hx
      · obtain rfl := List.mem_singleton.1 hx
        exact j1
    · rw [i2, j2]
      simp [bytL]
theorem errL_zero {l : List S47} (h : ∀ x ∈ l, errOf x = 0) : errL l = 0 := by
  induction l with
  | nil => rfl
  | cons x l ih =>
    show (if errOf x = 0 then errL l else errOf x) = 0
    rw [if_pos (h x (by simp))]
    exact ih (fun y hy => h y (by simp [hy]))
/-- A proper head of an act's bytes is too short. -/
theorem dec_cut {x : S47} (h : errOf x = 0) (hg : Good x) {j : Nat} (hj : j < (byts x).length) : dec ((byts x).take j) = .error 2 := by
  obtain ⟨h1, h7, hb, hf⟩ := errOf_zero h
  obtain ⟨g4, g5, ga⟩ := hg
  obtain ⟨k, a, b, c, d, e⟩ := x
  dsimp only at h1 h7 g4 g5 ga
  rcases (show k = 1 ∨ k = 2 ∨ k = 3 ∨ k = 4 ∨ k = 5 ∨ k = 6 ∨ k = 7 by omega) with rfl | rfl | rfl | rfl | rfl | rfl | rfl
  · have hb2 : byts (⟨1, a, b, c, d, e⟩ : S47) = [1, a % 256, b % 256] := by simp [byts, le]
    rw [hb2] at hj ⊢
    match j, hj with
    | 0, _ => rfl
    | 1, _ => rfl
    | 2, _ => rfl
  · simp [fits] at hf
    have n1 : (d.length : Int) % 256 + 256 * ((d.length : Int) / 256 % 256) = d.length := by omega
    have hb2 : byts (⟨2, a, b, c, d, e⟩ : S47) = 2 :: ((d.length : Int) % 256) :: ((d.length : Int) / 256 % 256) :: (d ++ ((e.length : Int) % 256) :: e.flatMap (le 8)) := by
      simp [byts, le]
    rw [hb2] at hj ⊢
    have hfl := fm_len e
    match j, hj with
    | 0, _ => rfl
    | 1, _ => rfl
    | 2, _ => rfl
    | j + 3, hj =>
      simp only [List.length_cons, List.length_append] at hj
      simp only [List.take_succ_cons, dec]
      rw [if_neg (by decide), if_pos trivial, n1, show ((d.length : Int)).toNat = d.length by omega]
      by_cases hd : j ≤ d.length
      · have hlt : (List.take j (d ++ ((e.length : Int) % 256) :: e.flatMap (le 8))).length = j := by rw [List.length_take]; simp; omega
        by_cases hd2 : (d.length : Int) ≤ (List.take j (d ++ ((e.length : Int) % 256) :: e.flatMap (le 8))).length
        · rw [if_pos hd2, List.drop_of_length_le (by rw [hlt]; omega)]
        · rw [if_neg hd2]
      · have ht : List.take j (d ++ ((e.length : Int) % 256) :: e.flatMap (le 8)) = d ++ ((e.length : Int) % 256) :: (e.flatMap (le 8)).take (j - d.length - 1) := by
          rw [List.take_append, List.take_of_length_le (by omega), show j - d.length = (j - d.length - 1) + 1 by omega, List.take_succ_cons]
          simp
        rw [ht, if_pos (by simp; omega), List.drop_left]
        dsimp only
        rw [show ((e.length : Int) % 256).toNat = e.length by omega, if_neg (by rw [List.length_take]; omega)]
  · have hb2 : byts (⟨3, a, b, c, d, e⟩ : S47) = [3, c % 256] := by simp [byts, le]
    rw [hb2] at hj ⊢
    match j, hj with
    | 0, _ => rfl
    | 1, _ => rfl
  · have hb2 : byts (⟨4, a, b, c, d, e⟩ : S47) = [4, c % 256] := by simp [byts, le]
    rw [hb2] at hj ⊢
    match j, hj with
    | 0, _ => rfl
    | 1, _ => rfl
  · have hb2 : byts (⟨5, a, b, c, d, e⟩ : S47) = [5] := by simp [byts]
    rw [hb2] at hj ⊢
    match j, hj with
    | 0, _ => rfl
  · have hb2 : byts (⟨6, a, b, c, d, e⟩ : S47) = [6] := by simp [byts]
    rw [hb2] at hj ⊢
    match j, hj with
    | 0, _ => rfl
  · have hb2 : byts (⟨7, a, b, c, d, e⟩ : S47) = [7, c % 256, c / 256 % 256] := by simp [byts, le]
    rw [hb2] at hj ⊢
    match j, hj with
    | 0, _ => rfl
    | 1, _ => rfl
    | 2, _ => rfl
theorem dec_err {rs : List Int} {n : Int} (h : dec rs = .error n) : n = 2 ∨ n = 4 := by
  cases rs with
  | nil => simp [dec] at h; omega
  | cons k rs =>
    simp only [dec] at h
    repeat' (split at h)
    all_goals (try (cases h; done))
    all_goals (simp only [Except.error.injEq] at h; omega)
theorem dec_lens {rs r : List Int} {x : S47} (h : dec rs = .ok (x, r)) : x.f4.length ≤ rs.length ∧ x.f5.length ≤ rs.length := by
  cases rs with
  | nil => simp [dec] at h
  | cons k rs =>
    simp only [dec] at h
    repeat' (split at h)
    all_goals (try (cases h; done))
    all_goals (simp only [Except.ok.injEq, Prod.mk.injEq] at h; obtain ⟨rfl, _⟩ := h)
    all_goals (first | (simp; done) | skip)
    all_goals
      have hq := congrArg List.length (by assumption : List.drop _ _ = _ :: _)
      simp only [List.length_drop, List.length_cons, argsN_len, List.length_take] at hq ⊢
      omega
theorem steps_lens {b rs : List Int} {l : List S47} (h : Core.Steps b l rs) : ∀ x ∈ l, x.f4.length ≤ b.length ∧ x.f5.length ≤ b.length := by
  induction h with
  | nil => simp
  | snoc hs hd ih =>
    intro x hx
    rcases List.mem_append.1 hx with hx | hx
    · exact ih x hx
    · obtain rfl := List.mem_singleton.1 hx
      have := dec_lens hd
      have := hs.len
      omega
theorem fine_err {x : S47} (h : errOf x = 0) (h4 : x.f4.length ≤ 60000) (h5 : x.f5.length ≤ 1000000) : Fine x := by
  obtain ⟨h1, h7, hb, hf⟩ := errOf_zero h
  obtain ⟨k, a, b, c, d, e⟩ := x
  dsimp only at h1 h7 h4 h5
  refine ⟨?_, ?_, ?_, h4, h5⟩ <;> dsimp only <;>
  · rcases (show k = 1 ∨ k = 2 ∨ k = 3 ∨ k = 4 ∨ k = 5 ∨ k = 6 ∨ k = 7 by omega) with rfl | rfl | rfl | rfl | rfl | rfl | rfl <;> simp [bareB, fits] at hb hf <;> omega
theorem byts_small {x : S47} (h4 : x.f4.length ≤ 300) (h5 : x.f5.length ≤ 300) : (byts x).length ≤ 2800 := by
  have := fm_len x.f5
  unfold byts
  split
  · simp [le_len]
  · split
    · simp only [List.length_cons, List.length_append, le_len, this]; omega
    · split
      · simp [le_len]
      · split
        · simp [le_len]
        · simp
theorem bytL_small : ∀ {l : List S47}, (∀ x ∈ l, x.f4.length ≤ 300 ∧ x.f5.length ≤ 300) → (bytL l).length ≤ 2800 * l.length := by
  intro l
  induction l with
  | nil => intro _; simp [bytL]
  | cons x l ih =>
    intro h
    have a := ih (fun y hy => h y (by simp [hy]))
    have b := byts_small (h x (by simp)).1 (h x (by simp)).2
    unfold bytL at a ⊢
    simp only [List.flatMap_cons, List.length_append, List.length_cons]
    omega
theorem byts_byts {x : S47} (h : errOf x = 0) (hb : Byts x.f4) : Byts (byts x) := by
  obtain ⟨h1, h7, _, _⟩ := errOf_zero h
  intro y hy
  unfold byts at hy
  rcases List.mem_cons.1 hy with rfl | hy
  · omega
  · split at hy
    · rcases List.mem_append.1 hy with hy | hy <;> exact le_byts _ _ y hy
    · split at hy
      · rcases List.mem_append.1 hy with hy | hy
        · rcases List.mem_append.1 hy with hy | hy
          · rcases List.mem_append.1 hy with hy | hy
            · exact le_byts _ _ y hy
            · exact hb y hy
          · exact le_byts _ _ y hy
        · obtain ⟨n, _, hy⟩ := List.mem_flatMap.1 hy
          exact le_byts _ _ y hy
      · split at hy
        · exact le_byts _ _ y hy
        · split at hy
          · exact le_byts _ _ y hy
          · cases hy
theorem bytL_byts {l : List S47} (h : ∀ x ∈ l, errOf x = 0) (hb : ∀ x ∈ l, Byts x.f4) : Byts (bytL l) := by
  intro y hy
  obtain ⟨x, hx, hy⟩ := List.mem_flatMap.1 hy
  exact byts_byts (h x hx) (hb x hx) y hy
/-- What Write comes to, as a row, an error, bytes. -/
def WOut (w : World) (m : List S47) (e : Ending) (w' : World) : Prop :=
  ∃ A n c ev, e = .returned (.tuple #[.slice A n c, .int .i64 ev]) ∧ Below w.heap.size w w' ∧ ev = errL m ∧ (errL m = 0 → n = (bytL m).length ∧ n ≤ c ∧ Kd.C (Kd.int .u8) w' A (bytL m).length (bytL m)) ∧ (errL m ≠ 0 → n = 0)
theorem WOut_of {w w' : World} {m : List S47} {e : Ending} (h : bodyOf w m e w') : WOut w m e w' := by
  rcases h with ⟨h0, v, rfl, hr, hb⟩ | ⟨h0, rfl, hb⟩
  · obtain ⟨A, c, rfl, hc, hC⟩ := Kd.R_reads hr
    exact ⟨A, _, c, 0, rfl, hb, h0.symm, fun _ => ⟨rfl, hc, hC⟩, fun h => absurd h0 h⟩
  · exact ⟨none, 0, 0, _, rfl, hb, rfl, fun h => absurd h h0, fun _ => rfl⟩
/-- Read at bytes of which it is known what they are: the acts. -/
theorem Read_of {w w' : World} {b : List Int} {l : List S47} {e : Ending} (hs : Core.Steps b l []) (h : ReadOut w b e w') : ∃ A c, e = .returned (.tuple #[.slice A l.length c, .int .i64 0]) ∧ l.length ≤ c ∧ Kd.C k47 w' A l.length l ∧ Below w.heap.size w w' := by
  rcases h with ⟨l2, A, c, hs2, rfl, hc, hC, hB⟩ | ⟨l2, rs, n, hs2, hd, hr, rfl, hB⟩
  · obtain ⟨rfl, _⟩ := hs.one (n := 2) rfl hs2 (n2 := 2) rfl
    exact ⟨A, c, rfl, hc, hC, hB⟩
  · obtain ⟨_, e⟩ := hs.one (n := 2) rfl hs2 hd
    exact absurd e.symm hr
theorem Read_no {w w' : World} {b rs : List Int} {l : List S47} {n : Int} {e : Ending} (hs : Core.Steps b l rs) (hd : dec rs = .error n) (hr : rs ≠ []) (h : ReadOut w b e w') : e = .returned (.tuple #[.slice none 0 0, .int .i64 n]) ∧ Below w.heap.size w w' := by
  rcases h with ⟨l2, A, c, hs2, rfl, hc, hC, hB⟩ | ⟨l2, rs2, n2, hs2, hd2, hr2, rfl, hB⟩
  · obtain ⟨_, e⟩ := hs.one hd hs2 (n2 := 2) rfl
    exact absurd e hr
  · obtain ⟨_, rfl⟩ := hs.one hd hs2 hd2
    rw [hd] at hd2
    obtain rfl : n = n2 := (Except.error.injEq _ _).mp hd2
    exact ⟨rfl, hB⟩
end Go.Proofs.Ythnefjkpjhfkgaa.Core
