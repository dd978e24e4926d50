/- Paths, names, sound logs: plain lists. -/
import Derived.Test.YtceankldidkohaaDoorC2
import Derived.Test.YtceankldidkohaaDoorPAuditTwicex1
import Derived.Test.YtceankldidkohaaDoorPAuditTwicex2
namespace Go.Proofs.YtceankldidkohaaDoor.Core
open Go.RowKit Go.Proofs.YtceankldidkohaaDoorW.PrintWords Go.Proofs.YtceankldidkohaaDoorW.PrintMore Go.Proofs.YtceankldidkohaaDoor.PAuditTwice
set_option linter.unusedVariables false
set_option linter.unusedSimpArgs false
def cmpL : List Int → List Int → Int
  | [], [] => 0
  | [], _ :: _ => -1
  | _ :: _, [] => 1
  | a :: x, b :: y => if a < b then -1 else if a > b then 1 else cmpL x y
theorem wr {n : Int} (h0 : -1000000000 ≤ n) (h1 : n ≤ 1000000000) : wrap64 n = n := by unfold wrap64; omega
theorem rd_at {l t : List Int} {p : Nat} {y : Int} (h : l.drop p = y :: t) : rd l (p : Int) = y ∧ p < l.length ∧ l.drop (p + 1) = t := by
  have hl : p < l.length := by
    have := congrArg List.length h
    simp only [List.length_drop, List.length_cons] at this
    omega
  refine ⟨?_, hl, ?_⟩
  · have := congrArg (fun l => l[0]?) h
    simp only [List.getElem?_drop, Nat.add_zero, List.getElem?_cons_zero] at this
    simp [rd, List.getD, this]
  · have := congrArg (List.drop 1) h
    rw [List.drop_drop] at this
    simpa using this
theorem nil_at {l : List Int} {p : Nat} (h : l.drop p = []) : l.length ≤ p := by
  have := congrArg List.length h
  simp only [List.length_drop, List.length_nil] at this
  omega
theorem rcompare_l (a b : List Int) (ha : a.length ≤ 1000000) (hb : b.length ≤ 1000000) (d : Nat) : ∀ (k p : Nat), a.length - p = d → p ≤ a.length → p ≤ b.length → 2 * d + 1 < k →
    haymowref05_Compare.l0 k a b p = some (cmpL (a.drop p) (b.drop p)) := by
  induction d with
  | zero =>
    intro k p hd hp hpb hk
    obtain ⟨k, rfl⟩ : ∃ m, k = m + 2 := ⟨k - 2, by omega⟩
    obtain rfl : p = a.length := by omega
    rw [haymowref05_Compare.l0.eq_2, if_neg (by omega), haymowref05_Compare.j1.eq_2, if_neg (by simp), List.drop_length]
    cases hb2 : b.drop a.length with
    | nil => have := nil_at hb2; rw [if_neg (by omega), if_neg (by omega)]; rfl
    | cons y t => obtain ⟨_, h, _⟩ := rd_at hb2; rw [if_pos (by omega)]; rfl
  | succ d ih =>
    intro k p hd hp hpb hk
    obtain ⟨k, rfl⟩ : ∃ m, k = m + 2 := ⟨k - 2, by omega⟩
    cases ha2 : a.drop p with
    | nil => have := nil_at ha2; omega
    | cons x s =>
      obtain ⟨r1, l1, e1⟩ := rd_at ha2
      rw [haymowref05_Compare.l0.eq_2, if_pos (by omega), haymowref05_Compare.j1.eq_2]
      cases hb2 : b.drop p with
      | nil => have := nil_at hb2; rw [if_neg (by simp; omega), if_neg (by omega), if_pos (by omega)]; rfl
      | cons y t =>
        obtain ⟨r2, l2, e2⟩ := rd_at hb2
        rw [if_pos (by simp; omega), if_pos (by omega), if_pos (by omega), if_pos (by omega), r1, r2]
        have h := ih k (p + 1) (by omega) (by omega) (by omega) (by omega)
        rw [e1, e2] at h
        have e : wrap64 ((p : Int) + 1) = ((p + 1 : Nat) : Int) := by rw [wr (by omega) (by omega)]; omega
        rw [e, h]
        show _ = some (if x < y then -1 else if x > y then 1 else cmpL s t)
        by_cases h1 : x < y
        · rw [if_pos h1, if_pos h1]
        · by_cases h2 : x > y
          · rw [if_neg h1, if_pos h2, if_neg h1, if_pos h2]
          · rw [if_neg h1, if_neg h2, if_neg h1, if_neg h2]
theorem rcompare_f (a b : List Int) (ha : a.length ≤ 1000000) (hb : b.length ≤ 1000000) : haymowref05_Compare.f (2 * a.length + 2) a b = some (cmpL a b) := by
  have h := rcompare_l a b ha hb a.length (2 * a.length + 2) 0 (by omega) (by omega) (by omega) (by omega)
  unfold haymowref05_Compare.f
  rw [show (0 : Int) = ((0 : Nat) : Int) from rfl, h]
  rfl
theorem cmpL_refl : ∀ a : List Int, cmpL a a = 0
  | [] => rfl
  | x :: a => by show (if x < x then -1 else if x > x then 1 else cmpL a a) = 0; rw [if_neg (by omega), if_neg (by omega), cmpL_refl a]
theorem cmpL_neg : ∀ a b : List Int, cmpL a b = -cmpL b a
  | [], [] => rfl
  | [], _ :: _ => rfl
  | _ :: _, [] => rfl
  | x :: a, y :: b => by
    show (if x < y then -1 else if x > y then 1 else cmpL a b) = -(if y < x then -1 else if y > x then 1 else cmpL b a)
    have := cmpL_neg a b
    by_cases h1 : x < y
    · rw [if_pos h1, if_neg (by omega), if_pos (by omega)]
    · by_cases h2 : x > y
      · rw [if_neg h1, if_pos h2, if_pos (by omega)]; rfl
      · rw [if_neg h1, if_neg h2, if_neg (by omega), if_neg (by omega)]; exact this
theorem cmpL_range : ∀ a b : List Int, cmpL a b = -1 ∨ cmpL a b = 0 ∨ cmpL a b = 1
  | [], [] => .inr (.inl rfl)
  | [], _ :: _ => .inl rfl
  | _ :: _, [] => .inr (.inr rfl)
  | x :: a, y :: b => by
    show (if x < y then -1 else if x > y then 1 else cmpL a b) = -1 ∨ (if x < y then -1 else if x > y then 1 else cmpL a b) = 0 ∨ (if x < y then -1 else if x > y then 1 else cmpL a b) = 1
    split
    · exact .inl rfl
    · split
      · exact .inr (.inr rfl)
      · exact cmpL_range a b
theorem cmpL_zero : ∀ {a b : List Int}, cmpL a b = 0 → a = b
  | [], [], _ => rfl
  | [], _ :: _, h => by cases h
  | _ :: _, [], h => by cases h
  | x :: a, y :: b, h => by
    have h' : (if x < y then -1 else if x > y then 1 else cmpL a b) = 0 := h
    split at h'
    · omega
    · split at h'
      · omega
      · obtain rfl : x = y := by omega
        rw [cmpL_zero h']
theorem cmpL_trans : ∀ {a b c : List Int}, cmpL a b ≤ 0 → cmpL b c ≤ 0 → cmpL a c ≤ 0
  | [], b, [], _, _ => by decide
  | [], b, _ :: _, _, _ => by show (-1 : Int) ≤ 0; decide
  | _ :: _, [], c, h, _ => by have h' : (1 : Int) ≤ 0 := h; omega
  | _ :: _, _ :: _, [], _, h => by have h' : (1 : Int) ≤ 0 := h; omega
  | x :: a, y :: b, z :: c, h1, h2 => by
    have g1 : (if x < y then -1 else if x > y then 1 else cmpL a b) ≤ 0 := h1
    have g2 : (if y < z then -1 else if y > z then 1 else cmpL b c) ≤ 0 := h2
    show (if x < z then -1 else if x > z then 1 else cmpL a c) ≤ 0
    by_cases e1 : x < z
    · rw [if_pos e1]; decide
    · rw [if_neg e1]
      by_cases l1 : x < y
      · by_cases l2 : y < z
        · omega
        · rw [if_neg l2] at g2
          by_cases l3 : y > z
          · rw [if_pos l3] at g2; omega
          · omega
      · rw [if_neg l1] at g1
        by_cases l2 : x > y
        · rw [if_pos l2] at g1; omega
        · rw [if_neg l2] at g1
          by_cases l3 : y < z
          · omega
          · rw [if_neg l3] at g2
            by_cases l4 : y > z
            · rw [if_pos l4] at g2; omega
            · rw [if_neg l4] at g2
              rw [if_neg (by omega)]
              exact cmpL_trans g1 g2

/-! Names tell tasks apart. -/
def vald (l : List UInt8) : Nat := l.foldl (fun a c => 10 * a + (c.toNat - 48)) 0
theorem vald_snoc (l : List UInt8) (c : UInt8) : vald (l ++ [c]) = 10 * vald l + (c.toNat - 48) := by simp [vald, List.foldl_append]
theorem ofNat_toNat {n : Nat} (h : n < 256) : (UInt8.ofNat n).toNat = n := by
  simp [UInt8.toNat_ofNat]; omega
theorem dec_val : ∀ u : Nat, vald (Lib.decDigits u) = u := by
  intro u
  induction u using Nat.strongRecOn with
  | _ u ih =>
    unfold Lib.decDigits
    split
    · rename_i h
      have := ofNat_toNat (n := 48 + u) (by omega)
      simp only [vald, List.foldl_cons, List.foldl_nil, this]
      omega
    · rename_i h
      rw [vald_snoc, ih (u / 10) (by omega), ofNat_toNat (by omega)]
      omega
theorem dec_digits : ∀ u : Nat, Lib.decDigits u ≠ [] ∧ ∀ c ∈ Lib.decDigits u, 48 ≤ c.toNat := by
  intro u
  induction u using Nat.strongRecOn with
  | _ u ih =>
    unfold Lib.decDigits
    split
    · rename_i h
      refine ⟨by simp, fun c hc => ?_⟩
      obtain rfl := List.mem_singleton.1 hc
      rw [ofNat_toNat (by omega)]
      omega
    · rename_i h
      refine ⟨by simp, fun c hc => ?_⟩
      rcases List.mem_append.1 hc with hc | hc
      · exact (ih (u / 10) (by omega)).2 c hc
      · obtain rfl := List.mem_singleton.1 hc
        rw [ofNat_toNat (by omega)]
        omega
theorem itoa_no46 (n : Int) : ∀ c ∈ Lib.itoa n, c ≠ 46 := by
  intro c hc
  unfold Lib.itoa at hc
  split at hc
  · rcases List.mem_cons.1 hc with rfl | hc
    · decide
    · have := (dec_digits _).2 c hc
      intro e
      subst e
      revert this
      decide
  · have := (dec_digits _).2 c hc
    intro e
    subst e
    revert this
    decide
theorem itoa_inj {a b : Int} (h : Lib.itoa a = Lib.itoa b) : a = b := by
  have key : ∀ (n m : Nat), 45 :: Lib.decDigits n = Lib.decDigits m → False := by
    intro n m e
    have := (dec_digits m).2 45 (by rw [← e]; simp)
    revert this
    decide
  unfold Lib.itoa at h
  split at h
  · split at h
    · have := congrArg vald (List.tail_eq_of_cons_eq h)
      rw [dec_val, dec_val] at this
      omega
    · exact (key _ _ h).elim
  · split at h
    · exact (key _ _ h.symm).elim
    · have := congrArg vald h
      rw [dec_val, dec_val] at this
      omega
theorem split46 : ∀ {a b r s : List UInt8}, (∀ c ∈ a, c ≠ 46) → (∀ c ∈ b, c ≠ 46) → (r = [] ∨ ∃ r', r = 46 :: r') → (s = [] ∨ ∃ s', s = 46 :: s') → a ++ r = b ++ s → a = b ∧ r = s
  | [], [], r, s, _, _, _, _, h => ⟨rfl, h⟩
  | [], y :: b, r, s, _, hb, hr, _, h => by
    exfalso
    rcases hr with rfl | ⟨r', rfl⟩
    · simp at h
    · simp only [List.nil_append, List.cons_append, List.cons.injEq] at h
      exact hb y (by simp) h.1.symm
  | x :: a, [], r, s, ha, _, _, hs, h => by
    exfalso
    rcases hs with rfl | ⟨s', rfl⟩
    · simp at h
    · simp only [List.nil_append, List.cons_append, List.cons.injEq] at h
      exact ha x (by simp) h.1
  | x :: a, y :: b, r, s, ha, hb, hr, hs, h => by
    simp only [List.cons_append, List.cons.injEq] at h
    obtain ⟨e1, e2⟩ := split46 (fun c hc => ha c (by simp [hc])) (fun c hc => hb c (by simp [hc])) hr hs h.2
    exact ⟨by rw [h.1, e1], e2⟩
theorem segs_head (p : List Int) : (p.flatMap fun x => 46 :: Lib.itoa x) = [] ∨ ∃ r, (p.flatMap fun x => 46 :: Lib.itoa x) = 46 :: r := by
  cases p with
  | nil => exact .inl rfl
  | cons x p => exact .inr ⟨_, by rw [List.flatMap_cons, List.cons_append]⟩
theorem segs_inj : ∀ {p q : List Int}, (p.flatMap fun x => 46 :: Lib.itoa x) = (q.flatMap fun x => 46 :: Lib.itoa x) → p = q
  | [], [], _ => rfl
  | [], y :: q, h => by simp at h
  | x :: p, [], h => by simp at h
  | x :: p, y :: q, h => by
    simp only [List.flatMap_cons, List.cons_append, List.cons.injEq, true_and] at h
    obtain ⟨e1, e2⟩ := split46 (itoa_no46 x) (itoa_no46 y) (segs_head p) (segs_head q) h
    rw [itoa_inj e1, segs_inj e2]
theorem nm_inj {a b : Int} {p q : List Int} (h : nm a p = nm b q) : a = b ∧ p = q := by
  obtain ⟨e1, e2⟩ := split46 (itoa_no46 a) (itoa_no46 b) (segs_head p) (segs_head q) h
  exact ⟨itoa_inj e1, segs_inj e2⟩
/-- Are two events of one task? -/
def sameE (a b : S28) : Bool := nm a.f0 a.f2 == nm b.f0 b.f2
theorem sameE_iff (a b : S28) : sameE a b = true ↔ a.f0 = b.f0 ∧ a.f2 = b.f2 := by
  unfold sameE
  rw [beq_iff_eq]
  exact ⟨nm_inj, fun ⟨h1, h2⟩ => by rw [h1, h2]⟩
/-! Sound logs. -/
theorem sndL_app : ∀ (d a b : List S28), sndL d (a ++ b) = (sndL d a && sndL (d ++ a) b)
  | d, [], b => by simp [sndL]
  | d, e :: a, b => by
    show (if e.f1 = (cnt d (nm e.f0 e.f2) : Int) + 1 then sndL (d ++ [e]) (a ++ b) else false) = ((if e.f1 = (cnt d (nm e.f0 e.f2) : Int) + 1 then sndL (d ++ [e]) a else false) && sndL (d ++ e :: a) b)
    split
    · rw [sndL_app (d ++ [e]) a b, List.append_assoc]
      rfl
    · rfl
theorem snd_less (x : S28) : ∀ (r d d' : List S28), (∀ s, cnt d' s = cnt d s + if nm x.f0 x.f2 == s then 1 else 0) → sndL d' r = true → sndL d r = !(r.any fun y => sameE y x)
  | [], d, d', _, _ => rfl
  | y :: r, d, d', hc, h => by
    have h' : (if y.f1 = (cnt d' (nm y.f0 y.f2) : Int) + 1 then sndL (d' ++ [y]) r else false) = true := h
    show (if y.f1 = (cnt d (nm y.f0 y.f2) : Int) + 1 then sndL (d ++ [y]) r else false) = _
    have hy := hc (nm y.f0 y.f2)
    split at h'
    · rename_i e1
      by_cases hs : sameE y x = true
      · have e2 : (nm x.f0 x.f2 == nm y.f0 y.f2) = true := by
          have := (sameE_iff y x).1 hs
          rw [this.1, this.2]; simp
        rw [e2, if_pos rfl] at hy
        rw [if_neg (by omega)]
        simp [hs]
      · have e2 : (nm x.f0 x.f2 == nm y.f0 y.f2) = false := by
          rw [beq_eq_false_iff_ne]
          intro e
          exact hs ((sameE_iff y x).2 ⟨(nm_inj e).1.symm, (nm_inj e).2.symm⟩)
        rw [e2, if_neg (by decide)] at hy
        rw [if_pos (by omega), snd_less x r (d ++ [y]) (d' ++ [y]) (fun s => by rw [cnt_snoc, cnt_snoc, hc s]; omega) h']
        simp [hs]
    · cases h'
theorem take_at {l : List S28} {k : Nat} (hk : k < l.length) : l = l.take k ++ l[k] :: l.drop (k + 1) := by
  rw [← List.drop_eq_getElem_cons hk, List.take_append_drop]
theorem snd_parts {l : List S28} (h : sndL [] l = true) {k : Nat} (hk : k < l.length) : sndL [] (l.take k) = true ∧ l[k].f1 = (cnt (l.take k) (nm l[k].f0 l[k].f2) : Int) + 1 ∧ sndL (l.take k ++ [l[k]]) (l.drop (k + 1)) = true := by
  have e := take_at hk
  rw [e, sndL_app] at h
  simp only [Bool.and_eq_true, List.nil_append] at h
  obtain ⟨h1, h2⟩ := h
  have h2' : (if l[k].f1 = (cnt (l.take k) (nm l[k].f0 l[k].f2) : Int) + 1 then sndL (l.take k ++ [l[k]]) (l.drop (k + 1)) else false) = true := h2
  split at h2'
  · rename_i e1
    exact ⟨h1, e1, h2'⟩
  · cases h2'
theorem snd_twice {l : List S28} (h : sndL [] l = true) {k : Nat} (hk : k < l.length) : sndL [] (l.take (k + 1) ++ [l[k]] ++ l.drop (k + 1)) = false := by
  obtain ⟨h1, h2, h3⟩ := snd_parts h hk
  rw [List.append_assoc, sndL_app]
  have : sndL ([] ++ l.take (k + 1)) ([l[k]] ++ l.drop (k + 1)) = false := by
    show (if l[k].f1 = (cnt ([] ++ l.take (k + 1)) (nm l[k].f0 l[k].f2) : Int) + 1 then _ else false) = false
    rw [if_neg]
    rw [List.nil_append, List.take_succ_eq_append_getElem hk, cnt_snoc]
    simp
    omega
  rw [this, Bool.and_false]
theorem snd_drop {l : List S28} (h : sndL [] l = true) {k : Nat} (hk : k < l.length) : sndL [] (l.take k ++ l.drop (k + 1)) = !((l.drop (k + 1)).any fun y => sameE y l[k]) := by
  obtain ⟨h1, h2, h3⟩ := snd_parts h hk
  rw [sndL_app, h1, Bool.true_and, List.nil_append]
  exact snd_less l[k] _ _ (l.take k ++ [l[k]]) (fun s => cnt_snoc _ _ _) h3
/-! The reference's. -/
def cvE (x : S29) : S28 := ⟨x.f0, x.f1, x.f2⟩
theorem same_f (a b : S29) (ha : a.f2.length ≤ 1000) (hb : b.f2.length ≤ 1000) : haymowref20_same.f (2 * a.f2.length + 2) a.f0 a.f1 a.f2 b.f0 b.f1 b.f2 = some (sameE (cvE a) (cvE b)) := by
  unfold haymowref20_same.f
  have hr := rcompare_f a.f2 b.f2 (by omega) (by omega)
  by_cases h : a.f0 = b.f0
  · rw [if_pos h, hr]
    simp only [Option.bind_some]
    congr 1
    by_cases h2 : a.f2 = b.f2
    · rw [h2, cmpL_refl, (sameE_iff _ _).2 ⟨h, h2⟩]; rfl
    · have : sameE (cvE a) (cvE b) = false := by
        rw [← Bool.not_eq_true]
        intro e
        exact h2 ((sameE_iff _ _).1 e).2
      rw [this, beq_eq_false_iff_ne]
      exact fun e => h2 (cmpL_zero e)
  · rw [if_neg h]
    have : sameE (cvE a) (cvE b) = false := by
      rw [← Bool.not_eq_true]
      intro e
      exact h ((sameE_iff _ _).1 e).1
    rw [this]
theorem LeO_le {α : Type} {f : Nat → Option α} (hm : ∀ k, LeO (f k) (f (k + 1))) {k k' : Nat} (h : k ≤ k') {r : α} (hr : f k = some r) : f k' = some r := by
  induction k' with
  | zero => obtain rfl : k = 0 := by omega
            exact hr
  | succ n ih =>
    by_cases e : k = n + 1
    · exact e ▸ hr
    · exact hm n r (ih (by omega))
theorem same_fk (a b : S29) (ha : a.f2.length ≤ 1000) (hb : b.f2.length ≤ 1000) (k : Nat) (hk : 2002 ≤ k) : haymowref20_same.f k a.f0 a.f1 a.f2 b.f0 b.f1 b.f2 = some (sameE (cvE a) (cvE b)) :=
  LeO_le (f := fun k => haymowref20_same.f k a.f0 a.f1 a.f2 b.f0 b.f1 b.f2) (fun k => haymowref20_same.mono _ _ _ _ _ _ k) (by omega) (same_f a b ha hb)
theorem rd29 {l : List S29} {j : Nat} (hj : j < l.length) : rd_T29 l j = l[j] := by simp [rd_T29, List.getD, List.getElem?_eq_getElem hj]
theorem cnt_take_succ {l : List S29} {j : Nat} (hj : j < l.length) (s : List UInt8) : cnt ((l.map cvE).take (j + 1)) s = cnt ((l.map cvE).take j) s + if nm l[j].f0 l[j].f2 == s then 1 else 0 := by
  rw [List.take_succ_eq_append_getElem (by simpa using hj), cnt_snoc]
  simp [cvE]
theorem rsound_l1 {l : List S29} (hl : l.length ≤ 1000) (hp : ∀ e ∈ l, e.f2.length ≤ 1000) {i : Nat} (hi : i < l.length) (d : Nat) : ∀ (k j : Nat), j + d = i → 2002 + d < k →
    ∃ k', k ≤ k' + d + 1 ∧ haymowref20_Sound.l1 k l i ((cnt ((l.map cvE).take j) (nm l[i].f0 l[i].f2) : Int) + 1) j = if l[i].f1 = (cnt ((l.map cvE).take i) (nm l[i].f0 l[i].f2) : Int) + 1 then haymowref20_Sound.l0 k' l ((i + 1 : Nat) : Int) else some false := by
  induction d with
  | zero =>
    intro k j hj hk
    obtain ⟨k, rfl⟩ : ∃ m, k = m + 1 := ⟨k - 1, by omega⟩
    obtain rfl : j = i := by omega
    refine ⟨k, by omega, ?_⟩
    rw [haymowref20_Sound.l1.eq_2, if_neg (by omega), if_pos (by omega), if_pos (by omega), rd29 hi, wr (by omega) (by omega)]
    rfl
  | succ d ih =>
    intro k j hj hk
    obtain ⟨k, rfl⟩ : ∃ m, k = m + 1 := ⟨k - 1, by omega⟩
    have hjl : j < l.length := by omega
    obtain ⟨k', hk', h⟩ := ih k (j + 1) (by omega) (by omega)
    refine ⟨k', by omega, ?_⟩
    rw [haymowref20_Sound.l1.eq_2, if_pos (by omega), if_pos (by omega), if_pos (by omega), if_pos (by omega), if_pos (by omega), rd29 hi, rd29 hjl, same_fk _ _ (hp _ (List.getElem_mem hjl)) (hp _ (List.getElem_mem hi)) k (by omega)]
    simp only [Option.bind_some]
    rw [← h]
    have hc := cnt_take_succ hjl (nm l[i].f0 l[i].f2)
    have hcl := cnt_le ((l.map cvE).take j) (nm l[i].f0 l[i].f2)
    rw [List.length_take] at hcl
    have hs : sameE (cvE l[j]) (cvE l[i]) = (nm l[j].f0 l[j].f2 == nm l[i].f0 l[i].f2) := rfl
    rw [hs]
    have e1 : wrap64 ((j : Int) + 1) = ((j + 1 : Nat) : Int) := by rw [wr (by omega) (by omega)]; omega
    split
    · rename_i hb
      rw [hb, if_pos rfl] at hc
      rw [hc, e1, wr (by omega) (by omega)]
      congr 1
    · rename_i hb
      rw [Bool.not_eq_true] at hb
      rw [hb, if_neg (by decide)] at hc
      rw [hc, e1]
      rfl
theorem rsound_l0 {l : List S29} (hl : l.length ≤ 1000) (hp : ∀ e ∈ l, e.f2.length ≤ 1000) (d : Nat) : ∀ (k i : Nat), i + d = l.length → 4000 * (d + 1) < k → haymowref20_Sound.l0 k l i = some (sndL ((l.map cvE).take i) ((l.map cvE).drop i)) := by
  induction d with
  | zero =>
    intro k i hi hk
    obtain ⟨k, rfl⟩ : ∃ m, k = m + 1 := ⟨k - 1, by omega⟩
    rw [haymowref20_Sound.l0.eq_2, if_neg (by omega), List.drop_of_length_le (by simp; omega)]
    rfl
  | succ d ih =>
    intro k i hi hk
    obtain ⟨k, rfl⟩ : ∃ m, k = m + 1 := ⟨k - 1, by omega⟩
    have hil : i < l.length := by omega
    obtain ⟨k', hk', h⟩ := rsound_l1 hl hp hil i k 0 (by omega) (by omega)
    rw [haymowref20_Sound.l0.eq_2, if_pos (by omega)]
    have e0 : (cnt ((l.map cvE).take 0) (nm l[i].f0 l[i].f2) : Int) + 1 = 1 := by simp [cnt]
    rw [e0] at h
    rw [show (0 : Int) = ((0 : Nat) : Int) from rfl, h, ih k' (i + 1) (by omega) (by omega)]
    have hd : (l.map cvE).drop i = cvE l[i] :: (l.map cvE).drop (i + 1) := by
      rw [List.drop_eq_getElem_cons (by simpa using hil)]
      simp
    have ht : (l.map cvE).take (i + 1) = (l.map cvE).take i ++ [cvE l[i]] := by
      rw [List.take_succ_eq_append_getElem (by simpa using hil)]
      simp
    rw [hd, ht]
    show _ = some (if (cvE l[i]).f1 = (cnt ((l.map cvE).take i) (nm (cvE l[i]).f0 (cvE l[i]).f2) : Int) + 1 then _ else false)
    show (if l[i].f1 = _ then _ else _) = _
    split
    · rename_i h1
      exact (congrArg some (if_pos (show (cvE l[i]).f1 = (cnt ((l.map cvE).take i) (nm (cvE l[i]).f0 (cvE l[i]).f2) : Int) + 1 from h1))).symm
    · rename_i h1
      exact (congrArg some (if_neg (show ¬ (cvE l[i]).f1 = (cnt ((l.map cvE).take i) (nm (cvE l[i]).f0 (cvE l[i]).f2) : Int) + 1 from h1))).symm
theorem rsound_f {l : List S29} (hl : l.length ≤ 1000) (hp : ∀ e ∈ l, e.f2.length ≤ 1000) : haymowref20_Sound.f (4000 * (l.length + 1) + 1) l = some (sndL [] (l.map cvE)) :=
  rsound_l0 hl hp l.length _ 0 (by omega) (by omega)
end Go.Proofs.YtceankldidkohaaDoor.Core
