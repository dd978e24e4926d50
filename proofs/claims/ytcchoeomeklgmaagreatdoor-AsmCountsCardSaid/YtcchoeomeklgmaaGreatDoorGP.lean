/- The text of a program, and that it is read back: plain facts. -/
import Derived.Test.YtcchoeomeklgmaaGreatDoorAB
namespace Go.Proofs.YtcchoeomeklgmaaGreatDoor.Core
open Go.RowKit Go.Shelf Go.Proofs.YtcchoeomeklgmaaGreatDoorW.PrintWords Go.Proofs.YtcchoeomeklgmaaGreatDoorW.PrintMore Go.Proofs.YtcchoeomeklgmaaGreatDoor
set_option linter.unusedVariables false
set_option linter.unusedSimpArgs false
/-! Digits. -/
theorem digit_clean (c : UInt8) (hc : isDig c = true) : c ≠ 35 ∧ blankR c.toNat = false ∧ c ≠ 10 ∧ c ≠ 45 ∧ c ≠ 32 := by
  unfold isDig at hc
  simp only [Bool.and_eq_true, decide_eq_true_eq] at hc
  have h2 : ∀ m : UInt8, c = m → c.toNat = m.toNat := fun m h => by rw [h]
  refine ⟨fun h => ?_, ?_, fun h => ?_, fun h => ?_, fun h => ?_⟩
  · have := h2 _ h; have h3 : (35 : UInt8).toNat = 35 := rfl; omega
  · unfold blankR
    rw [decide_eq_false (by omega), decide_eq_false (by omega), decide_eq_false (by omega)]
    rfl
  · have := h2 _ h; have h3 : (10 : UInt8).toNat = 10 := rfl; omega
  · have := h2 _ h; have h3 : (45 : UInt8).toNat = 45 := rfl; omega
  · have := h2 _ h; have h3 : (32 : UInt8).toNat = 32 := rfl; omega
theorem dec_plain (n : Nat) (h : n < 10000000000) : plainL (Lib.decDigits n) = some (n : Int) ∧ (Lib.decDigits n).all isDig = true ∧ Lib.decDigits n ≠ [] ∧ (Lib.decDigits n).length ≤ 10 := by
  obtain ⟨i1, i2, i3, i4, i5⟩ := dec_is 9 n (by show n < 10000000000; exact h)
  have hp : plainB 10 (Lib.decDigits n) = true := by
    refine (plainM_iff 10 _).2 ⟨i4, by omega, i1, ?_⟩
    by_cases hn : n = 0
    · left; subst hn; rw [Lib.decDigits, dif_pos (by omega)]; rfl
    · exact .inr (i5 hn)
  exact ⟨by unfold plainL; rw [if_pos hp, i2], i1, i4, i3⟩
theorem itoa_nat (n : Nat) : Lib.itoa (n : Int) = Lib.decDigits n := by unfold Lib.itoa; rw [if_neg (by omega), Int.toNat_natCast]
theorem itoa_neg (n : Nat) (h : 0 < n) : Lib.itoa (-(n : Int)) = 45 :: Lib.decDigits n := by
  unfold Lib.itoa
  rw [if_pos (by omega)]
  congr 2
  omega
theorem head_dig {l : List UInt8} (h : l.all isDig = true) (hne : l ≠ []) : Lib.hasPrefix l [45] = false ∧ Lib.trimPrefix l [45] = l := by
  cases l with
  | nil => exact absurd rfl hne
  | cons c t =>
    have hc : c ≠ 45 := (digit_clean c (List.all_eq_true.1 h c List.mem_cons_self)).2.2.2.1
    have hp : Lib.hasPrefix (c :: t) [45] = false := by
      simp only [Lib.hasPrefix, List.isPrefixOf, Bool.and_true]
      rw [beq_eq_false_iff_ne]
      exact fun e => hc e.symm
    exact ⟨hp, by unfold Lib.trimPrefix; rw [hp]; rfl⟩
theorem signed_itoa (v : Int) (h0 : -2147483648 ≤ v) (h1 : v ≤ 2147483647) : signedL (Lib.itoa v) = some v := by
  by_cases hv : 0 ≤ v
  · obtain ⟨n, rfl⟩ := Int.eq_ofNat_of_zero_le hv
    obtain ⟨d1, d2, d3, _⟩ := dec_plain n (by omega)
    obtain ⟨e1, e2⟩ := head_dig d2 d3
    rw [itoa_nat]
    unfold signedL
    rw [e2, d1, e1, Option.bind_some, if_neg (by simp), if_pos (by omega)]
  · obtain ⟨n, rfl⟩ : ∃ n : Nat, v = -(n : Int) := ⟨(-v).toNat, by omega⟩
    obtain ⟨d1, d2, d3, _⟩ := dec_plain n (by omega)
    rw [itoa_neg n (by omega)]
    have hp : Lib.hasPrefix (45 :: Lib.decDigits n) [45] = true := by simp [Lib.hasPrefix]
    have htp : Lib.trimPrefix (45 :: Lib.decDigits n) [45] = Lib.decDigits n := by unfold Lib.trimPrefix; rw [if_pos hp]; rfl
    unfold signedL
    rw [htp, d1, hp, Option.bind_some, if_pos rfl, if_pos (by omega)]
theorem small_itoa (m : UInt8) (v : Int) (h0 : 0 ≤ v) (h1 : v ≤ 255) : smallL (m :: Lib.itoa v) m = some v := by
  obtain ⟨n, rfl⟩ := Int.eq_ofNat_of_zero_le h0
  obtain ⟨d1, d2, d3, _⟩ := dec_plain n (by omega)
  have hp : Lib.hasPrefix (m :: Lib.decDigits n) [m] = true := by simp [Lib.hasPrefix]
  have htp : Lib.trimPrefix (m :: Lib.decDigits n) [m] = Lib.decDigits n := by unfold Lib.trimPrefix; rw [if_pos hp]; rfl
  rw [itoa_nat]
  unfold smallL
  rw [if_pos hp, htp, d1, Option.bind_some, if_pos h1]
theorem dec_clean (n : Nat) (h : n < 10000000000) : clean (Lib.decDigits n) ∧ (10 : UInt8) ∉ Lib.decDigits n ∧ (32 : UInt8) ∉ Lib.decDigits n := by
  obtain ⟨_, d2, _, _⟩ := dec_plain n h
  refine ⟨fun c hc => ?_, fun hc => ?_, fun hc => ?_⟩
  · have := digit_clean c (List.all_eq_true.1 d2 c hc)
    exact ⟨this.1, this.2.1⟩
  · exact (digit_clean _ (List.all_eq_true.1 d2 _ hc)).2.2.1 rfl
  · exact (digit_clean _ (List.all_eq_true.1 d2 _ hc)).2.2.2.2 rfl
/-- A word of a line: no blank, no note, no line's end. -/
def word (l : List UInt8) : Prop := l ≠ [] ∧ clean l ∧ (10 : UInt8) ∉ l ∧ (32 : UInt8) ∉ l
theorem itoa_word (v : Int) (h0 : -2147483648 ≤ v) (h1 : v ≤ 2147483647) : word (Lib.itoa v) ∧ (Lib.itoa v).length ≤ 11 := by
  by_cases hv : 0 ≤ v
  · obtain ⟨n, rfl⟩ := Int.eq_ofNat_of_zero_le hv
    rw [itoa_nat]
    obtain ⟨_, _, d3, d4⟩ := dec_plain n (by omega)
    obtain ⟨c1, c2, c3⟩ := dec_clean n (by omega)
    exact ⟨⟨d3, c1, c2, c3⟩, by omega⟩
  · obtain ⟨n, rfl⟩ : ∃ n : Nat, v = -(n : Int) := ⟨(-v).toNat, by omega⟩
    rw [itoa_neg n (by omega)]
    obtain ⟨_, _, d3, d4⟩ := dec_plain n (by omega)
    obtain ⟨c1, c2, c3⟩ := dec_clean n (by omega)
    refine ⟨⟨by simp, fun c hc => ?_, fun hc => ?_, fun hc => ?_⟩, by simp; omega⟩
    · rcases List.mem_cons.1 hc with rfl | hc
      · exact ⟨by decide, by decide⟩
      · exact c1 c hc
    · rcases List.mem_cons.1 hc with hc | hc
      · exact absurd hc (by decide)
      · exact c2 hc
    · rcases List.mem_cons.1 hc with hc | hc
      · exact absurd hc (by decide)
      · exact c3 hc
/-! The text. -/
def fieldWords : List UInt8 → List Int → List (List UInt8)
  | m :: ms, v :: vs => if m = 45 then fieldWords ms vs else (if m = 61 then Lib.itoa v else m :: Lib.itoa v) :: fieldWords ms vs
  | _, _ => []
def nameT (o : Int) : List UInt8 := namesL.getD (o.toNat - 1) []
def spaced (ws : List (List UInt8)) : List UInt8 := ws.flatMap (32 :: ·)
def lineT (i : Int × List Int) : List UInt8 := nameT i.1 ++ spaced (fieldWords (marksL i.1) i.2)
def headT (f : Fn) : List UInt8 := funcW ++ spaced [Lib.itoa f.1]
def linesT (p : List Fn) : List (List UInt8) := p.flatMap fun f => headT f :: f.2.map lineT
def joinN (ls : List (List UInt8)) : List UInt8 := ls.flatMap (· ++ [10])
def textT (p : List Fn) : List UInt8 := joinN (linesT p)
/-- May a field be told by a sign? -/
def fieldOk (m : UInt8) (v : Int) : Prop := if m = 45 then v = 0 else if m = 61 then -2147483648 ≤ v ∧ v ≤ 2147483647 else (0 ≤ v ∧ v ≤ 255)
def fieldsOk : List UInt8 → List Int → Prop
  | m :: ms, v :: vs => fieldOk m v ∧ fieldsOk ms vs
  | [], [] => True
  | _, _ => False
def GoodI (i : Int × List Int) : Prop := 1 ≤ i.1 ∧ i.1 ≤ 17 ∧ fieldsOk (marksL i.1) i.2
def GoodP (p : List Fn) : Prop := p.length ≤ 255 ∧ ∀ f ∈ p, (0 ≤ f.1 ∧ f.1 ≤ 255) ∧ f.2.length ≤ 255 ∧ ∀ i ∈ f.2, GoodI i
theorem fields_back : ∀ (ms : List UInt8) (vs : List Int), fieldsOk ms vs → fieldsL ms (fieldWords ms vs) = some (vs, [])
  | [], [], _ => rfl
  | m :: ms, v :: vs, h => by
    have ih := fields_back ms vs h.2
    have h1 := h.1
    unfold fieldOk at h1
    by_cases h45 : m = 45
    · subst h45
      rw [if_pos rfl] at h1
      rw [fieldWords, if_pos rfl, fieldsL_minus, ih, h1]
      rfl
    · rw [if_neg h45] at h1
      rw [fieldWords, if_neg h45, fieldsL_some m ms _ _ h45]
      by_cases h61 : m = 61
      · rw [if_pos h61] at h1
        rw [if_pos h61, if_pos h61, signed_itoa v h1.1 h1.2, Option.bind_some, ih]
        rfl
      · rw [if_neg h61] at h1
        rw [if_neg h61, if_neg h61, small_itoa m v h1.1 h1.2, Option.bind_some, ih]
        rfl
  | [], v :: vs, h => h.elim
  | m :: ms, [], h => h.elim
theorem words_spaced : ∀ (ws : List (List UInt8)) (a : List UInt8), word a → (∀ x ∈ ws, word x) → wordsL (a ++ spaced ws) = a :: ws
  | [], a, ha, _ => by
    rw [show spaced [] = [] from rfl, List.append_nil]
    exact words_one a ha.2.1 ha.1
  | x :: ws, a, ha, h => by
    have e : a ++ spaced (x :: ws) = a ++ 32 :: (x ++ spaced ws) := by simp [spaced]
    rw [e, words_cons a _ ha.2.1 ha.1, words_spaced ws x (h x List.mem_cons_self) (fun y hy => h y (List.mem_cons_of_mem _ hy))]
/-- The signs themselves are clean. -/
theorem marks_clean : ∀ o : Fin 18, ∀ m ∈ marksL (o.val : Int), m ≠ 35 ∧ blankR m.toNat = false ∧ m ≠ 10 ∧ m ≠ 32 := by decide +kernel
theorem names_word : ∀ j : Fin 17, (namesL.getD j.val []) ≠ [] ∧ (∀ c ∈ namesL.getD j.val [], (c ≠ 35 ∧ blankR c.toNat = false) ∧ c ≠ 10 ∧ c ≠ 32) ∧ namedL (namesL.getD j.val []) = (j.val : Int) + 1 ∧ namesL.getD j.val [] ≠ funcW ∧ (namesL.getD j.val []).length ≤ 6 := by decide +kernel
theorem name_word (o : Int) (h1 : 1 ≤ o) (h2 : o ≤ 17) : word (nameT o) ∧ namedL (nameT o) = o ∧ nameT o ≠ funcW ∧ (nameT o).length ≤ 6 := by
  have h := names_word ⟨o.toNat - 1, by omega⟩
  have e : (((o.toNat - 1 : Nat) : Int) + 1) = o := by omega
  refine ⟨⟨h.1, fun c hc => (h.2.1 c hc).1, fun hc => (h.2.1 _ hc).2.1 rfl, fun hc => (h.2.1 _ hc).2.2 rfl⟩, ?_, h.2.2.2.1, h.2.2.2.2⟩
  have := h.2.2.1
  rw [e] at this
  exact this
theorem fieldWords_word : ∀ (ms : List UInt8) (vs : List Int), (∀ m ∈ ms, m ≠ 35 ∧ blankR m.toNat = false ∧ m ≠ 10 ∧ m ≠ 32) → fieldsOk ms vs → (∀ x ∈ fieldWords ms vs, word x ∧ x.length ≤ 12) ∧ (fieldWords ms vs).length ≤ ms.length
  | [], [], _, _ => ⟨fun x hx => by simp [fieldWords] at hx, Nat.le_refl _⟩
  | m :: ms, v :: vs, hm, h => by
    obtain ⟨i1, i2⟩ := fieldWords_word ms vs (fun x hx => hm x (List.mem_cons_of_mem _ hx)) h.2
    have h1 := h.1
    unfold fieldOk at h1
    rw [fieldWords]
    by_cases h45 : m = 45
    · rw [if_pos h45]
      exact ⟨i1, by simp; omega⟩
    · rw [if_neg h45] at h1 ⊢
      refine ⟨fun x hx => ?_, by simp; omega⟩
      rcases List.mem_cons.1 hx with rfl | hx
      · by_cases h61 : m = 61
        · rw [if_pos h61] at h1 ⊢
          have := itoa_word v h1.1 h1.2
          exact ⟨this.1, by omega⟩
        · rw [if_neg h61] at h1 ⊢
          obtain ⟨hw, hl⟩ := itoa_word v (by omega) (by omega)
          have hmm := hm m List.mem_cons_self
          refine ⟨⟨by simp, fun c hc => ?_, fun hc => ?_, fun hc => ?_⟩, by simp; omega⟩
          · rcases List.mem_cons.1 hc with rfl | hc
            · exact ⟨hmm.1, hmm.2.1⟩
            · exact hw.2.1 c hc
          · rcases List.mem_cons.1 hc with hc | hc
            · exact hmm.2.2.1 hc.symm
            · exact hw.2.2.1 hc
          · rcases List.mem_cons.1 hc with hc | hc
            · exact hmm.2.2.2 hc.symm
            · exact hw.2.2.2 hc
      · exact i1 x hx
  | [], v :: vs, _, h => h.elim
  | m :: ms, [], _, h => h.elim
theorem line_words (i : Int × List Int) (h : GoodI i) : wordsL (lineT i) = nameT i.1 :: fieldWords (marksL i.1) i.2 ∧ instrL (nameT i.1 :: fieldWords (marksL i.1) i.2) = some i := by
  obtain ⟨h1, h2, h3⟩ := h
  obtain ⟨hw, hn, _, _⟩ := name_word i.1 h1 h2
  have hmc := marks_clean ⟨i.1.toNat, by omega⟩
  rw [show ((i.1.toNat : Nat) : Int) = i.1 by omega] at hmc
  obtain ⟨f1, _⟩ := fieldWords_word _ _ hmc h3
  refine ⟨words_spaced _ _ hw (fun x hx => (f1 x hx).1), ?_⟩
  show (if 0 < namedL (nameT i.1) then (fieldsL (marksL (namedL (nameT i.1))) (fieldWords (marksL i.1) i.2)).bind (fun r => if r.2 = [] then some (namedL (nameT i.1), r.1) else none) else none) = some i
  rw [hn, if_pos (by omega), fields_back _ _ h3, Option.bind_some, if_pos rfl]
theorem parse_lines : ∀ (is : List (Int × List Int)) (q : List Fn) (a : Int) (js : List (Int × List Int)) (n : Nat) (rest : List (List UInt8)), (∀ i ∈ is, GoodI i) → js.length + is.length ≤ 255 →
    parseL (q ++ [(a, js)]) n (is.map lineT ++ rest) = parseL (q ++ [(a, js ++ is)]) (n + is.length) rest
  | [], q, a, js, n, rest, _, _ => by simp
  | i :: is, q, a, js, n, rest, h, hl => by
    obtain ⟨w1, w2⟩ := line_words i (h i List.mem_cons_self)
    obtain ⟨_, _, hf, _⟩ := name_word i.1 (h i List.mem_cons_self).1 (h i List.mem_cons_self).2.1
    have ht : takeL (q ++ [(a, js)]) (wordsL (lineT i)) = .ok (q ++ [(a, js ++ [i])]) := by
      rw [w1, takeL_instr _ _ _ hf, w2]
      simp only [List.getLast?_append, List.getLast?_singleton, Option.some_or]
      rw [if_pos (by simp at hl; omega)]
      congr 1
      rw [List.length_append, List.length_singleton, Nat.add_sub_cancel, List.set_append_right _ _ (Nat.le_refl _), Nat.sub_self]
      rfl
    rw [List.map_cons, List.cons_append, parseL, ht]
    show parseL (q ++ [(a, js ++ [i])]) (n + 1) _ = _
    rw [parse_lines is q a (js ++ [i]) (n + 1) rest (fun x hx => h x (List.mem_cons_of_mem _ hx)) (by simp at hl ⊢; omega)]
    simp only [List.append_assoc, List.singleton_append, List.length_cons]
    rw [show n + 1 + is.length = n + (is.length + 1) by omega]
theorem func_word : word funcW := ⟨by decide, by unfold clean funcW; decide, by decide, by decide⟩
theorem head_words (f : Fn) (h0 : 0 ≤ f.1) (h1 : f.1 ≤ 255) : wordsL (headT f) = [funcW, Lib.itoa f.1] :=
  words_spaced _ _ func_word (fun x hx => by rw [List.mem_singleton.1 hx]; exact (itoa_word f.1 (by omega) (by omega)).1)
theorem parse_text : ∀ (p q : List Fn) (n : Nat), q.length + p.length ≤ 255 → (∀ f ∈ p, (0 ≤ f.1 ∧ f.1 ≤ 255) ∧ f.2.length ≤ 255 ∧ ∀ i ∈ f.2, GoodI i) → parseL q n (linesT p) = .ok (q ++ p)
  | [], q, n, _, _ => by simp [linesT, parseL]
  | f :: p, q, n, hl, h => by
    obtain ⟨⟨a0, a1⟩, h2, h3⟩ := h f List.mem_cons_self
    have e : linesT (f :: p) = headT f :: (f.2.map lineT ++ linesT p) := by simp [linesT]
    have hpl : plainL (Lib.itoa f.1) = some f.1 := by
      obtain ⟨n, hn⟩ := Int.eq_ofNat_of_zero_le a0
      rw [hn, itoa_nat]
      exact (dec_plain n (by omega)).1
    have ht : takeL q (wordsL (headT f)) = .ok (q ++ [(f.1, [])]) := by
      rw [head_words f a0 a1]
      show (match plainL (Lib.itoa f.1) with
          | some n => if n ≤ 255 then (if q.length < 255 then (.ok (q ++ [(n, [])]) : Except Int (List Fn)) else (.error 3 : Except Int (List Fn))) else (.error 4 : Except Int (List Fn))
          | none => (.error 4 : Except Int (List Fn))) = _
      rw [hpl]
      simp only
      rw [if_pos a1, if_pos (by simp at hl; omega)]
    rw [e, parseL, ht]
    show parseL (q ++ [(f.1, [])]) (n + 1) _ = _
    rw [parse_lines f.2 q f.1 [] (n + 1) (linesT p) h3 (by simp; omega), List.nil_append, parse_text p (q ++ [f]) _ (by simp at hl ⊢; omega) (fun x hx => h x (List.mem_cons_of_mem _ hx))]
    simp
/-! Lines have no line's end. -/
theorem spaced_no10 (ws : List (List UInt8)) (h : ∀ x ∈ ws, (10 : UInt8) ∉ x) : (10 : UInt8) ∉ spaced ws := by
  intro hm
  obtain ⟨x, hx, hm⟩ := List.mem_flatMap.1 hm
  rcases List.mem_cons.1 hm with hm | hm
  · exact absurd hm (by decide)
  · exact h x hx hm
theorem spaced_len : ∀ (ws : List (List UInt8)) (m : Nat), (∀ x ∈ ws, x.length ≤ m) → (spaced ws).length ≤ ws.length * (m + 1)
  | [], m, _ => by simp [spaced]
  | x :: ws, m, h => by
    have h1 := h x List.mem_cons_self
    have h2 := spaced_len ws m (fun y hy => h y (List.mem_cons_of_mem _ hy))
    have e : spaced (x :: ws) = 32 :: (x ++ spaced ws) := by simp [spaced]
    rw [e]
    simp only [List.length_cons, List.length_append, Nat.add_mul, Nat.one_mul]
    omega
theorem lineT_ok (i : Int × List Int) (h : GoodI i) : (10 : UInt8) ∉ lineT i ∧ (lineT i).length ≤ 58 := by
  obtain ⟨h1, h2, h3⟩ := h
  obtain ⟨hw, _, _, hl⟩ := name_word i.1 h1 h2
  have hmc := marks_clean ⟨i.1.toNat, by omega⟩
  rw [show ((i.1.toNat : Nat) : Int) = i.1 by omega] at hmc
  obtain ⟨f1, f2⟩ := fieldWords_word _ _ hmc h3
  rw [marksL_len] at f2
  refine ⟨fun hm => ?_, ?_⟩
  · rcases List.mem_append.1 hm with hm | hm
    · exact hw.2.2.1 hm
    · exact spaced_no10 _ (fun x hx => (f1 x hx).1.2.2.1) hm
  · have := spaced_len _ 12 (fun x hx => (f1 x hx).2)
    unfold lineT
    rw [List.length_append]
    omega
theorem headT_ok (f : Fn) (h0 : 0 ≤ f.1) (h1 : f.1 ≤ 255) : (10 : UInt8) ∉ headT f ∧ (headT f).length ≤ 58 := by
  obtain ⟨hw, hl⟩ := itoa_word f.1 (by omega) (by omega)
  refine ⟨fun hm => ?_, ?_⟩
  · rcases List.mem_append.1 hm with hm | hm
    · exact func_word.2.2.1 hm
    · exact spaced_no10 _ (fun x hx => by rw [List.mem_singleton.1 hx]; exact hw.2.2.1) hm
  · have := spaced_len [Lib.itoa f.1] 11 (fun x hx => by rw [List.mem_singleton.1 hx]; exact hl)
    unfold headT
    rw [List.length_append]
    simp only [List.length_singleton] at this
    have : funcW.length = 4 := rfl
    omega
theorem linesT_ok (p : List Fn) (h : ∀ f ∈ p, (0 ≤ f.1 ∧ f.1 ≤ 255) ∧ f.2.length ≤ 255 ∧ ∀ i ∈ f.2, GoodI i) : ∀ l ∈ linesT p, (10 : UInt8) ∉ l ∧ l.length ≤ 58 := by
  intro l hl
  obtain ⟨f, hf, hl⟩ := List.mem_flatMap.1 hl
  obtain ⟨⟨a0, a1⟩, _, h3⟩ := h f hf
  rcases List.mem_cons.1 hl with rfl | hl
  · exact headT_ok f a0 a1
  · obtain ⟨i, hi, rfl⟩ := List.mem_map.1 hl
    exact lineT_ok i (h3 i hi)
theorem splitB_join : ∀ (ls : List (List UInt8)), (∀ l ∈ ls, (10 : UInt8) ∉ l) → splitB 10 (joinN ls) = ls ++ [[]]
  | [], _ => rfl
  | l :: ls, h => by
    have e : joinN (l :: ls) = l ++ 10 :: joinN ls := by simp [joinN]
    rw [e, splitB_line _ l (h l List.mem_cons_self), splitB_join ls (fun x hx => h x (List.mem_cons_of_mem _ hx))]
    rfl
theorem parse_join (ls : List (List UInt8)) (h : ∀ l ∈ ls, (10 : UInt8) ∉ l) : parseL [] 0 (splitB 10 (joinN ls)) = parseL [] 0 ls := by
  rw [splitB_join ls h, parseL_append]
  cases parseL [] 0 ls with
  | error e => rfl
  | ok q => rfl
theorem joinN_len : ∀ (ls : List (List UInt8)) (m : Nat), (∀ l ∈ ls, l.length ≤ m) → (joinN ls).length ≤ (m + 1) * ls.length
  | [], _, _ => by simp [joinN]
  | l :: ls, m, h => by
    have h1 := h l List.mem_cons_self
    have h2 := joinN_len ls m (fun x hx => h x (List.mem_cons_of_mem _ hx))
    have e : joinN (l :: ls) = l ++ [10] ++ joinN ls := by simp [joinN]
    rw [e]
    simp only [List.length_append, List.length_cons, List.length_nil, Nat.mul_add, Nat.mul_one]
    omega
/-- What is printed is parsed as it was. -/
theorem text_back (p : List Fn) (h : GoodP p) : parseL [] 0 (splitB 10 (textT p)) = .ok p := by
  unfold textT
  rw [parse_join _ (fun l hl => (linesT_ok p h.2 l hl).1), parse_text p [] 0 (by simpa using h.1) h.2]
  rfl
theorem text_inj (p q : List Fn) (hp : GoodP p) (hq : GoodP q) (h : textT p = textT q) : p = q := by
  have h1 := text_back p hp
  rw [h, text_back q hq] at h1
  injection h1 with h1
  exact h1.symm
/-! The number of its lines. -/
theorem count_join : ∀ (ls : List (List UInt8)), (∀ l ∈ ls, (10 : UInt8) ∉ l) → (joinN ls).count 10 = ls.length
  | [], _ => rfl
  | l :: ls, h => by
    have e : joinN (l :: ls) = l ++ ([10] ++ joinN ls) := by simp [joinN]
    rw [e, List.count_append, List.count_append, count_join ls (fun x hx => h x (List.mem_cons_of_mem _ hx)), List.count_eq_zero_of_not_mem (h l List.mem_cons_self)]
    simp
    omega
theorem linesT_len : ∀ p : List Fn, (linesT p).length = p.length + (p.map fun f => f.2.length).sum
  | [] => rfl
  | f :: p => by
    have e : linesT (f :: p) = headT f :: (f.2.map lineT ++ linesT p) := by simp [linesT]
    rw [e, List.length_cons, List.length_append, List.length_map, linesT_len p]
    simp
    omega
/-! Blanks and notes change nothing. -/
def spread (l : List UInt8) : List UInt8 := l.flatMap fun c => if c = 32 then [32, 32, 9] else [c]
def notedL (note l : List UInt8) : List UInt8 := spread l ++ [13, 32, 35] ++ note
def notedT (note : List UInt8) (ls : List (List UInt8)) : List UInt8 := [35] ++ note ++ [10, 32, 9] ++ ls.flatMap fun l => notedL note l ++ [10, 10]
theorem wl_blank (b : UInt8) (hb : blankR b.toNat = true) (h35 : b ≠ 35) (t : List UInt8) : wl [] (b :: t) = wl [] t := by
  rw [wl, if_neg h35, if_pos hb, if_pos rfl]
theorem wl_bl (cur : List UInt8) (b : UInt8) (hb : blankR b.toNat = true) (h35 : b ≠ 35) (t : List UInt8) : wl cur (b :: t) = if cur = [] then wl [] t else cur :: wl [] t := by
  rw [wl, if_neg h35, if_pos hb]
theorem wl_nil (cur : List UInt8) : wl cur [] = if cur = [] then [] else [cur] := by rw [wl]
theorem wl_cons (cur : List UInt8) (c : UInt8) (t : List UInt8) : wl cur (c :: t) = if c = 35 then (if cur = [] then [] else [cur]) else if blankR c.toNat = true then (if cur = [] then wl [] t else cur :: wl [] t) else wl (cur ++ [c]) t := by rw [wl]
theorem wl_spread_go (note : List UInt8) : ∀ (l cur : List UInt8), wl cur (spread l ++ ([13, 32, 35] ++ note)) = wl cur l
  | [], cur => by
    show wl cur (13 :: 32 :: 35 :: note) = wl cur []
    have e : wl [] (32 :: 35 :: note) = [] := by rw [wl_blank 32 (by decide) (by decide), wl_cons, if_pos rfl, if_pos rfl]
    rw [wl_bl cur 13 (by decide) (by decide), e, wl_nil]
  | c :: l, cur => by
    have ih := fun cur => wl_spread_go note l cur
    by_cases h32 : c = 32
    · subst h32
      have e : spread (32 :: l) = 32 :: 32 :: 9 :: spread l := by simp [spread]
      rw [e]
      show wl cur (32 :: 32 :: 9 :: (spread l ++ ([13, 32, 35] ++ note))) = _
      have e2 : wl [] (32 :: 9 :: (spread l ++ ([13, 32, 35] ++ note))) = wl [] l := by
        rw [wl_blank 32 (by decide) (by decide), wl_blank 9 (by decide) (by decide), ih []]
      rw [wl_bl cur 32 (by decide) (by decide), e2, wl_bl cur 32 (by decide) (by decide)]
    · have e : spread (c :: l) = c :: spread l := by simp [spread, h32]
      rw [e]
      show wl cur (c :: (spread l ++ ([13, 32, 35] ++ note))) = _
      rw [wl_cons, wl_cons, ih [], ih (cur ++ [c])]
theorem noted_words (note l : List UInt8) : wordsL (notedL note l) = wordsL l := by
  unfold notedL wordsL
  rw [List.append_assoc]
  exact wl_spread_go note l []
theorem noted_first (note l : List UInt8) : wordsL ([32, 9] ++ notedL note l) = wordsL l := by
  show wl [] (32 :: 9 :: notedL note l) = _
  rw [wl_blank 32 (by decide) (by decide), wl_blank 9 (by decide) (by decide)]
  exact noted_words note l
theorem note_words (note : List UInt8) : wordsL ([35] ++ note) = [] := by
  show wl [] (35 :: note) = []
  rw [wl, if_pos rfl, if_pos rfl]
theorem spread_no10 (l : List UInt8) (h : (10 : UInt8) ∉ l) : (10 : UInt8) ∉ spread l := by
  intro hm
  obtain ⟨c, hc, hm⟩ := List.mem_flatMap.1 hm
  by_cases h32 : c = 32
  · rw [if_pos h32] at hm
    exact absurd hm (by decide)
  · rw [if_neg h32, List.mem_singleton] at hm
    exact h (hm ▸ hc)
theorem notedL_no10 (note l : List UInt8) (hn : (10 : UInt8) ∉ note) (h : (10 : UInt8) ∉ l) : (10 : UInt8) ∉ notedL note l := by
  unfold notedL
  simp only [List.mem_append]
  rintro ((hm | hm) | hm)
  · exact spread_no10 l h hm
  · exact absurd hm (by decide)
  · exact hn hm
theorem parse_quiet (p : List Fn) (n : Nat) (l : List UInt8) (ls : List (List UInt8)) (h : wordsL l = []) : parseL p n (l :: ls) = parseL p (n + 1) ls := by
  rw [parseL, h]
  rfl
/-- The program alone, of lines read. -/
def okOf : Except (Nat × Int) (List Fn) → Option (List Fn)
  | .ok p => some p
  | .error _ => none
theorem parse_any_n : ∀ (ls : List (List UInt8)) (p : List Fn) (n m : Nat), okOf (parseL p n ls) = okOf (parseL p m ls)
  | [], p, n, m => rfl
  | l :: ls, p, n, m => by
    rw [parseL, parseL]
    cases takeL p (wordsL l) with
    | error e => rfl
    | ok q => exact parse_any_n ls q (n + 1) (m + 1)
theorem noted_rest (note : List UInt8) (hn : (10 : UInt8) ∉ note) : ∀ (ls : List (List UInt8)) (p : List Fn) (n : Nat), (∀ l ∈ ls, (10 : UInt8) ∉ l) → okOf (parseL p n (splitB 10 (ls.flatMap fun l => notedL note l ++ [10, 10]))) = okOf (parseL p n ls)
  | [], p, n, _ => rfl
  | l :: ls, p, n, h => by
    have e : ((l :: ls).flatMap fun l => notedL note l ++ [10, 10]) = notedL note l ++ 10 :: ([] ++ 10 :: (ls.flatMap fun l => notedL note l ++ [10, 10])) := by simp
    rw [e, splitB_line _ _ (notedL_no10 note l hn (h l List.mem_cons_self)), splitB_line _ [] (by simp), parseL, parseL, noted_words]
    cases takeL p (wordsL l) with
    | error e => rfl
    | ok q =>
      show okOf (parseL q (n + 1) ([] :: _)) = okOf (parseL q (n + 1) ls)
      rw [parse_quiet q (n + 1) [] _ rfl, noted_rest note hn ls q (n + 1 + 1) (fun x hx => h x (List.mem_cons_of_mem _ hx))]
      exact parse_any_n _ _ _ _
theorem noted_back (note : List UInt8) (hn : (10 : UInt8) ∉ note) (ls : List (List UInt8)) (h : ∀ l ∈ ls, (10 : UInt8) ∉ l) : okOf (parseL [] 0 (splitB 10 (notedT note ls))) = okOf (parseL [] 0 ls) := by
  have e : notedT note ls = ([35] ++ note) ++ 10 :: ([32, 9] ++ ls.flatMap fun l => notedL note l ++ [10, 10]) := by simp [notedT]
  have h35 : (10 : UInt8) ∉ ([35] ++ note) := by
    intro hm
    rcases List.mem_append.1 hm with hm | hm
    · exact absurd hm (by decide)
    · exact hn hm
  rw [e, splitB_line _ _ h35, parse_quiet [] 0 _ _ (note_words note)]
  cases ls with
  | nil => rfl
  | cons l ls =>
    have e2 : ([32, 9] ++ (l :: ls).flatMap fun l => notedL note l ++ [10, 10]) = ([32, 9] ++ notedL note l) ++ 10 :: ([] ++ 10 :: (ls.flatMap fun l => notedL note l ++ [10, 10])) := by simp
    have h10 : (10 : UInt8) ∉ ([32, 9] ++ notedL note l) := by
      intro hm
      rcases List.mem_append.1 hm with hm | hm
      · exact absurd hm (by decide)
      · exact notedL_no10 note l hn (h l List.mem_cons_self) hm
    rw [e2, splitB_line _ _ h10, splitB_line _ [] (by simp), parseL, parseL, noted_first]
    cases takeL [] (wordsL l) with
    | error e => rfl
    | ok q =>
      show okOf (parseL q _ ([] :: _)) = okOf (parseL q _ ls)
      rw [parse_quiet q _ [] _ rfl, noted_rest note hn ls q _ (fun x hx => h x (List.mem_cons_of_mem _ hx))]
      exact parse_any_n _ _ _ _
end Go.Proofs.YtcchoeomeklgmaaGreatDoor.Core
