/- The words of a line: what the program's cutting and splitting come to, byte by byte, as plain lists. asm: what gives up, and the numbers. asm: numbers behind a sign. asm: a small number behind a sign; the operations' names. code: the operations' names. asm.marks: a map's literal, and one look into it. asm.guarded's two closures: what is blank; the recover. asm.instr: what it comes to, and the steps of its loop. asm.instr: its walk. asm: a program in memory that the call itself has made: its last function grows. asm: what a line's words do to a program, as plain lists. asm.take: its walk. -/
import Derived.Lib.MapLaws
import Derived.Lib.FieldsP
import Derived.Lib.IndexMore
import Derived.Lib.DecodeN
import Derived.Lib.PathFns
import Derived.Lib.RuneCountTail
import Derived.Test.YtbiajfkencamiaaGreatDoorRC
import Derived.WalkLawsBesides
import Derived.Maps.OwnSet
import Derived.Maps.OwnOps
import Derived.Maps.StringElems
import Derived.Defers
import Derived.Recover
import Derived.Test.YtbiajfkencamiaaGreatDoorPK
import Derived.RangeFuncBox
import Derived.Test.YtbiajfkencamiaaGreatDoorRegion
/-! AA -/
/-! The words of a line: what the program's cutting and splitting come to, byte by byte, as plain lists. -/
namespace Go.Proofs.YtbiajfkencamiaaGreatDoor.Core
set_option linter.unusedVariables false
set_option linter.unusedSimpArgs false
def blankR (r : Nat) : Bool := decide (r = 32) || decide (r = 9) || decide (r = 13)
/-- A rune at a place: a byte below 128 is itself; else no rune below 128, and the bytes that it takes are none below 128. -/
theorem dec_step (s : ByteArray) (i : Nat) (h : i < s.size) : 1 ≤ (Utf8.decode s i).2 ∧ (Utf8.decode s i).2 ≤ s.size - i ∧
    ((s.get! i).toNat < 128 → (Utf8.decode s i) = ((s.get! i).toNat, 1)) ∧
    (128 ≤ (s.get! i).toNat → 128 ≤ (Utf8.decode s i).1 ∧ ∀ k, k < (Utf8.decode s i).2 → 128 ≤ (s.get! (i + k)).toNat) := by
  rw [Lib.decode_at]
  have hs : Lib.decodeN (s.size - i) (s.get! i).toNat (s.get! (i + 1)).toNat (s.get! (i + 2)).toNat (s.get! (i + 3)).toNat = Lib.decodeN (s.size - i) (s.get! i).toNat (s.get! (i + 1)).toNat (s.get! (i + 2)).toNat (s.get! (i + 3)).toNat := rfl
  rcases Lib.decodeN_shape (s.size - i) (s.get! i).toNat (s.get! (i + 1)).toNat (s.get! (i + 2)).toNat (s.get! (i + 3)).toNat with ⟨h0, e⟩ | ⟨h0, h1, h2, h3, e⟩ | ⟨h0, h1, h2, h3, h4, h5, e⟩ | ⟨h0, h1, h2, h3, h4, h5, h6, e⟩ | e
  · rw [e]
    exact ⟨by simp, by simp; omega, fun _ => rfl, fun h => by omega⟩
  · rw [e]
    refine ⟨by simp, by simp; omega, fun h => by omega, fun h => ⟨by simpa using h3, fun k hk => ?_⟩⟩
    simp at hk
    rcases (show k = 0 ∨ k = 1 by omega) with rfl | rfl
    · exact h
    · omega
  · rw [e]
    refine ⟨by simp, by simp; omega, fun h => by omega, fun h => ⟨by simp; omega, fun k hk => ?_⟩⟩
    simp at hk
    rcases (show k = 0 ∨ k = 1 ∨ k = 2 by omega) with rfl | rfl | rfl
    · exact h
    · omega
    · omega
  · rw [e]
    refine ⟨by simp, by simp; omega, fun h => by omega, fun h => ⟨by simp; omega, fun k hk => ?_⟩⟩
    simp at hk
    rcases (show k = 0 ∨ k = 1 ∨ k = 2 ∨ k = 3 by omega) with rfl | rfl | rfl | rfl
    · exact h
    · omega
    · omega
    · omega
  · by_cases hlt : (s.get! i).toNat < 128
    · have e2 : Lib.decodeN (s.size - i) (s.get! i).toNat (s.get! (i + 1)).toNat (s.get! (i + 2)).toNat (s.get! (i + 3)).toNat = ((s.get! i).toNat, 1) := by unfold Lib.decodeN; rw [if_pos hlt]
      rw [e2]
      exact ⟨by simp, by simp; omega, fun _ => rfl, fun h => by omega⟩
    · rw [e]
      refine ⟨by simp, by simp; omega, fun h => absurd h hlt, fun h => ⟨by simp, fun k hk => ?_⟩⟩
      simp at hk
      subst hk
      exact h
/-- The pieces' ends, byte by byte. -/
def spansB (s : ByteArray) : Nat → Nat → Option Nat → List (Nat × Nat) → List (Nat × Nat) × Option Nat
  | 0, _, st, acc => (acc, st)
  | f + 1, pos, st, acc =>
    if pos < s.size then
      (if blankR (s.get! pos).toNat then
        (match st with
         | some a => spansB s f (pos + 1) none (acc ++ [(a, pos)])
         | none => spansB s f (pos + 1) none acc)
       else
        (match st with
         | some a => spansB s f (pos + 1) (some a) acc
         | none => spansB s f (pos + 1) (some pos) acc))
    else (acc, st)
theorem blankR_high {n : Nat} (h : 128 ≤ n) : blankR n = false := by
  unfold blankR
  rw [decide_eq_false (by omega), decide_eq_false (by omega), decide_eq_false (by omega)]
  rfl
/-- Bytes that are not blank pass by a piece that has begun. -/
theorem spansB_skip (s : ByteArray) (a : Nat) (acc : List (Nat × Nat)) : ∀ (k f pos : Nat), pos + k ≤ s.size → (∀ q, q < k → blankR (s.get! (pos + q)).toNat = false) → spansB s (f + k) pos (some a) acc = spansB s f (pos + k) (some a) acc
  | 0, f, pos, _, _ => rfl
  | k + 1, f, pos, h, hq => by
    have h0 := hq 0 (by omega)
    rw [Nat.add_zero] at h0
    rw [← Nat.add_assoc, spansB, if_pos (by omega), h0]
    simp only [Bool.false_eq_true, if_false]
    rw [spansB_skip s a acc k f (pos + 1) (by omega) (fun q hlt => by have := hq (q + 1) (by omega); rwa [show pos + (q + 1) = pos + 1 + q by omega] at this)]
    congr 1
    omega
theorem spansP_step (s : ByteArray) (f pos : Nat) (st : Option Nat) (acc : List (Nat × Nat)) (hlt : pos < s.size) : Lib.spansFromP blankR s (f + 1) pos st acc = if blankR (Utf8.decode s pos).1 then (match st with | some a => Lib.spansFromP blankR s f (pos + (Utf8.decode s pos).2) none (acc ++ [(a, pos)]) | none => Lib.spansFromP blankR s f (pos + (Utf8.decode s pos).2) none acc) else (match st with | some a => Lib.spansFromP blankR s f (pos + (Utf8.decode s pos).2) (some a) acc | none => Lib.spansFromP blankR s f (pos + (Utf8.decode s pos).2) (some pos) acc) := by
  cases st <;> rw [Lib.spansFromP, if_pos hlt]
theorem spansB_step (s : ByteArray) (g pos : Nat) (st : Option Nat) (acc : List (Nat × Nat)) (hlt : pos < s.size) : spansB s (g + 1) pos st acc = if blankR (s.get! pos).toNat then (match st with | some a => spansB s g (pos + 1) none (acc ++ [(a, pos)]) | none => spansB s g (pos + 1) none acc) else (match st with | some a => spansB s g (pos + 1) (some a) acc | none => spansB s g (pos + 1) (some pos) acc) := by
  cases st <;> rw [spansB, if_pos hlt]
theorem spans_eq (s : ByteArray) : ∀ (n f g pos : Nat) (st : Option Nat) (acc : List (Nat × Nat)), s.size - pos ≤ n → n ≤ f → n ≤ g → Lib.spansFromP blankR s f pos st acc = spansB s g pos st acc := by
  intro n
  induction n using Nat.strongRecOn with
  | _ n ih =>
  intro f g pos st acc h1 h2 h3
  by_cases hlt : pos < s.size
  · obtain ⟨f, rfl⟩ : ∃ m, f = m + 1 := ⟨f - 1, by omega⟩
    obtain ⟨g, rfl⟩ : ∃ m, g = m + 1 := ⟨g - 1, by omega⟩
    obtain ⟨d1, d2, d3, d4⟩ := dec_step s pos hlt
    rw [spansP_step s f pos st acc hlt, spansB_step s g pos st acc hlt]
    by_cases hb : (s.get! pos).toNat < 128
    · rw [d3 hb]
      cases blankR (s.get! pos).toNat <;> cases st <;> simp only [Bool.false_eq_true, if_true, if_false] <;> exact ih (n - 1) (by omega) f g _ _ _ (by omega) (by omega) (by omega)
    · obtain ⟨e1, e2⟩ := d4 (by omega)
      rw [blankR_high e1, blankR_high (by omega)]
      simp only [Bool.false_eq_true, if_false]
      obtain ⟨k, hk⟩ : ∃ k, (Utf8.decode s pos).2 = k + 1 := ⟨(Utf8.decode s pos).2 - 1, by omega⟩
      rw [hk] at e2 d2 ⊢
      have hg : g = (g - k) + k := by omega
      have hq : ∀ q, q < k → blankR (s.get! (pos + 1 + q)).toNat = false := fun q hq => blankR_high (by have := e2 (q + 1) (by omega); rwa [show pos + (q + 1) = pos + 1 + q by omega] at this)
      cases st with
      | none =>
        show Lib.spansFromP blankR s f (pos + (k + 1)) (some pos) acc = spansB s g (pos + 1) (some pos) acc
        rw [hg, spansB_skip s pos acc k (g - k) (pos + 1) (by omega) hq, show pos + 1 + k = pos + (k + 1) by omega]
        exact ih (n - (k + 1)) (by omega) f (g - k) _ _ _ (by omega) (by omega) (by omega)
      | some a =>
        show Lib.spansFromP blankR s f (pos + (k + 1)) (some a) acc = spansB s g (pos + 1) (some a) acc
        rw [hg, spansB_skip s a acc k (g - k) (pos + 1) (by omega) hq, show pos + 1 + k = pos + (k + 1) by omega]
        exact ih (n - (k + 1)) (by omega) f (g - k) _ _ _ (by omega) (by omega) (by omega)
  · have e1 := Lib.spansFromP_end blankR s f pos st acc hlt
    rw [e1]
    cases g with
    | zero => rfl
    | succ g => cases st <;> rw [spansB, if_neg hlt]

/-- Words of a line, its note left out: cur is the word that has begun. -/
def wl : List UInt8 → List UInt8 → List (List UInt8)
  | cur, [] => if cur = [] then [] else [cur]
  | cur, c :: t => if c = 35 then (if cur = [] then [] else [cur]) else if blankR c.toNat = true then (if cur = [] then wl [] t else cur :: wl [] t) else wl (cur ++ [c]) t
def wordsL (s : List UInt8) : List (List UInt8) := wl [] s
theorem cut_cons (c : UInt8) (t : List UInt8) : (Lib.cut (c :: t) [35]).1 = if c = 35 then [] else c :: (Lib.cut t [35]).1 := by
  by_cases h : c = 35
  · subst h
    simp [Lib.cut, Lib.index]
  · have hp : ([35] : List UInt8).isPrefixOf (c :: t) = false := by simp [List.isPrefixOf]; exact fun e => h e.symm
    have hi : Lib.index (c :: t) [35] = if Lib.index t [35] == -1 then -1 else Lib.index t [35] + 1 := by rw [Lib.index, hp]; rfl
    have hg := Lib.index_ge t [35]
    rw [if_neg h]
    unfold Lib.cut
    rw [hi]
    by_cases h1 : Lib.index t [35] = -1
    · rw [h1]; rfl
    · have h2 : 0 ≤ Lib.index t [35] := by omega
      have h3 : (Lib.index t [35] == -1) = false := by rw [beq_eq_false_iff_ne]; exact h1
      rw [h3]
      simp only [Bool.false_eq_true, if_false]
      rw [if_pos (by omega), if_pos h2]
      simp only
      rw [show (Lib.index t [35] + 1).toNat = (Lib.index t [35]).toNat + 1 by omega]
      rfl
theorem cut_nil : (Lib.cut [] [35]).1 = [] := by simp [Lib.cut, Lib.index]
theorem cut_clean : ∀ s : List UInt8, (35 : UInt8) ∉ (Lib.cut s [35]).1
  | [] => by rw [cut_nil]; simp
  | c :: t => by
    rw [cut_cons]
    by_cases h : c = 35
    · rw [if_pos h]; simp
    · rw [if_neg h]
      intro hm
      rcases List.mem_cons.1 hm with e | hm
      · exact h e.symm
      · exact cut_clean t hm
theorem cut_len : ∀ s : List UInt8, (Lib.cut s [35]).1.length ≤ s.length
  | [] => by rw [cut_nil]; simp
  | c :: t => by
    rw [cut_cons]
    have := cut_len t
    split <;> simp <;> omega
theorem wl_cut : ∀ (s cur : List UInt8), wl cur (Lib.cut s [35]).1 = wl cur s
  | [], cur => by rw [cut_nil]
  | c :: t, cur => by
    rw [cut_cons]
    by_cases h : c = 35
    · rw [if_pos h, wl, wl, if_pos h]
    · rw [if_neg h, wl, wl, if_neg h, if_neg h, wl_cut t, wl_cut t]
theorem drop_get (s : ByteArray) (i : Nat) (h : i < s.size) : s.data.toList.drop i = s.get! i :: s.data.toList.drop (i + 1) := by
  have hl : i < s.data.toList.length := by simpa using h
  rw [List.drop_eq_getElem_cons hl, ← Lib.getD_get!']
  simp [List.getD, List.getElem?_eq_getElem hl]
theorem ext_list (s : ByteArray) (a b : Nat) : (s.extract a b).data.toList = (s.data.toList.drop a).take (b - a) := by
  simp [ByteArray.data_extract, List.extract_eq_take_drop]
theorem take_more (l : List UInt8) (a p : Nat) (c : UInt8) (t : List UInt8) (ha : a ≤ p) (h : l.drop p = c :: t) : (l.drop a).take (p + 1 - a) = (l.drop a).take (p - a) ++ [c] := by
  have hl : p < l.length := by
    have := congrArg List.length h
    simp only [List.length_drop, List.length_cons] at this
    omega
  have hc : l[p] = c := by
    rw [List.drop_eq_getElem_cons hl] at h
    injection h
  rw [show p + 1 - a = (p - a) + 1 by omega, List.take_succ_eq_append_getElem (by simp; omega)]
  simp [List.getElem_drop, show a + (p - a) = p by omega, hc]
def curOf (s : ByteArray) (p : Nat) : Option Nat → List UInt8
  | some a => (s.data.toList.drop a).take (p - a)
  | none => []
theorem spansB_words (s : ByteArray) (hc : (35 : UInt8) ∉ s.data.toList) : ∀ (n f p : Nat) (st : Option Nat) (acc : List (Nat × Nat)), s.size - p = n → n ≤ f → p ≤ s.size → (∀ a, st = some a → a < p) →
    (Lib.closeSpans s (spansB s f p st acc)).map (fun x => (s.extract x.1 x.2).data.toList) = acc.map (fun x => (s.extract x.1 x.2).data.toList) ++ wl (curOf s p st) (s.data.toList.drop p) := by
  intro n
  induction n with
  | zero =>
    intro f p st acc h1 h2 h3 h4
    have hp : p = s.size := by omega
    subst hp
    have hd : s.data.toList.drop s.size = [] := List.drop_eq_nil_of_le (by simp)
    have e : spansB s f s.size st acc = (acc, st) := by
      cases f with
      | zero => rfl
      | succ f => cases st <;> rw [spansB, if_neg (by omega)]
    rw [e, hd]
    cases st with
    | none => simp [Lib.closeSpans, curOf, wl]
    | some a =>
      have ha := h4 a rfl
      have hne : curOf s s.size (some a) ≠ [] := by
        intro h
        have := congrArg List.length h
        simp only [curOf, List.length_take, List.length_drop, List.length_nil, Array.length_toList, ByteArray.size_data] at this
        omega
      rw [wl, if_neg hne]
      simp only [Lib.closeSpans, curOf, ext_list, List.map_append, List.map_cons, List.map_nil]
  | succ n ih =>
    intro f p st acc h1 h2 h3 h4
    obtain ⟨f, rfl⟩ : ∃ m, f = m + 1 := ⟨f - 1, by omega⟩
    have hlt : p < s.size := by omega
    have hd := drop_get s p hlt
    have h35 : s.get! p ≠ 35 := by
      intro h
      apply hc
      have : s.get! p ∈ s.data.toList.drop p := by rw [hd]; exact List.mem_cons_self
      exact h ▸ List.mem_of_mem_drop this
    rw [spansB_step s f p st acc hlt, hd, wl, if_neg h35]
    by_cases hb : blankR (s.get! p).toNat = true
    · rw [if_pos hb, if_pos hb]
      cases st with
      | none =>
        rw [ih f (p + 1) none acc (by omega) (by omega) (by omega) (by simp)]
        simp [curOf]
      | some a =>
        have ha := h4 a rfl
        have hne : curOf s p (some a) ≠ [] := by
          intro h
          have := congrArg List.length h
          simp only [curOf, List.length_take, List.length_drop, List.length_nil, Array.length_toList, ByteArray.size_data] at this
          omega
        show List.map _ (Lib.closeSpans s (spansB s f (p + 1) none (acc ++ [(a, p)]))) = _
        rw [ih f (p + 1) none (acc ++ [(a, p)]) (by omega) (by omega) (by omega) (by simp), if_neg hne]
        simp [curOf, ext_list]
    · rw [if_neg hb, if_neg hb]
      cases st with
      | none =>
        show List.map _ (Lib.closeSpans s (spansB s f (p + 1) (some p) acc)) = _
        rw [ih f (p + 1) (some p) acc (by omega) (by omega) (by omega) (by simp)]
        congr 2
        have := take_more s.data.toList p p _ _ (Nat.le_refl _) hd
        simpa [curOf] using this
      | some a =>
        have ha := h4 a rfl
        show List.map _ (Lib.closeSpans s (spansB s f (p + 1) (some a) acc)) = _
        rw [ih f (p + 1) (some a) acc (by omega) (by omega) (by omega) (by intro b hb; injection hb with hb; omega)]
        congr 2
        exact take_more s.data.toList a p _ _ (by omega) hd
/-- Words as the program has them. -/
abbrev wB (ws : List (List UInt8)) : List ByteArray := ws.map fun l => ⟨l.toArray⟩
theorem fields_words (s : ByteArray) (hc : (35 : UInt8) ∉ s.data.toList) : Lib.goFieldsP blankR s = wB (wordsL s.data.toList) := by
  have h := spansB_words s hc s.size s.size 0 none [] (by omega) (by omega) (by omega) (by simp)
  rw [← spans_eq s s.size s.size s.size 0 none [] (by omega) (by omega) (by omega)] at h
  have h2 := congrArg (List.map (fun l : List UInt8 => (⟨l.toArray⟩ : ByteArray))) h
  simp only [List.map_map, List.map_nil, List.nil_append, List.drop_zero] at h2
  unfold Lib.goFieldsP Lib.spansOfP wordsL
  refine Eq.trans ?_ h2
  apply List.map_congr_left
  intro x _
  apply ByteArray.ext
  apply Array.ext'
  simp
/-- The words of a line. -/
def wordsB (s : List UInt8) : List ByteArray := Lib.goFieldsP blankR ⟨(Lib.cut s [35]).1.toArray⟩
theorem words_eq (s : List UInt8) : wordsB s = wB (wordsL s) := by
  have h := fields_words ⟨(Lib.cut s [35]).1.toArray⟩ (by simpa using cut_clean s)
  unfold wordsB
  rw [h]
  simp only [List.toList_toArray]
  unfold wordsL
  rw [wl_cut]
end Go.Proofs.YtbiajfkencamiaaGreatDoor.Core
/-! asm: what gives up, and the numbers. -/
namespace Go.Proofs.YtbiajfkencamiaaGreatDoor.Core
open Go.RowKit Go.Shelf Go.Proofs.YtbiajfkencamiaaGreatDoorW.PrintWords Go.Proofs.YtbiajfkencamiaaGreatDoorW.PrintMore Go.Proofs.YtbiajfkencamiaaGreatDoor.P1 Go.Proofs.YtbiajfkencamiaaGreatDoor
set_option linter.unusedVariables false
set_option linter.unusedSimpArgs false
/-- What asm gives up with. -/
def wrongP (e : Int) : List PanicEntry := [{ v := .iface 277 (.agg #[.int .i64 e]), recovered := false }]
theorem need_ok (e : Int) (w : World) : Calls Tryz.prog 194 #[.bool true, .int .i64 e] w fun en w' => en = .returned (.tuple #[]) ∧ w' = w := by
  go_enter Tryz.func194, Tryz.ntmps194
  go_wp2_with fail
  go_end0
  exact ⟨rfl, rfl⟩
theorem need_no (e : Int) (w : World) : Calls Tryz.prog 194 #[.bool false, .int .i64 e] w fun en w' => en = .panicked (wrongP e) ∧ w' = w := by
  go_enter Tryz.func194, Tryz.ntmps194
  go_wp2_with fail
  exact ⟨rfl, rfl, rfl⟩
/-- A number, or a panic. -/
def Gives (w : World) : Option Int → Ending → World → Prop
  | some n, e, w' => e = .returned (.int .i64 n) ∧ Below w.heap.size w w'
  | none, e, w' => e = .panicked (wrongP 4) ∧ Below w.heap.size w w'
theorem plainM_iff (m : Nat) (x : List UInt8) : plainB m x = true ↔ x ≠ [] ∧ x.length ≤ m ∧ x.all isDig = true ∧ (x = [48] ∨ x.head? ≠ some 48) := by
  unfold plainB
  simp only [Bool.and_eq_true, Bool.or_eq_true, decide_eq_true_eq, Bool.not_eq_true', List.isEmpty_eq_false_iff]
  exact ⟨fun ⟨⟨⟨a, b⟩, c⟩, d⟩ => ⟨a, b, c, d⟩, fun ⟨a, b, c, d⟩ => ⟨⟨⟨a, b⟩, c⟩, d⟩⟩
/-- What plain digits tell. -/
def plainL (t : List UInt8) : Option Int := if plainB 10 t = true then some (val 0 t : Int) else none
theorem plainM_ok (m : Nat) (a : UInt8) (r : List UInt8) (h : Lib.trimS (a :: r) digs = []) (h6 : (a :: r).length ≤ m) : plainB m (a :: r) = (decide ((a :: r) = [48]) || decide (a ≠ 48)) := by
  have h1 := (trim_nil (a :: r)).1 h
  unfold plainB
  rw [h1, decide_eq_true h6]
  simp
theorem plainM_no (m : Nat) (a : UInt8) (r : List UInt8) (h : ¬ Lib.trimS (a :: r) digs = []) : plainB m (a :: r) = false := by
  have h1 : (a :: r).all isDig = false := by
    cases e : (a :: r).all isDig
    · rfl
    · exact absurd ((trim_nil (a :: r)).2 e) h
  unfold plainB
  rw [h1]
  simp
theorem plainM_long (m : Nat) (a : UInt8) (r : List UInt8) (h : ¬ (a :: r).length ≤ m) : plainB m (a :: r) = false := by
  unfold plainB
  rw [decide_eq_false h]
  simp
set_option maxHeartbeats 4000000 in
theorem aplain_any (t : List UInt8) (w : World) : Calls Tryz.prog 195 #[.string ⟨t.toArray⟩] w (Gives w (plainL t)) := by
  cases t with
  | nil =>
    go_enter Tryz.func195, Tryz.ntmps195
    go_wp2_with fail
    refine (need_no 4 _).mono ?_
    rintro _ _ ⟨rfl, rfl⟩
    exact ⟨rfl, rfl, Below.refl _ _⟩
  | cons a r =>
    by_cases h6 : (a :: r).length ≤ 10
    · have HT := Lib.hid (trim_any (a :: r) (by omega) w)
      have HA := Lib.hid (fun (h : plainB 10 (a :: r) = true) W1 => Tryz.strconv_Atoi ⟨(a :: r).toArray⟩ (val 0 (a :: r) : Int) (by simp [ByteArray.size] at h6 ⊢; omega) (by simpa using atoi_val (a :: r) (by simp) ((plainM_iff 10 _).1 h).2.2.1) W1)
      have hr10 : r.length ≤ 9 := by simpa using h6
      have H6 := Lib.hid h6
      have h6i : (r.length : Int) + 1 ≤ 10 := by omega
      have h6i2 : decide ((r.length : Int) + 1 ≤ 10) = true := decide_eq_true h6i
      clear h6 hr10
      go_enter Tryz.func195, Tryz.ntmps195
      go_wp2_with first
        | (refine HT.out.mono ?_
           rintro _ w5 ⟨rfl, hb⟩)
      · have e1 : Lib.trimS (a :: r) digs = [] := ‹_›
        have hbb : (a == 48 && r.isEmpty || ((a.toNat : Int) != 48)) = plainB 10 (a :: r) := by
          rw [plainM_ok 10 a r e1 H6.out, u8_ne]
          by_cases ha : a = 48 <;> cases r <;> simp [ha]
        show Calls Tryz.prog 194 #[.bool (a == 48 && r.isEmpty || ((a.toNat : Int) != 48)), _] w5 _
        rw [hbb]
        rcases hpl : plainB 10 (a :: r) with _ | _
        · refine (need_no 4 _).mono ?_
          rintro _ _ ⟨rfl, rfl⟩
          have HL : plainL (a :: r) = none := by unfold plainL; rw [hpl]; rfl
          rw [HL]
          exact ⟨rfl, rfl, hb⟩
        · have HL : plainL (a :: r) = some (val 0 (a :: r) : Int) := by unfold plainL; rw [hpl]; rfl
          generalize (val 0 (a :: r) : Int) = nv at HA HL
          have HLL := Lib.hid HL
          have HX := Lib.hid (HA.out hpl)
          clear HL HA hbb hpl
          refine (need_ok 4 _).mono ?_
          rintro _ _ ⟨rfl, rfl⟩
          go_wp2_with fail
          refine (HX.out _).mono ?_
          rintro _ _ ⟨rfl, t6, rfl⟩
          have hb6 := bytes_below hb hb.size 5 t6
          go_wp2_with fail
          go_ret
          rw [HLL.out]
          exact ⟨rfl, hb6⟩
      · have hab : a = 48 ∧ r = [] := by
          have h := ‹¬(¬a = 48 ∨ ¬r = [])›
          exact ⟨Classical.byContradiction fun h1 => h (.inl h1), Classical.byContradiction fun h1 => h (.inr h1)⟩
        have HL : plainL (a :: r) = some 0 := by rw [hab.1, hab.2]; decide
        have HX := Lib.hid (fun W1 => Tryz.strconv_Atoi ⟨#[48]⟩ 0 (by decide) (by decide) W1)
        have HLL := Lib.hid HL
        refine (need_ok 4 _).mono ?_
        rintro _ _ ⟨rfl, rfl⟩
        clear HL HA
        go_wp2_with fail
        refine (HX.out _).mono ?_
        rintro _ _ ⟨rfl, t6, rfl⟩
        have hb6 := bytes_below hb hb.size 5 t6
        go_wp2_with fail
        go_ret
        first | rw [HLL.out] | (rw [hab.1, hab.2] at HLL; rw [HLL.out])
        exact ⟨rfl, hb6⟩
      · exfalso
        simp_all
      · have e1 : ¬ Lib.trimS (a :: r) digs = [] := ‹_›
        have HL : plainL (a :: r) = none := by unfold plainL; rw [plainM_no 10 a r e1]; rfl
        rw [HL]
        have he : (Lib.trimS (a :: r) digs).isEmpty = false := by
          cases e : Lib.trimS (a :: r) digs
          · exact absurd e e1
          · rfl
        first
          | (refine (need_no 4 _).mono ?_
             rintro _ _ ⟨rfl, rfl⟩
             exact ⟨rfl, rfl, hb⟩)
          | (rw [he]
             refine (need_no 4 _).mono ?_
             rintro _ _ ⟨rfl, rfl⟩
             exact ⟨rfl, rfl, hb⟩)
    · have h6i : ¬ (r.length : Int) + 1 ≤ 10 := by simp at h6; omega
      have h6i2 : decide ((r.length : Int) + 1 ≤ 10) = false := decide_eq_false h6i
      have HL : Hid (plainL (a :: r) = none) := by show _ = _; unfold plainL; rw [plainM_long 10 a r h6]; rfl
      clear h6
      go_enter Tryz.func195, Tryz.ntmps195
      go_wp2_with fail
      refine (need_no 4 _).mono ?_
      rintro _ _ ⟨rfl, rfl⟩
      rw [HL.out]
      exact ⟨rfl, rfl, Below.refl _ _⟩
end Go.Proofs.YtbiajfkencamiaaGreatDoor.Core
/-! asm: numbers behind a sign. -/
namespace Go.Proofs.YtbiajfkencamiaaGreatDoor.Core
open Go.RowKit Go.Shelf Go.Proofs.YtbiajfkencamiaaGreatDoorW.PrintWords Go.Proofs.YtbiajfkencamiaaGreatDoorW.PrintMore Go.Proofs.YtbiajfkencamiaaGreatDoor.P1 Go.Proofs.YtbiajfkencamiaaGreatDoor
set_option linter.unusedVariables false
set_option linter.unusedSimpArgs false
theorem plainL_range {t : List UInt8} {n : Int} (h : plainL t = some n) : 0 ≤ n ∧ n < 10000000000 := by
  unfold plainL at h
  split at h
  · rename_i hp
    injection h with h
    obtain ⟨_, hl, hd, _⟩ := (plainM_iff 10 t).1 hp
    have h1 := val_le t 0 hd
    have h2 : 10 ^ t.length ≤ 10 ^ 10 := Nat.pow_le_pow_right (by omega) hl
    have h3 : (10 : Nat) ^ 10 = 10000000000 := by rfl
    omega
  · cases h
def signedL (t : List UInt8) : Option Int := (plainL (Lib.trimPrefix t [45])).bind fun n =>
  if Lib.hasPrefix t [45] = true then (if 0 < n ∧ n ≤ 2147483648 then some (-n) else none) else (if n < 2147483648 then some n else none)
def smallL (t : List UInt8) (m : UInt8) : Option Int := if Lib.hasPrefix t [m] = true then (plainL (Lib.trimPrefix t [m])).bind fun n => if n ≤ 255 then some n else none else none
theorem cut_any (t : List UInt8) (p : List UInt8) (w : World) : Calls Tryz.prog 68 #[.string ⟨t.toArray⟩, .string ⟨p.toArray⟩] w fun e w' => e = .returned (.tuple #[.string ⟨(Lib.trimPrefix t p).toArray⟩, .bool (Lib.hasPrefix t p)]) ∧ w' = w := by
  have h := Tryz.strings_CutPrefix ⟨t.toArray⟩ ⟨p.toArray⟩ w
  simpa using h
set_option maxHeartbeats 4000000 in
theorem asigned_any (t : List UInt8) (w : World) : Calls Tryz.prog 245 #[.string ⟨t.toArray⟩] w (Gives w (signedL t)) := by
  have HC := Lib.hid (cut_any t [45] w)
  have HS : Hid (signedL t = _) := rfl
  obtain ⟨u, hu⟩ : ∃ u, u = signedL t := ⟨_, rfl⟩
  rw [← hu]
  unfold signedL at hu
  generalize Lib.hasPrefix t [45] = b at HC hu
  generalize Lib.trimPrefix t [45] = x at HC hu
  obtain ⟨T, hT⟩ : ∃ T : ByteArray, T = ⟨t.toArray⟩ := ⟨_, rfl⟩
  rw [← hT] at HC ⊢
  have HP := Lib.hid (aplain_any x w)
  have HR := Lib.hid (fun n => plainL_range (t := x) (n := n))
  generalize plainL x = y at HP HR hu
  obtain ⟨X, hX⟩ : ∃ X : ByteArray, X = ⟨x.toArray⟩ := ⟨_, rfl⟩
  rw [← hX] at HC HP
  have HU := Lib.hid hu
  clear HS hu hT hX
  go_enter Tryz.func245, Tryz.ntmps245
  go_wp2_with fail
  refine HC.out.mono ?_
  rintro _ _ ⟨rfl, rfl⟩
  go_wp2_with fail
  refine HP.out.mono ?_
  intro e w1 hg
  cases y with
  | none =>
    obtain ⟨rfl, hb⟩ := hg
    have hu : u = none := HU.out
    rw [hu]
    exact ⟨rfl, rfl, hb⟩
  | some n =>
    obtain ⟨rfl, hb⟩ := hg
    obtain ⟨r0, r1⟩ := HR.out n rfl
    cases b with
    | false =>
      have hu : u = if n < 2147483648 then some n else none := HU.out
      have g1 : -2147483648 ≤ n := by omega
      have g2 : decide (n ≥ -2147483648) = true := decide_eq_true g1
      by_cases h31 : n < 2147483648
      · rw [if_pos h31] at hu
        have HUU := Lib.hid hu
        have g3 : decide (n < 2147483648) = true := decide_eq_true h31
        clear hu
        go_wp2_with fail
        refine (need_ok 4 _).mono ?_
        rintro _ _ ⟨rfl, rfl⟩
        go_wp2_with fail
        go_ret
        rw [HUU.out]
        exact ⟨rfl, hb⟩
      · rw [if_neg h31] at hu
        have HUU := Lib.hid hu
        have g3 : decide (n < 2147483648) = false := decide_eq_false h31
        clear hu
        go_wp2_with fail
        refine (need_no 4 _).mono ?_
        rintro _ _ ⟨rfl, rfl⟩
        refine ⟨rfl, ?_⟩
        rw [HUU.out]
        exact ⟨rfl, hb⟩
    | true =>
      have hu : u = if 0 < n ∧ n ≤ 2147483648 then some (-n) else none := HU.out
      by_cases h0 : 0 < n
      · have g0 : decide (n > 0) = true := decide_eq_true h0
        have gw : wrap64 (-n) = -n := by unfold wrap64; omega
        have g3 : -n < 2147483648 := by omega
        have g4 : decide (-n < 2147483648) = true := decide_eq_true g3
        by_cases h31 : n ≤ 2147483648
        · rw [if_pos ⟨h0, h31⟩] at hu
          have HUU := Lib.hid hu
          have g1 : -2147483648 ≤ -n := by omega
          have g2 : decide (-n ≥ -2147483648) = true := decide_eq_true g1
          clear hu
          go_wp2_with fail
          refine (need_ok 4 _).mono ?_
          rintro _ _ ⟨rfl, rfl⟩
          go_wp2_with fail
          refine (need_ok 4 _).mono ?_
          rintro _ _ ⟨rfl, rfl⟩
          go_wp2_with fail
          go_ret
          rw [HUU.out]
          exact ⟨rfl, hb⟩
        · rw [if_neg (fun h => h31 h.2)] at hu
          have HUU := Lib.hid hu
          have g1 : ¬ -2147483648 ≤ -n := by omega
          have g2 : decide (-n ≥ -2147483648) = false := decide_eq_false g1
          clear hu
          go_wp2_with fail
          refine (need_ok 4 _).mono ?_
          rintro _ _ ⟨rfl, rfl⟩
          go_wp2_with fail
          refine (need_no 4 _).mono ?_
          rintro _ _ ⟨rfl, rfl⟩
          refine ⟨rfl, ?_⟩
          rw [HUU.out]
          exact ⟨rfl, hb⟩
      · rw [if_neg (fun h => h0 h.1)] at hu
        have HUU := Lib.hid hu
        have g0 : decide (n > 0) = false := decide_eq_false h0
        clear hu
        go_wp2_with fail
        refine (need_no 4 _).mono ?_
        rintro _ _ ⟨rfl, rfl⟩
        refine ⟨rfl, ?_⟩
        rw [HUU.out]
        exact ⟨rfl, hb⟩
end Go.Proofs.YtbiajfkencamiaaGreatDoor.Core
/-! asm: a small number behind a sign; the operations' names. -/
namespace Go.Proofs.YtbiajfkencamiaaGreatDoor.Core
open Go.RowKit Go.Shelf Go.Proofs.YtbiajfkencamiaaGreatDoorW.PrintWords Go.Proofs.YtbiajfkencamiaaGreatDoorW.PrintMore Go.Proofs.YtbiajfkencamiaaGreatDoor.P1 Go.Proofs.YtbiajfkencamiaaGreatDoor
set_option linter.unusedVariables false
set_option linter.unusedSimpArgs false
theorem conv_one (m : UInt8) (w : World) (W : World) (h : W.heap[w.heap.size]? = some (.cells #[.int .u8 m.toNat] 5 (0, 0))) : (convert 32 9 (.slice (some ⟨w.heap.size, 0, none⟩) 1 1)).run Tryz.prog W = .ok (.string ⟨#[m]⟩) W := by
  have hr : ReadsOf (Value.int .u8) (0 : Int) W (some ⟨w.heap.size, 0, none⟩) 1 [(m.toNat : Int)] := ⟨rfl, by omega, fun _ => ⟨_, rfl, fun j hj => by
    obtain rfl : j = 0 := by simpa using hj
    rw [add_plain]
    simp [World.cell?, h]⟩⟩
  have hc := Kd.C_string (P := Tryz.prog) (src := 32) (dst := 9) (c := 1) Tryz.underlying32 Tryz.underlying5 Tryz.underlying9 (Kd.C_of_reads (enc := Value.int .u8) (d := (0 : Int)) (h1 := fun _ => rfl) hr)
  rw [hc]
  simp [strOfNums]
set_option maxHeartbeats 4000000 in
theorem asmall_any (t : List UInt8) (m : UInt8) (w : World) : Calls Tryz.prog 246 #[.string ⟨t.toArray⟩, .int .u8 m.toNat] w (Gives w (smallL t m)) := by
  have HC := Lib.hid (fun W => cut_any t [m] W)
  have hcv := conv_one m w (w.alloc (.cells #[.int .u8 m.toNat] 5)) (heap_alloc_new w _)
  obtain ⟨u, hu⟩ : ∃ u, u = smallL t m := ⟨_, rfl⟩
  rw [← hu]
  unfold smallL at hu
  generalize Lib.hasPrefix t [m] = b at HC hu
  generalize Lib.trimPrefix t [m] = x at HC hu
  obtain ⟨T, hT⟩ : ∃ T : ByteArray, T = ⟨t.toArray⟩ := ⟨_, rfl⟩
  rw [← hT] at HC ⊢
  have HP := Lib.hid (fun W => aplain_any x W)
  have HR := Lib.hid (fun n => plainL_range (t := x) (n := n))
  generalize plainL x = y at HP HR hu
  obtain ⟨X, hX⟩ : ∃ X : ByteArray, X = ⟨x.toArray⟩ := ⟨_, rfl⟩
  rw [← hX] at HC HP
  obtain ⟨M, hM⟩ : ∃ M : ByteArray, M = ⟨#[m]⟩ := ⟨_, rfl⟩
  have HC2 : Hid (∀ W, Calls Tryz.prog 68 #[.string T, .string M] W fun e w' => e = .returned (.tuple #[.string X, .bool b]) ∧ w' = W) := by rw [hM]; exact HC.out
  rw [← hM] at hcv
  have HU := Lib.hid hu
  generalize (m.toNat : Int) = mv at *
  clear HC hu hT hX hM
  go_enter Tryz.func246, Tryz.ntmps246
  go_wp2_with fail
  refine (HC2.out _).mono ?_
  rintro _ _ ⟨rfl, rfl⟩
  have hb0 : Below w.heap.size w (w.alloc (.cells #[.int .u8 mv] 5)) := (Below.refl _ _).alloc (Nat.le_refl _) _
  have HB0 := Lib.hid hb0
  clear hb0 hcv
  cases b with
  | false =>
    have hu : u = none := HU.out
    have HUU := Lib.hid hu
    clear hu
    go_wp2_with fail
    refine (need_no 4 _).mono ?_
    rintro _ _ ⟨rfl, rfl⟩
    refine ⟨rfl, ?_⟩
    rw [HUU.out]
    exact ⟨rfl, HB0.out⟩
  | true =>
    go_wp2_with fail
    refine (need_ok 4 _).mono ?_
    rintro _ _ ⟨rfl, rfl⟩
    go_wp2_with fail
    refine (HP.out _).mono ?_
    intro e w1 hg
    cases y with
    | none =>
      obtain ⟨rfl, hb⟩ := hg
      have hu : u = none := HU.out
      rw [hu]
      exact ⟨rfl, rfl, HB0.out.trans (hb.mono HB0.out.size)⟩
    | some n =>
      obtain ⟨rfl, hb⟩ := hg
      obtain ⟨r0, r1⟩ := HR.out n rfl
      have HB1 : Hid (Below w.heap.size w w1) := HB0.out.trans (hb.mono HB0.out.size)
      have hu : u = if n ≤ 255 then some n else none := HU.out
      by_cases h31 : n ≤ 255
      · rw [if_pos h31] at hu
        have HUU := Lib.hid hu
        have g3 : decide (n ≤ 255) = true := decide_eq_true h31
        clear hu hb
        go_wp2_with fail
        refine (need_ok 4 _).mono ?_
        rintro _ _ ⟨rfl, rfl⟩
        go_wp2_with fail
        go_ret
        rw [HUU.out]
        exact ⟨rfl, HB1.out⟩
      · rw [if_neg h31] at hu
        have HUU := Lib.hid hu
        have g3 : decide (n ≤ 255) = false := decide_eq_false h31
        clear hu hb
        go_wp2_with fail
        refine (need_no 4 _).mono ?_
        rintro _ _ ⟨rfl, rfl⟩
        refine ⟨rfl, ?_⟩
        rw [HUU.out]
        exact ⟨rfl, HB1.out⟩
end Go.Proofs.YtbiajfkencamiaaGreatDoor.Core
/-! code: the operations' names. -/
namespace Go.Proofs.YtbiajfkencamiaaGreatDoor.Core
open Go.RowKit Go.Shelf Go.Proofs.YtbiajfkencamiaaGreatDoorW.PrintWords Go.Proofs.YtbiajfkencamiaaGreatDoorW.PrintMore Go.Proofs.YtbiajfkencamiaaGreatDoor.P1 Go.Proofs.YtbiajfkencamiaaGreatDoor
set_option linter.unusedVariables false
set_option linter.unusedSimpArgs false
def Tab2 (w : World) : Prop := Lib.TabIs Tryz.prog w "strings.asciiSpace" .u8 Lib.asciiSpaceTab
theorem Tab2.below {w w' : World} (h : Tab2 w) (hb : Below w.heap.size w w') : Tab2 w' := TabIs_below (g := 1) (by kernel_rfl) h hb
def namesT : List UInt8 := ([115, 101, 116, 32, 109, 111, 118, 101, 32, 97, 100, 100, 32, 115, 117, 98, 32, 109, 117, 108, 32, 100, 105, 118, 32, 108, 101, 115, 115, 32, 115, 97, 109, 101, 32, 106, 117, 109, 112, 32, 122].append [101, 114, 111, 32, 115, 112, 97, 119, 110, 32, 115, 121, 110, 99, 32, 102, 117, 116, 117, 114, 101, 32, 116, 111, 117, 99, 104, 32, 101, 109, 105, 116, 32, 102, 97, 105, 108, 32, 114, 101, 116])
/-- The operations' names. -/
def namesL : List (List UInt8) := [[115, 101, 116], [109, 111, 118, 101], [97, 100, 100], [115, 117, 98], [109, 117, 108], [100, 105, 118], [108, 101, 115, 115], [115, 97, 109, 101], [106, 117, 109, 112], [122, 101, 114, 111], [115, 112, 97, 119, 110], [115, 121, 110, 99], [102, 117, 116, 117, 114, 101], [116, 111, 117, 99, 104], [101, 109, 105, 116], [102, 97, 105, 108], [114, 101, 116]]
theorem fields_names : Lib.fields namesT = namesL := by decide +kernel
def namesO : Obj := .cells (namesL.map fun l => Value.string ⟨l.toArray⟩).toArray 9
theorem names_any (w : World) (ht : Tab2 w) : Calls Tryz.prog 280 #[] w fun e w' => e = .returned (.slice (some ⟨w.heap.size, 0, none⟩) 17 17) ∧ w' = w.alloc namesO := by
  have h := Tryz.strings_Fields_laid ⟨namesT.toArray⟩ w (by decide) (ascii_of_all (by decide)) ht
  have e : (⟨namesT.toArray⟩ : ByteArray).data.toList = namesT := by simp
  rw [e, fields_names] at h
  have HF : Hid (Calls Tryz.prog 55 #[.string ⟨namesT.toArray⟩] w fun e w' => e = .returned (.slice (some ⟨w.heap.size, 0, none⟩) 17 17) ∧ w' = w.alloc namesO) := h
  clear h e ht
  go_enter Tryz.func280, Tryz.ntmps280
  go_wp2_with fail
  refine HF.out.mono ?_
  rintro _ _ ⟨rfl, rfl⟩
  go_wp2_with fail
  go_ret
  exact ⟨rfl, rfl⟩
def namesB : List ByteArray := namesL.map fun l => ⟨l.toArray⟩
def namedL (t : List UInt8) : Int := Lib.idxOfS namesB ⟨t.toArray⟩ + 1
theorem idxFrom_range (x : ByteArray) : ∀ (zs : List ByteArray) (i : Nat), -1 ≤ Lib.idxFromS zs x i ∧ Lib.idxFromS zs x i < (i + zs.length : Nat)
  | [], i => by simp [Lib.idxFromS]; omega
  | z :: zs, i => by
    have ih := idxFrom_range x zs (i + 1)
    unfold Lib.idxFromS
    split
    · simp; omega
    · simp only [List.length_cons] at ih ⊢; omega
theorem namedL_range (t : List UInt8) : 0 ≤ namedL t ∧ namedL t ≤ 17 := by
  have h := idxFrom_range ⟨t.toArray⟩ namesB 0
  have e : namesB.length = 17 := rfl
  unfold namedL Lib.idxOfS
  rw [e] at h
  omega
set_option maxHeartbeats 1000000 in
theorem named_any (t : List UInt8) (w : World) (ht : Tab2 w) : Calls Tryz.prog 243 #[.string ⟨t.toArray⟩] w fun e w' => e = .returned (.int .i64 (namedL t)) ∧ Below w.heap.size w w' := by
  have HN := Lib.hid (names_any w ht)
  have hb0 : Below w.heap.size w (w.alloc namesO) := (Below.refl _ _).alloc (Nat.le_refl _) _
  have hcell : ∀ j, j < namesB.length → (w.alloc namesO).cell? ⟨w.heap.size, 0 + j, none⟩ = some (.string (namesB.getD j ByteArray.empty)) := fun j hj => by
    have h := heap_alloc_new w namesO
    unfold namesO at h ⊢
    simp only [World.cell?, h, Nat.zero_add]
    have e2 : namesB.getD j ByteArray.empty = namesB[j] := by simp [List.getD, List.getElem?_eq_getElem hj]
    rw [e2]
    simp [namesB] at hj ⊢
  have HI := Lib.hid (Tryz.slices_Index_string w.heap.size 0 17 17 namesB ⟨t.toArray⟩ (w.alloc namesO) (by decide) (by decide) hcell)
  have hr := namedL_range t
  have e1 : Lib.idxOfS (namesB.take 17) ⟨t.toArray⟩ = namedL t - 1 := by
    rw [show namesB.take 17 = namesB from rfl]
    unfold namedL
    omega
  rw [e1] at HI
  obtain ⟨T, hT⟩ : ∃ T : ByteArray, T = ⟨t.toArray⟩ := ⟨_, rfl⟩
  rw [← hT] at HI ⊢
  generalize namedL t = q at *
  have hw : wrap64 (q - 1 + 1) = q := by unfold wrap64; omega
  have hw2 : wrap64 q = q := by unfold wrap64; omega
  have HB0 := Lib.hid hb0
  generalize namesO = o at *
  clear hcell hT hb0 e1 hr ht
  go_enter Tryz.func243, Tryz.ntmps243
  go_wp2_with fail
  refine HN.out.mono ?_
  rintro _ _ ⟨rfl, rfl⟩
  go_wp2_with fail
  refine HI.out.mono ?_
  rintro _ _ ⟨rfl, rfl⟩
  go_wp2_with fail
  go_ret
  refine ⟨?_, HB0.out⟩
  show Ending.returned (.int .i64 (wrap64 q)) = _
  rw [hw2]
end Go.Proofs.YtbiajfkencamiaaGreatDoor.Core
/-! asm.marks: a map's literal, and one look into it. -/
namespace Go.Proofs.YtbiajfkencamiaaGreatDoor.Core
open Go.RowKit Go.Shelf Go.Proofs.YtbiajfkencamiaaGreatDoorW.PrintWords Go.Proofs.YtbiajfkencamiaaGreatDoorW.PrintMore Go.Proofs.YtbiajfkencamiaaGreatDoor.P1 Go.Proofs.YtbiajfkencamiaaGreatDoor
open Go.Maps (Keyed int_keyed)
set_option linter.unusedVariables false
set_option linter.unusedSimpArgs false
def litS (l : List UInt8) : DataW Unit := .lit (.string l)
def entriesM : List (Int × List UInt8) := [(1, [114, 45, 45, 61]), (2, [114, 114, 45, 45]), (9, [45, 45, 45, 61]), (10, [114, 45, 45, 61]), (11, [114, 114, 102, 45]), (12, [45, 45, 45, 45]), (13, [104, 114, 102, 45]), (14, [114, 104, 45, 45]), (15, [114, 45, 45, 45]), (16, [45, 45, 45, 61]), (17, [114, 45, 45, 45])]
def mapM : DataW Unit := entriesM.foldl (fun D x => D.put (.int .i64 x.1) (litS x.2)) (.map [])
def marksL (op : Int) : List UInt8 := match entriesM.find? (fun x => x.1 == op) with
  | some x => x.2
  | none => [114, 114, 114, 45]
theorem marks_at : ∀ op : Fin 18, Maps.has mapM (.int .i64 (op.val : Int)) = (entriesM.find? (fun x => x.1 == (op.val : Int))).isSome := by decide +kernel
theorem marks_val (op : Fin 18) : mapM.atKey (.int .i64 (op.val : Int)) (litS []) = (match entriesM.find? (fun x => x.1 == (op.val : Int)) with | some x => litS x.2 | none => litS []) := by
  revert op
  intro ⟨n, hn⟩
  rcases n with _ | _ | _ | _ | _ | _ | _ | _ | _ | _ | _ | _ | _ | _ | _ | _ | _ | _ | n
  all_goals first | rfl | omega
theorem key_i (k : Int) (h0 : 0 ≤ k) (h1 : k ≤ 1000) : keyOf Tryz.prog 3 (.int .i64 k) = some (.int .i64 k) := by
  refine Maps.keyOf_int_mk Tryz.underlying3 ?_
  have hmin : IntKind.i64.min = -9223372036854775808 := rfl
  have hmax : IntKind.i64.max = 9223372036854775807 := rfl
  simp only [Lit.wf, Bool.and_eq_true, decide_eq_true_eq]
  omega
theorem zero9 (w : World) : (zeroValue 9).run Tryz.prog w = .ok (.string ByteArray.empty) w := by
  obtain ⟨i0, hi, hz0, _, _⟩ := info_parts info9
  simp [zeroValue, typeInfo, hi, hz0, Result.andThen]
theorem map_put {b n : Nat} {D : DataW Unit} {W : World} (k : Int) (l : List UInt8) (h : W.ownsMap Tryz.prog 3 (plainElem (H := Unit) Tryz.prog 9) b n D) (hk : 0 ≤ k ∧ k ≤ 1000) (hl : l.length ≤ 1000) (hn : n ≤ 1000) :
    ∃ W', (Instr.mapUpdate 406 (.map (some b)) (.int .i64 k) (.string ⟨l.toArray⟩)).run Tryz.prog W = .ok () W' ∧ W'.ownsMap Tryz.prog 3 (plainElem (H := Unit) Tryz.prog 9) b (n + 1) (D.put (.int .i64 k) (litS l)) ∧ W.grownBy W' (some b) := by
  refine h.update (int_keyed Tryz.underlying3) Tryz.underlying406 (by simp only [maxLen]; omega) (key_i k hk.1 hk.2) (ps := []) ?_
  have := plainElem_string (H := Unit) Tryz.underlying9 (s := ⟨l.toArray⟩) (by simp [ByteArray.size, maxLen]; omega)
  simpa [litS] using this
set_option maxRecDepth 100000 in
set_option maxHeartbeats 4000000 in
theorem marks_any (op : Nat) (h : op < 18) (w : World) : Calls Tryz.prog 244 #[.int .i64 (op : Int)] w fun e w' => e = .returned (.string ⟨(marksL op).toArray⟩) ∧ Below w.heap.size w w' := by
  have hmm := @run_makeMap Tryz.prog
  have h0 : (w.alloc (.map #[] 0)).ownsMap Tryz.prog 3 (plainElem (H := Unit) Tryz.prog 9) w.heap.size 0 (.map []) := World.ownsMap_made _ _ _ _
  obtain ⟨w1, r1, h1, g1⟩ := map_put 1 [114, 45, 45, 61] h0 (by decide) (by decide) (by decide)
  obtain ⟨w2, r2, h2, g2⟩ := map_put 2 [114, 114, 45, 45] h1 (by decide) (by decide) (by decide)
  obtain ⟨w3, r3, h3, g3⟩ := map_put 9 [45, 45, 45, 61] h2 (by decide) (by decide) (by decide)
  obtain ⟨w4, r4, h4, g4⟩ := map_put 10 [114, 45, 45, 61] h3 (by decide) (by decide) (by decide)
  obtain ⟨w5, r5, h5, g5⟩ := map_put 11 [114, 114, 102, 45] h4 (by decide) (by decide) (by decide)
  obtain ⟨w6, r6, h6, g6⟩ := map_put 12 [45, 45, 45, 45] h5 (by decide) (by decide) (by decide)
  obtain ⟨w7, r7, h7, g7⟩ := map_put 13 [104, 114, 102, 45] h6 (by decide) (by decide) (by decide)
  obtain ⟨w8, r8, h8, g8⟩ := map_put 14 [114, 104, 45, 45] h7 (by decide) (by decide) (by decide)
  obtain ⟨w9, r9, h9, g9⟩ := map_put 15 [114, 45, 45, 45] h8 (by decide) (by decide) (by decide)
  obtain ⟨w10, r10, h10, g10⟩ := map_put 16 [45, 45, 45, 61] h9 (by decide) (by decide) (by decide)
  obtain ⟨w11, r11, h11, g11⟩ := map_put 17 [114, 45, 45, 45] h10 (by decide) (by decide) (by decide)
  have hB : Below w.heap.size w w11 := by
    have b0 : Below w.heap.size w (w.alloc (.map #[] 0)) := (Below.refl _ _).alloc (Nat.le_refl _) _
    have b1 := b0.grown g1 b0.size (fun k e => by cases e; exact Nat.le_refl _)
    have b2 := b1.grown g2 b1.size (fun k e => by cases e; exact Nat.le_refl _)
    have b3 := b2.grown g3 b2.size (fun k e => by cases e; exact Nat.le_refl _)
    have b4 := b3.grown g4 b3.size (fun k e => by cases e; exact Nat.le_refl _)
    have b5 := b4.grown g5 b4.size (fun k e => by cases e; exact Nat.le_refl _)
    have b6 := b5.grown g6 b5.size (fun k e => by cases e; exact Nat.le_refl _)
    have b7 := b6.grown g7 b6.size (fun k e => by cases e; exact Nat.le_refl _)
    have b8 := b7.grown g8 b7.size (fun k e => by cases e; exact Nat.le_refl _)
    have b9 := b8.grown g9 b8.size (fun k e => by cases e; exact Nat.le_refl _)
    have b10 := b9.grown g10 b9.size (fun k e => by cases e; exact Nat.le_refl _)
    have b11 := b10.grown g11 b10.size (fun k e => by cases e; exact Nat.le_refl _)
    exact b11
  obtain ⟨v, ps, rl, hv⟩ := h11.look_ok (int_keyed Tryz.underlying3) Tryz.underlying406 (zero9 w11) (zd := litS []) (zp := []) (by simpa [litS] using plainElem_string (H := Unit) Tryz.underlying9 (s := ByteArray.empty) (by decide)) (key_i op (by omega) (by omega))
  have e1 := marks_at ⟨op, h⟩
  have e2 := marks_val ⟨op, h⟩
  change Maps.has mapM (.int .i64 (op : Int)) = _ at e1
  change mapM.atKey (.int .i64 (op : Int)) (litS []) = _ at e2
  change _ = Result.ok (Value.tuple #[v, .bool (Maps.has mapM (.int .i64 (op : Int)))]) w11 at rl
  change _ = some (mapM.atKey (.int .i64 (op : Int)) (litS []), ps) at hv
  rw [e1] at rl
  rw [e2] at hv
  obtain ⟨sv, rfl, hz, _⟩ := plainElem_string_inv Tryz.underlying9 hv
  have hz2 := (Prod.mk.inj hz).1
  unfold marksL
  have HB := Lib.hid hB
  clear hB h1 h2 h3 h4 h5 h6 h7 h8 h9 h10 h11 g1 g2 g3 g4 g5 g6 g7 g8 g9 g10 g11 h0 e1 e2 hv hz
  cases hf : entriesM.find? (fun x => x.1 == (op : Int)) with
  | none =>
    have hf2 : entriesM.find? (fun x => x.1 == ((⟨op, h⟩ : Fin 18).val : Int)) = none := hf
    rw [hf2] at rl
    clear hz2 hf hf2
    go_enter Tryz.func244, Tryz.ntmps244
    go_wp2_with fail
    go_ret
    exact ⟨rfl, HB.out⟩
  | some x =>
    have hf2 : entriesM.find? (fun x => x.1 == ((⟨op, h⟩ : Fin 18).val : Int)) = some x := hf
    rw [hf2] at rl hz2
    have hs : sv = ⟨x.2.toArray⟩ := by
      have hz3 : litS x.2 = DataW.lit (.string sv.data.toList) := hz2
      unfold litS at hz3
      injection hz3 with hz3
      injection hz3 with hz3
      apply ByteArray.ext
      apply Array.ext'
      simpa using hz3.symm
    subst hs
    clear hz2 hf hf2
    go_enter Tryz.func244, Tryz.ntmps244
    go_wp2_with fail
    go_ret
    exact ⟨rfl, HB.out⟩
end Go.Proofs.YtbiajfkencamiaaGreatDoor.Core
/-! asm.guarded's two closures: what is blank; the recover. -/
namespace Go.Proofs.YtbiajfkencamiaaGreatDoor.Core
open Go.RowKit Go.Shelf Go.Proofs.YtbiajfkencamiaaGreatDoorW.PrintWords Go.Proofs.YtbiajfkencamiaaGreatDoorW.PrintMore Go.Proofs.YtbiajfkencamiaaGreatDoor.P1 Go.Proofs.YtbiajfkencamiaaGreatDoor
set_option linter.unusedVariables false
set_option linter.unusedSimpArgs false
theorem blank_any (r : Nat) (w : World) : Calls Tryz.prog 152 #[.int .i32 (r : Int)] w fun e w' => e = .returned (.bool (blankR r)) ∧ w' = w := by
  by_cases h1 : r = 32
  · subst h1
    go_enter Tryz.func152, Tryz.ntmps152
    go_wp2_with fail
    go_ret
    exact ⟨rfl, rfl⟩
  · by_cases h2 : r = 9
    · subst h2
      go_enter Tryz.func152, Tryz.ntmps152
      go_wp2_with fail
      go_ret
      exact ⟨rfl, rfl⟩
    · have e1 : (((r : Int)) == 32) = false := by rw [beq_eq_false_iff_ne]; omega
      have e2 : (((r : Int)) == 9) = false := by rw [beq_eq_false_iff_ne]; omega
      have e3 : (((r : Int)) == 13) = blankR r := by
        unfold blankR
        by_cases h3 : r = 13
        · subst h3; rfl
        · rw [decide_eq_false h1, decide_eq_false h2, decide_eq_false h3, beq_eq_false_iff_ne.2 (by omega)]; rfl
      generalize blankR r = b at e3 ⊢
      generalize (r : Int) = ri at *
      clear h1 h2
      go_enter Tryz.func152, Tryz.ntmps152
      go_wp2_with fail
      go_ret
      exact ⟨rfl, rfl⟩
set_option maxRecDepth 100000 in
theorem catch_panicking (b : Nat) (x e : Int) (older : List PanicEntry) (w : World) (hblk : w.heap[b]? = some (.cells #[.int .i64 x] 29 (0, 0))) :
    CallsD Tryz.prog 151 #[.pointer (some ⟨b, 0, none⟩)] (.panicking ({ v := .iface 277 (.agg #[.int .i64 e]), recovered := false } :: older)) w fun en u' w' =>
      en = .returned (.tuple #[]) ∧ u' = .panicking ({ v := .iface 277 (.agg #[.int .i64 e]), recovered := true } :: older) ∧ w' = (w.alloc (.cells #[.int .i64 e] 277)).setCell ⟨b, 0, none⟩ (.int .i64 e) := by
  have hta : ∀ (w : World), (Instr.typeAssert (.iface 277 (.agg #[.int .i64 e])) 20 277 true).run Tryz.prog w = .ok (.tuple #[.agg #[.int .i64 e], .bool true]) w := fun _ => by kernel_rfl
  have hb2 : (w.alloc (.cells #[.int .i64 e] 277)).heap[b]? = some (.cells #[.int .i64 x] 29 (0, 0)) := (Below.heap_alloc _ _ _ (blk_lt hblk)).trans hblk
  have hc := blk_cell hb2 0
  have hz := blk_frozen hb2 0
  simp only [List.getElem?_toArray, List.getElem?_cons_zero] at hc
  refine callsD_of_wpS Tryz.func151 rfl fun c₀ cs hu => ?_
  apply wpS_seq
  apply wpS_region
  simp [wpOpsS, go_sem, recoverD, hu, Tryz.ntmps151, Exit.thenS]
  refine wpS_of_wp ?_
  simp only [Array.replicate_succ, Array.replicate_zero, List.push_toArray, List.append_toArray, List.nil_append, List.cons_append, List.setIfInBounds_toArray, List.set_cons_zero, List.set_cons_succ]
  go_wp2_with fail
  simp [bodyPostS, results, Tryz.results151]
set_option maxRecDepth 100000 in
theorem catch_idle (p : Addr) (w : World) :
    CallsD Tryz.prog 151 #[.pointer (some p)] .returning w fun en u' w' => en = .returned (.tuple #[]) ∧ u' = .returning ∧ w' = w := by
  refine callsD_of_wpS Tryz.func151 rfl fun c₀ cs hu => ?_
  apply wpS_seq
  apply wpS_region
  simp [wpOpsS, go_sem, recoverD, hu, Tryz.ntmps151, Exit.thenS]
  refine wpS_of_wp ?_
  simp only [Array.replicate_succ, Array.replicate_zero, List.push_toArray, List.append_toArray, List.nil_append, List.cons_append, List.setIfInBounds_toArray, List.set_cons_zero, List.set_cons_succ]
  go_wp2_with fail
  cases c₀
  simp_all [bodyPostS, results, Tryz.results151]
theorem blank_at (w : World) : PredAtRunes Tryz.prog 152 #[] blankR w := fun W x hx hb => by
  refine (blank_any x W).mono ?_
  rintro e w' ⟨rfl, rfl⟩
  exact ⟨rfl, 0, rfl⟩
end Go.Proofs.YtbiajfkencamiaaGreatDoor.Core
/-! asm.instr: what it comes to, and the steps of its loop. -/
namespace Go.Proofs.YtbiajfkencamiaaGreatDoor.Core
open Go.RowKit Go.Shelf Go.Proofs.YtbiajfkencamiaaGreatDoorW.PrintWords Go.Proofs.YtbiajfkencamiaaGreatDoorW.PrintMore Go.Proofs.YtbiajfkencamiaaGreatDoor.P1 Go.Proofs.YtbiajfkencamiaaGreatDoor
set_option linter.unusedVariables false
set_option linter.unusedSimpArgs false
/-- What the fields' marks make of words. -/
def fieldsL : List UInt8 → List (List UInt8) → Option (List Int × List (List UInt8))
  | [], ws => some ([], ws)
  | m :: ms, ws => if m = 45 then (fieldsL ms ws).map (fun r => (0 :: r.1, r.2)) else match ws with
    | [] => none
    | x :: ws => (if m = 61 then signedL x else smallL x m).bind fun v => (fieldsL ms ws).map fun r => (v :: r.1, r.2)
/-- An instruction of words: its operation, its fields. -/
def instrL : List (List UInt8) → Option (Int × List Int)
  | [] => none
  | x :: ws => if 0 < namedL x then (fieldsL (marksL (namedL x)) ws).bind fun r => if r.2 = [] then some (namedL x, r.1) else none else none
/-- A row of words without its first. -/
theorem tail_str (x : ByteArray) (ws : List ByteArray) (A : Option Addr) (c : Nat) (w : World) (hC : Kd.string.C w A (x :: ws).length (x :: ws)) (hc : (x :: ws).length ≤ c) :
    ∃ A1, (∀ W, (Instr.slice 25 (.slice A (ws.length + 1) c) (some (.int .i64 1)) none none).run Tryz.prog W = .ok (.slice A1 ws.length (c - 1)) W) ∧ Kd.string.C w A1 ws.length ws ∧ ws.length ≤ c - 1 := by
  obtain ⟨i9, hi9, _, hsz9, _⟩ := info_parts info9
  have hct := cut_from (P := Tryz.prog) 25 9 .i64 Tryz.underlying25 hi9 1 hsz9 A (ws.length + 1) c 1 (by omega) (by omega)
  have hd := Kd.C_drop (m := 1) hC (by simp) hc
  rw [List.length_cons] at hc
  refine ⟨_, fun W => hct W, ?_, by omega⟩
  have hs : Kd.string.sz = 1 := rfl
  simpa [hs] using hd
/-- The first word of a row. -/
theorem head_str (x : ByteArray) (ws : List ByteArray) (A : Option Addr) (w : World) (hC : Kd.string.C w A (x :: ws).length (x :: ws)) : ∃ ad, A = some ad ∧ w.cell? ad = some (.string x) := by
  obtain ⟨ad, hA, hcell⟩ := (Kd.reads_of_C (enc := Value.string) (d := ByteArray.empty) (h1 := fun _ => rfl) hC).2.2 (by simp)
  have hc0 := hcell 0 (by simp)
  have ea : ad.add 0 = ad := by cases ad; simp [Addr.add]
  rw [ea] at hc0
  exact ⟨ad, hA, hc0⟩
end Go.Proofs.YtbiajfkencamiaaGreatDoor.Core
/-! asm.instr: its walk. -/
namespace Go.Proofs.YtbiajfkencamiaaGreatDoor.Core
open Go.RowKit Go.Shelf Go.Proofs.YtbiajfkencamiaaGreatDoorW.PrintWords Go.Proofs.YtbiajfkencamiaaGreatDoorW.PrintMore Go.Proofs.YtbiajfkencamiaaGreatDoor.P1 Go.Proofs.YtbiajfkencamiaaGreatDoor
set_option linter.unusedVariables false
set_option linter.unusedSimpArgs false
def GivesI (w : World) : Option (Int × List Int) → Ending → World → Prop
  | some r, e, w' => e = .returned (.agg (((r.1 :: r.2).map (Value.int .i64)).toArray)) ∧ Below w.heap.size w w'
  | none, e, w' => e = .panicked (wrongP 4) ∧ Below w.heap.size w w'
theorem set_at (acc : List Int) (z : List Int) (v : Int) (j : Nat) (h : acc.length = j) : (((acc ++ [0] ++ z).map (Value.int .i64)).toArray).setIfInBounds j (.int .i64 v) = ((acc ++ [v] ++ z).map (Value.int .i64)).toArray := by
  subst h
  simp
theorem fieldsL_minus (ms : List UInt8) (ws : List (List UInt8)) : fieldsL (45 :: ms) ws = (fieldsL ms ws).map (fun r => (0 :: r.1, r.2)) := by
  cases ws <;> simp [fieldsL]
theorem fieldsL_none (m : UInt8) (ms : List UInt8) (h : ¬ m = 45) : fieldsL (m :: ms) [] = none := by
  simp [fieldsL, h]
theorem fieldsL_some (m : UInt8) (ms : List UInt8) (x : List UInt8) (ws : List (List UInt8)) (h : ¬ m = 45) : fieldsL (m :: ms) (x :: ws) = (if m = 61 then signedL x else smallL x m).bind fun v => (fieldsL ms ws).map fun r => (v :: r.1, r.2) := by
  simp [fieldsL, h]
def zerosI (n : Nat) : List Int := List.replicate n 0
set_option maxRecDepth 100000 in
set_option maxHeartbeats 4000000 in
theorem instr_any (x : List UInt8) (ws : List (List UInt8)) (A : Option Addr) (c : Nat) (w : World) (ht : Tab2 w) (hC : Kd.string.C w A (wB (x :: ws)).length (wB (x :: ws))) (hc : (wB (x :: ws)).length ≤ c) (hn : ws.length ≤ 100000) :
    Calls Tryz.prog 196 #[.slice A (wB (x :: ws)).length c] w (GivesI w (instrL (x :: ws))) := by
  have HSP : Hid (instrL (x :: ws) = if 0 < namedL x then (fieldsL (marksL (namedL x)) ws).bind fun r => if r.2 = [] then some (namedL x, r.1) else none else none) := rfl
  obtain ⟨sp, hsp⟩ : ∃ sp, sp = instrL (x :: ws) := ⟨_, rfl⟩
  rw [← hsp] at HSP ⊢
  clear hsp
  obtain ⟨A1, hct, hC1, hc1⟩ := tail_str ⟨x.toArray⟩ (wB ws) A c w hC hc
  have hlen : (wB (x :: ws)).length = ws.length + 1 := by simp
  have hlen1 : (wB ws).length = ws.length := by simp
  rw [hlen1] at hct hC1 hc1
  obtain ⟨n, hnn⟩ : ∃ n, n = ws.length := ⟨_, rfl⟩
  have HN := Lib.hid hnn
  rw [hlen] at hC hc ⊢
  rw [← hnn] at hct hC1 hc1 hC hc hn ⊢
  obtain ⟨w1, hw1⟩ : ∃ w1, w1 = w.alloc (.cells #[.int .i64 0, .int .i64 0, .int .i64 0, .int .i64 0, .int .i64 0] 121) := ⟨_, rfl⟩
  have hb1 : Below w.heap.size w w1 := by rw [hw1]; exact (Below.refl _ _).alloc (Nat.le_refl _) _
  obtain ⟨ad, hA, hc0⟩ := head_str ⟨x.toArray⟩ (wB ws) A w1 (by have := Kd.C_below hC hb1; rwa [List.length_cons, hlen1, ← hnn])
  subst hA
  have had : (0 : Int) < (n : Int) + 1 := by omega
  have had2 : (0 : Int) < ((n + 1 : Nat) : Int) := by omega
  obtain ⟨X, hX⟩ : ∃ X : ByteArray, X = ⟨x.toArray⟩ := ⟨_, rfl⟩
  rw [← hX, hw1] at hc0
  have HT := Lib.hid ht
  have HNM : Hid (∀ W, Below w.heap.size w W → Calls Tryz.prog 243 #[.string X] W fun e w' => e = .returned (.int .i64 (namedL x)) ∧ Below W.heap.size W w') := fun W hb => by rw [hX]; exact named_any x W (HT.out.below hb)
  have hrg := namedL_range x
  have HB1 := Lib.hid hb1
  have HC1 := Lib.hid hC1
  have HCT := Lib.hid hct
  have HCC := Lib.hid hc1
  generalize namedL x = op at HNM hrg HSP
  clear ht hC hC1 hb1 hnn hX hct hc1 hlen hlen1
  go_enter Tryz.func196, Tryz.ntmps196
  go_wp2_with fail
  refine (HNM.out _ (by rw [← hw1]; exact HB1.out)).mono ?_
  rintro _ w2 ⟨rfl, hb2⟩
  have HB2 : Hid (Below w.heap.size w w2) := by rw [← hw1] at hb2; exact HB1.out.trans (hb2.mono HB1.out.size)
  have HR2 : Hid (w2.heap[w.heap.size]? = some (.cells #[.int .i64 0, .int .i64 0, .int .i64 0, .int .i64 0, .int .i64 0] 121 (0, 0))) := by
    rw [← hw1] at hb2
    exact blk_below (by rw [hw1]; exact heap_alloc_new w _) hb2
  clear hc0 hb2 hw1
  by_cases hop : 0 < op
  · have hop2 : decide (op > 0) = true := decide_eq_true hop
    go_wp2_with fail
    refine (need_ok 4 _).mono ?_
    rintro _ W' ⟨rfl, hw'⟩
    rw [hw']
    clear hw' W'
    obtain ⟨o, rfl⟩ : ∃ o : Nat, op = o := ⟨op.toNat, by omega⟩
    have HMK := Lib.hid (fun W => marks_any o (by omega) W)
    have hml : (marksL (o : Int)).length = 4 := by
      have h18 : ∀ q : Fin 18, (marksL (q.val : Int)).length = 4 := by decide +kernel
      exact h18 ⟨o, by omega⟩
    have HSP2 : Hid (sp = (fieldsL (marksL (o : Int)) ws).bind fun r => if r.2 = [] then some ((o : Int), r.1) else none) := by
      show _ = _
      rw [HSP.out, if_pos hop]
    generalize marksL (o : Int) = mk at HMK hml HSP2
    obtain ⟨M, hM⟩ : ∃ M : ByteArray, M = ⟨mk.toArray⟩ := ⟨_, rfl⟩
    rw [← hM] at HMK
    have hMs : M.size = 4 := by rw [hM]; simpa [ByteArray.size] using hml
    have hcv := fun W => print_bytes (P := Tryz.prog) 9 32 5 Tryz.underlying9 Tryz.underlying32 Tryz.underlying5 M W
    rw [hMs] at hcv
    have HMM := Lib.hid hM
    have hct := HCT.out
    clear hM hop hop2 HSP hrg
    go_wp2_with fail
    refine (HMK.out _).mono ?_
    rintro _ w3 ⟨rfl, hb3⟩
    have HB3 := Lib.hid hb3
    have HBW : Hid (Below w.heap.size w (Lib.bytesWorld w3 5 M)) := bytes_below (HB2.out.trans ((((Below.refl _ w2).alloc (Nat.le_refl _) _).trans (hb3.mono (by simp))).mono HB2.out.size)) (Nat.le_trans HB2.out.size (by have := hb3.size; simp at this; omega)) 5 M
    have hw34 : Below w3.heap.size w3 (Lib.bytesWorld w3 5 M) := bytes_below (Below.refl _ _) (Nat.le_refl _) 5 M
    have HR4 : Hid ((Lib.bytesWorld w3 5 M).heap[w.heap.size]? = some (.cells #[.int .i64 0, .int .i64 0, .int .i64 0, .int .i64 0, .int .i64 0] 121 (0, 0))) :=
      blk_below (blk_below ((Below.heap_alloc _ _ _ (blk_lt HR2.out)).trans HR2.out) hb3) hw34
    have HF4 : Hid ((Lib.bytesWorld w3 5 M).heap[w2.heap.size]? = some (.cells (((([] : List Int) ++ zerosI (4 - 0)).map (Value.int .i64)).toArray) 221 (0, 0))) :=
      blk_below (blk_below (heap_alloc_new w2 _) hb3) hw34
    have HM4 : Hid (∀ j, j < 4 → (Lib.bytesWorld w3 5 M).cell? ⟨w3.heap.size, j, none⟩ = some (.int .u8 (bt M j))) := fun j hj => by
      have hr := bytes_reads w3 5 M (by rw [hMs]; omega)
      obtain ⟨a2, ea2, hcc⟩ := hr.2.2 (by rw [hMs]; omega)
      injection ea2 with ea2
      subst ea2
      have := hcc j (by rw [hMs]; exact hj)
      rw [add_plain] at this
      rw [this, ← rd_bytesOf]
      rfl
    have HG : Hid (w.heap.size ≤ w2.heap.size ∧ w2.heap.size < w3.heap.size ∧ w.heap.size < w2.heap.size) := ⟨HB2.out.size, by have := hb3.size; simp at this; omega, blk_lt HR2.out⟩
    clear hb3 hct hw34
    go_wp2_with fail
    generalize Lib.bytesWorld w3 5 M = W4 at *
    generalize grownCap w3 4 0 5 = gc at *
    generalize w3.heap.size = gb at *
    generalize w2.heap.size = b4 at *
    go_loopg [5, 21] 4 (fun k v5 v21 W => ∃ (j n' c' : Nat) (A' : Option Addr) (rest : List (List UInt8)) (acc : List Int), v21 = .int .i64 j ∧ v5 = .slice A' n' c' ∧ Hid (j + k = 4) ∧ Hid (acc.length = j) ∧ Hid (n' = rest.length) ∧ Hid (n' ≤ c') ∧ Hid (n' ≤ 100000) ∧ Hid (Kd.string.C w A' n' (wB rest)) ∧ Hid (Below w.heap.size w W) ∧
      Hid (W.heap[w.heap.size]? = some (.cells #[.int .i64 0, .int .i64 0, .int .i64 0, .int .i64 0, .int .i64 0] 121 (0, 0))) ∧ Hid (W.heap[b4]? = some (.cells (((acc ++ zerosI (4 - j)).map (Value.int .i64)).toArray) 221 (0, 0))) ∧ Hid (∀ j, j < 4 → W.cell? ⟨gb, j, none⟩ = some (.int .u8 (bt M j))) ∧
      Hid ((fieldsL (mk.drop j) rest).map (fun r => (acc ++ r.1, r.2)) = fieldsL mk ws))
    case atStart => exact ⟨0, n, c - 1, A1, ws, [], rfl, rfl, by show _ = _; omega, rfl, HN.out, HCC.out, hn, HC1.out, HBW.out, HR4.out, HF4.out, HM4.out, by show _ = _; simp⟩
    case round =>
      obtain ⟨j, n', c', A', rest, acc, rfl, rfl, hjk, hal, hnr, hnc, hn5, hCr, hB, hR, hF, hMc, hsp⟩ := hrel
      by_cases hj4 : j < 4
      · have hj2 : (j : Int) < 4 := by omega
        have hj3 : decide ((j : Int) < 4) = true := decide_eq_true hj2
        have hw1 : wrap64 ((j : Int) + 1) = ((j + 1 : Nat) : Int) := by rw [Core.wr (by omega) (by omega)]; rfl
        have hjm : j < mk.length := by omega
        obtain ⟨m, hm⟩ : ∃ m, mk[j] = m := ⟨_, rfl⟩
        have hbt : bt M j = (m.toNat : Int) := by rw [HMM.out, ← hm]; exact bt_bx mk j hjm
        have hcm := hMc.out j hj4
        rw [hbt] at hcm
        have HDR : Hid (mk.drop j = m :: mk.drop (j + 1)) := by show _ = _; rw [List.drop_eq_getElem_cons hjm, hm]
        have hz : acc ++ zerosI (4 - j) = acc ++ [0] ++ zerosI (4 - (j + 1)) := by
          rw [show 4 - j = (4 - (j + 1)) + 1 by omega]
          simp [zerosI, List.replicate_succ]
        have HZ := Lib.hid hz
        by_cases h45 : m = 45
        · subst h45
          have e45 : (((45 : UInt8).toNat : Int)) = 45 := rfl
          rw [e45] at hcm
          have HNX : Hid ((fieldsL (mk.drop (j + 1)) rest).map (fun r => (acc ++ [0] ++ r.1, r.2)) = fieldsL mk ws) := by
            show _ = _
            rw [← hsp.out, HDR.out]
            rw [fieldsL_minus]
            simp [Option.map_map, Function.comp_def]
          clear hz hbt hm hjm
          go_wp2_with fail
          go_roundg (4 - (j + 1))
          case measure => have := hjk.out; omega
          case rel => exact ⟨j + 1, n', c', A', rest, acc ++ [0], by go_num, rfl, by show _ = _; have := hjk.out; omega, by show _ = _; rw [List.length_append, hal.out]; rfl, hnr.out, hnc.out, hn5.out, hCr.out, hB.out, hR.out, by show _ = _; rw [← HZ.out]; exact hF.out, hMc.out, HNX.out⟩
        · have e45 : (((m.toNat : Int)) == 45) = false := by
            rw [beq_eq_false_iff_ne]
            intro h
            exact h45 (UInt8.toNat_inj.1 (by show _ = 45; omega))
          cases rest with
          | nil =>
            have hn0 : n' = 0 := hnr.out
            have HSS : Hid (sp = none) := by
              have h1 := hsp.out
              rw [HDR.out, fieldsL_none m _ h45] at h1
              show _ = _
              rw [HSP2.out, ← h1]
              rfl
            subst hn0
            clear hz hbt hm hjm h45
            generalize (m.toNat : Int) = mv at *
            go_wp2_with fail
            refine (need_no 4 _).mono ?_
            rintro _ _ ⟨rfl, rfl⟩
            rw [HSS.out]
            exact ⟨rfl, rfl, hB.out⟩
          | cons y rest =>
            have hnr' : Hid (n' = rest.length + 1) := hnr.out
            have hn1 : n' = rest.length + 1 := hnr'.out
            subst hn1
            have hw0 : (wB (y :: rest)).length = rest.length + 1 := by simp
            have hw00 : (wB rest).length = rest.length := by simp
            obtain ⟨A2, hct2, hC2, hc2⟩ := tail_str ⟨y.toArray⟩ (wB rest) A' c' w (by have := hCr.out; rwa [← hw0] at this) (by have := hnc.out; rw [List.length_cons, hw00]; exact this)
            obtain ⟨ad2, hA2, hcy⟩ := head_str ⟨y.toArray⟩ (wB rest) A' wr (by have := Kd.C_below hCr.out hB.out; rwa [← hw0] at this)
            subst hA2
            rw [hw00] at hct2 hC2 hc2
            have HCT2 := Lib.hid hct2
            have HC22 : Hid (Kd.string.C w A2 rest.length (wB rest) ∧ rest.length ≤ c' - 1) := ⟨hC2, hc2⟩
            have hp0 : (0 : Int) < (rest.length : Int) + 1 := by omega
            have hp1 : decide ((rest.length : Int) + 1 > 0) = true := decide_eq_true hp0
            clear hct2 hC2 hc2 hw0 hw00
            by_cases h61 : m = 61
            · have HSG := Lib.hid (fun W => asigned_any y W)
              have hspv : Hid (fieldsL mk ws = ((signedL y).bind fun v => (fieldsL (mk.drop (j + 1)) rest).map fun r => (v :: r.1, r.2)).map (fun r => (acc ++ r.1, r.2))) := by
                show _ = _
                rw [← hsp.out, HDR.out, fieldsL_some m _ y rest h45]
                rw [if_pos h61]
              generalize signedL y = yv at HSG hspv
              obtain ⟨Y, hY⟩ : ∃ Y : ByteArray, Y = ⟨y.toArray⟩ := ⟨_, rfl⟩
              rw [← hY] at HSG hcy
              clear hY hz hbt hm hjm h45 HDR hsp
              have h61b : (((m.toNat : Int)) == 61) = true := by rw [h61]; rfl
              generalize (m.toNat : Int) = mv at *
              go_wp2_with fail
              refine (need_ok 4 _).mono ?_
              rintro _ W' ⟨rfl, hw'⟩
              rw [hw']
              clear hw' W'
              go_wp2_with fail
              refine (HSG.out _).mono ?_
              intro e w6 hg
              cases yv with
              | none =>
                obtain ⟨rfl, hb6⟩ := hg
                have HSS : Hid (sp = none) := by show _ = _; rw [HSP2.out, hspv.out]; rfl
                rw [HSS.out]
                exact ⟨rfl, rfl, hB.out.trans (hb6.mono hB.out.size)⟩
              | some v =>
                obtain ⟨rfl, hb6⟩ := hg
                have HF6 : Hid (w6.heap[b4]? = some (.cells (((acc ++ [0] ++ zerosI (4 - (j + 1))).map (Value.int .i64)).toArray) 221 (0, 0))) := by
                  have := blk_below hF.out hb6
                  rwa [HZ.out] at this
                have hc6 := blk_cell HF6.out j
                have hf6 := blk_frozen HF6.out j
                have hx6 : (((acc ++ [0] ++ zerosI (4 - (j + 1))).map (Value.int .i64)).toArray)[j]? = some (.int .i64 0) := by
                  have := hal.out
                  subst this
                  simp
                rw [hx6] at hc6
                have HS6 : Hid ((w6.setCell ⟨b4, j, none⟩ (.int .i64 v)).heap[b4]? = some (.cells (((acc ++ [v] ++ zerosI (4 - (j + 1))).map (Value.int .i64)).toArray) 221 (0, 0))) := by
                  have := blk_set HF6.out j (.int .i64 v)
                  rwa [set_at acc _ v j hal.out] at this
                have HR6 : Hid ((w6.setCell ⟨b4, j, none⟩ (.int .i64 v)).heap[w.heap.size]? = _) := blk_far (blk_below hR.out hb6) (by show _ ≠ b4; have := HG.out; omega) _
                have HM6 : Hid (∀ q, q < 4 → (w6.setCell ⟨b4, j, none⟩ (.int .i64 v)).cell? ⟨gb, q, none⟩ = some (.int .u8 (bt M q))) := fun q hq => by
                  have h1 := hMc.out q hq
                  have hlt : gb < wr.heap.size := by
                    have h2 := h1
                    unfold World.cell? at h2
                    cases hh : wr.heap[gb]? with
                    | none => simp [hh] at h2
                    | some o2 => exact (Array.getElem?_eq_some_iff.1 hh).1
                  rw [World.cell?_setCell_other _ _ _ _ (by intro e; injection e with e1; have := HG.out; omega)]
                  exact (hb6.cell (p := ⟨gb, q, none⟩) hlt).trans h1
                have HB6 : Hid (Below w.heap.size w (w6.setCell ⟨b4, j, none⟩ (.int .i64 v))) := (hB.out.trans (hb6.mono hB.out.size)).setCell (p := ⟨b4, j, none⟩) (by show _ ≤ b4; have := HG.out; omega) _
                have HSP6 : Hid ((fieldsL (mk.drop (j + 1)) rest).map (fun r => (acc ++ [v] ++ r.1, r.2)) = fieldsL mk ws) := by
                  show _ = _
                  rw [hspv.out]
                  simp [Option.map_map, Function.comp_def]
                have hct2 := HCT2.out
                clear hb6
                go_wp2_with fail
                go_roundg (4 - (j + 1))
                case measure => have := hjk.out; omega
                case rel => exact ⟨j + 1, rest.length, c' - 1, A2, rest, acc ++ [v], by go_num, rfl, by show _ = _; have := hjk.out; omega, by show _ = _; rw [List.length_append, hal.out]; rfl, rfl, HC22.out.2, by show _ ≤ _; have := hn5.out; have := hnr'.out; omega, HC22.out.1, HB6.out, HR6.out, HS6.out, HM6.out, HSP6.out⟩
            · have HSG := Lib.hid (fun W => asmall_any y m W)
              have hspv : Hid (fieldsL mk ws = ((smallL y m).bind fun v => (fieldsL (mk.drop (j + 1)) rest).map fun r => (v :: r.1, r.2)).map (fun r => (acc ++ r.1, r.2))) := by
                show _ = _
                rw [← hsp.out, HDR.out, fieldsL_some m _ y rest h45]
                rw [if_neg h61]
              generalize smallL y m = yv at HSG hspv
              obtain ⟨Y, hY⟩ : ∃ Y : ByteArray, Y = ⟨y.toArray⟩ := ⟨_, rfl⟩
              rw [← hY] at HSG hcy
              clear hY hz hbt hm hjm h45 HDR hsp
              have h61b : (((m.toNat : Int)) == 61) = false := by
                rw [beq_eq_false_iff_ne]
                intro h
                exact h61 (UInt8.toNat_inj.1 (by show _ = 61; omega))
              generalize (m.toNat : Int) = mv at *
              go_wp2_with fail
              refine (need_ok 4 _).mono ?_
              rintro _ W' ⟨rfl, hw'⟩
              rw [hw']
              clear hw' W'
              go_wp2_with fail
              refine (HSG.out _).mono ?_
              intro e w6 hg
              cases yv with
              | none =>
                obtain ⟨rfl, hb6⟩ := hg
                have HSS : Hid (sp = none) := by show _ = _; rw [HSP2.out, hspv.out]; rfl
                rw [HSS.out]
                exact ⟨rfl, rfl, hB.out.trans (hb6.mono hB.out.size)⟩
              | some v =>
                obtain ⟨rfl, hb6⟩ := hg
                have HF6 : Hid (w6.heap[b4]? = some (.cells (((acc ++ [0] ++ zerosI (4 - (j + 1))).map (Value.int .i64)).toArray) 221 (0, 0))) := by
                  have := blk_below hF.out hb6
                  rwa [HZ.out] at this
                have hc6 := blk_cell HF6.out j
                have hf6 := blk_frozen HF6.out j
                have hx6 : (((acc ++ [0] ++ zerosI (4 - (j + 1))).map (Value.int .i64)).toArray)[j]? = some (.int .i64 0) := by
                  have := hal.out
                  subst this
                  simp
                rw [hx6] at hc6
                have HS6 : Hid ((w6.setCell ⟨b4, j, none⟩ (.int .i64 v)).heap[b4]? = some (.cells (((acc ++ [v] ++ zerosI (4 - (j + 1))).map (Value.int .i64)).toArray) 221 (0, 0))) := by
                  have := blk_set HF6.out j (.int .i64 v)
                  rwa [set_at acc _ v j hal.out] at this
                have HR6 : Hid ((w6.setCell ⟨b4, j, none⟩ (.int .i64 v)).heap[w.heap.size]? = _) := blk_far (blk_below hR.out hb6) (by show _ ≠ b4; have := HG.out; omega) _
                have HM6 : Hid (∀ q, q < 4 → (w6.setCell ⟨b4, j, none⟩ (.int .i64 v)).cell? ⟨gb, q, none⟩ = some (.int .u8 (bt M q))) := fun q hq => by
                  have h1 := hMc.out q hq
                  have hlt : gb < wr.heap.size := by
                    have h2 := h1
                    unfold World.cell? at h2
                    cases hh : wr.heap[gb]? with
                    | none => simp [hh] at h2
                    | some o2 => exact (Array.getElem?_eq_some_iff.1 hh).1
                  rw [World.cell?_setCell_other _ _ _ _ (by intro e; injection e with e1; have := HG.out; omega)]
                  exact (hb6.cell (p := ⟨gb, q, none⟩) hlt).trans h1
                have HB6 : Hid (Below w.heap.size w (w6.setCell ⟨b4, j, none⟩ (.int .i64 v))) := (hB.out.trans (hb6.mono hB.out.size)).setCell (p := ⟨b4, j, none⟩) (by show _ ≤ b4; have := HG.out; omega) _
                have HSP6 : Hid ((fieldsL (mk.drop (j + 1)) rest).map (fun r => (acc ++ [v] ++ r.1, r.2)) = fieldsL mk ws) := by
                  show _ = _
                  rw [hspv.out]
                  simp [Option.map_map, Function.comp_def]
                have hct2 := HCT2.out
                clear hb6
                go_wp2_with fail
                go_roundg (4 - (j + 1))
                case measure => have := hjk.out; omega
                case rel => exact ⟨j + 1, rest.length, c' - 1, A2, rest, acc ++ [v], by go_num, rfl, by show _ = _; have := hjk.out; omega, by show _ = _; rw [List.length_append, hal.out]; rfl, rfl, HC22.out.2, by show _ ≤ _; have := hn5.out; have := hnr'.out; omega, HC22.out.1, HB6.out, HR6.out, HS6.out, HM6.out, HSP6.out⟩
      · have hje : j = 4 := by have := hjk.out; omega
        subst hje
        have hj2 : ¬ (((4 : Nat) : Int)) < 4 := by omega
        have hdm : mk.drop 4 = [] := List.drop_eq_nil_of_le (by omega)
        have hfl : fieldsL mk ws = some (acc, rest) := by
          rw [← hsp.out, hdm]
          simp [fieldsL]
        have HSPF : Hid (sp = if rest = [] then some ((o : Int), acc) else none) := by show _ = _; rw [HSP2.out, hfl]; rfl
        match acc, hal.out with
        | [a0, a1, a2, a3], _ =>
          have hF4 : wr.heap[b4]? = some (.cells #[.int .i64 a0, .int .i64 a1, .int .i64 a2, .int .i64 a3] 221 (0, 0)) := hF.out
          have k0 := blk_cell hF4 0
          have k1 := blk_cell hF4 1
          have k2 := blk_cell hF4 2
          have k3 := blk_cell hF4 3
          have r0 := blk_cell hR.out 0
          have r1 := blk_cell hR.out 1
          have r2 := blk_cell hR.out 2
          have r3 := blk_cell hR.out 3
          have r4 := blk_cell hR.out 4
          have q0 := blk_frozen hR.out 0
          have q1 := blk_frozen hR.out 1
          have q2 := blk_frozen hR.out 2
          have q3 := blk_frozen hR.out 3
          have q4 := blk_frozen hR.out 4
          simp only [List.getElem?_toArray, List.getElem?_cons_zero, List.getElem?_cons_succ] at k0 k1 k2 k3 r0 r1 r2 r3 r4
          clear hdm hfl hF4
          cases rest with
          | cons y rest =>
            have hn1 : n' = rest.length + 1 := hnr.out
            subst hn1
            have hp1 : (((rest.length : Int) + 1) == 0) = false := by rw [beq_eq_false_iff_ne]; omega
            have HSS : Hid (sp = none) := by show _ = _; rw [HSPF.out]; rfl
            go_wp2_with fail
            refine (need_no 4 _).mono ?_
            rintro _ _ ⟨rfl, rfl⟩
            rw [HSS.out]
            exact ⟨rfl, rfl, hB.out⟩
          | nil =>
            have hn0 : n' = 0 := hnr.out
            subst hn0
            have HSS : Hid (sp = some ((o : Int), [a0, a1, a2, a3])) := by show _ = _; rw [HSPF.out]; rfl
            go_wp2_with fail
            refine (need_ok 4 _).mono ?_
            rintro _ W' ⟨rfl, hw'⟩
            rw [hw']
            clear hw' W'
            go_wp2_with fail
            have hX := blk_set (blk_set (blk_set (blk_set (blk_set hR.out 0 (.int .i64 (o : Int))) 1 (.int .i64 a0)) 2 (.int .i64 a1)) 3 (.int .i64 a2)) 4 (.int .i64 a3)
            refine bodyPost_ret (results_cell_row rfl _ _ _ 121 _ _ _ rfl hX Tryz.underlying121 rfl (by kernel_rfl)) rfl ?_
            rw [HSS.out]
            exact ⟨rfl, ((((hB.out.setCell (p := ⟨w.heap.size, 0, none⟩) (Nat.le_refl _) _).setCell (p := ⟨w.heap.size, 1, none⟩) (Nat.le_refl _) _).setCell (p := ⟨w.heap.size, 2, none⟩) (Nat.le_refl _) _).setCell (p := ⟨w.heap.size, 3, none⟩) (Nat.le_refl _) _).setCell (p := ⟨w.heap.size, 4, none⟩) (Nat.le_refl _) _⟩
  · have hop2 : decide (op > 0) = false := decide_eq_false hop
    have HS : Hid (sp = none) := by show _ = _; rw [HSP.out, if_neg hop]
    clear HSP hop
    go_wp2_with fail
    refine (need_no 4 _).mono ?_
    rintro _ _ ⟨rfl, rfl⟩
    rw [HS.out]
    exact ⟨rfl, rfl, HB2.out⟩
end Go.Proofs.YtbiajfkencamiaaGreatDoor.Core
/-! asm: a program in memory that the call itself has made: its last function grows. -/
namespace Go.Proofs.YtbiajfkencamiaaGreatDoor.Core
open Go.RowKit Go.Proofs.YtbiajfkencamiaaGreatDoorW.PrintWords Go.Proofs.YtbiajfkencamiaaGreatDoorW.PrintMore Go.Proofs.YtbiajfkencamiaaGreatDoor
open Go.Proofs.YtbiajfkencamiaaGreatDoor.PK (S121 k121 z121 S124 k124 z124 k124_openM k124_mkM k121_openM k121_mkM)
set_option linter.unusedVariables false
set_option linter.unusedSimpArgs false
/-- A function: its arity, its instructions (an operation, four fields). -/
abbrev Fn := Int × List (Int × List Int)
def toI (i : Int × List Int) : S121 := ⟨i.1, i.2.getD 0 0, i.2.getD 1 0, i.2.getD 2 0, i.2.getD 3 0⟩
def toP (f : Fn) : S124 := ⟨f.1, f.2.map toI⟩
/-- A row of functions, or of instructions. -/
def rowT (o : Obj) : Prop := ∃ c, o = .cells c 124 (0, 0) ∨ o = .cells c 121 (0, 0)
structure KeepsT (w w' : World) : Prop where
  size : w.heap.size ≤ w'.heap.size
  same : ∀ (k : Nat) (o : Obj), w.heap[k]? = some o → ¬ rowT o → w'.heap[k]? = some o
theorem KeepsT.trans {a b c : World} (h : KeepsT a b) (k : KeepsT b c) : KeepsT a c := ⟨Nat.le_trans h.size k.size, fun q o h1 h2 => k.same q o (h.same q o h1 h2) h2⟩
theorem KeepsT.grown {w w' : World} {row : Option Nat} (hg : w.grownBy w' row) (hrow : ∀ j, row = some j → ∃ c, w.heap[j]? = some (.cells c 124 (0, 0)) ∨ w.heap[j]? = some (.cells c 121 (0, 0))) : KeepsT w w' :=
  ⟨hg.size, fun k o hk ho => (hg.block k (Array.getElem?_eq_some_iff.1 hk).1 (fun e => ho (by
    obtain ⟨c, hc⟩ := hrow k e.symm
    rw [hk] at hc
    exact ⟨c, hc.imp (fun h => Option.some.inj h) (fun h => Option.some.inj h)⟩))).trans hk⟩
theorem KeepsT.set {w : World} {g : Nat} {c : Array Value} (o : Nat) (v : Value) (hg : w.heap[g]? = some (.cells c 124 (0, 0))) : KeepsT w (w.setCell ⟨g, o, none⟩ v) :=
  ⟨(KeepsOthers.setCell w _ v).size, fun k x hk hx => by
    by_cases e : k = g
    · subst e
      rw [hg] at hk
      injection hk with hk
      exact absurd ⟨c, .inl hk.symm⟩ hx
    · exact (Below.heap_setCell w _ v k (by exact e)).trans hk⟩
theorem KeepsT.others {w w' : World} (h : KeepsT w w') : KeepsOthers w w' := ⟨h.size, fun k o hk ho => h.same k o hk (fun ⟨c, hc⟩ => by rcases hc with rfl | rfl <;> cases ho)⟩
theorem KeepsT.block {w w' : World} (h : KeepsT w w') {k t : Nat} {c : Array Value} (hk : w.heap[k]? = some (.cells c t (0, 0))) (h1 : t ≠ 124) (h2 : t ≠ 121) : w'.heap[k]? = some (.cells c t (0, 0)) :=
  h.same k _ hk (fun ⟨c', hc⟩ => by
    rcases hc with hc | hc
    · injection hc with _ hc; exact h1 hc
    · injection hc with _ hc; exact h2 hc)
/-- Nothing below base has turned, and nothing but such rows. -/
def Turned (base : Nat) (w w' : World) : Prop := Below base w w' ∧ KeepsT w w'
theorem Turned.refl (base : Nat) (w : World) : Turned base w w := ⟨Below.refl _ _, Nat.le_refl _, fun _ _ h _ => h⟩
theorem Turned.trans {base : Nat} {a b c : World} (h : Turned base a b) (k : Turned base b c) : Turned base a c := ⟨h.1.trans k.1, h.2.trans k.2⟩
theorem keepsT_below {w w' : World} (h : Below w.heap.size w w') : KeepsT w w' := ⟨h.size, fun k o hk _ => blk_below hk h⟩
theorem Turned.below {base : Nat} {w w' : World} (hb : base ≤ w.heap.size) (h : Below w.heap.size w w') : Turned base w w' := ⟨h.mono hb, keepsT_below h⟩
theorem Turned.set {base : Nat} {w : World} {b : Nat} {c : Array Value} (o : Nat) (hb : base ≤ b) (v : Value) (hg : w.heap[b]? = some (.cells c 124 (0, 0))) : Turned base w (w.setCell ⟨b, o, none⟩ v) := ⟨(Below.refl _ _).setCell (p := ⟨b, o, none⟩) hb _, KeepsT.set o v hg⟩
/-- A program of the call's own. -/
def PrgP (w : World) (base : Nat) (v : Value) (p : List Fn) : Prop := Kd.S k124 124 w base (fun _ => True) v (p.map toP)
theorem PrgP.nil (w : World) (base : Nat) : PrgP w base (.slice none 0 0) [] := Kd.S_nil _ _ _ _ _
theorem PrgP.below {w w' : World} {base : Nat} {v : Value} {p : List Fn} (h : PrgP w base v p) (hb : Below w.heap.size w w') : PrgP w' base v p := Kd.S_below h hb
theorem PrgP.slice {w : World} {base : Nat} {v : Value} {p : List Fn} (h : PrgP w base v p) : ∃ A c, v = .slice A p.length c ∧ p.length ≤ c := by
  obtain ⟨A, c, h1, h2, _⟩ := Kd.S_reads h
  rw [List.length_map] at h1 h2
  exact ⟨A, c, h1, h2⟩
theorem PrgP.keeps {w w1 : World} {base : Nat} {v : Value} {p : List Fn} (h : PrgP w base v p) (hg : w.grownBy w1 v.ownBlock) : KeepsT w w1 :=
  KeepsT.grown hg (fun j ej => by
    obtain ⟨cells, hc⟩ := Kd.S_typed h j ej
    exact ⟨cells, .inl hc⟩)
/-- A cell of another type is written. -/
theorem PrgP.set {w : World} {base : Nat} {v : Value} {p : List Fn} {g t : Nat} {c : Array Value} (h : PrgP w base v p) (hb : w.heap[g]? = some (.cells c t (0, 0))) (h1 : t ≠ 124) (h2 : t ≠ 121) (j : Nat) (u : Value) : PrgP (w.setCell ⟨g, j, none⟩ u) base v p :=
  Kd.S_set h hb (fun q hq => by
    have : q = 124 ∨ q = 121 := by
      have hE : k124.E = [121] := rfl
      rw [hE] at hq
      simpa using hq
    rcases this with rfl | rfl
    · exact h1.symm
    · exact h2.symm) j u
/-- The last function of a program, lent. -/
def LastP (w : World) (base : Nat) (g cap : Nat) (p : List Fn) (f : Fn) (oki : Nat → Prop) (vl : Value) : Prop :=
  (k121.R 121 w base oki vl (f.2.map toI)) ∧ (∀ k, oki k → k ≠ g) ∧ (∃ c, w.heap[g]? = some (.cells c 124 (0, 0))) ∧ Kd.H k124 124 w base (fun _ => True) (.slice (some ⟨g, 0, none⟩) p.length cap) (p.map toP) ((p.length : Int) - 1) oki [.int .i64 f.1, vl]
theorem prg_last {w : World} {base : Nat} {v : Value} {p : List Fn} {f : Fn} (h : PrgP w base v p) (hf : p.getLast? = some f) : ∃ g cap oki vl, v = .slice (some ⟨g, 0, none⟩) p.length cap ∧ base ≤ g ∧ g < w.heap.size ∧
    w.cell? ⟨g, (p.length - 1) * 2 + 1, none⟩ = some vl ∧ w.frozen? ⟨g, (p.length - 1) * 2 + 1, none⟩ = false ∧ LastP w base g cap p f oki vl := by
  have hp : 0 < p.length := by
    cases p with
    | nil => cases hf
    | cons a t => simp
  obtain ⟨g, cap, rfl, hg1, hg2, hgt⟩ := Kd.S_form h (by rw [List.length_map]; exact hp)
  rw [List.length_map] at h ⊢
  obtain ⟨oki, c, hcl, hM, hcc, hfr, hoki, hH⟩ := Kd.S_elem h z124 ((p.length : Int) - 1) (by omega) (by omega)
  have hi : ((p.length : Int) - 1).toNat = p.length - 1 := by omega
  rw [hi] at hM hcc hfr
  have hget : (p.map toP).getD (p.length - 1) z124 = toP f := by
    rw [List.getLast?_eq_getElem?] at hf
    rw [List.getD_eq_getElem?_getD, List.getElem?_map, hf]
    rfl
  rw [hget] at hM
  obtain ⟨vl, rfl, hR⟩ := k124_openM hM
  exact ⟨g, cap, oki, vl, rfl, hg1, hg2, hcc 1 vl rfl, hfr 1, hR, fun k hk => (hoki k hk).2, hgt, hH⟩
theorem setCells_one (w : World) (g o : Nat) (v : Value) : w.setCells g o [v] = w.setCell ⟨g, o, none⟩ v := by
  simp [World.setCells]
theorem grown_cell {W W' : World} {row : Option Nat} {g : Nat} (o : Nat) (hg : W.grownBy W' row) (hlt : g < W.heap.size) (hne : some g ≠ row) : W'.cell? ⟨g, o, none⟩ = W.cell? ⟨g, o, none⟩ ∧ W'.frozen? ⟨g, o, none⟩ = W.frozen? ⟨g, o, none⟩ := by
  have h := hg.block g hlt hne
  simp [World.cell?, World.frozen?, h]
/-- Behind the append and the store. -/
theorem prg_grown {w w1 : World} {base g cap : Nat} {p : List Fn} {f : Fn} {oki : Nat → Prop} {vl v1 : Value} {i : Int × List Int} (h : LastP w base g cap p f oki vl) (hp : 0 < p.length)
    (hR : k121.R 121 w1 base (fun k => oki k ∨ True ∧ w.heap.size ≤ k) v1 (f.2.map toI ++ [toI i])) (hg : w.grownBy w1 vl.ownBlock) :
    PrgP (w1.setCell ⟨g, (p.length - 1) * 2 + 1, none⟩ v1) base (.slice (some ⟨g, 0, none⟩) p.length cap) (p.set (p.length - 1) (f.1, f.2 ++ [i])) := by
  obtain ⟨h1, h2, _, h3⟩ := h
  have h4 := Kd.H_widen h3
  have h5 := Kd.H_grown h4 hg (fun k hk => .inl (h1.1 k hk))
  have hglt : g < w.heap.size := by
    obtain ⟨_, f', hR'⟩ := h3
    exact Kd.R_lt hR' g (by simp [Value.ownBlock])
  have hi : ((p.length : Int) - 1).toNat = p.length - 1 := by omega
  have hone := (Kd.R_val hR).2
  obtain ⟨h6, h7⟩ := Kd.H_seg h5 (by omega) (by omega) (seg := [v1]) (j := 1) (by show _ ≤ 2; simp) (by intro q hq; rw [List.mem_singleton.1 hq]; exact hone)
  rw [hi, setCells_one] at h6 h7
  simp only [List.take_succ_cons, List.take_zero, List.length_cons, List.length_nil, List.drop_succ_cons, List.drop_nil, List.append_nil, List.cons_append, List.nil_append] at h6
  have hsz : k124.sz = 2 := rfl
  rw [hsz] at h6 h7
  have hne : ∀ k, (oki k ∨ True ∧ w.heap.size ≤ k) → k ≠ g := by
    intro k hk
    rcases hk with hk | ⟨_, hk⟩
    · exact h2 k hk
    · omega
  have hR2 := Kd.R_far (p := ⟨g, (p.length - 1) * 2 + 1, none⟩) hR (fun k hk => hne k hk) v1
  have hM := k124_mkM _ base _ (toP (f.1, f.2 ++ [i])) (v1 := v1) (show k121.R 121 _ _ _ v1 ((f.2 ++ [i]).map toI) by rw [List.map_append]; exact hR2)
  have h8 := Kd.H_back h6 hM (fun k hk => hk)
  rw [hi] at h8
  unfold PrgP
  rw [List.map_set]
  exact h8
end Go.Proofs.YtbiajfkencamiaaGreatDoor.Core
/-! asm: what a line's words do to a program, as plain lists. -/
namespace Go.Proofs.YtbiajfkencamiaaGreatDoor.Core
open Go.RowKit Go.Shelf Go.Proofs.YtbiajfkencamiaaGreatDoorW.PrintWords Go.Proofs.YtbiajfkencamiaaGreatDoorW.PrintMore Go.Proofs.YtbiajfkencamiaaGreatDoor.P1 Go.Proofs.YtbiajfkencamiaaGreatDoor
set_option linter.unusedVariables false
set_option linter.unusedSimpArgs false
def funcW : List UInt8 := [102, 117, 110, 99]
/-- A program with a line more, by its words; or an error's number. -/
def takeL (p : List Fn) : List (List UInt8) → Except Int (List Fn)
  | [] => .ok p
  | x :: rest =>
    if x = funcW then
      (match rest with
       | [y] => (match plainL y with
          | some n => if n ≤ 255 then (if p.length < 255 then .ok (p ++ [(n, [])]) else .error 3) else .error 4
          | none => .error 4)
       | _ => .error 4)
    else (match instrL (x :: rest) with
      | none => .error 4
      | some i => (match p.getLast? with
         | none => .error 4
         | some f => if f.2.length < 255 then .ok (p.set (p.length - 1) (f.1, f.2 ++ [i])) else .error 3))
/-- Lines, one behind the other. -/
def parseL : List Fn → Nat → List (List UInt8) → Except (Nat × Int) (List Fn)
  | p, _, [] => .ok p
  | p, n, l :: t => match takeL p (wordsL l) with
    | .ok q => parseL q (n + 1) t
    | .error e => .error (n + 1, e)
theorem parseL_append (l2 : List (List UInt8)) : ∀ (l1 : List (List UInt8)) (p : List Fn) (n : Nat), parseL p n (l1 ++ l2) = (match parseL p n l1 with | .ok q => parseL q (n + l1.length) l2 | .error e => .error e)
  | [], p, n => rfl
  | l :: t, p, n => by
    simp only [List.cons_append, parseL]
    cases takeL p (wordsL l) with
    | error e => rfl
    | ok q =>
      simp only
      rw [parseL_append l2 t q (n + 1)]
      simp only [List.length_cons]
      rw [show n + 1 + t.length = n + (t.length + 1) by omega]
/-- Words of programs that lines make: few functions, few instructions. -/
def Few (p : List Fn) : Prop := p.length ≤ 255 ∧ ∀ f ∈ p, f.2.length ≤ 255 ∧ (0 ≤ f.1 ∧ f.1 ≤ 255)
theorem take_few {p q : List Fn} {ws : List (List UInt8)} (h : Few p) (ht : takeL p ws = .ok q) : Few q := by
  unfold takeL at ht
  split at ht
  · injection ht with ht; rw [← ht]; exact h
  · split at ht
    · split at ht
      · split at ht
        · rename_i n hn
          split at ht
          · rename_i h255
            split at ht
            · rename_i hlt
              injection ht with ht
              rw [← ht]
              have hr := plainL_range hn
              refine ⟨by simp; omega, fun f hf => ?_⟩
              rcases List.mem_append.1 hf with hf | hf
              · exact h.2 f hf
              · rw [List.mem_singleton.1 hf]; exact ⟨by simp, hr.1, h255⟩
            · cases ht
          · cases ht
        · cases ht
      · cases ht
    · split at ht
      · cases ht
      · split at ht
        · cases ht
        · rename_i f hf
          split at ht
          · rename_i hlt
            injection ht with ht
            rw [← ht]
            have hm := h.2 f (List.mem_of_getLast? hf)
            refine ⟨by simpa using h.1, fun g hg => ?_⟩
            rcases List.mem_or_eq_of_mem_set hg with hg | rfl
            · exact h.2 g hg
            · exact ⟨by simp; omega, hm.2⟩
          · cases ht
end Go.Proofs.YtbiajfkencamiaaGreatDoor.Core
/-! asm.take: its walk. -/
namespace Go.Proofs.YtbiajfkencamiaaGreatDoor.Core
open Go.RowKit Go.Shelf Go.Proofs.YtbiajfkencamiaaGreatDoorW.PrintWords Go.Proofs.YtbiajfkencamiaaGreatDoorW.PrintMore Go.Proofs.YtbiajfkencamiaaGreatDoor.P1 Go.Proofs.YtbiajfkencamiaaGreatDoor
open Go.Proofs.YtbiajfkencamiaaGreatDoor.PK (S121 k121 z121 S124 k124 z124 k124_openM k124_mkM k121_openM k121_mkM info124 info121)
set_option linter.unusedVariables false
set_option linter.unusedSimpArgs false
/-- A program with a line more, or a panic. -/
def GivesP (base : Nat) (w : World) : Except Int (List Fn) → Ending → World → Prop
  | .ok q, e, w' => ∃ v', e = .returned v' ∧ PrgP w' base v' q ∧ Turned base w w'
  | .error c, e, w' => e = .panicked (wrongP c) ∧ Turned base w w'
set_option maxRecDepth 100000 in
set_option maxHeartbeats 4000000 in
theorem take_func_no (rest : List (List UInt8)) (h1 : rest.length ≠ 1) (A : Option Addr) (c : Nat) (w : World) (v : Value) (base : Nat) (hC : Kd.string.C w A (wB (funcW :: rest)).length (wB (funcW :: rest))) :
    Calls Tryz.prog 153 #[v, .slice A (wB (funcW :: rest)).length c] w (GivesP base w (.error 4)) := by
  obtain ⟨ad, hA, hc0⟩ := head_str ⟨funcW.toArray⟩ (wB rest) A w hC
  subst hA
  obtain ⟨n, hn⟩ : ∃ n, n = (wB (funcW :: rest)).length := ⟨_, rfl⟩
  rw [← hn]
  have hn2 : (((n : Int)) == 2) = false := by rw [beq_eq_false_iff_ne]; simp at hn; omega
  have hn0 : (0 : Int) < (n : Int) := by simp at hn; omega
  change w.cell? ad = some (.string ⟨#[102, 117, 110, 99]⟩) at hc0
  clear hC hn h1
  go_enter Tryz.func153, Tryz.ntmps153
  go_wp2_with fail
  refine (need_no 4 _).mono ?_
  rintro _ _ ⟨rfl, rfl⟩
  exact ⟨rfl, rfl, Turned.refl _ _⟩
/-- The second word of a row. -/
theorem second_str (x y : ByteArray) (ws : List ByteArray) (A : Option Addr) (w : World) (hC : Kd.string.C w A (x :: y :: ws).length (x :: y :: ws)) : ∃ ad, A = some ad ∧ w.cell? ad = some (.string x) ∧ w.cell? ⟨ad.block, ad.off + 1, none⟩ = some (.string y) := by
  obtain ⟨ad, hA, hcell⟩ := (Kd.reads_of_C (enc := Value.string) (d := ByteArray.empty) (h1 := fun _ => rfl) hC).2.2 (by simp)
  have hc0 := hcell 0 (by simp)
  have hc1 := hcell 1 (by simp)
  have ea : ad.add 0 = ad := by cases ad; simp [Addr.add]
  rw [ea] at hc0
  exact ⟨ad, hA, hc0, hc1⟩
set_option maxRecDepth 100000 in
set_option maxHeartbeats 4000000 in
theorem take_func_yes (y : List UInt8) (A : Option Addr) (c : Nat) (w : World) (p : List Fn) (v : Value) (base : Nat) (hC : Kd.string.C w A 2 (wB [funcW, y])) (hS : PrgP w base v p) (hF : Few p) (hbase : base ≤ w.heap.size) :
    Calls Tryz.prog 153 #[v, .slice A 2 c] w (GivesP base w (takeL p [funcW, y])) := by
  obtain ⟨ad, hA, hc0, hc1⟩ := second_str ⟨funcW.toArray⟩ ⟨y.toArray⟩ [] A w hC
  subst hA
  obtain ⟨A0, c0, rfl, hpc⟩ := hS.slice
  have HP := Lib.hid (fun W => aplain_any y W)
  have hsp : takeL p [funcW, y] = (match plainL y with
          | some n => if n ≤ 255 then (if p.length < 255 then .ok (p ++ [(n, [])]) else .error 3) else .error 4
          | none => .error 4) := by rw [takeL, if_pos rfl]; all_goals (cases plainL y <;> rfl)
  obtain ⟨sp, hspd⟩ : ∃ sp, sp = takeL p [funcW, y] := ⟨_, rfl⟩
  rw [← hspd] at hsp ⊢
  have HR := Lib.hid (fun n => plainL_range (t := y) (n := n))
  generalize plainL y = yv at HP HR hsp
  obtain ⟨Y, hY⟩ : ∃ Y : ByteArray, Y = ⟨y.toArray⟩ := ⟨_, rfl⟩
  rw [← hY] at HP hc1
  change w.cell? ad = some (.string ⟨#[102, 117, 110, 99]⟩) at hc0
  have HSP := Lib.hid hsp
  have HS := Lib.hid hS
  have HF := Lib.hid hF.1
  have HB := Lib.hid hbase
  clear hC hspd hY hsp hS hF hbase
  go_enter Tryz.func153, Tryz.ntmps153
  go_wp2_with fail
  refine (need_ok 4 _).mono ?_
  rintro _ W' ⟨rfl, hw'⟩
  rw [hw']
  clear hw' W'
  go_wp2_with fail
  refine (HP.out _).mono ?_
  intro e w1 hg
  cases yv with
  | none =>
    obtain ⟨rfl, hb⟩ := hg
    have hu : sp = .error 4 := HSP.out
    rw [hu]
    exact ⟨rfl, rfl, Turned.below HB.out hb⟩
  | some n =>
    obtain ⟨rfl, hb⟩ := hg
    have hu : sp = if n ≤ 255 then (if p.length < 255 then .ok (p ++ [(n, [])]) else .error 3) else .error 4 := HSP.out
    have HBW := Lib.hid hb
    clear hb hc0 hc1
    by_cases h255 : n ≤ 255
    · rw [if_pos h255] at hu
      have g3 : decide (n ≤ 255) = true := decide_eq_true h255
      by_cases hlt : p.length < 255
      · rw [if_pos hlt] at hu
        have HU := Lib.hid hu
        have hlt2 : decide (p.length < 255) = true := decide_eq_true hlt
        have hlt3 : decide ((p.length : Int) < 255) = true := decide_eq_true (by omega)
        clear hu
        go_wp2_with fail
        refine (need_ok 4 _).mono ?_
        rintro _ W' ⟨rfl, hw'⟩
        rw [hw']
        clear hw' W'
        go_wp2_with fail
        refine (need_ok 3 _).mono ?_
        rintro _ W' ⟨rfl, hw'⟩
        rw [hw']
        clear hw' W'
        obtain ⟨W1, hW1⟩ : ∃ W, w1 = W := ⟨_, rfl⟩
        rw [hW1]
        have HS1 : Hid (PrgP W1 base (.slice A0 p.length c0) p) := by rw [← hW1]; exact HS.out.below HBW.out
        have HT1 : Hid (Turned base w W1) := by rw [← hW1]; exact Turned.below HB.out HBW.out
        have HZ1 : Hid (base ≤ W1.heap.size) := by rw [← hW1]; exact Nat.le_trans HB.out HBW.out.size
        clear hW1 HBW
        go_wp2_with (at_builtin; refine Kd.S_append k124 (w0 := w) base rfl (.tmp 27) (.tmp 30) 85 124 (.agg #[(.int .i64 0), (.slice none 0 0)]) 32 rfl Tryz.underlying85 info124 rfl (by decide) (by omega) (.slice A0 p.length c0) (p.map toP) (toP (n, [])) [.int .i64 n, .slice none 0 0] (fun _ => True) (fun _ => False) rfl rfl (k124_mkM _ _ _ (toP (n, [])) (Kd.R_nil _ _ _ _ _)) (fun _ hk => hk.elim) (fun _ _ => trivial) (Kd.S_mono HS1.out (fun _ _ => ⟨trivial, fun h => h⟩)) HT1.out.1 HZ1.out (by rw [List.length_map]; omega) ?_; intro v1 w2 hs2 hb2 hg2 hat2)
        go_ret
        rw [HU.out]
        refine ⟨v1, rfl, ?_, hb2, HT1.out.2.trans (HS1.out.keeps hg2)⟩
        unfold PrgP
        rw [List.map_append]
        exact hs2
      · rw [if_neg hlt] at hu
        have HU := Lib.hid hu
        have hlt2 : decide (p.length < 255) = false := decide_eq_false hlt
        have hlt3 : decide ((p.length : Int) < 255) = false := decide_eq_false (by omega)
        clear hu
        go_wp2_with fail
        refine (need_ok 4 _).mono ?_
        rintro _ W' ⟨rfl, hw'⟩
        rw [hw']
        clear hw' W'
        go_wp2_with fail
        refine (need_no 3 _).mono ?_
        rintro _ W' ⟨rfl, hw'⟩
        rw [hw', HU.out]
        exact ⟨rfl, rfl, Turned.below HB.out HBW.out⟩
    · rw [if_neg h255] at hu
      have HU := Lib.hid hu
      have g3 : decide (n ≤ 255) = false := decide_eq_false h255
      clear hu
      go_wp2_with fail
      refine (need_no 4 _).mono ?_
      rintro _ W' ⟨rfl, hw'⟩
      rw [hw', HU.out]
      exact ⟨rfl, rfl, Turned.below HB.out HBW.out⟩
end Go.Proofs.YtbiajfkencamiaaGreatDoor.Core
