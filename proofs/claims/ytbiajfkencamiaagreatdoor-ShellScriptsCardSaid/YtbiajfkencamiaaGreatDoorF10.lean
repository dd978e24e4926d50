/- shell: what ShellScripts says of lines, as plain lists; what the chapter's example says. -/
import Derived.Test.YtbiajfkencamiaaGreatDoorF9
/-! F10 -/
namespace Go.Proofs.YtbiajfkencamiaaGreatDoor.SH
open Go.RowKit Go.Shelf Go.Proofs.YtbiajfkencamiaaGreatDoor.Core Go.Proofs.YtbiajfkencamiaaGreatDoor
set_option linter.unusedVariables false
set_option linter.unusedSimpArgs false
theorem splitB_line (r : List UInt8) : ∀ l : List UInt8, (10 : UInt8) ∉ l → splitB 10 (l ++ 10 :: r) = l :: splitB 10 r
  | [], _ => by rw [List.nil_append, splitB, if_pos rfl]
  | c :: l, h => by
    have hc : c ≠ 10 := fun e => h (by rw [e]; exact List.mem_cons_self)
    rw [List.cons_append, splitB, if_neg hc, splitB_line r l (fun e => h (List.mem_cons_of_mem _ e))]
theorem splitB_last : ∀ l : List UInt8, (10 : UInt8) ∉ l → splitB 10 l = [l]
  | [], _ => rfl
  | c :: l, h => by
    have hc : c ≠ 10 := fun e => h (by rw [e]; exact List.mem_cons_self)
    rw [splitB, if_neg hc, splitB_last l (fun e => h (List.mem_cons_of_mem _ e))]
def joinN (ls : List (List UInt8)) : List UInt8 := ls.flatMap (· ++ [10])
theorem splitB_join : ∀ (ls : List (List UInt8)), (∀ l ∈ ls, (10 : UInt8) ∉ l) → splitB 10 (joinN ls) = ls ++ [[]]
  | [], _ => rfl
  | l :: ls, h => by
    have e : joinN (l :: ls) = l ++ 10 :: joinN ls := by simp [joinN]
    rw [e, splitB_line _ l (h l List.mem_cons_self), splitB_join ls (fun x hx => h x (List.mem_cons_of_mem _ hx))]
    rfl
/-- A line, a note and blanks ahead of it. -/
def noted (note l : List UInt8) : List (List UInt8) := [35 :: note, [32, 9, 13], 9 :: l]
def joinB (note : List UInt8) (ls : List (List UInt8)) : List UInt8 := joinN (ls.flatMap (noted note))
theorem joinB_snoc (note : List UInt8) (ls : List (List UInt8)) (l : List UInt8) : joinB note (ls ++ [l]) = joinB note ls ++ ([35] ++ note ++ [10, 32, 9, 13, 10, 9] ++ l ++ [10]) := by simp [joinB, joinN, noted]
theorem joinN_snoc (ls : List (List UInt8)) (l : List UInt8) : joinN (ls ++ [l]) = joinN ls ++ (l ++ [10]) := by simp [joinN]
theorem line_nil (T : List UInt8) : lineF T [] = ([], T) := rfl
theorem line_note (T note : List UInt8) : lineF T (35 :: note) = ([], T) := by
  have : wordsL (35 :: note) = [] := by unfold wordsL wl; simp
  unfold lineF
  rw [this]
theorem line_blank (T : List UInt8) : lineF T [32, 9, 13] = ([], T) := by
  have : wordsL [32, 9, 13] = [] := by decide
  unfold lineF
  rw [this]
theorem line_tab (T l : List UInt8) : lineF T (9 :: l) = lineF T l := by
  have : wordsL (9 :: l) = wordsL l := by
    show wl [] (9 :: l) = wl [] l
    rw [wl, if_neg (by decide), if_pos (by decide), if_pos rfl]
  unfold lineF
  rw [this]
theorem step_quiet (s : List UInt8 × List UInt8) {t : List UInt8} (h : lineF s.2 t = ([], s.2)) : stepS s t = s := by
  unfold stepS
  rw [h]
  simp
theorem run_noted (note : List UInt8) : ∀ (ls : List (List UInt8)) (s : List UInt8 × List UInt8), (ls.flatMap (noted note)).foldl stepS s = ls.foldl stepS s
  | [], s => rfl
  | l :: ls, s => by
    have e : (l :: ls).flatMap (noted note) = (35 :: note) :: [32, 9, 13] :: (9 :: l) :: ls.flatMap (noted note) := rfl
    rw [e, List.foldl_cons, List.foldl_cons, List.foldl_cons, step_quiet _ (line_note _ _), step_quiet _ (line_blank _), List.foldl_cons, run_noted note ls]
    unfold stepS
    rw [line_tab]
theorem run_a (ls : List (List UInt8)) (h : ∀ l ∈ ls, (10 : UInt8) ∉ l) : (runS (splitB 10 (joinN ls))).1 = (runS ls).1 := by
  rw [splitB_join ls h, runS_snoc, step_quiet _ (line_nil _)]
theorem noted_no {note : List UInt8} (hn : (10 : UInt8) ∉ note) {ls : List (List UInt8)} (h : ∀ l ∈ ls, (10 : UInt8) ∉ l) : ∀ l ∈ ls.flatMap (noted note), (10 : UInt8) ∉ l := by
  intro x hx
  obtain ⟨l, hl, hx⟩ := List.mem_flatMap.1 hx
  simp only [noted, List.mem_cons, List.not_mem_nil, or_false] at hx
  rcases hx with rfl | rfl | rfl
  · intro e
    rcases List.mem_cons.1 e with e | e
    · exact absurd e (by decide)
    · exact hn e
  · decide
  · intro e
    rcases List.mem_cons.1 e with e | e
    · exact absurd e (by decide)
    · exact h l hl e
theorem run_b (note : List UInt8) (hn : (10 : UInt8) ∉ note) (ls : List (List UInt8)) (h : ∀ l ∈ ls, (10 : UInt8) ∉ l) : (runS (splitB 10 (joinB note ls))).1 = (runS ls).1 := by
  unfold joinB
  rw [splitB_join _ (noted_no hn h), runS_snoc, step_quiet _ (line_nil _)]
  unfold runS
  rw [run_noted]
/-! No verb of a line without an m wants a machine. -/
theorem wl_mem : ∀ (s cur : List UInt8), ∀ y ∈ wl cur s, ∀ c ∈ y, c ∈ cur ∨ c ∈ s
  | [], cur, y, hy, c, hc => by
    unfold wl at hy
    split at hy
    · cases hy
    · rw [List.mem_singleton.1 hy] at hc; exact .inl hc
  | d :: t, cur, y, hy, c, hc => by
    unfold wl at hy
    split at hy
    · split at hy
      · cases hy
      · rw [List.mem_singleton.1 hy] at hc; exact .inl hc
    · split at hy
      · split at hy
        · rcases wl_mem t [] y hy c hc with h | h
          · cases h
          · exact .inr (List.mem_cons_of_mem _ h)
        · rcases List.mem_cons.1 hy with rfl | hy
          · exact .inl hc
          · rcases wl_mem t [] y hy c hc with h | h
            · cases h
            · exact .inr (List.mem_cons_of_mem _ h)
      · rcases wl_mem t (cur ++ [d]) y hy c hc with h | h
        · rcases List.mem_append.1 h with h | h
          · exact .inl h
          · exact .inr (by rw [List.mem_singleton.1 h]; exact List.mem_cons_self ..)
        · exact .inr (List.mem_cons_of_mem _ h)
theorem verb_light (y : List UInt8) (h : (109 : UInt8) ∉ y) : lightV (verbN y) := by
  unfold verbN verbsL
  simp only [verbIn]
  have n1 : y ≠ [108, 105, 109, 105, 116, 115] := fun e => h (by rw [e]; decide)
  have n2 : y ≠ [109, 97, 99, 104, 105, 110, 101] := fun e => h (by rw [e]; decide)
  have n3 : y ≠ [115, 117, 98, 109, 105, 116] := fun e => h (by rw [e]; decide)
  rw [if_neg n1, if_neg n2, if_neg n3]
  unfold lightV
  repeat' split
  all_goals simp
theorem light_of (t : List UInt8) (h : (109 : UInt8) ∉ t) : lightL t := fun y own hy => verb_light y (fun hm => by
  have := wl_mem t [] y (by show y ∈ wordsL t; rw [hy]; exact List.mem_cons_self ..) 109 hm
  rcases this with h' | h'
  · cases h'
  · exact h h')
theorem light_nil : lightL [] := fun y own hy => by cases hy
theorem light_a {ls : List (List UInt8)} (h : ∀ l ∈ ls, (10 : UInt8) ∉ l ∧ (109 : UInt8) ∉ l) : ∀ x ∈ splitB 10 (joinN ls), lightL x := by
  rw [splitB_join ls (fun l hl => (h l hl).1)]
  intro x hx
  rcases List.mem_append.1 hx with hx | hx
  · exact light_of x (h x hx).2
  · rw [List.mem_singleton.1 hx]; exact light_nil
theorem light_b {note : List UInt8} (hn : (10 : UInt8) ∉ note) {ls : List (List UInt8)} (h : ∀ l ∈ ls, (10 : UInt8) ∉ l ∧ (109 : UInt8) ∉ l) : ∀ x ∈ splitB 10 (joinB note ls), lightL x := by
  unfold joinB
  rw [splitB_join _ (noted_no hn (fun l hl => (h l hl).1))]
  intro x hx
  rcases List.mem_append.1 hx with hx | hx
  · obtain ⟨l, hl, hx⟩ := List.mem_flatMap.1 hx
    simp only [noted, List.mem_cons, List.not_mem_nil, or_false] at hx
    rcases hx with rfl | rfl | rfl
    · have : wordsL (35 :: note) = [] := by unfold wordsL wl; simp
      intro y own hy
      rw [this] at hy
      cases hy
    · exact light_of _ (by decide)
    · refine light_of _ (fun e => ?_)
      rcases List.mem_cons.1 e with e | e
      · exact absurd e (by decide)
      · exact (h l hl).2 e
  · rw [List.mem_singleton.1 hx]; exact light_nil
/-! Blanks. -/
theorem words_rep : ∀ n : Nat, wordsL (List.replicate n 32) = []
  | 0 => rfl
  | n + 1 => by
    show wl [] (32 :: List.replicate n 32) = []
    rw [wl, if_neg (by decide), if_pos (by decide), if_pos rfl]
    exact words_rep n
theorem rep_no (n : Nat) : (10 : UInt8) ∉ List.replicate n (32 : UInt8) := fun h => absurd (List.eq_of_mem_replicate h) (by decide)
theorem run_rep (n : Nat) : (runS (splitB 10 (List.replicate n 32))).1 = [] := by
  rw [splitB_last _ (rep_no n)]
  show (stepS ([], []) (List.replicate n 32)).1 = []
  unfold stepS lineF
  rw [words_rep]
  rfl
theorem light_rep (n : Nat) : ∀ x ∈ splitB 10 (List.replicate n (32 : UInt8)), lightL x := by
  rw [splitB_last _ (rep_no n)]
  intro x hx
  rw [List.mem_singleton.1 hx]
  exact light_of _ (fun h => absurd (List.eq_of_mem_replicate h) (by decide))
/-! What the chapter's example says. -/
def aw0 : List UInt8 := [99, 111, 100, 101, 32, 102, 117, 110, 99, 32, 48]
def aw1 : List UInt8 := [99, 111, 100, 101, 32, 115, 101, 116, 32, 114, 49, 32, 55]
def aw2 : List UInt8 := [99, 111, 100, 101, 32, 101, 109, 105, 116, 32, 114, 49, 32, 35, 32, 120]
def aw3 : List UInt8 := [99, 111, 100, 101, 32, 114, 101, 116, 32, 114, 49]
def aw4 : List UInt8 := [101, 118, 97, 108]
def awT (n : Nat) : List UInt8 := ([aw0, aw1, aw2, aw3].take n).foldl (fun T t => (lineF T t).2) []
theorem aw_0 : (lineF [] aw0).1 = okL := by kernel_rfl
theorem aw_1 : (lineF (awT 1) aw1).1 = okL := by kernel_rfl
theorem aw_2 : (lineF (awT 2) aw2).1 = okL := by kernel_rfl
theorem aw_3 : (lineF (awT 3) aw3).1 = okL := by kernel_rfl
theorem aw_4 : (lineF (awT 4) aw4).1 = [100, 111, 110, 101, 32, 55, 32, 58, 32, 55, 10] := by kernel_rfl
end Go.Proofs.YtbiajfkencamiaaGreatDoor.SH
