/- The document's words of a line are those of plain lists. -/
import Derived.Test.YtcchoeomeklgmaaDoorP2
import Derived.Test.YtcchoeomeklgmaaDoorAA
namespace Go.Proofs.YtcchoeomeklgmaaDoor.Core
open Go.RowKit Go.Proofs.YtcchoeomeklgmaaDoorW.PrintWords Go.Proofs.YtcchoeomeklgmaaDoorW.PrintMore Go.Proofs.YtcchoeomeklgmaaDoor.P2 Go.Proofs.YtcchoeomeklgmaaDoor
set_option linter.unusedVariables false
set_option linter.unusedSimpArgs false
theorem bt_get (s : ByteArray) (p : Nat) (h : p < s.size) : bt s (p : Int) = ((s.get! p).toNat : Int) := by
  have h2 : s.get! p = s[p] := by
    rw [← Lib.getD_get!']
    simp [List.getD, h]
    rfl
  rw [h2]
  simp [bt, h]
theorem wrN {n : Nat} (h : n ≤ 1000000000) : wrap64 ((n : Int) + 1) = ((n + 1 : Nat) : Int) := by unfold wrap64; omega
theorem blank_iff (n : Nat) : blankR n = true ↔ n = 32 ∨ n = 9 ∨ n = 13 := by unfold blankR; simp [Bool.or_eq_true, or_assoc]
def pieceB (s : ByteArray) (a p : Nat) : List UInt8 := (s.data.toList.drop a).take (p - a)
theorem piece_ext (s : ByteArray) (a p : Nat) : s.extract a p = ⟨(pieceB s a p).toArray⟩ := by
  apply ByteArray.ext
  apply Array.ext'
  rw [ext_list]
  rfl
theorem piece_len (s : ByteArray) (a p : Nat) (h : p ≤ s.size) : (pieceB s a p).length = p - a := by
  simp only [pieceB, List.length_take, List.length_drop, Array.length_toList, ByteArray.size_data]
  omega
theorem words_go (s : ByteArray) (hs : s.size ≤ 1000000) : ∀ (n p : Nat), s.size - p = n → p ≤ s.size →
    (∀ acc : List ByteArray, acc.length ≤ p → Ev (fun k => haymowref04_Words.l0 k s acc p) (acc ++ wB (wl [] (s.data.toList.drop p)))) ∧
    (∀ (acc : List ByteArray) (a : Nat), acc.length ≤ a → a < p → Ev (fun k => haymowref04_Words.l1 k s acc a p) (acc ++ wB (wl (pieceB s a p) (s.data.toList.drop p)))) := by
  intro n
  induction n with
  | zero =>
    intro p h1 h2
    have hp : p = s.size := by omega
    subst hp
    have hd : s.data.toList.drop s.size = [] := List.drop_eq_nil_of_le (by simp)
    have c0 : ∀ acc : List ByteArray, acc.length ≤ s.size → Ev (fun k => haymowref04_Words.l0 k s acc s.size) (acc ++ wB (wl [] (s.data.toList.drop s.size))) := by
      intro acc _
      rw [hd]
      refine Ev.step (f := fun k => haymowref04_Words.j1 k s acc s.size false) (fun k => by rw [haymowref04_Words.l0, if_neg (by omega)]) ?_
      refine Ev.step (f := fun _ => some acc) (fun k => by rw [haymowref04_Words.j1, if_neg (by simp)]) ?_
      have e : acc ++ wB (wl [] []) = acc := by simp [wl]
      rw [e]
      exact Ev.now _
    refine ⟨c0, fun acc a ha hlt => ?_⟩
    refine Ev.step (f := fun k => haymowref04_Words.l0 k s (acc ++ [s.extract a s.size]) s.size) (fun k => by
      rw [haymowref04_Words.l1, if_neg (by omega), if_pos (by omega), if_pos (by omega), if_pos (by omega), if_pos (by omega)]; rfl) ?_
    have h3 := c0 (acc ++ [s.extract a s.size]) (by simp; omega)
    have hne : pieceB s a s.size ≠ [] := by
      intro h
      have := piece_len s a s.size (Nat.le_refl _)
      rw [h] at this
      simp at this
      omega
    have e : acc ++ [s.extract a s.size] ++ wB (wl [] (s.data.toList.drop s.size)) = acc ++ wB (wl (pieceB s a s.size) (s.data.toList.drop s.size)) := by
      rw [hd, wl, if_pos rfl, wl, if_neg hne, piece_ext]
      simp
    rw [e] at h3
    exact h3
  | succ n ih =>
    intro p h1 h2
    have hlt : p < s.size := by omega
    obtain ⟨i0, i1⟩ := ih (p + 1) (by omega) (by omega)
    have hd := drop_get s p hlt
    have hb := bt_get s p hlt
    obtain ⟨c, hc⟩ : ∃ c, s.get! p = c := ⟨_, rfl⟩
    rw [hc] at hd hb
    have c0 : ∀ acc : List ByteArray, acc.length ≤ p → Ev (fun k => haymowref04_Words.l0 k s acc p) (acc ++ wB (wl [] (s.data.toList.drop p))) := by
      intro acc hacc
      rw [hd]
      by_cases h35 : c = 35
      · subst h35
        have e35 : bt s (p : Int) = 35 := by rw [hb]; rfl
        refine Ev.step (f := fun k => haymowref04_Words.j1 k s acc p false) (fun k => by rw [haymowref04_Words.l0, if_pos (by omega), if_pos (by omega), e35]; rfl) ?_
        refine Ev.step (f := fun _ => some acc) (fun k => by rw [haymowref04_Words.j1, if_neg (by simp)]) ?_
        have e : acc ++ wB (wl [] (35 :: s.data.toList.drop (p + 1))) = acc := by simp [wl]
        rw [e]
        exact Ev.now _
      · have hn35 : (c.toNat : Int) ≠ 35 := fun h => h35 (UInt8.toNat_inj.1 (by show _ = 35; omega))
        have e35 : (bt s (p : Int) != 35) = true := by rw [hb]; simpa using hn35
        refine Ev.step (f := fun k => haymowref04_Words.j1 k s acc p true) (fun k => by rw [haymowref04_Words.l0, if_pos (by omega), if_pos (by omega), e35]) ?_
        rw [wl, if_neg h35]
        by_cases hbl : blankR c.toNat = true
        · rw [if_pos hbl, if_pos rfl]
          refine Ev.step (f := fun k => haymowref04_Words.j2 k s acc p true) (fun k => by
            rw [haymowref04_Words.j1, if_pos rfl, if_pos (by omega), if_pos (by omega), hb]
            rcases (blank_iff _).1 hbl with h | h | h
            · rw [if_pos (by omega)]
            · rw [if_neg (by omega), if_pos (by omega)]
            · rw [if_neg (by omega), if_neg (by omega), h]; rfl) ?_
          refine Ev.step (f := fun k => haymowref04_Words.l0 k s acc ((p + 1 : Nat) : Int)) (fun k => by rw [haymowref04_Words.j2, if_pos rfl, wrN (by omega)]) ?_
          exact i0 acc (by omega)
        · rw [if_neg hbl]
          have hnb : ¬ (c.toNat = 32 ∨ c.toNat = 9 ∨ c.toNat = 13) := fun h => hbl ((blank_iff _).2 h)
          refine Ev.step (f := fun k => haymowref04_Words.j2 k s acc p false) (fun k => by
            rw [haymowref04_Words.j1, if_pos rfl, if_pos (by omega), if_pos (by omega), hb, if_neg (by omega), if_neg (by omega)]
            congr 1
            rw [beq_eq_false_iff_ne]; omega) ?_
          refine Ev.step (f := fun k => haymowref04_Words.l1 k s acc p p) (fun k => by rw [haymowref04_Words.j2, if_neg (by simp)]) ?_
          refine Ev.step (f := fun k => haymowref04_Words.l1 k s acc p ((p + 1 : Nat) : Int)) (fun k => by
            rw [haymowref04_Words.l1, if_pos (by omega), if_pos (by omega), hb, if_neg (by omega), if_neg (by omega), if_neg (by omega), if_neg (by omega), wrN (by omega)]) ?_
          have h3 := i1 acc p hacc (by omega)
          have e : pieceB s p (p + 1) = [] ++ [c] := by
            have := take_more s.data.toList p p c _ (Nat.le_refl _) hd
            simpa [pieceB] using this
          rw [e] at h3
          exact h3
    refine ⟨c0, fun acc a ha hap => ?_⟩
    have hne : pieceB s a p ≠ [] := by
      intro h
      have := piece_len s a p h2
      rw [h] at this
      simp at this
      omega
    have happ : ∀ (k : Nat), (if 0 ≤ (a : Int) then (if (a : Int) ≤ (p : Int) then (if (p : Int) ≤ (s.size : Int) then (if acc.length < 8796093022208 then (haymowref04_Words.l0 k s (acc ++ [s.extract (a : Int).toNat (p : Int).toNat]) p) else (none)) else (none)) else (none)) else (none)) = haymowref04_Words.l0 k s (acc ++ [s.extract a p]) p := fun k => by
      rw [if_pos (by omega), if_pos (by omega), if_pos (by omega), if_pos (by omega)]; rfl
    have h0 := c0 (acc ++ [s.extract a p]) (by simp; omega)
    by_cases hst : c = 35 ∨ blankR c.toNat = true
    · refine Ev.step (f := fun k => haymowref04_Words.l0 k s (acc ++ [s.extract a p]) p) (fun k => by
        rw [haymowref04_Words.l1, if_pos (by omega), if_pos (by omega), hb, happ k]
        rcases hst with h | h
        · subst h; rw [if_pos (by decide)]
        · rcases (blank_iff _).1 h with h | h | h
          · rw [if_neg (by omega), if_pos (by omega)]
          · rw [if_neg (by omega), if_neg (by omega), if_pos (by omega)]
          · rw [if_neg (by omega), if_neg (by omega), if_neg (by omega), if_pos (by omega)]) ?_
      have e : acc ++ [s.extract a p] ++ wB (wl [] (s.data.toList.drop p)) = acc ++ wB (wl (pieceB s a p) (s.data.toList.drop p)) := by
        rw [hd, piece_ext]
        rw [wl.eq_2, wl.eq_2]
        by_cases h35 : c = 35
        · rw [if_pos h35, if_pos h35, if_pos rfl, if_neg hne]
          simp
        · have hb2 : blankR c.toNat = true := hst.resolve_left h35
          rw [if_neg h35, if_neg h35, if_pos hb2, if_pos hb2, if_pos rfl, if_neg hne]
          simp
      rw [e] at h0
      exact h0
    · have h35 : c ≠ 35 := fun h => hst (.inl h)
      have hbl : ¬ blankR c.toNat = true := fun h => hst (.inr h)
      have hn35 : (c.toNat : Int) ≠ 35 := fun h => h35 (UInt8.toNat_inj.1 (by show _ = 35; omega))
      have hnb : ¬ (c.toNat = 32 ∨ c.toNat = 9 ∨ c.toNat = 13) := fun h => hbl ((blank_iff _).2 h)
      refine Ev.step (f := fun k => haymowref04_Words.l1 k s acc a ((p + 1 : Nat) : Int)) (fun k => by
        rw [haymowref04_Words.l1, if_pos (by omega), if_pos (by omega), hb, if_neg (by omega), if_neg (by omega), if_neg (by omega), if_neg (by omega), wrN (by omega)]) ?_
      have h3 := i1 acc a ha (by omega)
      have e : pieceB s a (p + 1) = pieceB s a p ++ [c] := take_more s.data.toList a p c _ (by omega) hd
      rw [e] at h3
      rw [hd, wl, if_neg h35, if_neg hbl]
      exact h3
theorem words_f (s : ByteArray) (hs : s.size ≤ 1000000) : ∃ k, haymowref04_Words.f k s = some (wB (wordsL s.data.toList)) := by
  have h := (words_go s hs (s.size - 0) 0 rfl (Nat.zero_le _)).1 [] (Nat.le_refl _)
  obtain ⟨k, hk⟩ := h.rounds
  exact ⟨k, by simpa [haymowref04_Words.f, wordsL] using hk⟩
/-- The document's words of a line. -/
theorem rwords_any (t : List UInt8) (ht : t.length ≤ 1000000) (w : World) : Calls Tryd.prog 26 #[.string ⟨t.toArray⟩] w fun e w' => ∃ v : Value, e = .returned v ∧ Kd.R Kd.string 9 w' w.heap.size (fun _ => True) v (wB (wordsL t)) ∧ Below w.heap.size w w' := by
  obtain ⟨k, hk⟩ := words_f ⟨t.toArray⟩ (by simpa [ByteArray.size] using ht)
  exact haymowref04_Words.calls k _ _ w hk
end Go.Proofs.YtcchoeomeklgmaaDoor.Core
