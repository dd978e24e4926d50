/- strings.SplitSeq at a separator of one byte: what its iterator yields. -/
import Derived.Test.YtcchoeomeklgmaaDoorRange
import Derived.Test.YtcchoeomeklgmaaDoorShelf
import Derived.Test.YtcchoeomeklgmaaDoorWNEv
import Derived.Shelf.Abstract
import Derived.Shelf.RegionOpen
import Derived.WalkKit
import Derived.OwnWalkIn
import Derived.TacticsInMore
import Derived.LoopNIn
import Derived.LoopIn
import Derived.WalkSpells
import Derived.Lib.Hide
namespace Go.Proofs.YtcchoeomeklgmaaDoor.Core
open Go.RowKit Go.Shelf Go.Proofs.YtcchoeomeklgmaaDoorW.PrintWords Go.Proofs.YtcchoeomeklgmaaDoor.Rf Go.Proofs.YtcchoeomeklgmaaDoor
set_option linter.unusedVariables false
set_option linter.unusedSimpArgs false
attribute [local go_sem] Oper.semAt_some
/-- The parts of a row of bytes between its separators. -/
def splitB (c : UInt8) : List UInt8 → List (List UInt8)
  | [] => [[]]
  | x :: r => if x = c then [] :: splitB c r else
    match splitB c r with
    | [] => [[x]]
    | h :: t => (x :: h) :: t
theorem splitB_ne (c : UInt8) : ∀ l, splitB c l ≠ []
  | [] => by simp [splitB]
  | x :: r => by
    unfold splitB
    split
    · simp
    · split <;> simp
theorem index_split (c : UInt8) : ∀ l : List UInt8, (Lib.indexByte l c < 0 → splitB c l = [l]) ∧ (∀ i : Nat, Lib.indexByte l c = i → i < l.length ∧ splitB c l = l.take i :: splitB c (l.drop (i + 1)))
  | [] => ⟨fun _ => rfl, fun i h => by simp [Lib.indexByte] at h⟩
  | x :: r => by
    obtain ⟨h1, h2⟩ := index_split c r
    have hge := Lib.indexByte_ge r c
    by_cases hx : x = c
    · subst hx
      have e : Lib.indexByte (x :: r) x = 0 := by simp [Lib.indexByte]
      rw [e]
      refine ⟨fun h => by omega, fun i hi => ?_⟩
      obtain rfl : i = 0 := by omega
      exact ⟨by simp, by simp [splitB]⟩
    · have hb : (x == c) = false := by simpa using hx
      unfold Lib.indexByte
      rw [hb]
      simp only [Bool.false_eq_true, if_false]
      by_cases hn : Lib.indexByte r c = -1
      · rw [hn]
        simp only [beq_self_eq_true, if_true]
        refine ⟨fun _ => ?_, fun i hi => by omega⟩
        have := h1 (by omega)
        unfold splitB
        rw [if_neg hx, this]
      · have hb2 : (Lib.indexByte r c == -1) = false := by simpa using hn
        rw [hb2]
        simp only [Bool.false_eq_true, if_false]
        refine ⟨fun h => by omega, fun i hi => ?_⟩
        obtain ⟨j, rfl⟩ : ∃ j, i = j + 1 := ⟨i - 1, by omega⟩
        obtain ⟨hj, hs⟩ := h2 j (by omega)
        refine ⟨by simp; omega, ?_⟩
        conv => lhs; unfold splitB
        rw [if_neg hx, hs]
        rfl
theorem splitB_len (c : UInt8) : ∀ l, (splitB c l).length ≤ l.length + 1
  | [] => by simp [splitB]
  | x :: r => by
    have ih := splitB_len c r
    unfold splitB
    split
    · simp only [List.length_cons]; omega
    · split
      · simp
      · rename_i h t he
        rw [he] at ih
        simp only [List.length_cons] at *
        omega
theorem splitB_part (c : UInt8) : ∀ l, ∀ p ∈ splitB c l, p.length ≤ l.length
  | [], p, h => by simp [splitB] at h; subst h; simp
  | x :: r, p, h => by
    have ih := splitB_part c r
    unfold splitB at h
    split at h
    · rcases List.mem_cons.1 h with rfl | h
      · simp
      · have := ih p h; simp; omega
    · split at h
      · simp at h; subst h; simp
      · rename_i hh t he
        rw [he] at ih
        rcases List.mem_cons.1 h with rfl | h
        · have := ih hh (by simp); simp; omega
        · have := ih p (by simp [h]); simp; omega
theorem ext_take (s : List UInt8) (i : Nat) : (⟨s.toArray⟩ : ByteArray).extract 0 i = ⟨(s.take i).toArray⟩ := by
  apply ByteArray.ext
  apply Array.ext'
  simp [ByteArray.extract, ByteArray.copySlice]
theorem ext_drop (s : List UInt8) (i : Nat) : (⟨s.toArray⟩ : ByteArray).extract i s.length = ⟨(s.drop i).toArray⟩ := by
  apply ByteArray.ext
  apply Array.ext'
  simp [ByteArray.extract, ByteArray.copySlice]
  rw [List.take_of_length_le (by simp)]
/-- What is left in the iterator's cell. -/
def leftB (b0 : Nat) (W : World) : Nat := match W.cell? ⟨b0, 0, none⟩ with
  | some (.string s) => s.size
  | _ => 0
theorem leftB_eq {b0 : Nat} {W : World} {s : List UInt8} (h : W.cell? ⟨b0, 0, none⟩ = some (.string ⟨s.toArray⟩)) : leftB b0 W = s.length := by
  unfold leftB; rw [h]; simp [ByteArray.size]
/-- What a round must keep: the iterator's three cells. -/
def Kp3 (b0 : Nat) (W W' : World) : Prop := ∀ q, b0 ≤ q → q < b0 + 3 → W'.heap[q]? = W.heap[q]?
theorem Kp3.trans {b0 : Nat} {A B C : World} (h : Kp3 b0 A B) (k : Kp3 b0 B C) : Kp3 b0 A C := fun q h1 h2 => (k q h1 h2).trans (h q h1 h2)
theorem Kp3.put {b0 : Nat} {W : World} {l : Nat} (o : Obj) (hl : b0 + 3 ≤ l) : Kp3 b0 W (W.putObj l o) := fun q h1 h2 => World.putObj_heap_other (by omega)
theorem Kp3.refl (b0 : Nat) (W : World) : Kp3 b0 W W := fun _ _ _ => rfl
structure Box3 (b0 : Nat) (c : UInt8) (W : World) (s : List UInt8) : Prop where
  s : W.heap[b0]? = some (.cells #[.string ⟨s.toArray⟩] 9 (0, 0))
  sep : W.heap[b0 + 1]? = some (.cells #[.string ⟨#[c]⟩] 9 (0, 0))
  save : W.heap[b0 + 2]? = some (.cells #[.int .i64 0] 3 (0, 0))
theorem Box3.keep {b0 : Nat} {c : UInt8} {W W' : World} {s : List UInt8} (h : Box3 b0 c W s) (k : Kp3 b0 W W') : Box3 b0 c W' s :=
  ⟨(k _ (by omega) (by omega)).trans h.s, (k _ (by omega) (by omega)).trans h.sep, (k _ (by omega) (by omega)).trans h.save⟩
theorem Box3.below {b0 : Nat} {c : UInt8} {W W' : World} {s : List UInt8} (h : Box3 b0 c W s) (k : Below W.heap.size W W') : Box3 b0 c W' s :=
  ⟨blk_below h.s k, blk_below h.sep k, blk_below h.save k⟩
set_option maxRecDepth 100000 in
set_option maxHeartbeats 2000000 in
theorem split_iter (n : Nat) (hn : 1 ≤ n) (b0 : Nat) (c : UInt8) (t : List UInt8) (ht : t.length ≤ 10000000) (w0 : World) (hbox : Box3 b0 c w0 t) :
    SeqC Fence.wide n Tryd.prog 47 #[.pointer (some ⟨b0 + 1, 0, none⟩), .pointer (some ⟨b0, 0, none⟩), .pointer (some ⟨b0 + 2, 0, none⟩)] (fun x : List UInt8 => #[.string ⟨x.toArray⟩]) b0 (Kp3 b0) (fun xs => xs = splitB c t) (fun pre => pre <+: splitB c t) (splitB c t).length w0 := by
  intro l J Jx W hW hJ hJx hY h0
  have hbox := hbox.below hW
  have HT := Lib.hid ht
  have HBOX := Lib.hid hbox
  have c1 := blk_cell hbox.sep 0
  simp only [List.getElem?_toArray, List.getElem?_cons_zero] at c1
  clear hbox hW ht
  refine callsIn_of_wp Tryd.func47 rfl trivial ?_ rfl
  simp only [Tryd.ntmps47, List.size_toArray, List.length_cons, List.length_nil, Nat.reduceAdd, Nat.reduceSub, Array.replicate_succ, Array.replicate_zero, List.push_toArray, List.append_toArray, List.nil_append, List.cons_append]
  gi_wp2_with fail
  clear c1
  gi_loopw [7, 8] (fun v7 v8 wr => ∃ (pre : List (List UInt8)) (s : List UInt8), Hid (splitB c t = pre ++ splitB c s) ∧ Hid (Box3 b0 c wr s) ∧ Hid (J pre wr) ∧ Hid (s.length ≤ t.length)) (fun _ _ wr => leftB b0 wr)
  case atStart => exact ⟨[], t, rfl, HBOX.out, h0, Nat.le_refl _⟩
  case round =>
    obtain ⟨pre, s, hS, hB, hJs, hL⟩ := hrel
    obtain ⟨X, hX⟩ : ∃ X, X = wr := ⟨_, rfl⟩
    subst hX
    have c0 := blk_cell hB.out.s 0
    have c1 := blk_cell hB.out.sep 0
    have c2 := blk_cell hB.out.save 0
    simp only [List.getElem?_toArray, List.getElem?_cons_zero] at c0 c1 c2
    have HIX := Lib.hid (Tryd.strings_Index_one ⟨s.toArray⟩ c X)
    obtain ⟨ix, hix⟩ : ∃ ix, ix = Lib.indexByte s c := ⟨_, rfl⟩
    have e : (⟨s.toArray⟩ : ByteArray).data.toList = s := by simp
    rw [e, ← hix] at HIX
    have hsp := index_split c s
    rw [← hix] at hsp
    have HSP := Lib.hid hsp
    clear hsp e hix
    by_cases hneg : ix < 0
    · have HNEG := Lib.hid (HSP.out.1 hneg)
      obtain ⟨fn, tmps, assign, body, hy, hR⟩ := hY pre s X hJs.out (by rw [hS.out, HNEG.out]; simp)
      gi_wp2_with (refine ⟨trivial, ?_⟩; gi_at_call 49; refine (callsIn_wide.2 HIX.out).mono ?_; rintro e w' ⟨rfl, rfl⟩)
      refine hR.mono ?_
      rintro e W3 (⟨rfl, hJ3, hk3⟩ | ⟨rfl, hJx3⟩)
      · gi_wp2
        go_end0
        exact ⟨⟨_, rfl⟩, .inl ⟨_, by rw [hS.out, HNEG.out], hJ3⟩⟩
      · gi_wp2
        go_end0
        exact ⟨⟨_, rfl⟩, .inr ⟨_, ⟨[], by rw [hS.out, HNEG.out]; simp⟩, hJx3⟩⟩
    · obtain ⟨i, rfl⟩ : ∃ i : Nat, ix = i := ⟨ix.toNat, by omega⟩
      obtain ⟨hi, hsp⟩ := HSP.out.2 i rfl
      have HSI := Lib.hid hsp
      clear hsp
      obtain ⟨fn, tmps, assign, body, hy, hR⟩ := hY pre (s.take i) X hJs.out (by rw [hS.out, HSI.out]; simp)
      have hs7 : s.length ≤ 10000000 := Nat.le_trans hL.out HT.out
      have hn0 : (decide ((i : Int) < 0)) = false := by simp
      have hex : (⟨s.toArray⟩ : ByteArray).extract 0 i = ⟨(s.take i).toArray⟩ := ext_take s i
      have hex2 : (⟨s.toArray⟩ : ByteArray).extract (i + 1) s.length = ⟨(s.drop (i + 1)).toArray⟩ := ext_drop s (i + 1)
      gi_wp2_with (refine ⟨trivial, ?_⟩; gi_at_call 49; refine (callsIn_wide.2 HIX.out).mono ?_; rintro e w' ⟨rfl, rfl⟩)
      refine hR.mono ?_
      rintro e W3 (⟨rfl, hJ3, hk3⟩ | ⟨rfl, hJx3⟩)
      · have HB3 := Lib.hid (hB.out.keep hk3)
        have d0 := blk_cell HB3.out.s 0
        have d1 := blk_cell HB3.out.sep 0
        simp only [List.getElem?_toArray, List.getElem?_cons_zero] at d0 d1
        have f0 := blk_frozen HB3.out.s 0
        have hil : (i : Int) + 1 ≤ s.length := by omega
        have hil2 : (i : Int) + 1 ≤ 10000001 := by omega
        gi_wp2
        go_roundw
        case rel =>
          refine ⟨pre ++ [s.take i], s.drop (i + 1), ?_, ⟨?_, ?_, ?_⟩, ?_, ?_⟩
          · show splitB c t = _
            rw [hS.out, HSI.out]
            simp
          · simpa using blk_set HB3.out.s 0 (.string ⟨(s.drop (i + 1)).toArray⟩)
          · exact blk_far HB3.out.sep (by show b0 + 1 ≠ b0; omega) _
          · exact blk_far HB3.out.save (by show b0 + 2 ≠ b0; omega) _
          · exact hJ _ _ _ (some b0) hJ3 (grownBy_setCell' _ _ _) (fun r e => .inl (by injection e with e; exact e.symm))
          · show _ ≤ _
            have := hL.out
            rw [List.length_drop]
            omega
        case measure =>
          have e1 := leftB_eq (W := w') (s := s) (by assumption)
          have e2 := leftB_eq (b0 := b0) (W := W3.setCell ⟨b0, 0, none⟩ (.string ⟨(s.drop (i + 1)).toArray⟩)) (s := s.drop (i + 1)) (by
            have h := blk_cell (blk_set HB3.out.s 0 (.string ⟨(s.drop (i + 1)).toArray⟩)) 0
            simpa using h)
          rw [e1, e2, List.length_drop]
          omega
      · gi_wp2
        refine bodyPost_ret (results_none rfl _ _ _) rfl ?_
        exact ⟨⟨_, rfl⟩, .inr ⟨_, ⟨splitB c (s.drop (i + 1)), by rw [hS.out, HSI.out]; simp⟩, hJx3⟩⟩
end Go.Proofs.YtcchoeomeklgmaaDoor.Core
