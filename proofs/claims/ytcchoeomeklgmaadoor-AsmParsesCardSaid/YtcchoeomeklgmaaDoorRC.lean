/- A range over a function whose iterator keeps its state in one cell that it has captured. strings.SplitSeq at a separator of one byte: what its iterator yields. path.plain, strings.SplitSeq; the number that plain digits tell. path.Read: a range over strings.SplitSeq. path.Read: the walk of the range. The document's Read comes to the same. haymowref05.Read: its walk. What the functions of paths come to: one order of lists, and beginnings. path.Compare, path.Under, path.Text: what they come to, where they are called. awake: the chapter's example holds. path.Read and haymowref05.Read, where they are called; the text of a path by the document. The text of a path by the program; what the laws' other callees come to. What is told is read as it was. -/
import Derived.RangeFuncNested
import Derived.RangeFuncBound
import Derived.RangeFuncCalls
import Derived.RangeFuncLeaves
import Derived.Test.YtcchoeomeklgmaaDoorShelf
import Derived.Test.YtcchoeomeklgmaaDoorWNEv
import Derived.Shelf.Abstract
import Derived.Shelf.RegionOpen
import Derived.WalkKit
import Derived.OwnWalkIn
import Derived.TacticsInMore
import Derived.LoopNIn
import Derived.LoopIn
import Derived.WalkSpells
import Derived.Lib.Hide
import Derived.Shelf.Strings.SlTrimAscii
import Derived.RangeFuncBox
import Derived.Maps.AppendAt
import Derived.Test.YtcchoeomeklgmaaDoorP1
import Derived.Shelf.Unicode.PredsPay
import Derived.Lib.AppendIntMem
/-! A range over a function whose iterator keeps its state in one cell that it has captured. -/
namespace Go.Proofs.YtcchoeomeklgmaaDoor.Rf
open Go.RowKit
set_option linter.unusedVariables false
set_option linter.unusedSimpArgs false
variable {F : Fence} {n : Nat} {P : Program}
/-- The steps that an invariant must abide: the iterator's own block bc may turn, and walks that are new. -/
def OwnC {β : Type} (bc B : Nat) (I : β → World → Prop) : Prop :=
  ∀ s W W' row, I s W → W.grownBy W' row → (∀ r, row = some r → r = bc ∨ (B ≤ r ∧ ∃ o : Obj, W.heap[r]? = some o ∧ o.isCells = false)) → I s W'
theorem OwnC.putObj {β : Type} {bc B : Nat} {I : β → World → Prop} (h : OwnC bc B I) {s : β} {W : World} {l : Nat} {o : Obj} (o' : Obj) (hs : I s W) (hB : B ≤ l) (hl : W.heap[l]? = some o) (ho : o.isCells = false) : I s (W.putObj l o') :=
  h s W _ (some l) hs (grownBy_putObj' W l o') (fun r e => by cases e; exact .inr ⟨hB, o, hl, ho⟩)
theorem OwnC.alloc {β : Type} {bc B : Nat} {I : β → World → Prop} (h : OwnC bc B I) {s : β} {W : World} (o : Obj) (hs : I s W) : I s (W.alloc o) :=
  h s W _ none hs (World.grownBy_alloc W o none) (fun r e => by cases e)
theorem OwnC.and {β : Type} {bc B : Nat} {I I' : β → World → Prop} (h : OwnC bc B I) (h' : OwnC bc B I') : OwnC bc B (fun s W => I s W ∧ I' s W) := fun s W W' row hs hg hr => ⟨h s W W' row hs.1 hg hr, h' s W W' row hs.2 hg hr⟩
theorem ownC_pure {β : Type} (bc B : Nat) (p : β → Prop) : OwnC bc B (fun s (_ : World) => p s) := fun _ _ _ _ hs _ _ => hs
theorem ownC_below {β : Type} {n₀ bc B : Nat} {w : World} (hn : n₀ ≤ w.heap.size) (hbc : n₀ ≤ bc) (hB : n₀ ≤ B) : OwnC bc B (fun (_ : β) W => Below n₀ w W) :=
  fun _ X Y row hs hg hr => hs.grown hg (Nat.le_trans hn hs.size) (fun k e => by rcases hr k e with h | h <;> omega)
theorem ownC_block {β : Type} {bc B b : Nat} (o : β → Obj) (hc : ∀ s, (o s).isCells = true) (hne : b ≠ bc) : OwnC bc B (fun s W => W.heap[b]? = some (o s)) :=
  fun s X Y row hs hg hr => (hg.block b (Array.getElem?_eq_some_iff.1 hs).1 (fun e => by
    rcases hr b e.symm with h | ⟨_, o', h1, h2⟩
    · exact hne h
    · rw [hs] at h1; cases h1; rw [hc s] at h2; cases h2)).trans hs
/-- .. as the iterator has it: walks alone. -/
def OwnC' {β : Type} (bc B : Nat) (I : β → World → Prop) : Prop :=
  ∀ s W W' row, I s W → W.grownBy W' row → (∀ r, row = some r → r = bc ∨ (B ≤ r ∧ ∃ o : Obj, W.heap[r]? = some o ∧ o.isWalk = true)) → I s W'
theorem OwnC.weak {β : Type} {bc B B' : Nat} {I : β → World → Prop} (h : OwnC bc B I) (hB : B ≤ B') : OwnC' bc B' I := fun s W W' row hs hg hr =>
  h s W W' row hs hg (fun r e => by
    rcases hr r e with h | ⟨h1, o, h2, h3⟩
    · exact .inl h
    · exact .inr ⟨by omega, o, h2, Obj.not_cells_of_walk h3⟩)
/-- What an iterator gives that keeps its state in the cell bc. -/
def SeqC {α : Type} (F : Fence) (n : Nat) (P : Program) (g : Nat) (lb : Array Value) (encs : α → Array Value) (bc : Nat) (Kp : World → World → Prop) (S Sp : List α → Prop) (N : Nat) (w : World) : Prop :=
  ∀ (l : Nat) (J Jx : List α → World → Prop) (W : World), Below w.heap.size w W → OwnC' bc W.heap.size J → OwnC' bc W.heap.size Jx →
    (∀ pre x W1, J pre W1 → pre.length < N → Sp (pre ++ [x]) → YieldAt F (n - 1) P l (encs x) W1 fun e W' =>
      (e = .returned (.bool true) ∧ J (pre ++ [x]) W' ∧ Kp W1 W') ∨ (e = .returned (.bool false) ∧ Jx (pre ++ [x]) W')) →
    J [] W →
    CallsIn F n P g (#[.func (.yield l) #[] #[]] ++ lb) W fun e W' => (∃ v, e = .returned v) ∧ ((∃ xs, S xs ∧ J xs W') ∨ (∃ pre, Sp pre ∧ Jx pre W'))
theorem keepsC {W W' : World} {row : Option Nat} {bc B k : Nat} {o : Obj} (hg : W.grownBy W' row) (hrow : ∀ r, row = some r → r = bc ∨ (B ≤ r ∧ ∃ o : Obj, W.heap[r]? = some o ∧ o.isWalk = true)) (hk : W.heap[k]? = some o) (hw : o.isWalk = false) (hne : k ≠ bc) : W'.heap[k]? = some o :=
  (hg.block k (Array.getElem?_eq_some_iff.1 hk).1 (fun e => by
    rcases hrow k e.symm with h | ⟨_, o', h1, h2⟩
    · exact hne h
    · rw [hk] at h1; cases h1; rw [hw] at h2; cases h2)).trans hk
/-- The statement 'for .. := range g { .. }' over such an iterator, outermost. -/
theorem rangeCell {α : Type} {g : Operand} {ps : Array Tmp} {assign body : Code} {Q : Exit → Act → World → Prop} {a : Act} {w : World}
    (hro : F.round = none) (h1 : 1 ≤ n) {gf : Nat} {lb : Array Value} (hg : a.eval g = .func (.func gf) #[] lb) (hFg : F.fn gf) (eg : ∀ args w, (callFunc gf args).run P w = .ok (.enter gf args) w)
    {encs : α → Array Value} {bc : Nat} (hbc : bc < w.heap.size) {Kp : World → World → Prop} {S Sp : List α → Prop} {N : Nat} {w0 : World} (hseq : SeqC F (n - 1) P gf lb encs bc Kp S Sp N w0)
    (hKt : ∀ {A B C : World}, Kp A B → Kp B C → Kp A C) (hKb : ∀ (W : World) (l : Nat) (o o' : Obj), w.heap.size ≤ l → W.heap[l]? = some o → Kp W (W.putObj l o')) (hb0 : Below w0.heap.size w0 w) (hps : ∀ x, (encs x).size = ps.size)
    (I : List α → World → Prop) (Ix : Code → List α → World → Prop) (hI : OwnC bc w.heap.size I) (hIx : ∀ c, OwnC bc w.heap.size (Ix c)) (h0 : I [] w) (a1 : α → Act)
    (hassign : ∀ (l : Nat) (x : α) (W : World) (K : Act → World → Prop), K (a1 x) W →
      assign.wpIn (F.inRound l) (n - 1 - 1) P (Exit.then K (fun _ _ _ => False)) { tmps := (ps.zip (encs x)).foldl (fun t (p, v) => t.setIfInBounds p v) a.tmps, defers := [] } W)
    (hbody : ∀ (l : Nat) (pre : List α) (x : α) (W : World), I pre W → pre.length < N → Sp (pre ++ [x]) → body.wpIn (F.inRound l) (n - 1 - 1) P (ownPostG w.heap.size Kp I Ix (pre ++ [x]) W) (a1 x) W)
    (hdone : ∀ (D : Nat) (xs : List α) (W : World), w.heap.size ≤ D → S xs → I xs W → W.heap[D]? = some (.deferred (some [])) → Q .normal { a with defers := { target := .collected D, args := #[] } :: a.defers } W)
    (hstop : ∀ (D : Nat) (c : Code) (pre : List α) (W : World), w.heap.size ≤ D → Sp pre → Ix c pre W → W.heap[D]? = some (.deferred (some [])) → c.wpIn F n P Q { a with defers := { target := .collected D, args := #[] } :: a.defers } W) :
    (Code.rangeFunc g ps assign body).wpIn F n P Q a w := by
  refine wpIn_rangeFunc fun fn hfn => ?_
  rw [hro]
  obtain ⟨L, hL⟩ : ∃ L : LoopState → Option Code → Loop, L = fun st pe => { state := st, pending := pe, fn, tmps := a.tmps, params := ps, assign, body, defers := w.heap.size } := ⟨_, rfl⟩
  obtain ⟨W1, hW1⟩ : ∃ W1, (w.alloc (.deferred (some []))).alloc (.loop (L .ready none)) = W1 := ⟨_, rfl⟩
  obtain ⟨m, hm⟩ : ∃ m, m = w.heap.size := ⟨_, rfl⟩
  have hs1 : W1.heap.size = m + 2 := by rw [← hW1, hm]; simp
  have hl1 : W1.heap[m + 1]? = some (.loop (L .ready none)) := by
    rw [← hW1, hm]
    have h := World.alloc_heap_new (w.alloc (.deferred (some []))) (.loop (L .ready none))
    rwa [World.size_alloc] at h
  have hd1 : W1.heap[m]? = some (.deferred (some [])) := by
    rw [← hW1, hm]
    exact (Below.heap_alloc _ _ _ (by simp)).trans (World.alloc_heap_new w _)
  have hI1 : I [] W1 := by rw [← hW1]; exact hI.alloc _ (hI.alloc _ h0)
  have hb1 : Below w0.heap.size w0 W1 := by
    rw [← hW1]
    exact hb0.trans ((((Below.refl _ w).alloc (Nat.le_refl _) _).alloc (by simp) _).mono hb0.size)
  refine ⟨m + 1, [{ target := .collected m, args := #[] }], W1, { target := .fn (.func gf) lb, args := #[.func (.yield (m + 1)) #[] #[]] }, W1, gf, #[.func (.yield (m + 1)) #[] #[]] ++ lb, W1, ?_, ?_, ?_, ?_, fun _ => h1, ?_⟩
  · rw [← hW1, hL, hm]
    exact run_enterLoop_outer _ _ _ _ _
  · simp only [resolve, hg]
    simp [go_sem]
  · intro f' hf'
    simp [Target.leads] at hf'
    subst hf'
    exact hFg
  · simp [invoke, go_sem, eg]
  have hall := hseq (m + 1) (fun pre W => I pre W ∧ W.heap[m + 1]? = some (.loop (L .ready none)) ∧ W.heap[m]? = some (.deferred (some [])))
    (fun pre W => ∃ c, Ix c pre W ∧ W.heap[m + 1]? = some (.loop (L .done (some c))) ∧ W.heap[m]? = some (.deferred (some []))) W1 hb1
    (fun s A B row hs hg' hr => ⟨hI.weak (B' := W1.heap.size) (by rw [← hm, hs1]; omega) s A B row hs.1 hg' hr, keepsC hg' hr hs.2.1 rfl (by omega), keepsC hg' hr hs.2.2 rfl (by omega)⟩)
    (fun s A B row hs hg' hr => by
      obtain ⟨c, hc, hl, hd⟩ := hs
      exact ⟨c, (hIx c).weak (B' := W1.heap.size) (by rw [← hm, hs1]; omega) s A B row hc hg' hr, keepsC hg' hr hl rfl (by omega), keepsC hg' hr hd rfl (by omega)⟩)
    ?round ⟨hI1, hl1, hd1⟩
  case round =>
    rintro pre x W ⟨hi, hl, hd⟩ hlen hspx
    have hlt : m + 1 < W.heap.size := (Array.getElem?_eq_some_iff.1 hl).1
    have hy := run_yield (P := P) (args := encs x) hl (by rw [hL]; exact hps x)
    rw [hL] at hy
    refine ⟨fn, _, assign, body, hy, roundIn_of_wpIn hfn (hassign _ x W _ ⟨_, run_beginRound hl (by rw [hL]), ?_⟩)⟩
    obtain ⟨X, hX⟩ : ∃ X, W.putObj (m + 1) (.loop { L .ready none with state := .busy }) = X := ⟨_, rfl⟩
    rw [hX]
    have hlX : X.heap[m + 1]? = some (.loop { L .ready none with state := .busy }) := by rw [← hX]; exact World.putObj_heap_same hlt
    have hdX : X.heap[m]? = some (.deferred (some [])) := by rw [← hX]; exact (World.putObj_heap_other (by omega)).trans hd
    have hkX : Kp W X := by rw [← hX]; exact hKb _ _ _ _ (by omega) hl
    have hiX : I pre X := by rw [← hX]; exact hI.putObj _ hi (by omega) hl rfl
    have ends : ∀ (jump : Option Code) (Y : World), KeepsFrom w.heap.size X Y → ∃ Z, Z = Y.putObj (m + 1) (.loop (L (if jump.isNone then .ready else .done) jump)) ∧
        (Instr.endRound (m + 1) jump).run P Y = .ok (.bool jump.isNone) Z ∧ Y.heap[m + 1]? = some (.loop { L .ready none with state := .busy }) ∧ Z.heap[m + 1]? = some (.loop (L (if jump.isNone then .ready else .done) jump)) ∧ Z.heap[m]? = some (.deferred (some [])) := fun jump Y hk => by
      have hlY := hk.same _ _ (by omega) hlX rfl
      have hdY := hk.same _ _ (by omega) hdX rfl
      have hr := run_endRound (P := P) jump hlY
      rw [hL] at hr hlY ⊢
      exact ⟨_, rfl, hr, hlY, World.putObj_heap_same (Array.getElem?_eq_some_iff.1 hlY).1, (World.putObj_heap_other (by omega)).trans hdY⟩
    refine wpIn_mono (hbody _ pre x X hiX hlen hspx) ?_
    rintro e a3 Y hp
    cases e with
    | normal =>
      obtain ⟨hk, hkp, hiY⟩ := hp
      obtain ⟨Z, rfl, hr, hlY, hlZ, hdZ⟩ := ends none Y hk
      exact ⟨_, _, hr, .inl ⟨rfl, ⟨hI.putObj _ hiY (by omega) hlY rfl, hlZ, hdZ⟩, hKt (hKt hkX hkp) (hKb _ _ _ _ (by omega) hlY)⟩⟩
    | ret =>
      obtain ⟨hk, hiY⟩ := hp
      obtain ⟨Z, rfl, hr, hlY, hlZ, hdZ⟩ := ends (some .ret) Y hk
      exact ⟨_, _, hr, .inr ⟨rfl, .ret, (hIx _).putObj _ hiY (by omega) hlY rfl, hlZ, hdZ⟩⟩
    | exit id =>
      obtain ⟨hk, hiY⟩ := hp
      obtain ⟨Z, rfl, hr, hlY, hlZ, hdZ⟩ := ends (some (.exit id)) Y hk
      exact ⟨_, _, hr, .inr ⟨rfl, .exit id, (hIx _).putObj _ hiY (by omega) hlY rfl, hlZ, hdZ⟩⟩
    | goto t =>
      obtain ⟨hk, hiY⟩ := hp
      obtain ⟨Z, rfl, hr, hlY, hlZ, hdZ⟩ := ends (some (.goto t)) Y hk
      exact ⟨_, _, hr, .inr ⟨rfl, .goto t, (hIx _).putObj _ hiY (by omega) hlY rfl, hlZ, hdZ⟩⟩
    | panic ch => exact hp.elim
    | outgrown => exact hp.elim
  refine hall.mono ?_
  rintro e W2 ⟨⟨v, rfl⟩, (⟨xs, hS, hi, hl, hd⟩ | ⟨pre, hSp, c, hi, hl, hd⟩)⟩
  · exact ⟨none, _, by have h := run_endLoop (P := P) hl (by rw [hL]; simp); rw [hL] at h; exact h, hdone m xs _ (by omega) hS (hI.putObj _ hi (by omega) hl rfl) ((World.putObj_heap_other (by omega)).trans hd)⟩
  · exact ⟨some c, _, by have h := run_endLoop (P := P) hl (by rw [hL]; simp); rw [hL] at h; exact h, hstop m c pre _ (by omega) hSp ((hIx c).putObj _ hi (by omega) hl rfl) ((World.putObj_heap_other (by omega)).trans hd)⟩
end Go.Proofs.YtcchoeomeklgmaaDoor.Rf
/-! strings.SplitSeq at a separator of one byte: what its iterator yields. -/
namespace Go.Proofs.YtcchoeomeklgmaaDoor.Core
open Go.RowKit Go.Shelf Go.Proofs.YtcchoeomeklgmaaDoorW.PrintWords Go.Proofs.YtcchoeomeklgmaaDoor.Rf Go.Proofs.YtcchoeomeklgmaaDoor
set_option linter.unusedVariables false
set_option linter.unusedSimpArgs false
attribute [local go_sem] Oper.semAt_some
/-- The parts of a row of bytes between its separators. -/
def splitB (c : UInt8) : List UInt8 → List (List UInt8)
  | [] => [[]]
  | x :: r => if x = c then [] :: splitB c r else
    match splitB c r with
    | [] => [[x]]
    | h :: t => (x :: h) :: t
theorem splitB_ne (c : UInt8) : ∀ l, splitB c l ≠ []
  | [] => by simp [splitB]
  | x :: r => by
    unfold splitB
    split
    · simp
    · split <;> simp
theorem index_split (c : UInt8) : ∀ l : List UInt8, (Lib.indexByte l c < 0 → splitB c l = [l]) ∧ (∀ i : Nat, Lib.indexByte l c = i → i < l.length ∧ splitB c l = l.take i :: splitB c (l.drop (i + 1)))
  | [] => ⟨fun _ => rfl, fun i h => by simp [Lib.indexByte] at h⟩
  | x :: r => by
    obtain ⟨h1, h2⟩ := index_split c r
    have hge := Lib.indexByte_ge r c
    by_cases hx : x = c
    · subst hx
      have e : Lib.indexByte (x :: r) x = 0 := by simp [Lib.indexByte]
      rw [e]
      refine ⟨fun h => by omega, fun i hi => ?_⟩
      obtain rfl : i = 0 := by omega
      exact ⟨by simp, by simp [splitB]⟩
    · have hb : (x == c) = false := by simpa using hx
      unfold Lib.indexByte
      rw [hb]
      simp only [Bool.false_eq_true, if_false]
      by_cases hn : Lib.indexByte r c = -1
      · rw [hn]
        simp only [beq_self_eq_true, if_true]
        refine ⟨fun _ => ?_, fun i hi => by omega⟩
        have := h1 (by omega)
        unfold splitB
        rw [if_neg hx, this]
      · have hb2 : (Lib.indexByte r c == -1) = false := by simpa using hn
        rw [hb2]
        simp only [Bool.false_eq_true, if_false]
        refine ⟨fun h => by omega, fun i hi => ?_⟩
        obtain ⟨j, rfl⟩ : ∃ j, i = j + 1 := ⟨i - 1, by omega⟩
        obtain ⟨hj, hs⟩ := h2 j (by omega)
        refine ⟨by simp; omega, ?_⟩
        conv => lhs; unfold splitB
        rw [if_neg hx, hs]
        rfl
theorem splitB_len (c : UInt8) : ∀ l, (splitB c l).length ≤ l.length + 1
  | [] => by simp [splitB]
  | x :: r => by
    have ih := splitB_len c r
    unfold splitB
    split
    · simp only [List.length_cons]; omega
    · split
      · simp
      · rename_i h t he
        rw [he] at ih
        simp only [List.length_cons] at *
        omega
theorem splitB_part (c : UInt8) : ∀ l, ∀ p ∈ splitB c l, p.length ≤ l.length
  | [], p, h => by simp [splitB] at h; subst h; simp
  | x :: r, p, h => by
    have ih := splitB_part c r
    unfold splitB at h
    split at h
    · rcases List.mem_cons.1 h with rfl | h
      · simp
      · have := ih p h; simp; omega
    · split at h
      · simp at h; subst h; simp
      · rename_i hh t he
        rw [he] at ih
        rcases List.mem_cons.1 h with rfl | h
        · have := ih hh (by simp); simp; omega
        · have := ih p (by simp [h]); simp; omega
theorem ext_take (s : List UInt8) (i : Nat) : (⟨s.toArray⟩ : ByteArray).extract 0 i = ⟨(s.take i).toArray⟩ := by
  apply ByteArray.ext
  apply Array.ext'
  simp [ByteArray.extract, ByteArray.copySlice]
theorem ext_drop (s : List UInt8) (i : Nat) : (⟨s.toArray⟩ : ByteArray).extract i s.length = ⟨(s.drop i).toArray⟩ := by
  apply ByteArray.ext
  apply Array.ext'
  simp [ByteArray.extract, ByteArray.copySlice]
  rw [List.take_of_length_le (by simp)]
/-- What is left in the iterator's cell. -/
def leftB (b0 : Nat) (W : World) : Nat := match W.cell? ⟨b0, 0, none⟩ with
  | some (.string s) => s.size
  | _ => 0
theorem leftB_eq {b0 : Nat} {W : World} {s : List UInt8} (h : W.cell? ⟨b0, 0, none⟩ = some (.string ⟨s.toArray⟩)) : leftB b0 W = s.length := by
  unfold leftB; rw [h]; simp [ByteArray.size]
/-- What a round must keep: the iterator's three cells. -/
def Kp3 (b0 : Nat) (W W' : World) : Prop := ∀ q, b0 ≤ q → q < b0 + 3 → W'.heap[q]? = W.heap[q]?
theorem Kp3.trans {b0 : Nat} {A B C : World} (h : Kp3 b0 A B) (k : Kp3 b0 B C) : Kp3 b0 A C := fun q h1 h2 => (k q h1 h2).trans (h q h1 h2)
theorem Kp3.put {b0 : Nat} {W : World} {l : Nat} (o : Obj) (hl : b0 + 3 ≤ l) : Kp3 b0 W (W.putObj l o) := fun q h1 h2 => World.putObj_heap_other (by omega)
theorem Kp3.refl (b0 : Nat) (W : World) : Kp3 b0 W W := fun _ _ _ => rfl
structure Box3 (b0 : Nat) (c : UInt8) (W : World) (s : List UInt8) : Prop where
  s : W.heap[b0]? = some (.cells #[.string ⟨s.toArray⟩] 9 (0, 0))
  sep : W.heap[b0 + 1]? = some (.cells #[.string ⟨#[c]⟩] 9 (0, 0))
  save : W.heap[b0 + 2]? = some (.cells #[.int .i64 0] 3 (0, 0))
theorem Box3.keep {b0 : Nat} {c : UInt8} {W W' : World} {s : List UInt8} (h : Box3 b0 c W s) (k : Kp3 b0 W W') : Box3 b0 c W' s :=
  ⟨(k _ (by omega) (by omega)).trans h.s, (k _ (by omega) (by omega)).trans h.sep, (k _ (by omega) (by omega)).trans h.save⟩
theorem Box3.below {b0 : Nat} {c : UInt8} {W W' : World} {s : List UInt8} (h : Box3 b0 c W s) (k : Below W.heap.size W W') : Box3 b0 c W' s :=
  ⟨blk_below h.s k, blk_below h.sep k, blk_below h.save k⟩
set_option maxRecDepth 100000 in
set_option maxHeartbeats 2000000 in
theorem split_iter (n : Nat) (hn : 1 ≤ n) (b0 : Nat) (c : UInt8) (t : List UInt8) (ht : t.length ≤ 10000000) (w0 : World) (hbox : Box3 b0 c w0 t) :
    SeqC Fence.wide n Tryd.prog 47 #[.pointer (some ⟨b0 + 1, 0, none⟩), .pointer (some ⟨b0, 0, none⟩), .pointer (some ⟨b0 + 2, 0, none⟩)] (fun x : List UInt8 => #[.string ⟨x.toArray⟩]) b0 (Kp3 b0) (fun xs => xs = splitB c t) (fun pre => pre <+: splitB c t) (splitB c t).length w0 := by
  intro l J Jx W hW hJ hJx hY h0
  have hbox := hbox.below hW
  have HT := Lib.hid ht
  have HBOX := Lib.hid hbox
  have c1 := blk_cell hbox.sep 0
  simp only [List.getElem?_toArray, List.getElem?_cons_zero] at c1
  clear hbox hW ht
  refine callsIn_of_wp Tryd.func47 rfl trivial ?_ rfl
  simp only [Tryd.ntmps47, List.size_toArray, List.length_cons, List.length_nil, Nat.reduceAdd, Nat.reduceSub, Array.replicate_succ, Array.replicate_zero, List.push_toArray, List.append_toArray, List.nil_append, List.cons_append]
  gi_wp2_with fail
  clear c1
  gi_loopw [7, 8] (fun v7 v8 wr => ∃ (pre : List (List UInt8)) (s : List UInt8), Hid (splitB c t = pre ++ splitB c s) ∧ Hid (Box3 b0 c wr s) ∧ Hid (J pre wr) ∧ Hid (s.length ≤ t.length)) (fun _ _ wr => leftB b0 wr)
  case atStart => exact ⟨[], t, rfl, HBOX.out, h0, Nat.le_refl _⟩
  case round =>
    obtain ⟨pre, s, hS, hB, hJs, hL⟩ := hrel
    obtain ⟨X, hX⟩ : ∃ X, X = wr := ⟨_, rfl⟩
    subst hX
    have c0 := blk_cell hB.out.s 0
    have c1 := blk_cell hB.out.sep 0
    have c2 := blk_cell hB.out.save 0
    simp only [List.getElem?_toArray, List.getElem?_cons_zero] at c0 c1 c2
    have HIX := Lib.hid (Tryd.strings_Index_one ⟨s.toArray⟩ c X)
    obtain ⟨ix, hix⟩ : ∃ ix, ix = Lib.indexByte s c := ⟨_, rfl⟩
    have e : (⟨s.toArray⟩ : ByteArray).data.toList = s := by simp
    rw [e, ← hix] at HIX
    have hsp := index_split c s
    rw [← hix] at hsp
    have HSP := Lib.hid hsp
    clear hsp e hix
    by_cases hneg : ix < 0
    · have HNEG := Lib.hid (HSP.out.1 hneg)
      obtain ⟨fn, tmps, assign, body, hy, hR⟩ := hY pre s X hJs.out (by rw [hS.out, HNEG.out]; simp) ⟨[], by rw [hS.out, HNEG.out]; simp⟩
      gi_wp2_with (refine ⟨trivial, ?_⟩; gi_at_call 49; refine (callsIn_wide.2 HIX.out).mono ?_; rintro e w' ⟨rfl, rfl⟩)
      refine hR.mono ?_
      rintro e W3 (⟨rfl, hJ3, hk3⟩ | ⟨rfl, hJx3⟩)
      · gi_wp2
        go_end0
        exact ⟨⟨_, rfl⟩, .inl ⟨_, by rw [hS.out, HNEG.out], hJ3⟩⟩
      · gi_wp2
        go_end0
        exact ⟨⟨_, rfl⟩, .inr ⟨_, ⟨[], by rw [hS.out, HNEG.out]; simp⟩, hJx3⟩⟩
    · obtain ⟨i, rfl⟩ : ∃ i : Nat, ix = i := ⟨ix.toNat, by omega⟩
      obtain ⟨hi, hsp⟩ := HSP.out.2 i rfl
      have HSI := Lib.hid hsp
      clear hsp
      obtain ⟨fn, tmps, assign, body, hy, hR⟩ := hY pre (s.take i) X hJs.out (by rw [hS.out, HSI.out]; simp) ⟨splitB c (s.drop (i + 1)), by rw [hS.out, HSI.out]; simp⟩
      have hs7 : s.length ≤ 10000000 := Nat.le_trans hL.out HT.out
      have hn0 : (decide ((i : Int) < 0)) = false := by simp
      have hex : (⟨s.toArray⟩ : ByteArray).extract 0 i = ⟨(s.take i).toArray⟩ := ext_take s i
      have hex2 : (⟨s.toArray⟩ : ByteArray).extract (i + 1) s.length = ⟨(s.drop (i + 1)).toArray⟩ := ext_drop s (i + 1)
      gi_wp2_with (refine ⟨trivial, ?_⟩; gi_at_call 49; refine (callsIn_wide.2 HIX.out).mono ?_; rintro e w' ⟨rfl, rfl⟩)
      refine hR.mono ?_
      rintro e W3 (⟨rfl, hJ3, hk3⟩ | ⟨rfl, hJx3⟩)
      · have HB3 := Lib.hid (hB.out.keep hk3)
        have d0 := blk_cell HB3.out.s 0
        have d1 := blk_cell HB3.out.sep 0
        simp only [List.getElem?_toArray, List.getElem?_cons_zero] at d0 d1
        have f0 := blk_frozen HB3.out.s 0
        have hil : (i : Int) + 1 ≤ s.length := by omega
        have hil2 : (i : Int) + 1 ≤ 10000001 := by omega
        gi_wp2
        go_roundw
        case rel =>
          refine ⟨pre ++ [s.take i], s.drop (i + 1), ?_, ⟨?_, ?_, ?_⟩, ?_, ?_⟩
          · show splitB c t = _
            rw [hS.out, HSI.out]
            simp
          · simpa using blk_set HB3.out.s 0 (.string ⟨(s.drop (i + 1)).toArray⟩)
          · exact blk_far HB3.out.sep (by show b0 + 1 ≠ b0; omega) _
          · exact blk_far HB3.out.save (by show b0 + 2 ≠ b0; omega) _
          · exact hJ _ _ _ (some b0) hJ3 (grownBy_setCell' _ _ _) (fun r e => .inl (by injection e with e; exact e.symm))
          · show _ ≤ _
            have := hL.out
            rw [List.length_drop]
            omega
        case measure =>
          have e1 := leftB_eq (W := w') (s := s) (by assumption)
          have e2 := leftB_eq (b0 := b0) (W := W3.setCell ⟨b0, 0, none⟩ (.string ⟨(s.drop (i + 1)).toArray⟩)) (s := s.drop (i + 1)) (by
            have h := blk_cell (blk_set HB3.out.s 0 (.string ⟨(s.drop (i + 1)).toArray⟩)) 0
            simpa using h)
          rw [e1, e2, List.length_drop]
          omega
      · gi_wp2
        refine bodyPost_ret (results_none rfl _ _ _) rfl ?_
        exact ⟨⟨_, rfl⟩, .inr ⟨_, ⟨splitB c (s.drop (i + 1)), by rw [hS.out, HSI.out]; simp⟩, hJx3⟩⟩
end Go.Proofs.YtcchoeomeklgmaaDoor.Core
/-! path.plain, strings.SplitSeq; the number that plain digits tell. -/
namespace Go.Proofs.YtcchoeomeklgmaaDoor.Core
open Go.RowKit Go.Shelf Go.Proofs.YtcchoeomeklgmaaDoorW.PrintWords Go.Proofs.YtcchoeomeklgmaaDoor.Rf Go.Proofs.YtcchoeomeklgmaaDoor
set_option linter.unusedVariables false
set_option linter.unusedSimpArgs false
def isDig (b : UInt8) : Bool := decide (48 ≤ b.toNat) && decide (b.toNat ≤ 57)
def digs : List UInt8 := [48, 49, 50, 51, 52, 53, 54, 55, 56, 57]
theorem digs_contains (b : UInt8) : digs.contains b = isDig b := by
  have h : ∀ n : Fin 256, digs.contains (UInt8.ofNat n.val) = isDig (UInt8.ofNat n.val) := by decide +kernel
  have := h ⟨b.toNat, b.toNat_lt⟩
  simpa using this
theorem dropWhile_nil {p : UInt8 → Bool} {l : List UInt8} : l.dropWhile p = [] ↔ ∀ x ∈ l, p x = true := by
  induction l with
  | nil => simp
  | cons a l ih =>
    rw [List.dropWhile_cons]
    split
    · rename_i h; rw [ih]; simp [h]
    · rename_i h; simp [h]
theorem trim_nil (l : List UInt8) : Lib.trimS l digs = [] ↔ l.all isDig = true := by
  unfold Lib.trimS Lib.trimLeftS Lib.trimRightS
  rw [dropWhile_nil, List.all_eq_true]
  simp only [digs_contains]
  constructor
  · intro h x hx
    by_cases hall : ∀ y ∈ l, isDig y = true
    · exact hall x hx
    · exfalso
      have hne : l.reverse.dropWhile isDig ≠ [] := fun he => hall fun y hy => dropWhile_nil.1 he y (by simpa using hy)
      have hh := List.head_dropWhile_not (p := isDig) (l := l.reverse) hne
      have hm : (l.reverse.dropWhile isDig).head hne ∈ (l.reverse.dropWhile isDig).reverse := by simp
      rw [h _ hm] at hh
      cases hh
  · intro h x hx
    rw [List.mem_reverse] at hx
    exact h x (by have := (List.dropWhile_sublist isDig).mem hx; simpa using this)
/-- Plain digits, at most m of them, no 0 ahead. -/
def plainB (m : Nat) (l : List UInt8) : Bool := !l.isEmpty && decide (l.length ≤ m) && l.all isDig && (decide (l = [48]) || decide (l.head? ≠ some 48))
theorem trim_any (t : List UInt8) (ht : t.length ≤ 10000000) (w : World) : Calls Tryd.prog 32 #[.string ⟨t.toArray⟩, .string ⟨#[48, 49, 50, 51, 52, 53, 54, 55, 56, 57]⟩] w fun e w' => e = .returned (.string ⟨(Lib.trimS t digs).toArray⟩) ∧ Below w.heap.size w w' := by
  have h := Any.strings_Trim_laid Tryd.lays160 (by kernel_rfl) ⟨t.toArray⟩ ⟨#[48, 49, 50, 51, 52, 53, 54, 55, 56, 57]⟩ w (by simp [ByteArray.size]; omega) (by decide) (ascii_of_all (by decide))
  exact h
theorem str_eq_nil (l : List UInt8) : ((⟨l.toArray⟩ : ByteArray) = ⟨#[]⟩) ↔ l = [] := by
  constructor
  · intro h
    injection h with h
    simpa using congrArg Array.toList h
  · rintro rfl; rfl
theorem plainB_ok (a : UInt8) (r : List UInt8) (h : Lib.trimS (a :: r) digs = []) (h6 : r.length ≤ 5) : plainB 6 (a :: r) = (decide ((a :: r) = [48]) || decide (a ≠ 48)) := by
  have h1 := (trim_nil (a :: r)).1 h
  unfold plainB
  rw [h1]
  have h2 : decide ((a :: r).length ≤ 6) = true := decide_eq_true (by rw [List.length_cons]; omega)
  rw [h2]
  simp
theorem plainB_no (a : UInt8) (r : List UInt8) (h : ¬ Lib.trimS (a :: r) digs = []) : plainB 6 (a :: r) = false := by
  have h1 : (a :: r).all isDig = false := by
    cases e : (a :: r).all isDig
    · rfl
    · exact absurd ((trim_nil (a :: r)).2 e) h
  unfold plainB
  rw [h1]
  simp
theorem plainB_long (a : UInt8) (r : List UInt8) (h : ¬ r.length ≤ 5) : plainB 6 (a :: r) = false := by
  have h2 : decide ((a :: r).length ≤ 6) = false := decide_eq_false (by rw [List.length_cons]; omega)
  unfold plainB
  rw [h2]
  simp
theorem u8_ne (a : UInt8) : (((a.toNat : Int)) != 48) = decide (a ≠ 48) := by
  have h : ∀ n : Fin 256, ((((UInt8.ofNat n.val).toNat : Int)) != 48) = decide ((UInt8.ofNat n.val) ≠ 48) := by decide +kernel
  have := h ⟨a.toNat, a.toNat_lt⟩
  simpa using this
set_option maxHeartbeats 2000000 in
theorem plain_any (t : List UInt8) (w : World) : Calls Tryd.prog 20 #[.string ⟨t.toArray⟩] w fun e w' => e = .returned (.bool (plainB 6 t)) ∧ Below w.heap.size w w' := by
  cases t with
  | nil =>
    go_enter Tryd.func20, Tryd.ntmps20
    go_wp2_with fail
    go_ret
    exact ⟨rfl, Below.refl _ _⟩
  | cons a r =>
    by_cases h6 : r.length ≤ 5
    · have HT := Lib.hid (trim_any (a :: r) (by rw [List.length_cons]; omega) w)
      have h6i : (r.length : Int) + 1 ≤ 6 := by omega
      have h6i2 : decide ((r.length : Int) + 1 ≤ 6) = true := decide_eq_true h6i
      go_enter Tryd.func20, Tryd.ntmps20
      go_wp2_with first
        | (refine HT.out.mono ?_
           rintro _ w5 ⟨rfl, hb⟩)
      · rename_i e1 e2
        go_ret
        refine ⟨?_, hb⟩
        rw [plainB_ok a r e1 h6]
        show Ending.returned (Value.bool (a == 48 && r.isEmpty || ((a.toNat : Int) != 48))) = _
        rw [u8_ne]
        congr 2
        by_cases ha : a = 48 <;> cases r <;> simp [ha]
      · go_ret
        exact ⟨rfl, hb⟩
      · exfalso
        simp_all
      · rename_i e1
        go_ret
        rw [plainB_no a r e1]
        refine ⟨?_, hb⟩
        have he : (Lib.trimS (a :: r) digs).isEmpty = false := by
          cases e : Lib.trimS (a :: r) digs
          · exact absurd e e1
          · rfl
        rfl
    · have h6i : ¬ (r.length : Int) + 1 ≤ 6 := by omega
      have h6i2 : decide ((r.length : Int) + 1 ≤ 6) = false := decide_eq_false h6i
      go_enter Tryd.func20, Tryd.ntmps20
      go_wp2_with fail
      go_ret
      rw [plainB_long a r h6]
      exact ⟨rfl, Below.refl _ _⟩
end Go.Proofs.YtcchoeomeklgmaaDoor.Core
/-! path.Read: a range over strings.SplitSeq. -/
namespace Go.Proofs.YtcchoeomeklgmaaDoor.Core
open Go.RowKit Go.Shelf Go.Proofs.YtcchoeomeklgmaaDoorW.PrintWords Go.Proofs.YtcchoeomeklgmaaDoor.Rf Go.Proofs.YtcchoeomeklgmaaDoor
set_option linter.unusedVariables false
set_option linter.unusedSimpArgs false
def splitW (w : World) (s sep : ByteArray) : World := ((w.alloc (.cells #[.string s] 9 (0, 0))).alloc (.cells #[.string sep] 9 (0, 0))).alloc (.cells #[.int .i64 0] 3 (0, 0))
def splitV (b0 : Nat) : Value := .func (.func 47) #[] #[.pointer (some ⟨b0 + 1, 0, none⟩), .pointer (some ⟨b0, 0, none⟩), .pointer (some ⟨b0 + 2, 0, none⟩)]
set_option maxHeartbeats 2000000 in
theorem split_in (s sep : ByteArray) (w : World) : Calls Tryd.prog 31 #[.string s, .string sep, .int .i64 0] w fun e w' => e = .returned (splitV w.heap.size) ∧ w' = splitW w s sep := by
  go_enter Tryd.func31, Tryd.ntmps31
  go_wp2_with fail
  go_ret
  exact ⟨rfl, rfl⟩
set_option maxHeartbeats 2000000 in
theorem split_any (s sep : ByteArray) (w : World) : Calls Tryd.prog 19 #[.string s, .string sep] w fun e w' => e = .returned (splitV w.heap.size) ∧ w' = splitW w s sep := by
  have HT := Lib.hid (split_in s sep w)
  go_enter Tryd.func19, Tryd.ntmps19
  go_wp2_with fail
  refine HT.out.mono ?_
  rintro _ w5 ⟨rfl, rfl⟩
  go_wp2_with fail
  go_ret
  exact ⟨rfl, rfl⟩
end Go.Proofs.YtcchoeomeklgmaaDoor.Core
/-! path.Read: the walk of the range. -/
namespace Go.Proofs.YtcchoeomeklgmaaDoor.Core
open Go.RowKit Go.Shelf Go.Proofs.YtcchoeomeklgmaaDoorW.PrintWords Go.Proofs.YtcchoeomeklgmaaDoor.Rf Go.Proofs.YtcchoeomeklgmaaDoor
set_option linter.unusedVariables false
set_option linter.unusedSimpArgs false
attribute [local go_sem] Oper.semAt_some
theorem info3 : (Tryd.prog.info? 3).map (fun i => (i.zero, i.size, i.bytes)) = some (some (.int .i64 0), 1, 8) := by kernel_rfl
/-- The number that digits tell, behind acc. -/
def val (acc : Nat) (l : List UInt8) : Nat := l.foldl (fun n b => n * 10 + (b.toNat - 48)) acc
theorem decFrom_val : ∀ (l : List UInt8) (acc : Nat), l.all isDig = true → Lib.decFrom acc l = some (val acc l)
  | [], _, _ => rfl
  | b :: r, acc, h => by
    rw [List.all_cons, Bool.and_eq_true] at h
    have h1 := h.1
    unfold isDig at h1
    rw [Bool.and_eq_true, decide_eq_true_eq, decide_eq_true_eq] at h1
    have hd : Lib.digitVal b = some (b.toNat - 48) := by unfold Lib.digitVal; rw [if_pos h1]
    unfold Lib.decFrom
    rw [hd]
    exact decFrom_val r _ h.2
theorem plainB_iff (x : List UInt8) : plainB 6 x = true ↔ x ≠ [] ∧ x.length ≤ 6 ∧ x.all isDig = true ∧ (x = [48] ∨ x.head? ≠ some 48) := by
  unfold plainB
  simp only [Bool.and_eq_true, Bool.or_eq_true, decide_eq_true_eq, Bool.not_eq_true', List.isEmpty_eq_false_iff]
  exact ⟨fun ⟨⟨⟨a, b⟩, c⟩, d⟩ => ⟨a, b, c, d⟩, fun ⟨a, b, c, d⟩ => ⟨⟨⟨a, b⟩, c⟩, d⟩⟩
theorem atoi_val (x : List UInt8) (hne : x ≠ []) (h : x.all isDig = true) : Lib.atoi x = some (val 0 x : Int) := by
  cases x with
  | nil => exact absurd rfl hne
  | cons b r =>
    have hb : isDig b = true := by rw [List.all_cons, Bool.and_eq_true] at h; exact h.1
    have h45 : (b == 45) = false := by
      cases e : b == 45
      · rfl
      · rw [eq_of_beq e] at hb; exact absurd hb (by decide)
    have h43 : (b == 43) = false := by
      cases e : b == 43
      · rfl
      · rw [eq_of_beq e] at hb; exact absurd hb (by decide)
    have hd : Lib.decNat (b :: r) = some (val 0 (b :: r)) := by
      unfold Lib.decNat
      rw [if_neg (by simp)]
      exact decFrom_val _ _ h
    show (if (b == 45) = true then _ else if (b == 43) = true then _ else Option.map (fun m => ((m : Nat) : Int)) (Lib.decNat (b :: r))) = _
    rw [h45, h43, hd]
    rfl
def atoiV (x : List UInt8) : Int := (Lib.atoi x).getD 0
theorem atoiV_val (x : List UInt8) (h : plainB 6 x = true) : atoiV x = (val 0 x : Int) := by
  obtain ⟨a, b, c, d⟩ := (plainB_iff x).1 h
  unfold atoiV
  rw [atoi_val x a c]
  rfl
def encI (xs : List (List UInt8)) : List Value := (xs.map atoiV).map (Value.int .i64)
theorem atoi_plain (x : List UInt8) (h : plainB 6 x = true) : Lib.atoi x = some (atoiV x) ∧ x.length ≤ 6 := by
  obtain ⟨a, b, c, d⟩ := (plainB_iff x).1 h
  rw [atoiV_val x h]
  exact ⟨atoi_val x a c, b⟩
theorem ownC_row {β : Type} {bc B n₀ b : Nat} {t e : TypeId} {size : Nat} (k : β → Nat) (f : β → List Value) (hbc : bc < n₀) (hbb : b ≠ bc) : OwnC bc B (fun s W => ∃ u, Boxed W b t u ∧ W.ownsRow n₀ e size u (k s) (f s)) := by
  rintro s X Y row ⟨u, hv, hr⟩ hg hrow
  refine ⟨u, hv.kept hg (fun e' => ?_), hr.kept hg ?_⟩
  · rcases hrow b e'.symm with h | ⟨_, o, ho, hc⟩
    · exact hbb h
    · rw [show X.heap[b]? = _ from hv] at ho; cases ho; cases hc
  · rcases hr.2 with ⟨rfl, _⟩ | ⟨g, cap, cur, rfl, hg0, hgb, _⟩
    · exact .inl rfl
    · refine .inr fun e' => ?_
      rcases hrow g (by simpa [Value.ownBlock] using e'.symm) with h | ⟨_, o, ho, hc⟩
      · omega
      · rw [hgb] at ho; cases ho; cases hc
theorem Kp3.below {b0 : Nat} {W W' : World} (h : Below W.heap.size W W') (hb : b0 + 3 ≤ W.heap.size) : Kp3 b0 W W' := fun q _ h2 => h.block q (by omega)
theorem KeepsFrom.below {B : Nat} {W W' : World} (h : Below W.heap.size W W') : KeepsFrom B W W' := ⟨h.size, fun k o _ hk _ => blk_below hk h⟩
theorem own_mono {w : World} {base base' : Nat} {e : TypeId} {size : Nat} {u : Value} {n : Nat} {xs : List Value} (hb : base' ≤ base) (h : w.ownsRow base e size u n xs) : w.ownsRow base' e size u n xs := by
  obtain ⟨h1, h2⟩ := h
  refine ⟨h1, ?_⟩
  rcases h2 with h2 | ⟨g, cap, cur, rfl, hg, hh, r⟩
  · exact .inl h2
  · exact .inr ⟨g, cap, cur, rfl, Nat.le_trans hb hg, hh, r⟩
theorem results_11 {fn : Func} {p p' : Tmp} {ty ty' : TypeId} {P : Program} (h : fn.results = #[.cell p ty, .cell p' ty']) (tmps : Array Value) (w : World) (A A' : Addr) (u u' : Value)
    (hp : tmps.getD p undef = .pointer (some A)) (hp' : tmps.getD p' undef = .pointer (some A')) (hl : (loadVar ty A).run P w = .ok u w) (hl' : (loadVar ty' A').run P w = .ok u' w) :
    (results fn tmps).run P w = .ok (.tuple #[u, u']) w := by
  have h1 : tmps[p]?.getD undef = .pointer (some A) := by simpa using hp
  have h2 : tmps[p']?.getD undef = .pointer (some A') := by simpa using hp'
  simp [results, h, h1, h2, asAddr, hl, hl']
theorem load22 (w : World) (b : Nat) (u : Value) (h : Boxed w b 22 u) : (loadVar 22 ⟨b, 0, none⟩).run Tryd.prog w = .ok u w := by
  have h1 := h.cell
  have h2 := Tryd.underlying22
  simp [loadVar, loadCells, run_underlying h2, h1, Result.andThen]
theorem load23 (w : World) (b : Nat) (u : Value) (h : Boxed w b 23 u) : (loadVar 23 ⟨b, 0, none⟩).run Tryd.prog w = .ok u w := by
  have h1 := h.cell
  have h2 := Tryd.underlying23
  simp [loadVar, loadCells, run_underlying h2, h1, Result.andThen]
theorem ends_at {W : World} {D m : Nat} {u1 u2 : Value} (v1 v2 : Value) (h2 : W.heap[m]? = some (.cells #[u1] 22 (0, 0))) (h3 : W.heap[m + 1]? = some (.cells #[u2] 23 (0, 0))) (hK : W.heap[D]? = some (.deferred (some []))) (hD : m + 6 ≤ D) :
    ∃ X, X = (W.setCell ⟨m, 0, none⟩ v1).setCell ⟨m + 1, 0, none⟩ v2 ∧ X.heap[D]? = some (.deferred (some [])) ∧ Boxed (X.putObj D (.deferred none)) m 22 v1 ∧ Boxed (X.putObj D (.deferred none)) (m + 1) 23 v2 ∧ Below m W (X.putObj D (.deferred none)) ∧ ∀ q, m + 2 ≤ q → X.heap[q]? = W.heap[q]? := by
  have hq : ∀ q, m + 2 ≤ q → ((W.setCell ⟨m, 0, none⟩ v1).setCell ⟨m + 1, 0, none⟩ v2).heap[q]? = W.heap[q]? := fun q h => (Below.heap_setCell _ _ _ q (by show q ≠ m + 1; omega)).trans (Below.heap_setCell _ _ _ q (by show q ≠ m; omega))
  have hX := (hq D (by omega)).trans hK
  have a1 : Boxed ((W.setCell ⟨m, 0, none⟩ v1).setCell ⟨m + 1, 0, none⟩ v2) m 22 v1 := blk_far (by simpa using blk_set h2 0 v1) (by show m ≠ m + 1; omega) _
  have a2 : Boxed ((W.setCell ⟨m, 0, none⟩ v1).setCell ⟨m + 1, 0, none⟩ v2) (m + 1) 23 v2 := by
    have h := blk_set (blk_far h3 (p := ⟨m, 0, none⟩) (by show m + 1 ≠ m; omega) v1) 0 v2
    simpa [Boxed] using h
  refine ⟨_, rfl, hX, (World.putObj_heap_other (by omega)).trans a1, (World.putObj_heap_other (by omega)).trans a2, ?_, hq⟩
  have hb : Below m W ((W.setCell ⟨m, 0, none⟩ v1).setCell ⟨m + 1, 0, none⟩ v2) := ((Below.refl _ _).setCell (p := ⟨m, 0, none⟩) (Nat.le_refl _) _).setCell (p := ⟨m + 1, 0, none⟩) (by show m ≤ m + 1; omega) _
  exact hb.grown (grownBy_putObj' _ D _) (by have := blk_lt h2; have := hb.size; omega) (fun k e => by cases e; omega)
/-- The world in which the range begins. -/
def W0 (w : World) (t : List UInt8) : World := splitW (((w.alloc (.cells #[.slice none 0 0] 22)).alloc (.cells #[.int .i64 0] 23)).alloc (.cells #[.slice none 0 0] 22)) ⟨t.toArray⟩ ⟨#[46]⟩
set_option maxRecDepth 100000 in
set_option maxHeartbeats 4000000 in
theorem read_range (t : List UInt8) (ht : t.length ≤ 10000000) (hne : t ≠ [46]) (w : World) : Calls Tryd.prog 8 #[.string ⟨t.toArray⟩] w fun e w' =>
    (∃ u, e = .returned (.tuple #[u, .int .i64 0]) ∧ w'.ownsRow w.heap.size 3 1 u (splitB 46 t).length (encI (splitB 46 t)) ∧ (splitB 46 t).length ≤ 30 ∧ (∀ x ∈ splitB 46 t, plainB 6 x = true) ∧ Below w.heap.size w w') ∨
    (e = .returned (.tuple #[.slice none 0 0, .int .i64 3]) ∧ 30 < (splitB 46 t).length ∧ (∀ x ∈ splitB 46 t, plainB 6 x = true) ∧ Below w.heap.size w w') ∨
    (e = .returned (.tuple #[.slice none 0 0, .int .i64 4]) ∧ (∃ x ∈ splitB 46 t, plainB 6 x = false) ∧ Below w.heap.size w w') := by
  obtain ⟨i0, hi, hz0, hz1, hz2⟩ := info_parts info3
  have hbe : (t == [46]) = false := by simp [hne]
  refine (callsIn_wide (n := 5)).1 ?_
  refine callsIn_of_wp_marks Tryd.func8 rfl trivial ?_ rfl
  simp only [Tryd.ntmps8, List.size_toArray, List.length_cons, List.length_nil, Nat.reduceAdd, Nat.reduceSub, Array.replicate_succ, Array.replicate_zero, List.push_toArray, List.append_toArray, List.nil_append, List.cons_append]
  gi_wp2_with (refine ⟨trivial, ?_⟩; gi_at_call 19; refine (callsIn_wide.2 (split_any _ _ _)).mono ?_; rintro e w' ⟨rfl, rfl⟩)
  obtain ⟨m, hm⟩ : ∃ m, m = w.heap.size := ⟨_, rfl⟩
  obtain ⟨Wr, hWr⟩ : ∃ W, W0 w t = W := ⟨_, rfl⟩
  have hz : Wr.heap.size = m + 6 := by rw [← hWr, hm]; simp [W0, splitW]
  have hb : Below m w Wr := by
    rw [← hWr, hm]
    exact (((((((Below.refl _ _).alloc (Nat.le_refl _) _).alloc (by simp <;> omega) _).alloc (by simp <;> omega) _).alloc (by simp <;> omega) _).alloc (by simp <;> omega) _).alloc (by simp <;> omega) _)
  have b2 : Boxed Wr m 22 (.slice none 0 0) := by rw [← hWr, hm]; exact (((((Boxed.new w 22 (.slice none 0 0)).alloc _).alloc _).alloc _).alloc _).alloc _
  have b3 : Boxed Wr (m + 1) 23 (.int .i64 0) := by
    rw [← hWr, hm]
    have h := Boxed.new (w.alloc (.cells #[.slice none 0 0] 22)) 23 (.int .i64 0)
    rw [World.size_alloc] at h
    exact (((h.alloc _).alloc _).alloc _).alloc _
  have b4 : Boxed Wr (m + 2) 22 (.slice none 0 0) := by
    rw [← hWr, hm]
    have h := Boxed.new ((w.alloc (.cells #[.slice none 0 0] 22)).alloc (.cells #[.int .i64 0] 23)) 22 (.slice none 0 0)
    rw [World.size_alloc, World.size_alloc] at h
    exact ((h.alloc _).alloc _).alloc _
  have hbox : Box3 (m + 3) 46 Wr t := by
    rw [← hWr, hm]
    refine ⟨?_, ?_, ?_⟩
    · have h := Boxed.new (((w.alloc (.cells #[.slice none 0 0] 22)).alloc (.cells #[.int .i64 0] 23)).alloc (.cells #[.slice none 0 0] 22)) 9 (.string ⟨t.toArray⟩)
      rw [World.size_alloc, World.size_alloc, World.size_alloc] at h
      exact (h.alloc _).alloc _
    · have h := Boxed.new ((((w.alloc (.cells #[.slice none 0 0] 22)).alloc (.cells #[.int .i64 0] 23)).alloc (.cells #[.slice none 0 0] 22)).alloc (.cells #[.string ⟨t.toArray⟩] 9)) 9 (.string ⟨#[46]⟩)
      rw [World.size_alloc, World.size_alloc, World.size_alloc, World.size_alloc] at h
      exact h.alloc _
    · have h := Boxed.new (((((w.alloc (.cells #[.slice none 0 0] 22)).alloc (.cells #[.int .i64 0] 23)).alloc (.cells #[.slice none 0 0] 22)).alloc (.cells #[.string ⟨t.toArray⟩] 9)).alloc (.cells #[.string ⟨#[46]⟩] 9)) 3 (.int .i64 0)
      rw [World.size_alloc, World.size_alloc, World.size_alloc, World.size_alloc, World.size_alloc] at h
      exact h
  have HW := Lib.hid hWr
  clear hWr
  change Code.wpIn _ _ _ _ _ _ (W0 w t)
  rw [HW.out]
  simp only [splitV, World.size_alloc, ← hm]
  refine rangeCell (F := Fence.wide) (n := 5) rfl (by omega) (gf := 47) (lb := #[.pointer (some ⟨m + 4, 0, none⟩), .pointer (some ⟨m + 3, 0, none⟩), .pointer (some ⟨m + 5, 0, none⟩)]) rfl trivial (enters_of Tryd.func47 (by kernel_rfl) rfl)
    (encs := fun x : List UInt8 => #[.string ⟨x.toArray⟩]) (bc := m + 3) (by omega) (split_iter (5 - 1) (by omega) (m + 3) 46 t ht Wr hbox) (fun h k => Kp3.trans h k) (fun W l o o' hl _ => Kp3.put _ (by omega)) (Below.refl _ _) (fun _ => rfl)
    (fun pre W => ((∃ u, Boxed W (m + 2) 22 u ∧ W.ownsRow (m + 6) 3 1 u pre.length (encI pre)) ∧ W.heap[m]? = some (.cells #[.slice none 0 0] 22 (0, 0)) ∧ W.heap[m + 1]? = some (.cells #[.int .i64 0] 23 (0, 0))) ∧ Below m Wr W ∧ ∀ x ∈ pre, plainB 6 x = true)
    (fun c pre W => (W.heap[m]? = some (.cells #[.slice none 0 0] 22 (0, 0)) ∧ W.heap[m + 1]? = some (.cells #[.int .i64 4] 23 (0, 0))) ∧ Below m Wr W ∧ c = .ret ∧ ∃ x ∈ pre, plainB 6 x = false)
    (((ownC_row (fun pre => pre.length) encI (by omega) (by omega)).and ((ownC_block (fun _ => .cells #[.slice none 0 0] 22 (0, 0)) (fun _ => rfl) (by omega)).and (ownC_block (fun _ => .cells #[.int .i64 0] 23 (0, 0)) (fun _ => rfl) (by omega)))).and ((ownC_below (by omega) (by omega) (by omega)).and (ownC_pure _ _ _)))
    (fun c => ((ownC_block (fun _ => .cells #[.slice none 0 0] 22 (0, 0)) (fun _ => rfl) (by omega)).and (ownC_block (fun _ => .cells #[.int .i64 4] 23 (0, 0)) (fun _ => rfl) (by omega))).and ((ownC_below (by omega) (by omega) (by omega)).and (ownC_pure _ _ _)))
    ⟨⟨⟨_, b4, World.ownsRow_nil _ _ _ _⟩, b2, b3⟩, Below.refl _ _, by simp⟩
    (fun x => { tmps := #[.string ⟨t.toArray⟩, undef, .pointer (some ⟨m, 0, none⟩), .pointer (some ⟨m + 1, 0, none⟩), .pointer (some ⟨m + 2, 0, none⟩), .string ⟨x.toArray⟩, undef, undef, .string ⟨t.toArray⟩, .bool false, .string ⟨t.toArray⟩, splitV (m + 3), .string ⟨x.toArray⟩, undef, undef, undef, undef, undef, undef, undef, undef, undef, undef, undef, undef, undef, undef, undef, undef], defers := [] }) ?assign ?body ?done ?stop
  all_goals have HM := Lib.hid hm
  all_goals clear hm
  case assign =>
    intro l x W K hK
    gi_wp2
    exact hK
  case body =>
    rintro l pre x W ⟨⟨⟨u, hv, hrow⟩, h2, h3⟩, hB, hP⟩ hlt _
    have HPL := Lib.hid (plain_any x W)
    by_cases hpx : plainB 6 x = true
    · rw [hpx] at HPL
      obtain ⟨ha, hl6⟩ := atoi_plain x hpx
      have HAT := Lib.hid (fun W1 => Tryd.strconv_Atoi ⟨x.toArray⟩ (atoiV x) (by simp [ByteArray.size]; omega) (by simpa using ha) W1)
      have HENC : Hid (encI (pre ++ [x]) = encI pre ++ [.int .i64 (atoiV x)]) := by show _ = _; simp [encI]
      generalize atoiV x = nv at HAT HENC
      have HPX := Lib.hid hpx
      have HPP : Hid (∀ y ∈ pre ++ [x], plainB 6 y = true) := by
        intro y hy
        rcases List.mem_append.1 hy with hy | hy
        · exact hP y hy
        · rw [List.mem_singleton.1 hy]; exact HPX.out
      have HB1 := Lib.hid hB
      have H2 := Lib.hid h2
      have H3 := Lib.hid h3
      have HV := Lib.hid hv
      have HR := Lib.hid hrow
      have hpl : pre.length ≤ 10000001 := by have := splitB_len 46 t; omega
      have HPLn := Lib.hid hpl
      have HSZ : Hid (m + 6 ≤ W.heap.size) := by have := HB1.out.size; show _ ≤ _; omega
      clear hB h2 h3 hv hrow hpx hP ha hl6 hlt hpl
      gi_wp2_with first
        | (refine ⟨trivial, ?_⟩; gi_at_call 20; refine (CallsIn.inRound l (callsIn_wide.2 HPL.out)).mono ?_; rintro e w5 ⟨rfl, hb5⟩)
        | (refine ⟨trivial, ?_⟩; gi_at_call 21; refine (CallsIn.inRound l (callsIn_wide.2 (HAT.out _))).mono ?_; rintro e w6 ⟨rfl, t6, rfl⟩; have hb6 := bytes_below hb5 hb5.size 5 t6; obtain ⟨w6, hw6⟩ : ∃ X, Lib.bytesWorld w5 5 t6 = X := ⟨_, rfl⟩; rw [hw6] at hb6 ⊢; have HS6 : Hid (m + 6 ≤ w6.heap.size) := Nat.le_trans HSZ.out hb6.size; clear hw6 hb5; have hv6 : Boxed w6 (m + 2) 22 u := blk_below HV.out hb6; have hrow6 := own_move HR.out (fun k hk => hb6.block k (HR.out.lt k hk).2); have hc6 := hv6.cell)
        | (gi_at_builtin; refine wpListIn_append_own _ rfl _ _ 22 rfl (m + 6) 3 i0 (.int .i64 0) 1 8 Tryd.underlying22 hi hz0 hz1 hz2 rfl (by decide) _ _ _ rfl (hrow6.alloc _) ⟨w6.heap.size, 0, none⟩ 1 1 [.int .i64 nv] rfl rfl (cell_one_new _ _ _) (by simp [Value.oneCell']) (by have := HPLn.out; simp only [maxLen]; omega) (by have := HPLn.out; omega) (by have := HS6.out; rw [World.size_alloc]; omega) ?_; intro v' w1 hown' hgrow _; obtain ⟨g', cap', rfl⟩ := ownsRow_succ hown'; obtain ⟨hv1, hv2, hr2, hk2, hb2⟩ := hv6.appended (by decide) (own_mono (Nat.le_add_right m 6) hrow6) (by have := HS6.out; omega) (Nat.le_add_right m 2) (own_mono (Nat.le_add_right m 6) hown') hgrow; have hc1 := hv1.cell; have hf1 := hv1.frozen)
      all_goals
        have hr3 := World.ownsRow.kept hown' (grownBy_setCell' w1 (m + 2) (.slice (some ⟨g', 0, none⟩) (pre.length + 1) cap')) (.inr (hv1.not_row (by decide) hown').symm)
        have hkp : Kp3 (m + 3) w6 (w1.setCell ⟨m + 2, 0, none⟩ (.slice (some ⟨g', 0, none⟩) (pre.length + 1) cap')) := fun q q1 q2 => by
          refine (Below.heap_setCell _ _ _ q (by show q ≠ m + 2; omega)).trans ?_
          have hq : q < w6.heap.size := by have := HS6.out; omega
          refine (hgrow.block q (by rw [World.size_alloc]; omega) (fun e => ?_)).trans (Below.heap_alloc _ _ _ hq)
          have := (hrow6.lt q e.symm).1
          omega
        have hkk : ∀ q, q < m + 2 → (w1.setCell ⟨m + 2, 0, none⟩ (.slice (some ⟨g', 0, none⟩) (pre.length + 1) cap')).heap[q]? = w6.heap[q]? := fun q q1 => by
          refine (Below.heap_setCell _ _ _ q (by show q ≠ m + 2; omega)).trans ?_
          have hq : q < w6.heap.size := by have := HS6.out; omega
          refine (hgrow.block q (by rw [World.size_alloc]; omega) (fun e => ?_)).trans (Below.heap_alloc _ _ _ hq)
          have := (hrow6.lt q e.symm).1
          omega
        refine ⟨(KeepsFrom.below hb6).trans (hk2.from _), (Kp3.below hb6 (by have := HSZ.out; omega)).trans hkp, ⟨⟨_, hv2, ?_⟩, ?_, ?_⟩, ?_, HPP.out⟩
        · rw [HENC.out, List.length_append]
          exact hr3
        · exact (hkk _ (by omega)).trans (blk_below H2.out hb6)
        · exact (hkk _ (by omega)).trans (blk_below H3.out hb6)
        · exact (HB1.out.trans (hb6.mono (by have := HSZ.out; omega))).trans hb2
    · have hpf : plainB 6 x = false := by simpa using hpx
      rw [hpf] at HPL
      clear hpx
      have k2 := fun W1 (hb1 : Below W.heap.size W W1) => blk_below h2 hb1
      have HB1 := Lib.hid hB
      have H2 := Lib.hid h2
      have H3 := Lib.hid h3
      clear hB h2 h3
      gi_wp2_with (refine ⟨trivial, ?_⟩; gi_at_call 20; refine (CallsIn.inRound l (callsIn_wide.2 HPL.out)).mono ?_; rintro e w5 ⟨rfl, hb5⟩; have d2 := blk_below H2.out hb5; have d3 := blk_below H3.out hb5; have e2 := blk_cell d2 0; have f2 := blk_frozen d2 0; have e3 := blk_cell d3 0; have f3 := blk_frozen d3 0; simp only [List.getElem?_toArray, List.getElem?_cons_zero] at e2 e3)
      have hm5 := HB1.out.size
      have hmw := HM.out
      refine ⟨(KeepsFrom.below hb5).trans (((KeepsOthers.setCell _ _ _).trans (KeepsOthers.setCell _ _ _)).from _), ⟨?_, ?_⟩, ?_, rfl, x, by simp, hpf⟩
      · exact blk_far (by simpa using blk_set d2 0 (.slice none 0 0)) (by show m ≠ m + 1; omega) _
      · simpa using blk_set (blk_far d3 (p := ⟨m, 0, none⟩) (by show m + 1 ≠ m; omega) (.slice none 0 0)) 0 (.int .i64 4)
      · exact ((HB1.out.trans (hb5.mono (by omega))).setCell (p := ⟨m, 0, none⟩) (Nat.le_refl _) _).setCell (p := ⟨m + 1, 0, none⟩) (by show m ≤ m + 1; omega) _
  case done =>
    rintro D xs W hD rfl ⟨⟨⟨u, hv, hrow⟩, h2, h3⟩, hB, hP⟩ hK
    have hn0 : 0 < (splitB 46 t).length := List.length_pos_iff.2 (splitB_ne 46 t)
    have hform : ∃ g cap, u = .slice (some ⟨g, 0, none⟩) (splitB 46 t).length cap := by
      rcases hrow.2 with ⟨_, h0⟩ | ⟨g, cap, _, rfl, _⟩
      · omega
      · exact ⟨g, cap, rfl⟩
    obtain ⟨g, cap, rfl⟩ := hform
    obtain ⟨n, hn⟩ : ∃ n, n = (splitB 46 t).length := ⟨_, rfl⟩
    have HN := Lib.hid hn
    rw [← hn] at hv hrow hn0
    have HV := Lib.hid hv
    have HR := Lib.hid hrow
    have H2 := Lib.hid h2
    have H3 := Lib.hid h3
    have HB1 := Lib.hid hB
    have HP1 := Lib.hid hP
    have HK := Lib.hid hK
    have e2 := blk_cell h2 0
    have f2 := blk_frozen h2 0
    have e3 := blk_cell h3 0
    have f3 := blk_frozen h3 0
    have e4 := hv.cell
    simp only [List.getElem?_toArray, List.getElem?_cons_zero] at e2 e3
    clear hv hrow h2 h3 hB hP hK hn
    have hmw := HM.out
    have hbw : Below m w W := hb.trans (HB1.out.mono (by omega))
    by_cases h30 : n ≤ 30
    · have h30i : ((n : Int) ≤ 30) := by omega
      have h30d : decide ((n : Int) > 30) = false := by simp; omega
      obtain ⟨X, hX, hKX, x2, x3, hbX, hqX⟩ := ends_at (.slice (some ⟨g, 0, none⟩) n cap) (.int .i64 0) H2.out H3.out HK.out (by omega)
      have hr : (X.putObj D (.deferred none)).ownsRow (m + 6) 3 1 (.slice (some ⟨g, 0, none⟩) n cap) n (encI (splitB 46 t)) :=
        ownsRow_putObj (own_move HR.out (fun k hk => hqX k (by have := (HR.out.lt k hk).1; omega))) _ hKX rfl
      have HRX := Lib.hid (own_mono (Nat.le_add_right m 6) hr)
      have HX := Lib.hid hX
      have HKX := Lib.hid hKX
      have HX2 := Lib.hid x2
      have HX3 := Lib.hid x3
      have HBX := Lib.hid (hbw.trans hbX)
      clear hX hKX x2 x3 hbX hqX hr hmw hbw
      gi_wp2
      refine ⟨by simp, .inl ⟨_, _, rfl, run_takeDeferred (by rw [← HX.out]; exact HKX.out), ?_⟩⟩
      rw [← HX.out]
      refine ⟨_, results_11 rfl _ _ _ _ _ _ rfl rfl (load22 _ _ _ HX2.out) (load23 _ _ _ HX3.out), .inl ⟨_, rfl, ?_, ?_, HP1.out, ?_⟩⟩
      · rw [← HN.out, ← HM.out]; exact HRX.out
      · rw [← HN.out]; exact h30
      · rw [← HM.out]; exact HBX.out
    · have h30i : (30 < (n : Int)) := by omega
      have h30d : decide ((n : Int) > 30) = true := by simp; omega
      obtain ⟨X, hX, hKX, x2, x3, hbX, hqX⟩ := ends_at (.slice none 0 0) (.int .i64 3) H2.out H3.out HK.out (by omega)
      have HX := Lib.hid hX
      have HKX := Lib.hid hKX
      have HX2 := Lib.hid x2
      have HX3 := Lib.hid x3
      have HBX := Lib.hid (hbw.trans hbX)
      clear hX hKX x2 x3 hbX hqX hmw hbw
      gi_wp2
      refine ⟨by simp, .inl ⟨_, _, rfl, run_takeDeferred (by rw [← HX.out]; exact HKX.out), ?_⟩⟩
      rw [← HX.out]
      refine ⟨_, results_11 rfl _ _ _ _ _ _ rfl rfl (load22 _ _ _ HX2.out) (load23 _ _ _ HX3.out), .inr (.inl ⟨rfl, ?_, HP1.out, ?_⟩)⟩
      · rw [← HN.out]; omega
      · rw [← HM.out]; exact HBX.out
  case stop =>
    rintro D c pre W hD hSp ⟨⟨h2, h3⟩, hB, rfl, x, hx, hxf⟩ hK
    have hmw := HM.out
    have hbw : Below m w W := hb.trans (hB.mono (by omega))
    have hbX : Below m W (W.putObj D (.deferred none)) := (Below.refl _ _).grown (grownBy_putObj' _ D _) (by have := blk_lt h2; omega) (fun k e => by cases e; omega)
    have x2 : Boxed (W.putObj D (.deferred none)) m 22 (.slice none 0 0) := (World.putObj_heap_other (by omega)).trans h2
    have x3 : Boxed (W.putObj D (.deferred none)) (m + 1) 23 (.int .i64 4) := (World.putObj_heap_other (by omega)).trans h3
    have HBX := Lib.hid (hbw.trans hbX)
    have HX2 := Lib.hid x2
    have HX3 := Lib.hid x3
    have HKX := Lib.hid hK
    have HXF := Lib.hid hxf
    have HX := Lib.hid (hSp.subset hx)
    clear hbw hbX x2 x3 hK hxf hSp hx hmw
    gi_wp2
    refine ⟨by simp, .inl ⟨_, _, rfl, run_takeDeferred HKX.out, ?_⟩⟩
    refine ⟨_, results_11 rfl _ _ _ _ _ _ rfl rfl (load22 _ _ _ HX2.out) (load23 _ _ _ HX3.out), .inr (.inr ⟨rfl, ⟨x, HX.out, HXF.out⟩, ?_⟩)⟩
    rw [← HM.out]
    exact HBX.out
end Go.Proofs.YtcchoeomeklgmaaDoor.Core
/-! The document's Read comes to the same. -/
namespace Go.Proofs.YtcchoeomeklgmaaDoor.Core
open Go.RowKit Go.Shelf Go.Proofs.YtcchoeomeklgmaaDoorW.PrintWords Go.Proofs.YtcchoeomeklgmaaDoorW.PrintMore Go.Proofs.YtcchoeomeklgmaaDoor.P1 Go.Proofs.YtcchoeomeklgmaaDoor
set_option linter.unusedVariables false
set_option linter.unusedSimpArgs false
abbrev bx (l : List UInt8) : ByteArray := ⟨l.toArray⟩
theorem bx_size (l : List UInt8) : (bx l).size = l.length := by simp [bx, ByteArray.size]
theorem bt_bx (l : List UInt8) (p : Nat) (h : p < l.length) : bt (bx l) (p : Int) = ((l[p]'h).toNat : Int) := by
  unfold bt
  have h2 : (p : Int).toNat < (bx l).size := by rw [bx_size]; simpa using h
  rw [dif_pos h2]
  simp [bx, ByteArray.getElem_eq_getElem_data]
theorem ext_bx (l : List UInt8) (i j : Nat) (hj : j ≤ l.length) : (bx l).extract i j = bx ((l.drop i).take (j - i)) := by
  apply ByteArray.ext
  apply Array.ext'
  simp [ByteArray.extract, ByteArray.copySlice, bx]
theorem wr {n : Int} (h0 : -1000000000 ≤ n) (h1 : n ≤ 1000000000) : wrap64 n = n := by unfold wrap64; omega
theorem drop_at {α : Type} {l r : List α} {p : Nat} {b : α} (h : l.drop p = b :: r) : ∃ hl : p < l.length, l[p] = b ∧ l.drop (p + 1) = r := by
  have hl : p < l.length := by
    have := congrArg List.length h
    simp only [List.length_drop, List.length_cons] at this
    omega
  refine ⟨hl, ?_, ?_⟩
  · rw [List.drop_eq_getElem_cons hl] at h
    injection h
  · rw [List.drop_eq_getElem_cons hl] at h
    injection h
theorem drop_end {α : Type} {l : List α} {p : Nat} (h : l.drop p = []) : l.length ≤ p := by
  have := congrArg List.length h
  simp only [List.length_drop, List.length_nil] at this
  omega
theorem val_le : ∀ (l : List UInt8) (acc : Nat), l.all isDig = true → val acc l < (acc + 1) * 10 ^ l.length
  | [], acc, _ => by simp [val]
  | b :: r, acc, h => by
    rw [List.all_cons, Bool.and_eq_true] at h
    have h1 := h.1
    unfold isDig at h1
    rw [Bool.and_eq_true, decide_eq_true_eq, decide_eq_true_eq] at h1
    have ih := val_le r (acc * 10 + (b.toNat - 48)) h.2
    show val (acc * 10 + (b.toNat - 48)) r < _
    rw [List.length_cons, Nat.pow_succ]
    refine Nat.lt_of_lt_of_le ih ?_
    have : acc * 10 + (b.toNat - 48) + 1 ≤ (acc + 1) * 10 := by omega
    calc _ ≤ ((acc + 1) * 10) * 10 ^ r.length := Nat.mul_le_mul_right _ this
      _ = _ := by rw [Nat.mul_assoc, Nat.mul_comm 10]
end Go.Proofs.YtcchoeomeklgmaaDoor.Core
/-! haymowref05.Read: its walk. -/
namespace Go.Proofs.YtcchoeomeklgmaaDoor.Core
open Go.RowKit Go.Shelf Go.Proofs.YtcchoeomeklgmaaDoorW.PrintWords Go.Proofs.YtcchoeomeklgmaaDoorW.PrintMore Go.Proofs.YtcchoeomeklgmaaDoor.P1 Go.Proofs.YtcchoeomeklgmaaDoor
set_option linter.unusedVariables false
set_option linter.unusedSimpArgs false
/-- What Read answers of parts, behind numbers that have come. -/
def fin (vs : List Int) (ps : List (List UInt8)) : List Int × Int :=
  if ps.all (plainB 6) = true then (if 30 < vs.length + ps.length then ([], 3) else (vs ++ ps.map atoiV, 0)) else ([], 4)
def readL (t : List UInt8) : List Int × Int := if t = [46] then ([], 0) else fin [] (splitB 46 t)
theorem fin_bad {vs : List Int} {x : List UInt8} {ps : List (List UInt8)} (h : plainB 6 x = false) : fin vs (x :: ps) = ([], 4) := by
  unfold fin
  rw [if_neg (by simp [h])]
theorem fin_good {vs : List Int} {x : List UInt8} {ps : List (List UInt8)} (h : plainB 6 x = true) : fin vs (x :: ps) = fin (vs ++ [(val 0 x : Int)]) ps := by
  unfold fin
  rw [List.all_cons, h, Bool.true_and, List.length_cons, List.length_append, List.map_cons, atoiV_val x h]
  simp only [List.length_cons, List.length_nil, List.append_assoc, List.singleton_append]
  rw [show vs.length + (0 + 1) + ps.length = vs.length + (ps.length + 1) by omega]
def consH (c : List UInt8) : List (List UInt8) → List (List UInt8)
  | [] => [c]
  | h :: r => (c ++ h) :: r
def restP (t : List UInt8) (a i : Nat) : List (List UInt8) := if i ≤ t.length then consH ((t.drop a).take (i - a)) (splitB 46 (t.drop i)) else []
theorem restP_go {t : List UInt8} {a i : Nat} (h : i < t.length) (ha : a ≤ i) (hb : t[i] ≠ 46) : restP t a (i + 1) = restP t a i := by
  unfold restP
  rw [if_pos (by omega), if_pos (by omega), List.drop_eq_getElem_cons h]
  have e1 : (t.drop a).take (i + 1 - a) = (t.drop a).take (i - a) ++ [t[i]] := by
    rw [show i + 1 - a = (i - a) + 1 by omega, List.take_succ_eq_append_getElem (by rw [List.length_drop]; omega)]
    congr 2
    rw [List.getElem_drop]
    congr 1
    omega
  rw [e1]
  conv => rhs; unfold splitB
  rw [if_neg hb]
  cases e : splitB 46 (t.drop (i + 1)) with
  | nil => exact absurd e (splitB_ne 46 _)
  | cons x r => simp [consH]
theorem restP_dot {t : List UInt8} {a i : Nat} (h : i < t.length) (hb : t[i] = 46) : restP t a i = (t.drop a).take (i - a) :: restP t (i + 1) (i + 1) := by
  unfold restP
  rw [if_pos (by omega), if_pos (by omega), List.drop_eq_getElem_cons h]
  conv => lhs; unfold splitB
  rw [if_pos hb]
  cases e : splitB 46 (t.drop (i + 1)) with
  | nil => exact absurd e (splitB_ne 46 _)
  | cons x r => simp [consH, e]
theorem restP_end {t : List UInt8} {a : Nat} : restP t a t.length = (t.drop a).take (t.length - a) :: restP t (t.length + 1) (t.length + 1) := by
  unfold restP
  rw [if_pos (by omega), if_neg (by omega), List.drop_length]
  simp [splitB, consH]
theorem restP_start (t : List UInt8) : restP t 0 0 = splitB 46 t := by
  unfold restP
  rw [if_pos (by omega)]
  cases e : splitB 46 (t.drop 0) with
  | nil => exact absurd e (splitB_ne 46 _)
  | cons x r => rw [List.drop_zero] at e; simp [consH, e]
theorem val_snoc (l : List UInt8) (b : UInt8) : val 0 (l ++ [b]) = val 0 l * 10 + (b.toNat - 48) := by simp [val]
theorem info3b : (Tryd.prog.info? 3).map (fun i => (i.zero, i.size, i.bytes)) = some (some (.int .i64 0), 1, 8) := by kernel_rfl
set_option maxRecDepth 100000 in
set_option maxHeartbeats 4000000 in
theorem rread_range (t : List UInt8) (ht : t.length ≤ 1000) (hne : t ≠ [46]) (w : World) : Calls Tryd.prog 9 #[.string ⟨t.toArray⟩] w fun e w' =>
    ∃ u, e = .returned (.tuple #[u, .int .i64 (fin [] (splitB 46 t)).2]) ∧ (Kd.int .i64).R 3 w' w.heap.size (fun _ => True) u (fin [] (splitB 46 t)).1 ∧ Below w.heap.size w w' := by
  have hbe : (t == [46]) = false := by simp [hne]
  obtain ⟨n, hn⟩ : ∃ n, n = t.length := ⟨_, rfl⟩
  have HN := Lib.hid hn
  have hn1 : n ≤ 1000 := by omega
  clear hn ht
  have hsz : (⟨t.toArray⟩ : ByteArray).size = n := by rw [HN.out]; simp [ByteArray.size]
  obtain ⟨T, hT⟩ : ∃ T : ByteArray, T = ⟨t.toArray⟩ := ⟨_, rfl⟩
  have HT := Lib.hid hT
  have hteq : (T.toList == [46]) = false := by rw [hT]; simp [hne]
  rw [← hT] at hsz ⊢
  clear hT
  go_enter Tryd.func9, Tryd.ntmps9
  go_wp2_with fail
  go_loopg [4, 5, 6] (n + 1) (fun k v4 v5 v6 W => ∃ (i a : Nat) (vs : List Int), v5 = .int .i64 a ∧ v6 = .int .i64 i ∧ Hid (i + k = n + 1) ∧ Hid (a ≤ i) ∧ Hid (vs.length ≤ i) ∧ Hid ((Kd.int .i64).R 3 W w.heap.size (fun _ => True) v4 vs) ∧ Hid (Below w.heap.size w W) ∧ Hid (fin vs (restP t a i) = fin [] (splitB 46 t)))
  case atStart => exact ⟨0, 0, [], rfl, rfl, by show _ = _; omega, Nat.le_refl _, Nat.le_refl _, Kd.R_nil _ _ _ _ _, Below.refl _ _, by show fin [] (restP t 0 0) = _; rw [restP_start]⟩
  case round =>
    obtain ⟨i, a, vs, rfl, rfl, hik, hai, hvi, hR, hB, hF⟩ := hrel
    have hz := hB.out.size
    by_cases hin : i ≤ n
    · have hin2 : decide ((i : Int) ≤ n) = true := decide_eq_true (by omega)
      have hin3 : (i : Int) ≤ n := by omega
      have hi0 : (0 : Int) ≤ i := by omega
      have hw1 : wrap64 ((i : Int) + 1) = ((i + 1 : Nat) : Int) := by rw [Core.wr (by omega) (by omega)]; rfl
      have hai2 : (a : Int) ≤ i := by have := hai.out; omega
      have ha0 : (0 : Int) ≤ a := by omega
      have hcase : (∃ h : i < t.length, i < n ∧ t[i] ≠ 46) ∨ ((i < n ∧ bt T i = 46) ∨ i = n) ∧ restP t a i = (t.drop a).take (i - a) :: restP t (i + 1) (i + 1) := by
        have hnn := HN.out
        by_cases hlt : i < n
        · have hit : i < t.length := by omega
          by_cases hb : t[i] = 46
          · refine .inr ⟨.inl ⟨hlt, ?_⟩, restP_dot hit hb⟩
            rw [HT.out]
            refine (bt_bx t i hit).trans ?_
            rw [hb]; rfl
          · exact .inl ⟨hit, hlt, hb⟩
        · have : i = n := by omega
          exact .inr ⟨.inr this, by rw [this, hnn]; exact restP_end⟩
      rcases hcase with ⟨hit, hlt, hb⟩ | ⟨hcase, hrest⟩
      · have hlt2 : (i : Int) < n := by omega
        have hlt3 : decide ((i : Int) < n) = true := decide_eq_true hlt2
        have hiT : i < T.size := by rw [hsz]; exact hlt
        obtain ⟨x, hx⟩ : ∃ x : Int, ((T[i]'hiT).toNat : Int) = x := ⟨_, rfl⟩
        have hxt : x = ((t[i]'hit).toNat : Int) := by
          rw [← hx]
          refine (bt_at T (i : Int) hiT).trans ?_
          rw [HT.out]
          exact bt_bx t i hit
        have hbt : (x == 46) = false := by
          rw [hxt, beq_eq_false_iff_ne]
          intro h
          exact hb (UInt8.toNat_inj.1 (by show _ = 46; omega))
        have hbt2 : (x != 46) = true := by unfold bne; rw [hbt]; rfl
        have HGO := Lib.hid (restP_go hit hai.out hb)
        clear hb hit hxt
        go_wp2_with fail
        go_roundg (n + 1 - (i + 1))
        case measure => have := hik.out; omega
        case rel => exact ⟨i + 1, a, vs, rfl, by go_num, by show _ = _; omega, Nat.le_succ_of_le hai.out, Nat.le_succ_of_le hvi.out, hR.out, hB.out, by show _ = _; rw [HGO.out]; exact hF.out⟩
      · obtain ⟨cur, hcur⟩ : ∃ cur, cur = (t.drop a).take (i - a) := ⟨_, rfl⟩
        rw [← hcur] at hrest
        obtain ⟨P, hP⟩ : ∃ P, T.extract a i = P := ⟨_, rfl⟩
        have hPc : P = bx cur := by rw [← hP, HT.out, hcur]; exact ext_bx t a i (by have := HN.out; omega)
        obtain ⟨m, hm⟩ : ∃ m, m = cur.length := ⟨_, rfl⟩
        have hPs : P.size = m := by rw [hPc, bx_size, hm]
        have HPC := Lib.hid hPc
        have HM := Lib.hid hm
        have hFc := hF.out
        rw [hrest] at hFc
        have HFC := Lib.hid hFc
        have HBAD : Hid (plainB 6 cur = false → fin [] (splitB 46 t) = ([], 4)) := fun h => by rw [← HFC.out]; exact fin_bad h
        have hmi : m ≤ n := by rw [hm, hcur, List.length_take, List.length_drop]; have := HN.out; omega
        clear hFc hF hrest hPc hm hcur
        have hge : i < n → ∃ h : i < T.size, True := fun h => ⟨by rw [hsz]; exact h, trivial⟩
        have hT46 : (∃ (hlt : i < n) (h : i < T.size), ((T[i]'h).toNat : Int) = 46) ∨ i = n := by
          rcases hcase with ⟨h1, h2⟩ | h
          · exact .inl ⟨h1, by rw [hsz]; exact h1, (bt_at T (i : Int) (by rw [hsz]; exact h1)).trans h2⟩
          · exact .inr h
        clear hcase hge
        have HCOME : Hid (∀ k, k + i = n + 1 → True) := fun _ _ => trivial
        by_cases hm0 : m = 0
        · have HFIN := Lib.hid (HBAD.out (by
            have : cur = [] := List.eq_nil_of_length_eq_zero (by have := HM.out; omega)
            rw [this]; rfl))
          have hm1 : ((m : Int) == 0) = true := by rw [beq_iff_eq]; omega
          clear hm0
          rcases hT46 with ⟨hlt, hiT, hx⟩ | hin
          · have hlt2 : (i : Int) < n := by omega
            have hlt3 : decide ((i : Int) < n) = true := decide_eq_true hlt2
            clear hlt
            go_wp2_with fail
            go_ret2
            rw [HFIN.out]
            exact ⟨_, rfl, Kd.R_nil _ _ _ _ _, hB.out⟩
          · have hlt2 : ¬ (i : Int) < n := by omega
            have hlt3 : decide ((i : Int) < n) = false := decide_eq_false hlt2
            clear hin
            go_wp2_with fail
            go_ret2
            rw [HFIN.out]
            exact ⟨_, rfl, Kd.R_nil _ _ _ _ _, hB.out⟩
        · have hm1 : ((m : Int) == 0) = false := by rw [beq_eq_false_iff_ne]; omega
          by_cases hm6 : 6 < m
          · have HFIN := Lib.hid (HBAD.out (by
              cases e : plainB 6 cur
              · rfl
              · have := ((plainB_iff cur).1 e).2.1
                have := HM.out
                omega))
            have hm7 : decide ((m : Int) > 6) = true := decide_eq_true (by omega)
            have hm8 : 6 < (m : Int) := by omega
            clear hm6 hm0
            rcases hT46 with ⟨hlt, hiT, hx⟩ | hin
            · have hlt2 : (i : Int) < n := by omega
              have hlt3 : decide ((i : Int) < n) = true := decide_eq_true hlt2
              clear hlt
              go_wp2_with fail
              go_ret2
              rw [HFIN.out]
              exact ⟨_, rfl, Kd.R_nil _ _ _ _ _, hB.out⟩
            · have hlt2 : ¬ (i : Int) < n := by omega
              have hlt3 : decide ((i : Int) < n) = false := decide_eq_false hlt2
              clear hin
              go_wp2_with fail
              go_ret2
              rw [HFIN.out]
              exact ⟨_, rfl, Kd.R_nil _ _ _ _ _, hB.out⟩
          · have hm7 : decide ((m : Int) > 6) = false := decide_eq_false (by omega)
            have hm8 : ¬ 6 < (m : Int) := by omega
            have hmp : 0 < m := by omega
            have hmp2 : (0 : Int) < m := by omega
            have hP0 : 0 < P.size := by rw [hPs]; exact hmp
            obtain ⟨y, hy⟩ : ∃ y : Int, ((P[0]'hP0).toNat : Int) = y := ⟨_, rfl⟩
            have HY0 : Hid (∀ h : 0 < cur.length, y = ((cur[0]'h).toNat : Int)) := fun h => by
              rw [← hy]
              refine (bt_at P (0 : Int) hP0).trans ?_
              rw [HPC.out]
              exact bt_bx cur 0 h
            by_cases hz1 : y = 48 ∧ 1 < m
            · have HFIN := Lib.hid (HBAD.out (by
                cases e : plainB 6 cur
                · rfl
                · exfalso
                  have hmm := HM.out
                  rcases ((plainB_iff cur).1 e).2.2.2 with h | h
                  · rw [h] at hmm
                    simp at hmm
                    omega
                  · have h0 : 0 < cur.length := by omega
                    have := HY0.out h0
                    refine h ?_
                    rw [List.head?_eq_getElem?, List.getElem?_eq_getElem h0]
                    congr 1
                    exact UInt8.toNat_inj.1 (by show _ = 48; omega)))
              have hy48 : (y == 48) = true := by rw [beq_iff_eq]; exact hz1.1
              have hm9 : decide ((m : Int) > 1) = true := decide_eq_true (by omega)
              have hm10 : 1 < (m : Int) := by omega
              clear hz1 hmp hm6 hm0
              rcases hT46 with ⟨hlt, hiT, hx⟩ | hin
              · have hlt2 : (i : Int) < n := by omega
                have hlt3 : decide ((i : Int) < n) = true := decide_eq_true hlt2
                clear hlt
                go_wp2_with fail
                go_ret2
                rw [HFIN.out]
                exact ⟨_, rfl, Kd.R_nil _ _ _ _ _, hB.out⟩
              · have hlt2 : ¬ (i : Int) < n := by omega
                have hlt3 : decide ((i : Int) < n) = false := decide_eq_false hlt2
                clear hin
                go_wp2_with fail
                go_ret2
                rw [HFIN.out]
                exact ⟨_, rfl, Kd.R_nil _ _ _ _ _, hB.out⟩
            · have hh : ((y == 48) && decide ((m : Int) > 1)) = false := by
                cases e : (y == 48)
                · rfl
                · rw [beq_iff_eq] at e
                  have : ¬ 1 < m := fun h => hz1 ⟨e, h⟩
                  rw [decide_eq_false (by omega)]
                  rfl
              have HHEAD : Hid (cur.all isDig = true → plainB 6 cur = true) := fun h => by
                have hmm := HM.out
                refine (plainB_iff cur).2 ⟨fun e => by rw [e] at hmm; simp at hmm; omega, by omega, h, ?_⟩
                have h0 : 0 < cur.length := by omega
                have hyy := HY0.out h0
                by_cases h48 : cur[0] = 48
                · have : ¬ 1 < m := fun h1 => hz1 ⟨by rw [hyy, h48]; rfl, h1⟩
                  left
                  have hl : cur.length = 1 := by omega
                  obtain ⟨b, hb1⟩ := List.length_eq_one_iff.1 hl
                  have : cur[0] = b := by simp [hb1]
                  rw [hb1, ← this, h48]
                · right
                  rw [List.head?_eq_getElem?, List.getElem?_eq_getElem h0]
                  intro e
                  injection e with e
                  exact h48 e
              have hm6b : m ≤ 6 := by omega
              have hw1b := hw1
              clear hz1 hm6 hm0
              rcases hyc : (y == 48) with _ | _
              · clear hh
                rcases hT46 with ⟨hlt, hiT, hx⟩ | hin
                · have hlt2 : (i : Int) < n := by omega
                  have hlt3 : decide ((i : Int) < n) = true := decide_eq_true hlt2
                  clear hlt
                  go_wp2_with fail
                  (try clear hx)
                  (try clear hiT)
                  clear hy hP0 hP hsz
                  go_loopg [8, 9] m (fun k v8 v9 W => ∃ p acc : Nat, v8 = .int .i64 acc ∧ v9 = .int .i64 p ∧ Hid (p + k = m) ∧ Hid (acc < 10 ^ p) ∧ Hid (val 0 cur = val acc (cur.drop p)) ∧ Hid ((cur.take p).all isDig = true) ∧ Hid ((Kd.int .i64).R 3 W w.heap.size (fun _ => True) u4 vs) ∧ Hid (Below w.heap.size w W))
                  case atStart => exact ⟨0, 0, rfl, rfl, by show _ = _; omega, by show _ < _; simp, rfl, rfl, hR.out, hB.out⟩
                  case round =>
                    obtain ⟨p, acc, rfl, rfl, hpk, hac, hval, hall, hR2, hB2⟩ := hrel
                    by_cases hpm : p < m
                    · have hpm2 : (p : Int) < m := by omega
                      have hpm3 : decide ((p : Int) < m) = true := decide_eq_true hpm2
                      have hw2 : wrap64 ((p : Int) + 1) = ((p + 1 : Nat) : Int) := by rw [Core.wr (by omega) (by omega)]; rfl
                      have hpP : p < P.size := Nat.lt_of_lt_of_eq hpm hPs.symm
                      have hpc : p < cur.length := Nat.lt_of_lt_of_eq hpm HM.out
                      obtain ⟨z, hz2⟩ : ∃ z : Int, ((P[p]'hpP).toNat : Int) = z := ⟨_, rfl⟩
                      have hzz : z = ((cur[p]'hpc).toNat : Int) := by
                        rw [← hz2]
                        refine (bt_at P (p : Int) hpP).trans ?_
                        rw [HPC.out]
                        exact bt_bx cur p hpc
                      by_cases hd : isDig (cur[p]'hpc) = true
                      · have hdd := hd
                        unfold isDig at hdd
                        rw [Bool.and_eq_true, decide_eq_true_eq, decide_eq_true_eq] at hdd
                        have hz3 : ¬ z < 48 := by omega
                        have hz4 : ¬ 57 < z := by omega
                        have hz5 : decide (z < 48) = false := decide_eq_false hz3
                        have hz6 : decide (z > 57) = false := decide_eq_false hz4
                        have hpow : 10 ^ p ≤ 10 ^ 5 := Nat.pow_le_pow_right (by omega) (by omega)
                        have ha2 : acc < 100000 := Nat.lt_of_lt_of_le hac.out (by simpa using hpow)
                        have e1 : wrap64 (10 * (acc : Int)) = 10 * (acc : Int) := Core.wr (by omega) (by omega)
                        have e2 : (z - 48) % 256 = z - 48 := by omega
                        have e3 : wrap64 (10 * (acc : Int) + (z - 48)) = ((acc * 10 + ((cur[p]'hpc).toNat - 48) : Nat) : Int) := by rw [Core.wr (by omega) (by omega)]; omega
                        have HACC : Hid (acc * 10 + ((cur[p]'hpc).toNat - 48) < 10 ^ (p + 1)) := by have := hac.out; show _ < _; rw [Nat.pow_succ]; omega
                        have HVAL : Hid (val 0 cur = val (acc * 10 + ((cur[p]'hpc).toNat - 48)) (cur.drop (p + 1))) := by
                          show _ = _
                          rw [hval.out, List.drop_eq_getElem_cons hpc]
                          rfl
                        have HALL : Hid ((cur.take (p + 1)).all isDig = true) := by
                          show _ = _
                          rw [List.take_succ_eq_append_getElem hpc, List.all_append, hall.out, Bool.true_and]
                          simp [hd]
                        generalize (acc * 10 + ((cur[p]'hpc).toNat - 48)) = acc2 at e3 HACC HVAL
                        clear hd hdd hzz hpow ha2
                        go_wp2_with fail
                        go_roundg (m - (p + 1))
                        case measure => have := hpk.out; omega
                        case rel => exact ⟨p + 1, acc2, by go_num, by go_num, by show _ = _; omega, HACC.out, HVAL.out, HALL.out, hR2.out, hB2.out⟩
                      · have HFIN := Lib.hid (HBAD.out (by
                          cases e : plainB 6 cur
                          · rfl
                          · exact absurd (List.all_eq_true.1 ((plainB_iff cur).1 e).2.2.1 _ (List.getElem_mem hpc)) hd))
                        have hdd : z < 48 ∨ 57 < z := by
                          unfold isDig at hd
                          rw [Bool.and_eq_true, decide_eq_true_eq, decide_eq_true_eq] at hd
                          omega
                        clear hd hzz
                        rcases hdd with hz3 | hz4
                        · have hz5 : decide (z < 48) = true := decide_eq_true hz3
                          go_wp2_with fail
                          go_ret2
                          rw [HFIN.out]
                          exact ⟨_, rfl, Kd.R_nil _ _ _ _ _, hB2.out⟩
                        · have hz3 : ¬ z < 48 := by omega
                          have hz5 : decide (z < 48) = false := decide_eq_false hz3
                          have hz6 : decide (z > 57) = true := decide_eq_true hz4
                          go_wp2_with fail
                          go_ret2
                          rw [HFIN.out]
                          exact ⟨_, rfl, Kd.R_nil _ _ _ _ _, hB2.out⟩
                    · have hpm2 : ¬ (p : Int) < m := by omega
                      have hpm3 : decide ((p : Int) < m) = false := decide_eq_false hpm2
                      have hpe : p = cur.length := by have := HM.out; have := hpk.out; omega
                      have HPL : Hid (plainB 6 cur = true) := HHEAD.out (by have h := hall.out; rwa [hpe, List.take_length] at h)
                      have hva : val 0 cur = acc := by rw [hval.out, hpe, List.drop_length]; rfl
                      have HF2 : Hid (fin (vs ++ [(acc : Int)]) (restP t (i + 1) (i + 1)) = fin [] (splitB 46 t)) := by
                        show _ = _
                        rw [← HFC.out, fin_good HPL.out, hva]
                      have hz4 := hB2.out.size
                      have HZ4 := Lib.hid hz4
                      have hvl : vs.length ≤ 1000 := by have := hvi.out; omega
                      clear hpe hva hz4
                      go_wp2_with ((with_reducible refine gate_builtin (b := .append) (xs := #[.tmp 76, .tmp 78]) rfl ?_); at_builtin; refine Kd.R_append (Kd.int .i64) (w0 := w) w.heap.size rfl (.tmp 76) (.tmp 78) 22 3 (.int .i64 0) 8 rfl Tryd.underlying22 info3b rfl (by decide) (by omega) u4 vs (acc : Int) [.int .i64 (acc : Int)] (fun _ => True) (fun _ => False) rfl rfl ?aP (fun _ hk => hk.elim) (fun _ _ => trivial) ?aO ?aB ?aS ?aL ?_; (case aP => exact rfl); (case aO => exact hR2.out); (case aB => exact hB2.out); (case aS => exact HZ4.out); (case aL => omega); intro v6 w6 hr6 hb6 hg6 _; have HR6 := Lib.hid hr6; have HB6 := Lib.hid hb6; clear hr6 hb6 hg6)
                      go_roundg (n + 1 - (i + 1))
                      case measure => have := hik.out; omega
                      case rel => exact ⟨i + 1, i + 1, vs ++ [(acc : Int)], by go_num, by go_num, by show _ = _; omega, Nat.le_refl _, by show _ ≤ _; rw [List.length_append]; have := hvi.out; simp; omega, HR6.out, HB6.out, HF2.out⟩
                · have hlt2 : ¬ (i : Int) < n := by omega
                  have hlt3 : decide ((i : Int) < n) = false := decide_eq_false hlt2
                  clear hin
                  go_wp2_with fail
                  (try clear hx)
                  (try clear hiT)
                  clear hy hP0 hP hsz
                  go_loopg [8, 9] m (fun k v8 v9 W => ∃ p acc : Nat, v8 = .int .i64 acc ∧ v9 = .int .i64 p ∧ Hid (p + k = m) ∧ Hid (acc < 10 ^ p) ∧ Hid (val 0 cur = val acc (cur.drop p)) ∧ Hid ((cur.take p).all isDig = true) ∧ Hid ((Kd.int .i64).R 3 W w.heap.size (fun _ => True) u4 vs) ∧ Hid (Below w.heap.size w W))
                  case atStart => exact ⟨0, 0, rfl, rfl, by show _ = _; omega, by show _ < _; simp, rfl, rfl, hR.out, hB.out⟩
                  case round =>
                    obtain ⟨p, acc, rfl, rfl, hpk, hac, hval, hall, hR2, hB2⟩ := hrel
                    by_cases hpm : p < m
                    · have hpm2 : (p : Int) < m := by omega
                      have hpm3 : decide ((p : Int) < m) = true := decide_eq_true hpm2
                      have hw2 : wrap64 ((p : Int) + 1) = ((p + 1 : Nat) : Int) := by rw [Core.wr (by omega) (by omega)]; rfl
                      have hpP : p < P.size := Nat.lt_of_lt_of_eq hpm hPs.symm
                      have hpc : p < cur.length := Nat.lt_of_lt_of_eq hpm HM.out
                      obtain ⟨z, hz2⟩ : ∃ z : Int, ((P[p]'hpP).toNat : Int) = z := ⟨_, rfl⟩
                      have hzz : z = ((cur[p]'hpc).toNat : Int) := by
                        rw [← hz2]
                        refine (bt_at P (p : Int) hpP).trans ?_
                        rw [HPC.out]
                        exact bt_bx cur p hpc
                      by_cases hd : isDig (cur[p]'hpc) = true
                      · have hdd := hd
                        unfold isDig at hdd
                        rw [Bool.and_eq_true, decide_eq_true_eq, decide_eq_true_eq] at hdd
                        have hz3 : ¬ z < 48 := by omega
                        have hz4 : ¬ 57 < z := by omega
                        have hz5 : decide (z < 48) = false := decide_eq_false hz3
                        have hz6 : decide (z > 57) = false := decide_eq_false hz4
                        have hpow : 10 ^ p ≤ 10 ^ 5 := Nat.pow_le_pow_right (by omega) (by omega)
                        have ha2 : acc < 100000 := Nat.lt_of_lt_of_le hac.out (by simpa using hpow)
                        have e1 : wrap64 (10 * (acc : Int)) = 10 * (acc : Int) := Core.wr (by omega) (by omega)
                        have e2 : (z - 48) % 256 = z - 48 := by omega
                        have e3 : wrap64 (10 * (acc : Int) + (z - 48)) = ((acc * 10 + ((cur[p]'hpc).toNat - 48) : Nat) : Int) := by rw [Core.wr (by omega) (by omega)]; omega
                        have HACC : Hid (acc * 10 + ((cur[p]'hpc).toNat - 48) < 10 ^ (p + 1)) := by have := hac.out; show _ < _; rw [Nat.pow_succ]; omega
                        have HVAL : Hid (val 0 cur = val (acc * 10 + ((cur[p]'hpc).toNat - 48)) (cur.drop (p + 1))) := by
                          show _ = _
                          rw [hval.out, List.drop_eq_getElem_cons hpc]
                          rfl
                        have HALL : Hid ((cur.take (p + 1)).all isDig = true) := by
                          show _ = _
                          rw [List.take_succ_eq_append_getElem hpc, List.all_append, hall.out, Bool.true_and]
                          simp [hd]
                        generalize (acc * 10 + ((cur[p]'hpc).toNat - 48)) = acc2 at e3 HACC HVAL
                        clear hd hdd hzz hpow ha2
                        go_wp2_with fail
                        go_roundg (m - (p + 1))
                        case measure => have := hpk.out; omega
                        case rel => exact ⟨p + 1, acc2, by go_num, by go_num, by show _ = _; omega, HACC.out, HVAL.out, HALL.out, hR2.out, hB2.out⟩
                      · have HFIN := Lib.hid (HBAD.out (by
                          cases e : plainB 6 cur
                          · rfl
                          · exact absurd (List.all_eq_true.1 ((plainB_iff cur).1 e).2.2.1 _ (List.getElem_mem hpc)) hd))
                        have hdd : z < 48 ∨ 57 < z := by
                          unfold isDig at hd
                          rw [Bool.and_eq_true, decide_eq_true_eq, decide_eq_true_eq] at hd
                          omega
                        clear hd hzz
                        rcases hdd with hz3 | hz4
                        · have hz5 : decide (z < 48) = true := decide_eq_true hz3
                          go_wp2_with fail
                          go_ret2
                          rw [HFIN.out]
                          exact ⟨_, rfl, Kd.R_nil _ _ _ _ _, hB2.out⟩
                        · have hz3 : ¬ z < 48 := by omega
                          have hz5 : decide (z < 48) = false := decide_eq_false hz3
                          have hz6 : decide (z > 57) = true := decide_eq_true hz4
                          go_wp2_with fail
                          go_ret2
                          rw [HFIN.out]
                          exact ⟨_, rfl, Kd.R_nil _ _ _ _ _, hB2.out⟩
                    · have hpm2 : ¬ (p : Int) < m := by omega
                      have hpm3 : decide ((p : Int) < m) = false := decide_eq_false hpm2
                      have hpe : p = cur.length := by have := HM.out; have := hpk.out; omega
                      have HPL : Hid (plainB 6 cur = true) := HHEAD.out (by have h := hall.out; rwa [hpe, List.take_length] at h)
                      have hva : val 0 cur = acc := by rw [hval.out, hpe, List.drop_length]; rfl
                      have HF2 : Hid (fin (vs ++ [(acc : Int)]) (restP t (i + 1) (i + 1)) = fin [] (splitB 46 t)) := by
                        show _ = _
                        rw [← HFC.out, fin_good HPL.out, hva]
                      have hz4 := hB2.out.size
                      have HZ4 := Lib.hid hz4
                      have hvl : vs.length ≤ 1000 := by have := hvi.out; omega
                      clear hpe hva hz4
                      go_wp2_with ((with_reducible refine gate_builtin (b := .append) (xs := #[.tmp 76, .tmp 78]) rfl ?_); at_builtin; refine Kd.R_append (Kd.int .i64) (w0 := w) w.heap.size rfl (.tmp 76) (.tmp 78) 22 3 (.int .i64 0) 8 rfl Tryd.underlying22 info3b rfl (by decide) (by omega) u4 vs (acc : Int) [.int .i64 (acc : Int)] (fun _ => True) (fun _ => False) rfl rfl ?aP (fun _ hk => hk.elim) (fun _ _ => trivial) ?aO ?aB ?aS ?aL ?_; (case aP => exact rfl); (case aO => exact hR2.out); (case aB => exact hB2.out); (case aS => exact HZ4.out); (case aL => omega); intro v6 w6 hr6 hb6 hg6 _; have HR6 := Lib.hid hr6; have HB6 := Lib.hid hb6; clear hr6 hb6 hg6)
                      go_roundg (n + 1 - (i + 1))
                      case measure => have := hik.out; omega
                      case rel => exact ⟨i + 1, i + 1, vs ++ [(acc : Int)], by go_num, by go_num, by show _ = _; omega, Nat.le_refl _, by show _ ≤ _; rw [List.length_append]; have := hvi.out; simp; omega, HR6.out, HB6.out, HF2.out⟩
              · have hm9 : decide ((m : Int) > 1) = false := by rw [hyc] at hh; simpa using hh
                have hm10 : ¬ 1 < (m : Int) := of_decide_eq_false hm9
                clear hh
                rcases hT46 with ⟨hlt, hiT, hx⟩ | hin
                · have hlt2 : (i : Int) < n := by omega
                  have hlt3 : decide ((i : Int) < n) = true := decide_eq_true hlt2
                  clear hlt
                  go_wp2_with fail
                  (try clear hx)
                  (try clear hiT)
                  clear hy hP0 hP hsz
                  go_loopg [8, 9] m (fun k v8 v9 W => ∃ p acc : Nat, v8 = .int .i64 acc ∧ v9 = .int .i64 p ∧ Hid (p + k = m) ∧ Hid (acc < 10 ^ p) ∧ Hid (val 0 cur = val acc (cur.drop p)) ∧ Hid ((cur.take p).all isDig = true) ∧ Hid ((Kd.int .i64).R 3 W w.heap.size (fun _ => True) u4 vs) ∧ Hid (Below w.heap.size w W))
                  case atStart => exact ⟨0, 0, rfl, rfl, by show _ = _; omega, by show _ < _; simp, rfl, rfl, hR.out, hB.out⟩
                  case round =>
                    obtain ⟨p, acc, rfl, rfl, hpk, hac, hval, hall, hR2, hB2⟩ := hrel
                    by_cases hpm : p < m
                    · have hpm2 : (p : Int) < m := by omega
                      have hpm3 : decide ((p : Int) < m) = true := decide_eq_true hpm2
                      have hw2 : wrap64 ((p : Int) + 1) = ((p + 1 : Nat) : Int) := by rw [Core.wr (by omega) (by omega)]; rfl
                      have hpP : p < P.size := Nat.lt_of_lt_of_eq hpm hPs.symm
                      have hpc : p < cur.length := Nat.lt_of_lt_of_eq hpm HM.out
                      obtain ⟨z, hz2⟩ : ∃ z : Int, ((P[p]'hpP).toNat : Int) = z := ⟨_, rfl⟩
                      have hzz : z = ((cur[p]'hpc).toNat : Int) := by
                        rw [← hz2]
                        refine (bt_at P (p : Int) hpP).trans ?_
                        rw [HPC.out]
                        exact bt_bx cur p hpc
                      by_cases hd : isDig (cur[p]'hpc) = true
                      · have hdd := hd
                        unfold isDig at hdd
                        rw [Bool.and_eq_true, decide_eq_true_eq, decide_eq_true_eq] at hdd
                        have hz3 : ¬ z < 48 := by omega
                        have hz4 : ¬ 57 < z := by omega
                        have hz5 : decide (z < 48) = false := decide_eq_false hz3
                        have hz6 : decide (z > 57) = false := decide_eq_false hz4
                        have hpow : 10 ^ p ≤ 10 ^ 5 := Nat.pow_le_pow_right (by omega) (by omega)
                        have ha2 : acc < 100000 := Nat.lt_of_lt_of_le hac.out (by simpa using hpow)
                        have e1 : wrap64 (10 * (acc : Int)) = 10 * (acc : Int) := Core.wr (by omega) (by omega)
                        have e2 : (z - 48) % 256 = z - 48 := by omega
                        have e3 : wrap64 (10 * (acc : Int) + (z - 48)) = ((acc * 10 + ((cur[p]'hpc).toNat - 48) : Nat) : Int) := by rw [Core.wr (by omega) (by omega)]; omega
                        have HACC : Hid (acc * 10 + ((cur[p]'hpc).toNat - 48) < 10 ^ (p + 1)) := by have := hac.out; show _ < _; rw [Nat.pow_succ]; omega
                        have HVAL : Hid (val 0 cur = val (acc * 10 + ((cur[p]'hpc).toNat - 48)) (cur.drop (p + 1))) := by
                          show _ = _
                          rw [hval.out, List.drop_eq_getElem_cons hpc]
                          rfl
                        have HALL : Hid ((cur.take (p + 1)).all isDig = true) := by
                          show _ = _
                          rw [List.take_succ_eq_append_getElem hpc, List.all_append, hall.out, Bool.true_and]
                          simp [hd]
                        generalize (acc * 10 + ((cur[p]'hpc).toNat - 48)) = acc2 at e3 HACC HVAL
                        clear hd hdd hzz hpow ha2
                        go_wp2_with fail
                        go_roundg (m - (p + 1))
                        case measure => have := hpk.out; omega
                        case rel => exact ⟨p + 1, acc2, by go_num, by go_num, by show _ = _; omega, HACC.out, HVAL.out, HALL.out, hR2.out, hB2.out⟩
                      · have HFIN := Lib.hid (HBAD.out (by
                          cases e : plainB 6 cur
                          · rfl
                          · exact absurd (List.all_eq_true.1 ((plainB_iff cur).1 e).2.2.1 _ (List.getElem_mem hpc)) hd))
                        have hdd : z < 48 ∨ 57 < z := by
                          unfold isDig at hd
                          rw [Bool.and_eq_true, decide_eq_true_eq, decide_eq_true_eq] at hd
                          omega
                        clear hd hzz
                        rcases hdd with hz3 | hz4
                        · have hz5 : decide (z < 48) = true := decide_eq_true hz3
                          go_wp2_with fail
                          go_ret2
                          rw [HFIN.out]
                          exact ⟨_, rfl, Kd.R_nil _ _ _ _ _, hB2.out⟩
                        · have hz3 : ¬ z < 48 := by omega
                          have hz5 : decide (z < 48) = false := decide_eq_false hz3
                          have hz6 : decide (z > 57) = true := decide_eq_true hz4
                          go_wp2_with fail
                          go_ret2
                          rw [HFIN.out]
                          exact ⟨_, rfl, Kd.R_nil _ _ _ _ _, hB2.out⟩
                    · have hpm2 : ¬ (p : Int) < m := by omega
                      have hpm3 : decide ((p : Int) < m) = false := decide_eq_false hpm2
                      have hpe : p = cur.length := by have := HM.out; have := hpk.out; omega
                      have HPL : Hid (plainB 6 cur = true) := HHEAD.out (by have h := hall.out; rwa [hpe, List.take_length] at h)
                      have hva : val 0 cur = acc := by rw [hval.out, hpe, List.drop_length]; rfl
                      have HF2 : Hid (fin (vs ++ [(acc : Int)]) (restP t (i + 1) (i + 1)) = fin [] (splitB 46 t)) := by
                        show _ = _
                        rw [← HFC.out, fin_good HPL.out, hva]
                      have hz4 := hB2.out.size
                      have HZ4 := Lib.hid hz4
                      have hvl : vs.length ≤ 1000 := by have := hvi.out; omega
                      clear hpe hva hz4
                      go_wp2_with ((with_reducible refine gate_builtin (b := .append) (xs := #[.tmp 76, .tmp 78]) rfl ?_); at_builtin; refine Kd.R_append (Kd.int .i64) (w0 := w) w.heap.size rfl (.tmp 76) (.tmp 78) 22 3 (.int .i64 0) 8 rfl Tryd.underlying22 info3b rfl (by decide) (by omega) u4 vs (acc : Int) [.int .i64 (acc : Int)] (fun _ => True) (fun _ => False) rfl rfl ?aP (fun _ hk => hk.elim) (fun _ _ => trivial) ?aO ?aB ?aS ?aL ?_; (case aP => exact rfl); (case aO => exact hR2.out); (case aB => exact hB2.out); (case aS => exact HZ4.out); (case aL => omega); intro v6 w6 hr6 hb6 hg6 _; have HR6 := Lib.hid hr6; have HB6 := Lib.hid hb6; clear hr6 hb6 hg6)
                      go_roundg (n + 1 - (i + 1))
                      case measure => have := hik.out; omega
                      case rel => exact ⟨i + 1, i + 1, vs ++ [(acc : Int)], by go_num, by go_num, by show _ = _; omega, Nat.le_refl _, by show _ ≤ _; rw [List.length_append]; have := hvi.out; simp; omega, HR6.out, HB6.out, HF2.out⟩
                · have hlt2 : ¬ (i : Int) < n := by omega
                  have hlt3 : decide ((i : Int) < n) = false := decide_eq_false hlt2
                  clear hin
                  go_wp2_with fail
                  (try clear hx)
                  (try clear hiT)
                  clear hy hP0 hP hsz
                  go_loopg [8, 9] m (fun k v8 v9 W => ∃ p acc : Nat, v8 = .int .i64 acc ∧ v9 = .int .i64 p ∧ Hid (p + k = m) ∧ Hid (acc < 10 ^ p) ∧ Hid (val 0 cur = val acc (cur.drop p)) ∧ Hid ((cur.take p).all isDig = true) ∧ Hid ((Kd.int .i64).R 3 W w.heap.size (fun _ => True) u4 vs) ∧ Hid (Below w.heap.size w W))
                  case atStart => exact ⟨0, 0, rfl, rfl, by show _ = _; omega, by show _ < _; simp, rfl, rfl, hR.out, hB.out⟩
                  case round =>
                    obtain ⟨p, acc, rfl, rfl, hpk, hac, hval, hall, hR2, hB2⟩ := hrel
                    by_cases hpm : p < m
                    · have hpm2 : (p : Int) < m := by omega
                      have hpm3 : decide ((p : Int) < m) = true := decide_eq_true hpm2
                      have hw2 : wrap64 ((p : Int) + 1) = ((p + 1 : Nat) : Int) := by rw [Core.wr (by omega) (by omega)]; rfl
                      have hpP : p < P.size := Nat.lt_of_lt_of_eq hpm hPs.symm
                      have hpc : p < cur.length := Nat.lt_of_lt_of_eq hpm HM.out
                      obtain ⟨z, hz2⟩ : ∃ z : Int, ((P[p]'hpP).toNat : Int) = z := ⟨_, rfl⟩
                      have hzz : z = ((cur[p]'hpc).toNat : Int) := by
                        rw [← hz2]
                        refine (bt_at P (p : Int) hpP).trans ?_
                        rw [HPC.out]
                        exact bt_bx cur p hpc
                      by_cases hd : isDig (cur[p]'hpc) = true
                      · have hdd := hd
                        unfold isDig at hdd
                        rw [Bool.and_eq_true, decide_eq_true_eq, decide_eq_true_eq] at hdd
                        have hz3 : ¬ z < 48 := by omega
                        have hz4 : ¬ 57 < z := by omega
                        have hz5 : decide (z < 48) = false := decide_eq_false hz3
                        have hz6 : decide (z > 57) = false := decide_eq_false hz4
                        have hpow : 10 ^ p ≤ 10 ^ 5 := Nat.pow_le_pow_right (by omega) (by omega)
                        have ha2 : acc < 100000 := Nat.lt_of_lt_of_le hac.out (by simpa using hpow)
                        have e1 : wrap64 (10 * (acc : Int)) = 10 * (acc : Int) := Core.wr (by omega) (by omega)
                        have e2 : (z - 48) % 256 = z - 48 := by omega
                        have e3 : wrap64 (10 * (acc : Int) + (z - 48)) = ((acc * 10 + ((cur[p]'hpc).toNat - 48) : Nat) : Int) := by rw [Core.wr (by omega) (by omega)]; omega
                        have HACC : Hid (acc * 10 + ((cur[p]'hpc).toNat - 48) < 10 ^ (p + 1)) := by have := hac.out; show _ < _; rw [Nat.pow_succ]; omega
                        have HVAL : Hid (val 0 cur = val (acc * 10 + ((cur[p]'hpc).toNat - 48)) (cur.drop (p + 1))) := by
                          show _ = _
                          rw [hval.out, List.drop_eq_getElem_cons hpc]
                          rfl
                        have HALL : Hid ((cur.take (p + 1)).all isDig = true) := by
                          show _ = _
                          rw [List.take_succ_eq_append_getElem hpc, List.all_append, hall.out, Bool.true_and]
                          simp [hd]
                        generalize (acc * 10 + ((cur[p]'hpc).toNat - 48)) = acc2 at e3 HACC HVAL
                        clear hd hdd hzz hpow ha2
                        go_wp2_with fail
                        go_roundg (m - (p + 1))
                        case measure => have := hpk.out; omega
                        case rel => exact ⟨p + 1, acc2, by go_num, by go_num, by show _ = _; omega, HACC.out, HVAL.out, HALL.out, hR2.out, hB2.out⟩
                      · have HFIN := Lib.hid (HBAD.out (by
                          cases e : plainB 6 cur
                          · rfl
                          · exact absurd (List.all_eq_true.1 ((plainB_iff cur).1 e).2.2.1 _ (List.getElem_mem hpc)) hd))
                        have hdd : z < 48 ∨ 57 < z := by
                          unfold isDig at hd
                          rw [Bool.and_eq_true, decide_eq_true_eq, decide_eq_true_eq] at hd
                          omega
                        clear hd hzz
                        rcases hdd with hz3 | hz4
                        · have hz5 : decide (z < 48) = true := decide_eq_true hz3
                          go_wp2_with fail
                          go_ret2
                          rw [HFIN.out]
                          exact ⟨_, rfl, Kd.R_nil _ _ _ _ _, hB2.out⟩
                        · have hz3 : ¬ z < 48 := by omega
                          have hz5 : decide (z < 48) = false := decide_eq_false hz3
                          have hz6 : decide (z > 57) = true := decide_eq_true hz4
                          go_wp2_with fail
                          go_ret2
                          rw [HFIN.out]
                          exact ⟨_, rfl, Kd.R_nil _ _ _ _ _, hB2.out⟩
                    · have hpm2 : ¬ (p : Int) < m := by omega
                      have hpm3 : decide ((p : Int) < m) = false := decide_eq_false hpm2
                      have hpe : p = cur.length := by have := HM.out; have := hpk.out; omega
                      have HPL : Hid (plainB 6 cur = true) := HHEAD.out (by have h := hall.out; rwa [hpe, List.take_length] at h)
                      have hva : val 0 cur = acc := by rw [hval.out, hpe, List.drop_length]; rfl
                      have HF2 : Hid (fin (vs ++ [(acc : Int)]) (restP t (i + 1) (i + 1)) = fin [] (splitB 46 t)) := by
                        show _ = _
                        rw [← HFC.out, fin_good HPL.out, hva]
                      have hz4 := hB2.out.size
                      have HZ4 := Lib.hid hz4
                      have hvl : vs.length ≤ 1000 := by have := hvi.out; omega
                      clear hpe hva hz4
                      go_wp2_with ((with_reducible refine gate_builtin (b := .append) (xs := #[.tmp 76, .tmp 78]) rfl ?_); at_builtin; refine Kd.R_append (Kd.int .i64) (w0 := w) w.heap.size rfl (.tmp 76) (.tmp 78) 22 3 (.int .i64 0) 8 rfl Tryd.underlying22 info3b rfl (by decide) (by omega) u4 vs (acc : Int) [.int .i64 (acc : Int)] (fun _ => True) (fun _ => False) rfl rfl ?aP (fun _ hk => hk.elim) (fun _ _ => trivial) ?aO ?aB ?aS ?aL ?_; (case aP => exact rfl); (case aO => exact hR2.out); (case aB => exact hB2.out); (case aS => exact HZ4.out); (case aL => omega); intro v6 w6 hr6 hb6 hg6 _; have HR6 := Lib.hid hr6; have HB6 := Lib.hid hb6; clear hr6 hb6 hg6)
                      go_roundg (n + 1 - (i + 1))
                      case measure => have := hik.out; omega
                      case rel => exact ⟨i + 1, i + 1, vs ++ [(acc : Int)], by go_num, by go_num, by show _ = _; omega, Nat.le_refl _, by show _ ≤ _; rw [List.length_append]; have := hvi.out; simp; omega, HR6.out, HB6.out, HF2.out⟩
    · have hie : i = n + 1 := by have := hik.out; omega
      have hend : restP t a i = [] := by unfold restP; rw [if_neg (by have := HN.out; omega)]
      have hF3 := hF.out
      rw [hend] at hF3
      have HF3 := Lib.hid hF3
      have hin2 : decide ((i : Int) ≤ n) = false := decide_eq_false (by omega)
      have hin3 : ¬ (i : Int) ≤ n := by omega
      obtain ⟨A, c, hu, _⟩ := own_reads_of_le (d := (0 : Int)) (Kd.own_of_R hR.out)
      subst hu
      obtain ⟨q, hq⟩ : ∃ q, q = vs.length := ⟨_, rfl⟩
      have hR2 := hR.out
      rw [← hq] at hR2 ⊢
      have HR2 := Lib.hid hR2
      have HQ := Lib.hid hq
      clear hR hR2 hq hie hend hF hF3 hin hvi
      by_cases h30 : 30 < q
      · have HFIN : Hid (fin [] (splitB 46 t) = ([], 3)) := by
          show _ = _
          rw [← HF3.out]
          unfold fin
          rw [if_pos (by rfl), if_pos (by rw [← HQ.out]; simpa using h30)]
        have hq1 : decide ((q : Int) > 30) = true := decide_eq_true (by omega)
        have hq2 : 30 < (q : Int) := by omega
        go_wp2_with fail
        go_ret2
        rw [HFIN.out]
        exact ⟨_, rfl, Kd.R_nil _ _ _ _ _, hB.out⟩
      · have HFIN : Hid (fin [] (splitB 46 t) = (vs, 0)) := by
          show _ = _
          rw [← HF3.out]
          unfold fin
          rw [if_pos (by rfl), if_neg (by rw [← HQ.out]; simpa using h30)]
          simp
        have hq1 : decide ((q : Int) > 30) = false := decide_eq_false (by omega)
        have hq2 : ¬ 30 < (q : Int) := by omega
        go_wp2_with fail
        go_ret2
        rw [HFIN.out]
        exact ⟨_, rfl, HR2.out, hB.out⟩
end Go.Proofs.YtcchoeomeklgmaaDoor.Core
/-! What the functions of paths come to: one order of lists, and beginnings. -/
namespace Go.Proofs.YtcchoeomeklgmaaDoor.Core
open Go.RowKit Go.Proofs.YtcchoeomeklgmaaDoorW.PrintWords Go.Proofs.YtcchoeomeklgmaaDoorW.PrintMore Go.Proofs.YtcchoeomeklgmaaDoor.P1
set_option linter.unusedVariables false
set_option linter.unusedSimpArgs false
/-- Which list stands ahead. -/
def cmpL : List Int → List Int → Int
  | [], [] => 0
  | [], _ :: _ => -1
  | _ :: _, [] => 1
  | a :: x, b :: y => if a < b then -1 else if a > b then 1 else cmpL x y
/-- Is b a beginning of a? -/
def undL : List Int → List Int → Bool
  | _, [] => true
  | [], _ :: _ => false
  | a :: x, b :: y => if a = b then undL x y else false
theorem rd_at {l t : List Int} {p : Nat} {y : Int} (h : l.drop p = y :: t) : rd l (p : Int) = y ∧ p < l.length ∧ l.drop (p + 1) = t := by
  have hl : p < l.length := by
    have := congrArg List.length h
    simp only [List.length_drop, List.length_cons] at this
    omega
  refine ⟨?_, hl, ?_⟩
  · have := congrArg (fun l => l[0]?) h
    simp only [List.getElem?_drop, Nat.add_zero, List.getElem?_cons_zero] at this
    simp [rd, List.getD, this]
  · have := congrArg (List.drop 1) h
    rw [List.drop_drop] at this
    simpa using this
theorem nil_at {l : List Int} {p : Nat} (h : l.drop p = []) : l.length ≤ p := by
  have := congrArg List.length h
  simp only [List.length_drop, List.length_nil] at this
  omega
theorem cmp_f (a b : Int) : cmp_Compare_int.f a b = some (if a < b then -1 else if a > b then 1 else 0) := by
  simp only [cmp_Compare_int.f, cmp_isNaN_int.f, Option.bind_some]
  rw [if_neg (by simp), if_neg (by simp)]
  split
  · rfl
  · split <;> rfl
theorem compare_l (a b : List Int) (ha : a.length ≤ 1000000) (hb : b.length ≤ 1000000) (d : Nat) : ∀ (k p : Nat), a.length - p = d → p ≤ a.length → p ≤ b.length → d < k →
    slices_Compare_int_int.l0 k a b a a.length p = some (cmpL (a.drop p) (b.drop p)) := by
  induction d with
  | zero =>
    intro k p hd hp hpb hk
    obtain ⟨k, rfl⟩ : ∃ m, k = m + 1 := ⟨k - 1, by omega⟩
    obtain rfl : p = a.length := by omega
    rw [slices_Compare_int_int.l0.eq_2, if_neg (by omega), List.drop_length]
    cases hb2 : b.drop a.length with
    | nil => have := nil_at hb2; rw [if_neg (by omega)]; rfl
    | cons y t => obtain ⟨_, h, _⟩ := rd_at hb2; rw [if_pos (by omega)]; rfl
  | succ d ih =>
    intro k p hd hp hpb hk
    obtain ⟨k, rfl⟩ : ∃ m, k = m + 1 := ⟨k - 1, by omega⟩
    cases ha2 : a.drop p with
    | nil => have := nil_at ha2; omega
    | cons x s =>
      obtain ⟨r1, l1, e1⟩ := rd_at ha2
      rw [slices_Compare_int_int.l0.eq_2, if_pos (by omega), if_pos (by omega), if_pos (by omega)]
      cases hb2 : b.drop p with
      | nil => have := nil_at hb2; rw [if_pos (by omega)]; rfl
      | cons y t =>
        obtain ⟨r2, l2, e2⟩ := rd_at hb2
        rw [if_neg (by omega), if_pos (by omega), cmp_f, r1, r2]
        simp only [Option.bind_some]
        have h := ih k (p + 1) (by omega) (by omega) (by omega) (by omega)
        rw [e1, e2] at h
        have e : wrap64 ((p : Int) + 1) = ((p + 1 : Nat) : Int) := by rw [wr (by omega) (by omega)]; omega
        rw [e]
        show _ = some (if x < y then -1 else if x > y then 1 else cmpL s t)
        by_cases h1 : x < y
        · rw [if_pos h1, if_neg (by omega), if_pos h1]
        · by_cases h2 : x > y
          · rw [if_neg h1, if_pos h2, if_neg (by omega), if_neg h1, if_pos h2]
          · rw [if_neg h1, if_neg h2, if_pos rfl, h, if_neg h1, if_neg h2]
theorem compare_f (a b : List Int) (ha : a.length ≤ 1000000) (hb : b.length ≤ 1000000) : path_Compare.f (a.length + 1) a b = some (cmpL a b) := by
  have h := compare_l a b ha hb a.length (a.length + 1) 0 (by omega) (by omega) (by omega) (by omega)
  unfold path_Compare.f slices_Compare_int_int.f
  rw [show (0 : Int) = ((0 : Nat) : Int) from rfl, h]
  rfl
theorem rcompare_l (a b : List Int) (ha : a.length ≤ 1000000) (hb : b.length ≤ 1000000) (d : Nat) : ∀ (k p : Nat), a.length - p = d → p ≤ a.length → p ≤ b.length → 2 * d + 1 < k →
    haymowref05_Compare.l0 k a b p = some (cmpL (a.drop p) (b.drop p)) := by
  induction d with
  | zero =>
    intro k p hd hp hpb hk
    obtain ⟨k, rfl⟩ : ∃ m, k = m + 2 := ⟨k - 2, by omega⟩
    obtain rfl : p = a.length := by omega
    rw [haymowref05_Compare.l0.eq_2, if_neg (by omega), haymowref05_Compare.j1.eq_2, if_neg (by simp), List.drop_length]
    cases hb2 : b.drop a.length with
    | nil => have := nil_at hb2; rw [if_neg (by omega), if_neg (by omega)]; rfl
    | cons y t => obtain ⟨_, h, _⟩ := rd_at hb2; rw [if_pos (by omega)]; rfl
  | succ d ih =>
    intro k p hd hp hpb hk
    obtain ⟨k, rfl⟩ : ∃ m, k = m + 2 := ⟨k - 2, by omega⟩
    cases ha2 : a.drop p with
    | nil => have := nil_at ha2; omega
    | cons x s =>
      obtain ⟨r1, l1, e1⟩ := rd_at ha2
      rw [haymowref05_Compare.l0.eq_2, if_pos (by omega), haymowref05_Compare.j1.eq_2]
      cases hb2 : b.drop p with
      | nil => have := nil_at hb2; rw [if_neg (by simp; omega), if_neg (by omega), if_pos (by omega)]; rfl
      | cons y t =>
        obtain ⟨r2, l2, e2⟩ := rd_at hb2
        rw [if_pos (by simp; omega), if_pos (by omega), if_pos (by omega), if_pos (by omega), r1, r2]
        have h := ih k (p + 1) (by omega) (by omega) (by omega) (by omega)
        rw [e1, e2] at h
        have e : wrap64 ((p : Int) + 1) = ((p + 1 : Nat) : Int) := by rw [wr (by omega) (by omega)]; omega
        rw [e, h]
        show _ = some (if x < y then -1 else if x > y then 1 else cmpL s t)
        by_cases h1 : x < y
        · rw [if_pos h1, if_pos h1]
        · by_cases h2 : x > y
          · rw [if_neg h1, if_pos h2, if_neg h1, if_pos h2]
          · rw [if_neg h1, if_neg h2, if_neg h1, if_neg h2]
theorem rcompare_f (a b : List Int) (ha : a.length ≤ 1000000) (hb : b.length ≤ 1000000) : haymowref05_Compare.f (2 * a.length + 2) a b = some (cmpL a b) := by
  have h := rcompare_l a b ha hb a.length (2 * a.length + 2) 0 (by omega) (by omega) (by omega) (by omega)
  unfold haymowref05_Compare.f
  rw [show (0 : Int) = ((0 : Nat) : Int) from rfl, h]
  rfl
theorem same_f (a b : List Int) (ha : a.length ≤ 1000000) (hb : b.length ≤ 1000000) : haymowlaw05_same.f (2 * a.length + 2) a b = some (cmpL a b == 0) := by
  unfold haymowlaw05_same.f
  rw [rcompare_f a b ha hb]
  rfl
theorem cmpL_refl : ∀ a : List Int, cmpL a a = 0
  | [] => rfl
  | x :: a => by show (if x < x then -1 else if x > x then 1 else cmpL a a) = 0; rw [if_neg (by omega), if_neg (by omega), cmpL_refl a]
theorem cmpL_neg : ∀ a b : List Int, cmpL a b = -cmpL b a
  | [], [] => rfl
  | [], _ :: _ => rfl
  | _ :: _, [] => rfl
  | x :: a, y :: b => by
    show (if x < y then -1 else if x > y then 1 else cmpL a b) = -(if y < x then -1 else if y > x then 1 else cmpL b a)
    have := cmpL_neg a b
    by_cases h1 : x < y
    · rw [if_pos h1, if_neg (by omega), if_pos (by omega)]
    · by_cases h2 : x > y
      · rw [if_neg h1, if_pos h2, if_pos (by omega)]; rfl
      · rw [if_neg h1, if_neg h2, if_neg (by omega), if_neg (by omega)]; exact this
theorem cmpL_range : ∀ a b : List Int, cmpL a b = -1 ∨ cmpL a b = 0 ∨ cmpL a b = 1
  | [], [] => .inr (.inl rfl)
  | [], _ :: _ => .inl rfl
  | _ :: _, [] => .inr (.inr rfl)
  | x :: a, y :: b => by
    show (if x < y then -1 else if x > y then 1 else cmpL a b) = -1 ∨ (if x < y then -1 else if x > y then 1 else cmpL a b) = 0 ∨ (if x < y then -1 else if x > y then 1 else cmpL a b) = 1
    split
    · exact .inl rfl
    · split
      · exact .inr (.inr rfl)
      · exact cmpL_range a b
theorem cmpL_zero : ∀ {a b : List Int}, cmpL a b = 0 → a = b
  | [], [], _ => rfl
  | [], _ :: _, h => by cases h
  | _ :: _, [], h => by cases h
  | x :: a, y :: b, h => by
    have h' : (if x < y then -1 else if x > y then 1 else cmpL a b) = 0 := h
    split at h'
    · omega
    · split at h'
      · omega
      · obtain rfl : x = y := by omega
        rw [cmpL_zero h']
end Go.Proofs.YtcchoeomeklgmaaDoor.Core
/-! path.Compare, path.Under, path.Text: what they come to, where they are called. -/
namespace Go.Proofs.YtcchoeomeklgmaaDoor.Core
open Go.RowKit Go.Proofs.YtcchoeomeklgmaaDoorW.PrintWords Go.Proofs.YtcchoeomeklgmaaDoorW.PrintMore Go.Proofs.YtcchoeomeklgmaaDoor.P1
set_option linter.unusedVariables false
set_option linter.unusedSimpArgs false
theorem info3c : (Tryd.prog.info? 3).map (fun i => (i.zero, i.size, i.bytes)) = some (some (.int .i64 0), 1, 8) := by kernel_rfl
theorem info9 : (Tryd.prog.info? 9).map (fun i => (i.zero, i.size, i.bytes)) = some (some (.string ByteArray.empty), 1, 16) := by kernel_rfl
theorem Compare_any (a b : List Int) (A0 A1 : Option Addr) (c0 c1 : Nat) (w : World) (h0 : (Kd.int .i64).C w A0 a.length a) (g0 : a.length ≤ c0) (h1 : (Kd.int .i64).C w A1 b.length b) (g1 : b.length ≤ c1) (ha : a.length ≤ 1000000) (hb : b.length ≤ 1000000) :
    Calls Tryd.prog 25 #[.slice A0 a.length c0, .slice A1 b.length c1] w fun e w' => e = .returned (.int .i64 (cmpL a b)) ∧ Drawn0 w w' :=
  path_Compare.calls _ A0 c0 a A1 c1 b _ w h0 g0 h1 g1 (compare_f a b ha hb)
/-- What strconv.Itoa comes to. -/
def Tells (w : World) (x : Int) : Prop := Calls Tryd.prog 23 #[.int .i64 x] w fun e w' => e = .returned (.string ⟨(Lib.itoa x).toArray⟩) ∧ Below w.heap.size w w'
theorem tells_small (w : World) (x : Int) (h0 : 0 ≤ x) (h1 : x < 100) : Tells w x := by
  obtain ⟨n, rfl⟩ := Int.eq_ofNat_of_zero_le h0
  refine (Tryd.strconv_Itoa_small n (by omega) w).mono ?_
  rintro e w' ⟨rfl, rfl⟩
  refine ⟨?_, Below.refl _ _⟩
  unfold Lib.itoa
  rw [if_neg (by omega), Int.toNat_natCast]
def txt (x : Int) : ByteArray := ⟨(Lib.itoa x).toArray⟩
set_option maxHeartbeats 2000000 in
set_option maxRecDepth 100000 in
theorem Text_any (l : List Int) (A : Option Addr) (c : Nat) (w : World) (hC : (Kd.int .i64).C w A l.length l) (hn : l.length ≤ 1000000) (hne : 0 < l.length) (hI : ∀ x ∈ l, ∀ w', Below w.heap.size w w' → Tells w' x)
    (hlen : (Lib.join (l.map Lib.itoa) [46]).length ≤ 140737488355328) :
    Calls Tryd.prog 11 #[.slice A l.length c] w fun e w' => e = .returned (.string ⟨(Lib.join (l.map Lib.itoa) [46]).toArray⟩) ∧ Below w.heap.size w w' := by
  have HC := Lib.hid hC
  have HI := Lib.hid hI
  have HL := Lib.hid hlen
  obtain ⟨n, hnn⟩ : ∃ n, n = l.length := ⟨_, rfl⟩
  have HN := Lib.hid hnn
  rw [← hnn] at hn hne ⊢
  have h0 : ((n : Int) == 0) = false := beq_eq_false_iff_ne.2 (by omega)
  clear hC hI hlen hnn
  go_enter Tryd.func11, Tryd.ntmps11
  go_wp2_with fail
  go_loopg [3, 11] n (fun k v3 v11 W => ∃ j : Nat, j + k = n ∧ v11 = .int .i64 j ∧ Hid (Kd.string.R 9 W w.heap.size (fun _ => True) v3 ((l.take j).map txt)) ∧ Hid (Below w.heap.size w W))
  case atStart => exact ⟨0, by omega, rfl, Kd.R_nil _ _ _ _ _, Below.refl _ _⟩
  case round =>
    obtain ⟨j, hjk, rfl, hR, hB⟩ := hrel
    have HJ := Lib.hid hjk
    clear hjk
    have hz := hB.out.size
    by_cases hlt : j < n
    · have hl : j < l.length := by have := HN.out; omega
      have hC0 := Kd.C_below HC.out hB.out
      obtain ⟨ad, hA, hcell⟩ := (Kd.reads_of_C (enc := Value.int .i64) (d := (0 : Int)) (h1 := fun _ => rfl) hC0).2.2 (by omega)
      have hc := hcell j hl
      subst hA
      have hx : l.getD j 0 ∈ l := by simp [List.getD, List.getElem?_eq_getElem hl]
      have htk : (l.take (j + 1)).map txt = (l.take j).map txt ++ [txt (l.getD j 0)] := by
        rw [List.take_succ_eq_append_getElem hl, List.map_append]
        simp [List.getD, List.getElem?_eq_getElem hl]
      generalize l.getD j 0 = x at *
      have HT : Hid (Tells wr x) := HI.out x hx wr hB.out
      have HTK := Lib.hid htk
      clear hC0 hcell hx htk
      go_wp2_with fail
      refine HT.out.mono ?_
      rintro e w1 ⟨rfl, hb1⟩
      have HB1 : Hid (Below w.heap.size w w1) := hB.out.trans (hb1.mono hz)
      have HR1 := Lib.hid (Kd.R_below hR.out hb1)
      have hz1 := HB1.out.size
      have hlj : ((l.take j).map txt).length = j := by rw [List.length_map, List.length_take]; omega
      have HLJ := Lib.hid hlj
      clear hb1 hR hB HT hc hlj
      go_wp2_with ((with_reducible refine gate_builtin (b := .append) (xs := #[.tmp 15, .tmp 18]) rfl ?_); at_builtin; refine Kd.R_append Kd.string (w0 := w) w.heap.size rfl (.tmp 15) (.tmp 18) 35 9 (.string ByteArray.empty) 16 rfl Tryd.underlying35 info9 rfl (by decide) (by omega) u3 ((l.take j).map txt) (txt x) [.string (txt x)] (fun _ => True) (fun _ => False) rfl rfl ?aP (fun _ hk => hk.elim) (fun _ _ => trivial) ?aO ?aB ?aS ?aL ?_; (case aP => exact rfl); (case aO => exact HR1.out); (case aB => exact HB1.out); (case aS => exact hz1); (case aL => rw [HLJ.out]; omega); intro v6 w6 hr6 hb6 hg6 _; have HR6 := Lib.hid hr6; have HB6 := Lib.hid hb6; clear hr6 hb6 hg6)
      go_roundg (n - (j + 1))
      case measure => have := HJ.out; omega
      case rel => exact ⟨j + 1, by omega, by go_num, by rw [HTK.out]; exact HR6.out, HB6.out⟩
    · obtain rfl : j = n := by have := HJ.out; omega
      have hR0 : Kd.string.R 9 wr w.heap.size (fun _ => True) u3 (l.map txt) := by
        have h := hR.out
        rwa [List.take_of_length_le (by have := HN.out; omega)] at h
      have hLL : (l.map txt).length = j := by rw [List.length_map, HN.out]
      obtain ⟨g, cap, rfl, hg1, hg2, _⟩ := Kd.R_form hR0 (by omega)
      have hC0 := (Kd.R_reads' hR0).2.2
      have hcl : ∀ (i : Nat) x, (l.map txt)[i]? = some x → wr.cell? ⟨g, 0 + i, none⟩ = some (.string x) := by
        intro i x hx
        obtain ⟨hl, hx⟩ := List.getElem?_eq_some_iff.1 hx
        obtain ⟨ad, e, hc⟩ := (Kd.reads_of_C (enc := Value.string) (d := ByteArray.empty) (h1 := fun _ => rfl) hC0).2.2 (by omega)
        injection e with e
        subst e
        have := hc i hl
        rw [List.getD_eq_getElem?_getD, List.getElem?_eq_getElem hl, hx] at this
        rw [Nat.zero_add]
        rw [add_plain] at this
        exact this
      have hcap := (Kd.R_reads' hR0).2.1
      have e0 : (l.map txt).map (·.data.toList) = l.map Lib.itoa := by rw [List.map_map]; rfl
      have hJ := Tryd.strings_Join g 0 cap (l.map txt) ⟨#[46]⟩ wr hcl hg2 (by omega) (by omega) (by rw [e0]; exact HL.out)
      rw [e0, hLL] at hJ
      have HJO := Lib.hid hJ
      rw [hLL]
      clear hR hR0 hLL hC0 hcl hcap e0 hJ
      go_wp2_with fail
      refine HJO.out.mono ?_
      rintro e w1 ⟨rfl, hb1⟩
      have HB1 : Hid (Below w.heap.size w w1) := hB.out.trans (hb1.mono hz)
      clear hb1 HJO
      go_wp2_with fail
      go_ret
      exact ⟨rfl, HB1.out⟩
end Go.Proofs.YtcchoeomeklgmaaDoor.Core
/-! awake: the chapter's example holds. -/
namespace Go.Proofs.YtcchoeomeklgmaaDoor.Core
open Go.RowKit Go.Proofs.YtcchoeomeklgmaaDoorW.PrintWords Go.Proofs.YtcchoeomeklgmaaDoorW.PrintMore Go.Proofs.YtcchoeomeklgmaaDoor.P1
set_option linter.unusedVariables false
set_option linter.unusedSimpArgs false
theorem C_blk {W : World} {b : Nat} {xs : List Int} (hl : xs.length ≤ 1000000) (h : W.heap[b]? = some (.cells ((xs.map (Value.int .i64)).toArray) 3 (0, 0))) : (Kd.int .i64).C W (some ⟨b, 0, none⟩) xs.length xs := by
  refine Kd.C_of_reads (enc := Value.int .i64) (d := (0 : Int)) (h1 := fun _ => rfl) ⟨rfl, by omega, fun _ => ⟨_, rfl, fun j hj => ?_⟩⟩
  rw [add_plain]
  simp only [World.cell?, h]
  simp [List.getElem?_eq_getElem hj]
theorem blk_two (W : World) (o o2 : Obj) : ((W.alloc o).alloc o2).heap[W.heap.size]? = some o ∧ ((W.alloc o).alloc o2).heap[W.heap.size + 1]? = some o2 := by
  have h1 := heap_alloc_new W o
  have h2 := heap_alloc_new (W.alloc o) o2
  have hs : (W.alloc o).heap.size = W.heap.size + 1 := by simp
  rw [hs] at h2
  exact ⟨by rw [Below.heap_alloc _ _ _ (by rw [hs]; omega)]; exact h1, h2⟩
theorem below_two (W : World) (o o2 : Obj) : Below W.heap.size W ((W.alloc o).alloc o2) := ((Below.refl _ _).alloc (Nat.le_refl _) _).alloc (by simp) _
theorem Cmp_lit (a b : List Int) (W : World) (ha : a.length ≤ 1000000) (hb : b.length ≤ 1000000) :
    Calls Tryd.prog 25 #[.slice (some ⟨W.heap.size, 0, none⟩) a.length a.length, .slice (some ⟨W.heap.size + 1, 0, none⟩) b.length b.length] ((W.alloc (.cells ((a.map (Value.int .i64)).toArray) 3)).alloc (.cells ((b.map (Value.int .i64)).toArray) 3)) fun e w' => e = .returned (.int .i64 (cmpL a b)) ∧ Below W.heap.size W w' := by
  obtain ⟨h1, h2⟩ := blk_two W (.cells ((a.map (Value.int .i64)).toArray) 3) (.cells ((b.map (Value.int .i64)).toArray) 3)
  refine (Compare_any a b _ _ _ _ _ (C_blk ha h1) (Nat.le_refl _) (C_blk hb h2) (Nat.le_refl _) ha hb).mono ?_
  rintro e w' ⟨rfl, hd⟩
  exact ⟨rfl, (below_two W _ _).trans (hd.below.mono (below_two W _ _).size)⟩
set_option maxHeartbeats 2000000 in
set_option maxRecDepth 100000 in
theorem awake_any (w : World) : Calls Tryd.prog 13 #[] w fun e w' => e = .returned (.bool true) ∧ Below w.heap.size w w' := by
  go_enter Tryd.func13, Tryd.ntmps13
  go_wp2_with fail
  refine (Cmp_lit [0, 2] [0, 2, 1] w (by decide) (by decide)).mono ?_
  have e1 : cmpL [0, 2] [0, 2, 1] = -1 := by decide
  rw [e1]
  rintro e w1 ⟨rfl, hb1⟩
  have HB1 := Lib.hid hb1
  clear hb1 e1
  go_wp2_with fail
  refine (Cmp_lit [0, 2, 1] [0, 10] w1 (by decide) (by decide)).mono ?_
  have e1 : cmpL [0, 2, 1] [0, 10] = -1 := by decide
  rw [e1]
  rintro e w2 ⟨rfl, hb2⟩
  have HB2 : Hid (Below w.heap.size w w2) := HB1.out.trans (hb2.mono HB1.out.size)
  clear hb2 e1 HB1
  go_wp2_with fail
  have hC : (Kd.int .i64).C (w2.alloc (.cells #[.int .i64 0, .int .i64 10] 3)) (some ⟨w2.heap.size, 0, none⟩) [(0 : Int), 10].length [0, 10] := C_blk (by decide) (heap_alloc_new w2 _)
  have ej : Lib.join (([(0 : Int), 10]).map Lib.itoa) [46] = [48, 46, 49, 48] := by decide +kernel
  refine (Text_any [0, 10] _ 2 _ hC (by decide) (by decide) (fun x hx w' _ => ?_) (by rw [ej]; decide)).mono ?_
  · simp only [List.mem_cons, List.not_mem_nil, or_false] at hx
    rcases hx with rfl | rfl
    · exact tells_small _ _ (by decide) (by decide)
    · exact tells_small _ _ (by decide) (by decide)
  · rw [ej]
    rintro e w3 ⟨rfl, hb3⟩
    have HB3 : Hid (Below w.heap.size w w3) := HB2.out.trans (((Below.refl _ _).alloc (Nat.le_refl _) _).trans (hb3.mono (by simp)) |>.mono HB2.out.size)
    clear hb3 hC ej HB2
    go_wp2_with fail
    go_ret
    exact ⟨rfl, HB3.out⟩
end Go.Proofs.YtcchoeomeklgmaaDoor.Core
/-! path.Read and haymowref05.Read, where they are called; the text of a path by the document. -/
namespace Go.Proofs.YtcchoeomeklgmaaDoor.Core
open Go.RowKit Go.Shelf Go.Proofs.YtcchoeomeklgmaaDoorW.PrintWords Go.Proofs.YtcchoeomeklgmaaDoorW.PrintMore Go.Proofs.YtcchoeomeklgmaaDoor.P1 Go.Proofs.YtcchoeomeklgmaaDoor
set_option linter.unusedVariables false
set_option linter.unusedSimpArgs false
/-- A path and an error's number, read off what a call hands back. -/
def Reads (w : World) (e : Ending) (w' : World) (r : List Int × Int) : Prop :=
  ∃ A c, e = .returned (.tuple #[.slice A r.1.length c, .int .i64 r.2]) ∧ (Kd.int .i64).C w' A r.1.length r.1 ∧ r.1.length ≤ c ∧ Below w.heap.size w w'
theorem reads_own {w w' : World} {e : Ending} {u : Value} {r : List Int × Int} (he : e = .returned (.tuple #[u, .int .i64 r.2])) (ho : w'.ownsRow w.heap.size 3 1 u r.1.length (encs (Value.int .i64) r.1)) (hb : Below w.heap.size w w') : Reads w e w' r := by
  obtain ⟨A, c, rfl, hc, hr⟩ := own_reads_of_le (d := (0 : Int)) ho
  exact ⟨A, c, he, Kd.C_of_reads (enc := Value.int .i64) (d := (0 : Int)) (h1 := fun _ => rfl) hr, hc, hb⟩
theorem reads_nil {w w' : World} {e : Ending} {n : Int} (he : e = .returned (.tuple #[.slice none 0 0, .int .i64 n])) (hb : Below w.heap.size w w') : Reads w e w' ([], n) :=
  reads_own he (World.ownsRow_nil _ _ _ _) hb
set_option maxHeartbeats 2000000 in
theorem Read_any (t : List UInt8) (ht : t.length ≤ 10000000) (w : World) : Calls Tryd.prog 8 #[.string ⟨t.toArray⟩] w fun e w' => Reads w e w' (readL t) := by
  by_cases h : t = [46]
  · subst h
    have e : readL [46] = ([], 0) := by unfold readL; rw [if_pos rfl]
    rw [e]
    refine Calls.mono ?_ (fun e w' (h : e = .returned (.tuple #[.slice none 0 0, .int .i64 0]) ∧ Below w.heap.size w w') => reads_nil h.1 h.2)
    go_enter Tryd.func8, Tryd.ntmps8
    go_wp2_with fail
    have b3 := Boxed.new (w.alloc (.cells #[.slice none 0 0] 22)) 23 (.int .i64 0)
    rw [World.size_alloc] at b3
    refine bodyPost_ret (results_11 rfl _ _ _ _ _ _ rfl rfl (load22 _ _ _ ((Boxed.new w 22 (.slice none 0 0)).alloc _)) (load23 _ _ _ b3)) rfl ?_
    exact ⟨rfl, ((Below.refl _ _).alloc (Nat.le_refl _) _).alloc (by simp) _⟩
  · unfold readL
    rw [if_neg h]
    refine (read_range t ht h w).mono ?_
    rintro e w' (⟨u, he, ho, hl, hp, hb⟩ | ⟨he, hl, hp, hb⟩ | ⟨he, ⟨x, hx, hxf⟩, hb⟩)
    · have e1 : fin [] (splitB 46 t) = ((splitB 46 t).map atoiV, 0) := by
        unfold fin
        rw [if_pos (List.all_eq_true.2 hp), if_neg (by simp; omega)]
        simp
      rw [e1]
      refine reads_own he ?_ hb
      rw [List.length_map]
      exact ho
    · have e1 : fin [] (splitB 46 t) = ([], 3) := by
        unfold fin
        rw [if_pos (List.all_eq_true.2 hp), if_pos (by simp; omega)]
      rw [e1]
      exact reads_nil he hb
    · have e1 : fin [] (splitB 46 t) = ([], 4) := by
        unfold fin
        rw [if_neg (fun hh => by rw [List.all_eq_true] at hh; rw [hh x hx] at hxf; cases hxf)]
      rw [e1]
      exact reads_nil he hb
set_option maxHeartbeats 2000000 in
theorem rRead_any (t : List UInt8) (ht : t.length ≤ 1000) (w : World) : Calls Tryd.prog 9 #[.string ⟨t.toArray⟩] w fun e w' => Reads w e w' (readL t) := by
  by_cases h : t = [46]
  · subst h
    have e : readL [46] = ([], 0) := by unfold readL; rw [if_pos rfl]
    rw [e]
    refine Calls.mono ?_ (fun e w' (h : e = .returned (.tuple #[.slice none 0 0, .int .i64 0]) ∧ Below w.heap.size w w') => reads_nil h.1 h.2)
    go_enter Tryd.func9, Tryd.ntmps9
    go_wp2_with fail
    go_ret2
    exact ⟨rfl, Below.refl _ _⟩
  · unfold readL
    rw [if_neg h]
    refine (rread_range t ht h w).mono ?_
    rintro e w' ⟨u, he, ho, hb⟩
    exact reads_own he (Kd.own_of_R ho) hb
theorem dig_ext (d : Nat) (h : d < 10) : ((⟨#[48, 49, 50, 51, 52, 53, 54, 55, 56, 57]⟩ : ByteArray).extract d (d + 1)) = bx [UInt8.ofNat (48 + d)] := by
  have h2 : ∀ n : Fin 10, ((⟨#[48, 49, 50, 51, 52, 53, 54, 55, 56, 57]⟩ : ByteArray).extract n.val (n.val + 1)) = bx [UInt8.ofNat (48 + n.val)] := by decide +kernel
  exact h2 ⟨d, h⟩
theorem bx_app (a b : List UInt8) : bx a ++ bx b = bx (a ++ b) := by
  apply ByteArray.ext
  apply Array.ext'
  simp [bx]
theorem digits_f : ∀ (k n : Nat), n < 10 ^ k → k ≤ 1000 → n < 9223372036854775808 → haymowref04_Digits.f k (n : Int) = some (bx (Lib.decDigits n)) ∧ (Lib.decDigits n).length ≤ k ∨ k = 0
  | 0, n, h, _, _ => .inr rfl
  | k + 1, n, h, hk, h63 => by
    left
    have e1 : ∀ m : Nat, m < 10 → wrap64 ((m : Int) + 1) = ((m + 1 : Nat) : Int) := fun m hm => by rw [Core.wr (by omega) (by omega)]; rfl
    rw [haymowref04_Digits.f.eq_2, if_neg (by omega)]
    by_cases h10 : n < 10
    · rw [if_pos (by omega), if_pos (by omega), e1 n h10, if_pos (by omega), if_pos (by omega)]
      have : Lib.decDigits n = [UInt8.ofNat (48 + n)] := by rw [Lib.decDigits, dif_pos h10]
      rw [this]
      refine ⟨?_, by simp⟩
      congr 1
      exact dig_ext n h10
    · rw [if_neg (by omega)]
      have ed : wrap64 (Int.tdiv (n : Int) 10) = ((n / 10 : Nat) : Int) := by
        rw [show Int.tdiv (n : Int) 10 = ((n / 10 : Nat) : Int) from (Int.ofNat_tdiv n 10).symm]
        unfold wrap64; omega
      have em : Int.tmod (n : Int) 10 = ((n % 10 : Nat) : Int) := (Int.ofNat_tmod n 10).symm
      have hk0 : k ≠ 0 := by
        rintro rfl
        simp at h
        omega
      obtain ⟨ih, il⟩ := (digits_f k (n / 10) (by rw [Nat.pow_succ] at h; omega) (by omega) (by omega)).resolve_right hk0
      rw [ed, em, ih, e1 _ (by omega)]
      rw [Option.bind_some, if_pos (by omega), if_pos (by omega), if_pos (by omega)]
      have e2 : (⟨#[48, 49, 50, 51, 52, 53, 54, 55, 56, 57]⟩ : ByteArray).extract (((n % 10 : Nat) : Int)).toNat (((n % 10 + 1 : Nat) : Int)).toNat = bx [UInt8.ofNat (48 + n % 10)] := dig_ext (n % 10) (by omega)
      rw [e2, bx_size, bx_size]
      have e3 : Lib.decDigits n = Lib.decDigits (n / 10) ++ [UInt8.ofNat (48 + n % 10)] := by rw [Lib.decDigits, dif_neg h10]
      rw [if_pos (by simp; omega), bx_app, e3]
      exact ⟨rfl, by rw [List.length_append]; simp; omega⟩
/-- The text of a path. -/
def textL (p : List Int) : List UInt8 := if p = [] then [46] else Lib.join (p.map Lib.itoa) [46]
theorem digits_i (k : Nat) (x : Int) (h0 : 0 ≤ x) (h1 : x < 9223372036854775808) (hk : 19 ≤ k) (hk2 : k ≤ 1000) : haymowref04_Digits.f k x = some (bx (Lib.itoa x)) ∧ (Lib.itoa x).length ≤ k := by
  obtain ⟨n, rfl⟩ := Int.eq_ofNat_of_zero_le h0
  have e : Lib.itoa (n : Int) = Lib.decDigits n := by unfold Lib.itoa; rw [if_neg (by omega), Int.toNat_natCast]
  rw [e]
  have hp : 10 ^ 19 ≤ 10 ^ k := Nat.pow_le_pow_right (by omega) hk
  have hn : n < 10 ^ 19 := by omega
  exact (digits_f k n (Nat.lt_of_lt_of_le hn hp) hk2 (by omega)).resolve_right (by omega)
theorem rtext_l (p : List Int) (hp : ∀ x ∈ p, 0 ≤ x ∧ x < 9223372036854775808) (hlen : p.length ≤ 100) (d : Nat) : ∀ (k i : Nat) (s : List UInt8), p.length - i = d → i ≤ p.length → d + 30 ≤ k → k ≤ 1000 → s.length ≤ 2000 * (i + 1) →
    haymowref05_Text.l0 k p (bx s) (i : Int) = some (bx (s ++ Lib.joinTail [46] ((p.drop i).map Lib.itoa))) := by
  induction d with
  | zero =>
    intro k i s hd hi hk hk2 hs
    obtain ⟨k, rfl⟩ : ∃ m, k = m + 1 := ⟨k - 1, by omega⟩
    obtain rfl : i = p.length := by omega
    rw [haymowref05_Text.l0.eq_2, if_neg (by omega), List.drop_length]
    simp [Lib.joinTail]
  | succ d ih =>
    intro k i s hd hi hk hk2 hs
    obtain ⟨k, rfl⟩ : ∃ m, k = m + 1 := ⟨k - 1, by omega⟩
    cases ha2 : p.drop i with
    | nil => have := nil_at ha2; omega
    | cons x r =>
      obtain ⟨r1, l1, e1⟩ := rd_at ha2
      have hx : x ∈ p := List.mem_of_mem_drop (by rw [ha2]; exact List.mem_cons_self)
      obtain ⟨hd1, hd2⟩ := digits_i k x (hp x hx).1 (hp x hx).2 (by omega) (by omega)
      rw [haymowref05_Text.l0.eq_2, if_pos (by omega), if_pos (by omega), r1, hd1, Option.bind_some, bx_size, if_pos (by omega)]
      have ea : (⟨#[46]⟩ : ByteArray) ++ bx (Lib.itoa x) = bx ([46] ++ Lib.itoa x) := bx_app [46] _
      rw [ea, bx_size, bx_size, if_pos (by simp; omega), bx_app, Core.wr (by omega) (by omega)]
      have h := ih k (i + 1) (s ++ ([46] ++ Lib.itoa x)) (by omega) (by omega) (by omega) (by omega) (by simp; omega)
      rw [show ((i : Int) + 1) = ((i + 1 : Nat) : Int) from rfl, h, e1]
      simp [Lib.joinTail]
theorem rtext_f (p : List Int) (hp : ∀ x ∈ p, 0 ≤ x ∧ x < 9223372036854775808) (hlen : p.length ≤ 100) : haymowref05_Text.f (p.length + 40) p = some (bx (textL p)) := by
  unfold haymowref05_Text.f textL
  cases p with
  | nil => rw [if_pos (by rfl), if_pos rfl]
  | cons x r =>
    rw [if_neg (show ¬ (((x :: r).length : Int) = 0) by rw [List.length_cons]; omega), if_pos (show 0 < ((x :: r).length : Int) by rw [List.length_cons]; omega), if_neg (show ¬ (x :: r = []) by simp)]
    have hr : rd (x :: r) 0 = x := rfl
    obtain ⟨hd1, hd2⟩ := digits_i ((x :: r).length + 40) x (hp x List.mem_cons_self).1 (hp x List.mem_cons_self).2 (by omega) (by omega)
    rw [hr, hd1, Option.bind_some]
    have h := rtext_l (x :: r) hp hlen r.length ((x :: r).length + 40) 1 (Lib.itoa x) (by rw [List.length_cons]; omega) (by rw [List.length_cons]; omega) (by rw [List.length_cons]; omega) (by omega) (by omega)
    rw [show ((1 : Int)) = ((1 : Nat) : Int) from rfl, h, List.map_cons, Lib.join_cons]
    rfl
theorem rText_any (p : List Int) (A : Option Addr) (c : Nat) (w : World) (hC : (Kd.int .i64).C w A p.length p) (hc : p.length ≤ c) (hp : ∀ x ∈ p, 0 ≤ x ∧ x < 9223372036854775808) (hlen : p.length ≤ 100) :
    Calls Tryd.prog 12 #[.slice A p.length c] w fun e w' => e = .returned (.string (bx (textL p))) ∧ Below w.heap.size w w' :=
  haymowref05_Text.calls _ A c p _ w hC hc (rtext_f p hp hlen)
/-- The table that strconv reads is as it was laid. -/
def Tab (w : World) : Prop := Lib.TabIs Tryd.prog w "internal/strconv.uint64pow10" .u64 Lib.pow10Tab
theorem tells_any (w : World) (x : Int) (h0 : 0 ≤ x) (h1 : x < 9223372036854775808) (ht : Tab w) : Tells w x := by
  refine (Tryd.strconv_Itoa x (by omega) (by omega) w ht).mono ?_
  rintro e w' ⟨rfl, k, os, rfl⟩
  exact ⟨rfl, Lib.below_grow _ _ (Nat.le_refl _) _ _⟩
end Go.Proofs.YtcchoeomeklgmaaDoor.Core
/-! The text of a path by the program; what the laws' other callees come to. -/
namespace Go.Proofs.YtcchoeomeklgmaaDoor.Core
open Go.RowKit Go.Shelf Go.Proofs.YtcchoeomeklgmaaDoorW.PrintWords Go.Proofs.YtcchoeomeklgmaaDoorW.PrintMore Go.Proofs.YtcchoeomeklgmaaDoor.P1 Go.Proofs.YtcchoeomeklgmaaDoor
set_option linter.unusedVariables false
set_option linter.unusedSimpArgs false
theorem lens_le (m : Nat) : ∀ l : List (List UInt8), (∀ x ∈ l, x.length ≤ m) → Lib.lens l ≤ m * l.length
  | [], _ => by simp [Lib.lens]
  | x :: l, h => by
    have ih := lens_le m l (fun y hy => h y (List.mem_cons_of_mem _ hy))
    have h1 := h x List.mem_cons_self
    have e : Lib.lens (x :: l) = x.length + Lib.lens l := by simp [Lib.lens]
    rw [e, List.length_cons, Nat.mul_succ]
    omega
theorem Tab.below {w w' : World} (h : Tab w) (hb : Below w.heap.size w w') : Tab w' := TabIs_below (g := 5) (by kernel_rfl) h hb
theorem text_len (p : List Int) (hp : ∀ x ∈ p, 0 ≤ x ∧ x < 9223372036854775808) (hlen : p.length ≤ 100) : (Lib.join (p.map Lib.itoa) [46]).length ≤ 3000 := by
  cases p with
  | nil => simp [Lib.join_nil]
  | cons x r =>
    rw [List.map_cons, Lib.join_length]
    have h := lens_le 19 (Lib.itoa x :: r.map Lib.itoa) (fun y hy => by
      rw [← List.map_cons] at hy
      obtain ⟨z, hz, rfl⟩ := List.mem_map.1 hy
      exact (digits_i 19 z (hp z hz).1 (hp z hz).2 (by omega) (by omega)).2)
    simp only [List.length_cons, List.length_map, List.length_nil] at h hlen ⊢
    omega
set_option maxHeartbeats 2000000 in
theorem Text_whole (p : List Int) (A : Option Addr) (c : Nat) (w : World) (ht : Tab w) (hC : (Kd.int .i64).C w A p.length p) (hp : ∀ x ∈ p, 0 ≤ x ∧ x < 9223372036854775808) (hlen : p.length ≤ 100) :
    Calls Tryd.prog 11 #[.slice A p.length c] w fun e w' => e = .returned (.string (bx (textL p))) ∧ Below w.heap.size w w' := by
  cases p with
  | nil =>
    clear hC hp
    go_enter Tryd.func11, Tryd.ntmps11
    go_wp2_with fail
    go_ret
    exact ⟨rfl, Below.refl _ _⟩
  | cons x r =>
    have e : textL (x :: r) = Lib.join ((x :: r).map Lib.itoa) [46] := by unfold textL; rw [if_neg (by simp)]
    rw [e]
    exact Text_any (x :: r) A c w hC (by omega) (by simp) (fun y hy w' hb => tells_any w' y (hp y hy).1 (hp y hy).2 (ht.below hb)) (by have := text_len (x :: r) hp hlen; omega)
theorem readL_len (t : List UInt8) : (readL t).1.length ≤ 30 := by
  unfold readL
  split
  · simp
  · unfold fin
    split
    · split
      · simp
      · rename_i h
        simp at h ⊢
        omega
    · simp
theorem same_any (a : List Int) (A0 A1 : Option Addr) (c0 c1 : Nat) (w : World) (h0 : (Kd.int .i64).C w A0 a.length a) (g0 : a.length ≤ c0) (h1 : (Kd.int .i64).C w A1 a.length a) (g1 : a.length ≤ c1) (ha : a.length ≤ 1000000) :
    Calls Tryd.prog 10 #[.slice A0 a.length c0, .slice A1 a.length c1] w fun e w' => e = .returned (.bool true) ∧ Drawn0 w w' := by
  have h := same_f a a ha ha
  rw [cmpL_refl] at h
  exact haymowlaw05_same.calls _ A0 c0 a A1 c1 a _ w h0 g0 h1 g1 h
end Go.Proofs.YtcchoeomeklgmaaDoor.Core
/-! What is told is read as it was. -/
namespace Go.Proofs.YtcchoeomeklgmaaDoor.Core
open Go.RowKit Go.Shelf Go.Proofs.YtcchoeomeklgmaaDoorW.PrintWords Go.Proofs.YtcchoeomeklgmaaDoorW.PrintMore Go.Proofs.YtcchoeomeklgmaaDoor.P1 Go.Proofs.YtcchoeomeklgmaaDoor
set_option linter.unusedVariables false
set_option linter.unusedSimpArgs false
theorem split_app (c : UInt8) (s : List UInt8) : ∀ x : List UInt8, c ∉ x → splitB c (x ++ s) = consH x (splitB c s)
  | [], _ => by
    cases e : splitB c s with
    | nil => exact absurd e (splitB_ne c s)
    | cons a r => simp [consH, e]
  | b :: x, h => by
    have h1 : ¬ b = c := fun e => h (by rw [e]; exact List.mem_cons_self)
    have ih := split_app c s x (fun e => h (List.mem_cons_of_mem _ e))
    rw [List.cons_append, splitB, if_neg h1, ih]
    cases e : splitB c s with
    | nil => exact absurd e (splitB_ne c s)
    | cons a r => simp [consH]
theorem split_join : ∀ (r : List (List UInt8)) (x : List UInt8), (∀ y ∈ x :: r, (46 : UInt8) ∉ y) → splitB 46 (Lib.join (x :: r) [46]) = x :: r
  | [], x, h => by
    rw [Lib.join_cons]
    have e : Lib.joinTail [46] [] = [] := by simp [Lib.joinTail]
    rw [e, split_app 46 [] x (h x List.mem_cons_self)]
    simp [splitB, consH]
  | y :: r, x, h => by
    have ih := split_join r y (fun z hz => h z (List.mem_cons_of_mem _ hz))
    rw [Lib.join_cons] at ih ⊢
    have e : Lib.joinTail [46] (y :: r) = 46 :: (y ++ Lib.joinTail [46] r) := by simp [Lib.joinTail]
    rw [e, split_app 46 _ x (h x List.mem_cons_self), splitB, if_pos rfl, ih]
    simp [consH]
theorem dig_is (d : Nat) (h : d < 10) : isDig (UInt8.ofNat (48 + d)) = true ∧ (UInt8.ofNat (48 + d)).toNat - 48 = d ∧ (UInt8.ofNat (48 + d) = 48 → d = 0) := by
  have h2 : ∀ n : Fin 10, isDig (UInt8.ofNat (48 + n.val)) = true ∧ (UInt8.ofNat (48 + n.val)).toNat - 48 = n.val ∧ (UInt8.ofNat (48 + n.val) = 48 → n.val = 0) := by decide +kernel
  exact h2 ⟨d, h⟩
theorem dec_is : ∀ (k n : Nat), n < 10 ^ (k + 1) → (Lib.decDigits n).all isDig = true ∧ val 0 (Lib.decDigits n) = n ∧ (Lib.decDigits n).length ≤ k + 1 ∧ Lib.decDigits n ≠ [] ∧ (n ≠ 0 → (Lib.decDigits n).head? ≠ some 48)
  | k, n, h => by
    by_cases h10 : n < 10
    · have e : Lib.decDigits n = [UInt8.ofNat (48 + n)] := by rw [Lib.decDigits, dif_pos h10]
      obtain ⟨d1, d2, d3⟩ := dig_is n h10
      rw [e]
      refine ⟨by rw [List.all_cons, d1]; rfl, by simp only [val, List.foldl_cons, List.foldl_nil, Nat.zero_mul, Nat.zero_add]; exact d2, by simp, by simp, fun hn => ?_⟩
      rw [List.head?_cons]
      intro e
      injection e with e
      exact hn (d3 e)
    · cases k with
      | zero => simp at h; omega
      | succ k =>
        obtain ⟨i1, i2, i3, i4, i5⟩ := dec_is k (n / 10) (by rw [Nat.pow_succ] at h; omega)
        have e : Lib.decDigits n = Lib.decDigits (n / 10) ++ [UInt8.ofNat (48 + n % 10)] := by rw [Lib.decDigits, dif_neg h10]
        obtain ⟨d1, d2, d3⟩ := dig_is (n % 10) (by omega)
        rw [e]
        refine ⟨by rw [List.all_append, i1, List.all_cons, d1]; rfl, ?_, by rw [List.length_append]; simp; omega, by simp, fun hn => ?_⟩
        · rw [val_snoc, i2, d2]; omega
        · have h5 := i5 (by omega)
          cases e2 : Lib.decDigits (n / 10) with
          | nil => exact absurd e2 i4
          | cons b r => rw [e2] at h5; exact h5
theorem itoa_plain (x : Int) (h0 : 0 ≤ x) (h1 : x < 1000000) : plainB 6 (Lib.itoa x) = true ∧ atoiV (Lib.itoa x) = x ∧ (46 : UInt8) ∉ Lib.itoa x := by
  obtain ⟨n, rfl⟩ := Int.eq_ofNat_of_zero_le h0
  have e : Lib.itoa (n : Int) = Lib.decDigits n := by unfold Lib.itoa; rw [if_neg (by omega), Int.toNat_natCast]
  obtain ⟨i1, i2, i3, i4, i5⟩ := dec_is 5 n (by show n < 1000000; omega)
  have hp : plainB 6 (Lib.decDigits n) = true := by
    refine (plainB_iff _).2 ⟨i4, i3, i1, ?_⟩
    by_cases hn : n = 0
    · left; subst hn; rw [Lib.decDigits, dif_pos (by omega)]; rfl
    · exact .inr (i5 hn)
  rw [e]
  refine ⟨hp, by rw [atoiV_val _ hp, i2], fun hm => ?_⟩
  have := List.all_eq_true.1 i1 _ hm
  exact absurd this (by decide)
theorem read_text (p : List Int) (hp : ∀ x ∈ p, 0 ≤ x ∧ x < 1000000) (hl : p.length ≤ 30) : readL (textL p) = (p, 0) := by
  cases p with
  | nil => rfl
  | cons x r =>
    have e : textL (x :: r) = Lib.join ((x :: r).map Lib.itoa) [46] := by unfold textL; rw [if_neg (by simp)]
    have hs : splitB 46 (textL (x :: r)) = (x :: r).map Lib.itoa := by
      rw [e, List.map_cons]
      refine split_join _ _ (fun y hy => ?_)
      rw [← List.map_cons (f := Lib.itoa)] at hy
      obtain ⟨z, hz, rfl⟩ := List.mem_map.1 hy
      exact (itoa_plain z (hp z hz).1 (hp z hz).2).2.2
    have hne : textL (x :: r) ≠ [46] := fun h => by
      rw [h] at hs
      have h2 : splitB 46 [46] = [[], []] := by decide
      rw [h2, List.map_cons] at hs
      injection hs with h3 _
      have := (plainB_iff _).1 (itoa_plain x (hp x List.mem_cons_self).1 (hp x List.mem_cons_self).2).1
      exact this.1 h3.symm
    unfold readL
    rw [if_neg hne, hs]
    unfold fin
    rw [if_pos (List.all_eq_true.2 fun y hy => by
      obtain ⟨z, hz, rfl⟩ := List.mem_map.1 hy
      exact (itoa_plain z (hp z hz).1 (hp z hz).2).1), if_neg (by simp at hl ⊢; omega)]
    simp only [List.nil_append, List.map_map]
    congr 1
    refine (List.map_congr_left (g := id) fun z hz => ?_).trans (List.map_id _)
    exact (itoa_plain z (hp z hz).1 (hp z hz).2).2.1
end Go.Proofs.YtcchoeomeklgmaaDoor.Core
