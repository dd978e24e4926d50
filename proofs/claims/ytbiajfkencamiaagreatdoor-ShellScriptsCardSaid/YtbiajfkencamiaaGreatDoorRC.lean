/- A range over a function whose iterator keeps its state in one cell that it has captured. strings.SplitSeq at a separator of one byte: what its iterator yields. path.plain, strings.SplitSeq; the number that plain digits tell. path.Read: a range over strings.SplitSeq. path.Read: the walk of the range. The document's Read comes to the same. haymowref05.Read: its walk. What the functions of paths come to: one order of lists, and beginnings. path.Compare, path.Under, path.Text: what they come to, where they are called. awake: the chapter's example holds. path.Read and haymowref05.Read, where they are called; the text of a path by the document. The text of a path by the program; what the laws' other callees come to. What is told is read as it was. -/
import Derived.RangeFuncNested
import Derived.RangeFuncBound
import Derived.RangeFuncCalls
import Derived.RangeFuncLeaves
import Derived.Test.YtbiajfkencamiaaGreatDoorShelf
import Derived.Test.YtbiajfkencamiaaGreatDoorWd
import Derived.Shelf.Abstract
import Derived.Shelf.RegionOpen
import Derived.WalkKit
import Derived.OwnWalkIn
import Derived.TacticsInMore
import Derived.LoopNIn
import Derived.LoopIn
import Derived.WalkSpells
import Derived.Lib.Hide
import Derived.Shelf.Strings.SlTrimAscii
import Derived.RangeFuncBox
import Derived.Maps.AppendAt
import Derived.Test.YtbiajfkencamiaaGreatDoorP1
import Derived.Shelf.Unicode.PredsPay
import Derived.Lib.AppendIntMem
/-! RC -/
/-! A range over a function whose iterator keeps its state in one cell that it has captured. -/
namespace Go.Proofs.YtbiajfkencamiaaGreatDoor.Rf
open Go.RowKit
set_option linter.unusedVariables false
set_option linter.unusedSimpArgs false
variable {F : Fence} {n : Nat} {P : Program}
/-- The steps that an invariant must abide: the iterator's own block bc may turn, and walks that are new. -/
def OwnC {β : Type} (bc B : Nat) (I : β → World → Prop) : Prop :=
  ∀ s W W' row, I s W → W.grownBy W' row → (∀ r, row = some r → r = bc ∨ (B ≤ r ∧ ∃ o : Obj, W.heap[r]? = some o ∧ o.isCells = false)) → I s W'
theorem OwnC.putObj {β : Type} {bc B : Nat} {I : β → World → Prop} (h : OwnC bc B I) {s : β} {W : World} {l : Nat} {o : Obj} (o' : Obj) (hs : I s W) (hB : B ≤ l) (hl : W.heap[l]? = some o) (ho : o.isCells = false) : I s (W.putObj l o') :=
  h s W _ (some l) hs (grownBy_putObj' W l o') (fun r e => by cases e; exact .inr ⟨hB, o, hl, ho⟩)
theorem OwnC.alloc {β : Type} {bc B : Nat} {I : β → World → Prop} (h : OwnC bc B I) {s : β} {W : World} (o : Obj) (hs : I s W) : I s (W.alloc o) :=
  h s W _ none hs (World.grownBy_alloc W o none) (fun r e => by cases e)
theorem OwnC.and {β : Type} {bc B : Nat} {I I' : β → World → Prop} (h : OwnC bc B I) (h' : OwnC bc B I') : OwnC bc B (fun s W => I s W ∧ I' s W) := fun s W W' row hs hg hr => ⟨h s W W' row hs.1 hg hr, h' s W W' row hs.2 hg hr⟩
theorem ownC_pure {β : Type} (bc B : Nat) (p : β → Prop) : OwnC bc B (fun s (_ : World) => p s) := fun _ _ _ _ hs _ _ => hs
theorem ownC_below {β : Type} {n₀ bc B : Nat} {w : World} (hn : n₀ ≤ w.heap.size) (hbc : n₀ ≤ bc) (hB : n₀ ≤ B) : OwnC bc B (fun (_ : β) W => Below n₀ w W) :=
  fun _ X Y row hs hg hr => hs.grown hg (Nat.le_trans hn hs.size) (fun k e => by rcases hr k e with h | h <;> omega)
theorem ownC_block {β : Type} {bc B b : Nat} (o : β → Obj) (hc : ∀ s, (o s).isCells = true) (hne : b ≠ bc) : OwnC bc B (fun s W => W.heap[b]? = some (o s)) :=
  fun s X Y row hs hg hr => (hg.block b (Array.getElem?_eq_some_iff.1 hs).1 (fun e => by
    rcases hr b e.symm with h | ⟨_, o', h1, h2⟩
    · exact hne h
    · rw [hs] at h1; cases h1; rw [hc s] at h2; cases h2)).trans hs
/-- .. as the iterator has it: walks alone. -/
def OwnC' {β : Type} (bc B : Nat) (I : β → World → Prop) : Prop :=
  ∀ s W W' row, I s W → W.grownBy W' row → (∀ r, row = some r → r = bc ∨ (B ≤ r ∧ ∃ o : Obj, W.heap[r]? = some o ∧ o.isWalk = true)) → I s W'
theorem OwnC.weak {β : Type} {bc B B' : Nat} {I : β → World → Prop} (h : OwnC bc B I) (hB : B ≤ B') : OwnC' bc B' I := fun s W W' row hs hg hr =>
  h s W W' row hs hg (fun r e => by
    rcases hr r e with h | ⟨h1, o, h2, h3⟩
    · exact .inl h
    · exact .inr ⟨by omega, o, h2, Obj.not_cells_of_walk h3⟩)
/-- What an iterator gives that keeps its state in the cell bc. -/
def SeqC {α : Type} (F : Fence) (n : Nat) (P : Program) (g : Nat) (lb : Array Value) (encs : α → Array Value) (bc : Nat) (Kp : World → World → Prop) (S Sp : List α → Prop) (N : Nat) (w : World) : Prop :=
  ∀ (l : Nat) (J Jx : List α → World → Prop) (W : World), Below w.heap.size w W → OwnC' bc W.heap.size J → OwnC' bc W.heap.size Jx →
    (∀ pre x W1, J pre W1 → pre.length < N → Sp (pre ++ [x]) → YieldAt F (n - 1) P l (encs x) W1 fun e W' =>
      (e = .returned (.bool true) ∧ J (pre ++ [x]) W' ∧ Kp W1 W') ∨ (e = .returned (.bool false) ∧ Jx (pre ++ [x]) W')) →
    J [] W →
    CallsIn F n P g (#[.func (.yield l) #[] #[]] ++ lb) W fun e W' => (∃ v, e = .returned v) ∧ ((∃ xs, S xs ∧ J xs W') ∨ (∃ pre, Sp pre ∧ Jx pre W'))
theorem keepsC {W W' : World} {row : Option Nat} {bc B k : Nat} {o : Obj} (hg : W.grownBy W' row) (hrow : ∀ r, row = some r → r = bc ∨ (B ≤ r ∧ ∃ o : Obj, W.heap[r]? = some o ∧ o.isWalk = true)) (hk : W.heap[k]? = some o) (hw : o.isWalk = false) (hne : k ≠ bc) : W'.heap[k]? = some o :=
  (hg.block k (Array.getElem?_eq_some_iff.1 hk).1 (fun e => by
    rcases hrow k e.symm with h | ⟨_, o', h1, h2⟩
    · exact hne h
    · rw [hk] at h1; cases h1; rw [hw] at h2; cases h2)).trans hk
/-- The statement 'for .. := range g { .. }' over such an iterator, outermost. -/
theorem rangeCell {α : Type} {g : Operand} {ps : Array Tmp} {assign body : Code} {Q : Exit → Act → World → Prop} {a : Act} {w : World}
    (hro : F.round = none) (h1 : 1 ≤ n) {gf : Nat} {lb : Array Value} (hg : a.eval g = .func (.func gf) #[] lb) (hFg : F.fn gf) (eg : ∀ args w, (callFunc gf args).run P w = .ok (.enter gf args) w)
    {encs : α → Array Value} {bc : Nat} (hbc : bc < w.heap.size) {Kp : World → World → Prop} {S Sp : List α → Prop} {N : Nat} {w0 : World} (hseq : SeqC F (n - 1) P gf lb encs bc Kp S Sp N w0)
    (hKt : ∀ {A B C : World}, Kp A B → Kp B C → Kp A C) (hKb : ∀ (W : World) (l : Nat) (o o' : Obj), w.heap.size ≤ l → W.heap[l]? = some o → Kp W (W.putObj l o')) (hb0 : Below w0.heap.size w0 w) (hps : ∀ x, (encs x).size = ps.size)
    (I : List α → World → Prop) (Ix : Code → List α → World → Prop) (hI : OwnC bc w.heap.size I) (hIx : ∀ c, OwnC bc w.heap.size (Ix c)) (h0 : I [] w) (a1 : α → Act)
    (hassign : ∀ (l : Nat) (x : α) (W : World) (K : Act → World → Prop), K (a1 x) W →
      assign.wpIn (F.inRound l) (n - 1 - 1) P (Exit.then K (fun _ _ _ => False)) { tmps := (ps.zip (encs x)).foldl (fun t (p, v) => t.setIfInBounds p v) a.tmps, defers := [] } W)
    (hbody : ∀ (l : Nat) (pre : List α) (x : α) (W : World), I pre W → pre.length < N → Sp (pre ++ [x]) → body.wpIn (F.inRound l) (n - 1 - 1) P (ownPostG w.heap.size Kp I Ix (pre ++ [x]) W) (a1 x) W)
    (hdone : ∀ (D : Nat) (xs : List α) (W : World), w.heap.size ≤ D → S xs → I xs W → W.heap[D]? = some (.deferred (some [])) → Q .normal { a with defers := { target := .collected D, args := #[] } :: a.defers } W)
    (hstop : ∀ (D : Nat) (c : Code) (pre : List α) (W : World), w.heap.size ≤ D → Sp pre → Ix c pre W → W.heap[D]? = some (.deferred (some [])) → c.wpIn F n P Q { a with defers := { target := .collected D, args := #[] } :: a.defers } W) :
    (Code.rangeFunc g ps assign body).wpIn F n P Q a w := by
  refine wpIn_rangeFunc fun fn hfn => ?_
  rw [hro]
  obtain ⟨L, hL⟩ : ∃ L : LoopState → Option Code → Loop, L = fun st pe => { state := st, pending := pe, fn, tmps := a.tmps, params := ps, assign, body, defers := w.heap.size } := ⟨_, rfl⟩
  obtain ⟨W1, hW1⟩ : ∃ W1, (w.alloc (.deferred (some []))).alloc (.loop (L .ready none)) = W1 := ⟨_, rfl⟩
  obtain ⟨m, hm⟩ : ∃ m, m = w.heap.size := ⟨_, rfl⟩
  have hs1 : W1.heap.size = m + 2 := by rw [← hW1, hm]; simp
  have hl1 : W1.heap[m + 1]? = some (.loop (L .ready none)) := by
    rw [← hW1, hm]
    have h := World.alloc_heap_new (w.alloc (.deferred (some []))) (.loop (L .ready none))
    rwa [World.size_alloc] at h
  have hd1 : W1.heap[m]? = some (.deferred (some [])) := by
    rw [← hW1, hm]
    exact (Below.heap_alloc _ _ _ (by simp)).trans (World.alloc_heap_new w _)
  have hI1 : I [] W1 := by rw [← hW1]; exact hI.alloc _ (hI.alloc _ h0)
  have hb1 : Below w0.heap.size w0 W1 := by
    rw [← hW1]
    exact hb0.trans ((((Below.refl _ w).alloc (Nat.le_refl _) _).alloc (by simp) _).mono hb0.size)
  refine ⟨m + 1, [{ target := .collected m, args := #[] }], W1, { target := .fn (.func gf) lb, args := #[.func (.yield (m + 1)) #[] #[]] }, W1, gf, #[.func (.yield (m + 1)) #[] #[]] ++ lb, W1, ?_, ?_, ?_, ?_, fun _ => h1, ?_⟩
  · rw [← hW1, hL, hm]
    exact run_enterLoop_outer _ _ _ _ _
  · simp only [resolve, hg]
    simp [go_sem]
  · intro f' hf'
    simp [Target.leads] at hf'
    subst hf'
    exact hFg
  · simp [invoke, go_sem, eg]
  have hall := hseq (m + 1) (fun pre W => I pre W ∧ W.heap[m + 1]? = some (.loop (L .ready none)) ∧ W.heap[m]? = some (.deferred (some [])))
    (fun pre W => ∃ c, Ix c pre W ∧ W.heap[m + 1]? = some (.loop (L .done (some c))) ∧ W.heap[m]? = some (.deferred (some []))) W1 hb1
    (fun s A B row hs hg' hr => ⟨hI.weak (B' := W1.heap.size) (by rw [← hm, hs1]; omega) s A B row hs.1 hg' hr, keepsC hg' hr hs.2.1 rfl (by omega), keepsC hg' hr hs.2.2 rfl (by omega)⟩)
    (fun s A B row hs hg' hr => by
      obtain ⟨c, hc, hl, hd⟩ := hs
      exact ⟨c, (hIx c).weak (B' := W1.heap.size) (by rw [← hm, hs1]; omega) s A B row hc hg' hr, keepsC hg' hr hl rfl (by omega), keepsC hg' hr hd rfl (by omega)⟩)
    ?round ⟨hI1, hl1, hd1⟩
  case round =>
    rintro pre x W ⟨hi, hl, hd⟩ hlen hspx
    have hlt : m + 1 < W.heap.size := (Array.getElem?_eq_some_iff.1 hl).1
    have hy := run_yield (P := P) (args := encs x) hl (by rw [hL]; exact hps x)
    rw [hL] at hy
    refine ⟨fn, _, assign, body, hy, roundIn_of_wpIn hfn (hassign _ x W _ ⟨_, run_beginRound hl (by rw [hL]), ?_⟩)⟩
    obtain ⟨X, hX⟩ : ∃ X, W.putObj (m + 1) (.loop { L .ready none with state := .busy }) = X := ⟨_, rfl⟩
    rw [hX]
    have hlX : X.heap[m + 1]? = some (.loop { L .ready none with state := .busy }) := by rw [← hX]; exact World.putObj_heap_same hlt
    have hdX : X.heap[m]? = some (.deferred (some [])) := by rw [← hX]; exact (World.putObj_heap_other (by omega)).trans hd
    have hkX : Kp W X := by rw [← hX]; exact hKb _ _ _ _ (by omega) hl
    have hiX : I pre X := by rw [← hX]; exact hI.putObj _ hi (by omega) hl rfl
    have ends : ∀ (jump : Option Code) (Y : World), KeepsFrom w.heap.size X Y → ∃ Z, Z = Y.putObj (m + 1) (.loop (L (if jump.isNone then .ready else .done) jump)) ∧
        (Instr.endRound (m + 1) jump).run P Y = .ok (.bool jump.isNone) Z ∧ Y.heap[m + 1]? = some (.loop { L .ready none with state := .busy }) ∧ Z.heap[m + 1]? = some (.loop (L (if jump.isNone then .ready else .done) jump)) ∧ Z.heap[m]? = some (.deferred (some [])) := fun jump Y hk => by
      have hlY := hk.same _ _ (by omega) hlX rfl
      have hdY := hk.same _ _ (by omega) hdX rfl
      have hr := run_endRound (P := P) jump hlY
      rw [hL] at hr hlY ⊢
      exact ⟨_, rfl, hr, hlY, World.putObj_heap_same (Array.getElem?_eq_some_iff.1 hlY).1, (World.putObj_heap_other (by omega)).trans hdY⟩
    refine wpIn_mono (hbody _ pre x X hiX hlen hspx) ?_
    rintro e a3 Y hp
    cases e with
    | normal =>
      obtain ⟨hk, hkp, hiY⟩ := hp
      obtain ⟨Z, rfl, hr, hlY, hlZ, hdZ⟩ := ends none Y hk
      exact ⟨_, _, hr, .inl ⟨rfl, ⟨hI.putObj _ hiY (by omega) hlY rfl, hlZ, hdZ⟩, hKt (hKt hkX hkp) (hKb _ _ _ _ (by omega) hlY)⟩⟩
    | ret =>
      obtain ⟨hk, hiY⟩ := hp
      obtain ⟨Z, rfl, hr, hlY, hlZ, hdZ⟩ := ends (some .ret) Y hk
      exact ⟨_, _, hr, .inr ⟨rfl, .ret, (hIx _).putObj _ hiY (by omega) hlY rfl, hlZ, hdZ⟩⟩
    | exit id =>
      obtain ⟨hk, hiY⟩ := hp
      obtain ⟨Z, rfl, hr, hlY, hlZ, hdZ⟩ := ends (some (.exit id)) Y hk
      exact ⟨_, _, hr, .inr ⟨rfl, .exit id, (hIx _).putObj _ hiY (by omega) hlY rfl, hlZ, hdZ⟩⟩
    | goto t =>
      obtain ⟨hk, hiY⟩ := hp
      obtain ⟨Z, rfl, hr, hlY, hlZ, hdZ⟩ := ends (some (.goto t)) Y hk
      exact ⟨_, _, hr, .inr ⟨rfl, .goto t, (hIx _).putObj _ hiY (by omega) hlY rfl, hlZ, hdZ⟩⟩
    | panic ch => exact hp.elim
    | outgrown => exact hp.elim
  refine hall.mono ?_
  rintro e W2 ⟨⟨v, rfl⟩, (⟨xs, hS, hi, hl, hd⟩ | ⟨pre, hSp, c, hi, hl, hd⟩)⟩
  · exact ⟨none, _, by have h := run_endLoop (P := P) hl (by rw [hL]; simp); rw [hL] at h; exact h, hdone m xs _ (by omega) hS (hI.putObj _ hi (by omega) hl rfl) ((World.putObj_heap_other (by omega)).trans hd)⟩
  · exact ⟨some c, _, by have h := run_endLoop (P := P) hl (by rw [hL]; simp); rw [hL] at h; exact h, hstop m c pre _ (by omega) hSp ((hIx c).putObj _ hi (by omega) hl rfl) ((World.putObj_heap_other (by omega)).trans hd)⟩
end Go.Proofs.YtbiajfkencamiaaGreatDoor.Rf
/-! strings.SplitSeq at a separator of one byte: what its iterator yields. -/
namespace Go.Proofs.YtbiajfkencamiaaGreatDoor.Core
open Go.RowKit Go.Shelf Go.Proofs.YtbiajfkencamiaaGreatDoorW.PrintWords Go.Proofs.YtbiajfkencamiaaGreatDoor.Rf Go.Proofs.YtbiajfkencamiaaGreatDoor
set_option linter.unusedVariables false
set_option linter.unusedSimpArgs false
attribute [local go_sem] Oper.semAt_some
/-- The parts of a row of bytes between its separators. -/
def splitB (c : UInt8) : List UInt8 → List (List UInt8)
  | [] => [[]]
  | x :: r => if x = c then [] :: splitB c r else
    match splitB c r with
    | [] => [[x]]
    | h :: t => (x :: h) :: t
theorem index_split (c : UInt8) : ∀ l : List UInt8, (Lib.indexByte l c < 0 → splitB c l = [l]) ∧ (∀ i : Nat, Lib.indexByte l c = i → i < l.length ∧ splitB c l = l.take i :: splitB c (l.drop (i + 1)))
  | [] => ⟨fun _ => rfl, fun i h => by simp [Lib.indexByte] at h⟩
  | x :: r => by
    obtain ⟨h1, h2⟩ := index_split c r
    have hge := Lib.indexByte_ge r c
    by_cases hx : x = c
    · subst hx
      have e : Lib.indexByte (x :: r) x = 0 := by simp [Lib.indexByte]
      rw [e]
      refine ⟨fun h => by omega, fun i hi => ?_⟩
      obtain rfl : i = 0 := by omega
      exact ⟨by simp, by simp [splitB]⟩
    · have hb : (x == c) = false := by simpa using hx
      unfold Lib.indexByte
      rw [hb]
      simp only [Bool.false_eq_true, if_false]
      by_cases hn : Lib.indexByte r c = -1
      · rw [hn]
        simp only [beq_self_eq_true, if_true]
        refine ⟨fun _ => ?_, fun i hi => by omega⟩
        have := h1 (by omega)
        unfold splitB
        rw [if_neg hx, this]
      · have hb2 : (Lib.indexByte r c == -1) = false := by simpa using hn
        rw [hb2]
        simp only [Bool.false_eq_true, if_false]
        refine ⟨fun h => by omega, fun i hi => ?_⟩
        obtain ⟨j, rfl⟩ : ∃ j, i = j + 1 := ⟨i - 1, by omega⟩
        obtain ⟨hj, hs⟩ := h2 j (by omega)
        refine ⟨by simp; omega, ?_⟩
        conv => lhs; unfold splitB
        rw [if_neg hx, hs]
        rfl
theorem splitB_len (c : UInt8) : ∀ l, (splitB c l).length ≤ l.length + 1
  | [] => by simp [splitB]
  | x :: r => by
    have ih := splitB_len c r
    unfold splitB
    split
    · simp only [List.length_cons]; omega
    · split
      · simp
      · rename_i h t he
        rw [he] at ih
        simp only [List.length_cons] at *
        omega
theorem splitB_part (c : UInt8) : ∀ l, ∀ p ∈ splitB c l, p.length ≤ l.length
  | [], p, h => by simp [splitB] at h; subst h; simp
  | x :: r, p, h => by
    have ih := splitB_part c r
    unfold splitB at h
    split at h
    · rcases List.mem_cons.1 h with rfl | h
      · simp
      · have := ih p h; simp; omega
    · split at h
      · simp at h; subst h; simp
      · rename_i hh t he
        rw [he] at ih
        rcases List.mem_cons.1 h with rfl | h
        · have := ih hh (by simp); simp; omega
        · have := ih p (by simp [h]); simp; omega
theorem ext_take (s : List UInt8) (i : Nat) : (⟨s.toArray⟩ : ByteArray).extract 0 i = ⟨(s.take i).toArray⟩ := by
  apply ByteArray.ext
  apply Array.ext'
  simp [ByteArray.extract, ByteArray.copySlice]
theorem ext_drop (s : List UInt8) (i : Nat) : (⟨s.toArray⟩ : ByteArray).extract i s.length = ⟨(s.drop i).toArray⟩ := by
  apply ByteArray.ext
  apply Array.ext'
  simp [ByteArray.extract, ByteArray.copySlice]
  rw [List.take_of_length_le (by simp)]
/-- What is left in the iterator's cell. -/
def leftB (b0 : Nat) (W : World) : Nat := match W.cell? ⟨b0, 0, none⟩ with
  | some (.string s) => s.size
  | _ => 0
theorem leftB_eq {b0 : Nat} {W : World} {s : List UInt8} (h : W.cell? ⟨b0, 0, none⟩ = some (.string ⟨s.toArray⟩)) : leftB b0 W = s.length := by
  unfold leftB; rw [h]; simp [ByteArray.size]
/-- What a round must keep: the iterator's three cells. -/
def Kp3 (b0 : Nat) (W W' : World) : Prop := ∀ q, b0 ≤ q → q < b0 + 3 → W'.heap[q]? = W.heap[q]?
theorem Kp3.trans {b0 : Nat} {A B C : World} (h : Kp3 b0 A B) (k : Kp3 b0 B C) : Kp3 b0 A C := fun q h1 h2 => (k q h1 h2).trans (h q h1 h2)
theorem Kp3.put {b0 : Nat} {W : World} {l : Nat} (o : Obj) (hl : b0 + 3 ≤ l) : Kp3 b0 W (W.putObj l o) := fun q h1 h2 => World.putObj_heap_other (by omega)
theorem Kp3.refl (b0 : Nat) (W : World) : Kp3 b0 W W := fun _ _ _ => rfl
structure Box3 (b0 : Nat) (c : UInt8) (W : World) (s : List UInt8) : Prop where
  s : W.heap[b0]? = some (.cells #[.string ⟨s.toArray⟩] 9 (0, 0))
  sep : W.heap[b0 + 1]? = some (.cells #[.string ⟨#[c]⟩] 9 (0, 0))
  save : W.heap[b0 + 2]? = some (.cells #[.int .i64 0] 3 (0, 0))
theorem Box3.keep {b0 : Nat} {c : UInt8} {W W' : World} {s : List UInt8} (h : Box3 b0 c W s) (k : Kp3 b0 W W') : Box3 b0 c W' s :=
  ⟨(k _ (by omega) (by omega)).trans h.s, (k _ (by omega) (by omega)).trans h.sep, (k _ (by omega) (by omega)).trans h.save⟩
theorem Box3.below {b0 : Nat} {c : UInt8} {W W' : World} {s : List UInt8} (h : Box3 b0 c W s) (k : Below W.heap.size W W') : Box3 b0 c W' s :=
  ⟨blk_below h.s k, blk_below h.sep k, blk_below h.save k⟩
set_option maxRecDepth 100000 in
set_option maxHeartbeats 2000000 in
theorem split_iter (n : Nat) (hn : 1 ≤ n) (b0 : Nat) (c : UInt8) (t : List UInt8) (ht : t.length ≤ 10000000) (w0 : World) (hbox : Box3 b0 c w0 t) :
    SeqC Fence.wide n Tryz.prog 56 #[.pointer (some ⟨b0 + 1, 0, none⟩), .pointer (some ⟨b0, 0, none⟩), .pointer (some ⟨b0 + 2, 0, none⟩)] (fun x : List UInt8 => #[.string ⟨x.toArray⟩]) b0 (Kp3 b0) (fun xs => xs = splitB c t) (fun pre => pre <+: splitB c t) (splitB c t).length w0 := by
  intro l J Jx W hW hJ hJx hY h0
  have hbox := hbox.below hW
  have HT := Lib.hid ht
  have HBOX := Lib.hid hbox
  have c1 := blk_cell hbox.sep 0
  simp only [List.getElem?_toArray, List.getElem?_cons_zero] at c1
  clear hbox hW ht
  refine callsIn_of_wp Tryz.func56 rfl trivial ?_ rfl
  simp only [Tryz.ntmps56, List.size_toArray, List.length_cons, List.length_nil, Nat.reduceAdd, Nat.reduceSub, Array.replicate_succ, Array.replicate_zero, List.push_toArray, List.append_toArray, List.nil_append, List.cons_append]
  gi_wp2_with fail
  clear c1
  gi_loopw [7, 8] (fun v7 v8 wr => ∃ (pre : List (List UInt8)) (s : List UInt8), Hid (splitB c t = pre ++ splitB c s) ∧ Hid (Box3 b0 c wr s) ∧ Hid (J pre wr) ∧ Hid (s.length ≤ t.length)) (fun _ _ wr => leftB b0 wr)
  case atStart => exact ⟨[], t, rfl, HBOX.out, h0, Nat.le_refl _⟩
  case round =>
    obtain ⟨pre, s, hS, hB, hJs, hL⟩ := hrel
    obtain ⟨X, hX⟩ : ∃ X, X = wr := ⟨_, rfl⟩
    subst hX
    have c0 := blk_cell hB.out.s 0
    have c1 := blk_cell hB.out.sep 0
    have c2 := blk_cell hB.out.save 0
    simp only [List.getElem?_toArray, List.getElem?_cons_zero] at c0 c1 c2
    have HIX := Lib.hid (Tryz.strings_Index_one ⟨s.toArray⟩ c X)
    obtain ⟨ix, hix⟩ : ∃ ix, ix = Lib.indexByte s c := ⟨_, rfl⟩
    have e : (⟨s.toArray⟩ : ByteArray).data.toList = s := by simp
    rw [e, ← hix] at HIX
    have hsp := index_split c s
    rw [← hix] at hsp
    have HSP := Lib.hid hsp
    clear hsp e hix
    by_cases hneg : ix < 0
    · have HNEG := Lib.hid (HSP.out.1 hneg)
      obtain ⟨fn, tmps, assign, body, hy, hR⟩ := hY pre s X hJs.out (by rw [hS.out, HNEG.out]; simp) ⟨[], by rw [hS.out, HNEG.out]; simp⟩
      gi_wp2_with (refine ⟨trivial, ?_⟩; gi_at_call 19; refine (callsIn_wide.2 HIX.out).mono ?_; rintro e w' ⟨rfl, rfl⟩)
      refine hR.mono ?_
      rintro e W3 (⟨rfl, hJ3, hk3⟩ | ⟨rfl, hJx3⟩)
      · gi_wp2
        go_end0
        exact ⟨⟨_, rfl⟩, .inl ⟨_, by rw [hS.out, HNEG.out], hJ3⟩⟩
      · gi_wp2
        go_end0
        exact ⟨⟨_, rfl⟩, .inr ⟨_, ⟨[], by rw [hS.out, HNEG.out]; simp⟩, hJx3⟩⟩
    · obtain ⟨i, rfl⟩ : ∃ i : Nat, ix = i := ⟨ix.toNat, by omega⟩
      obtain ⟨hi, hsp⟩ := HSP.out.2 i rfl
      have HSI := Lib.hid hsp
      clear hsp
      obtain ⟨fn, tmps, assign, body, hy, hR⟩ := hY pre (s.take i) X hJs.out (by rw [hS.out, HSI.out]; simp) ⟨splitB c (s.drop (i + 1)), by rw [hS.out, HSI.out]; simp⟩
      have hs7 : s.length ≤ 10000000 := Nat.le_trans hL.out HT.out
      have hn0 : (decide ((i : Int) < 0)) = false := by simp
      have hex : (⟨s.toArray⟩ : ByteArray).extract 0 i = ⟨(s.take i).toArray⟩ := ext_take s i
      have hex2 : (⟨s.toArray⟩ : ByteArray).extract (i + 1) s.length = ⟨(s.drop (i + 1)).toArray⟩ := ext_drop s (i + 1)
      gi_wp2_with (refine ⟨trivial, ?_⟩; gi_at_call 19; refine (callsIn_wide.2 HIX.out).mono ?_; rintro e w' ⟨rfl, rfl⟩)
      refine hR.mono ?_
      rintro e W3 (⟨rfl, hJ3, hk3⟩ | ⟨rfl, hJx3⟩)
      · have HB3 := Lib.hid (hB.out.keep hk3)
        have d0 := blk_cell HB3.out.s 0
        have d1 := blk_cell HB3.out.sep 0
        simp only [List.getElem?_toArray, List.getElem?_cons_zero] at d0 d1
        have f0 := blk_frozen HB3.out.s 0
        have hil : (i : Int) + 1 ≤ s.length := by omega
        have hil2 : (i : Int) + 1 ≤ 10000001 := by omega
        gi_wp2
        go_roundw
        case rel =>
          refine ⟨pre ++ [s.take i], s.drop (i + 1), ?_, ⟨?_, ?_, ?_⟩, ?_, ?_⟩
          · show splitB c t = _
            rw [hS.out, HSI.out]
            simp
          · simpa using blk_set HB3.out.s 0 (.string ⟨(s.drop (i + 1)).toArray⟩)
          · exact blk_far HB3.out.sep (by show b0 + 1 ≠ b0; omega) _
          · exact blk_far HB3.out.save (by show b0 + 2 ≠ b0; omega) _
          · exact hJ _ _ _ (some b0) hJ3 (grownBy_setCell' _ _ _) (fun r e => .inl (by injection e with e; exact e.symm))
          · show _ ≤ _
            have := hL.out
            rw [List.length_drop]
            omega
        case measure =>
          have e1 := leftB_eq (W := w') (s := s) (by assumption)
          have e2 := leftB_eq (b0 := b0) (W := W3.setCell ⟨b0, 0, none⟩ (.string ⟨(s.drop (i + 1)).toArray⟩)) (s := s.drop (i + 1)) (by
            have h := blk_cell (blk_set HB3.out.s 0 (.string ⟨(s.drop (i + 1)).toArray⟩)) 0
            simpa using h)
          rw [e1, e2, List.length_drop]
          omega
      · gi_wp2
        refine bodyPost_ret (results_none rfl _ _ _) rfl ?_
        exact ⟨⟨_, rfl⟩, .inr ⟨_, ⟨splitB c (s.drop (i + 1)), by rw [hS.out, HSI.out]; simp⟩, hJx3⟩⟩
end Go.Proofs.YtbiajfkencamiaaGreatDoor.Core
/-! path.plain, strings.SplitSeq; the number that plain digits tell. -/
namespace Go.Proofs.YtbiajfkencamiaaGreatDoor.Core
open Go.RowKit Go.Shelf Go.Proofs.YtbiajfkencamiaaGreatDoorW.PrintWords Go.Proofs.YtbiajfkencamiaaGreatDoor.Rf Go.Proofs.YtbiajfkencamiaaGreatDoor
set_option linter.unusedVariables false
set_option linter.unusedSimpArgs false
def isDig (b : UInt8) : Bool := decide (48 ≤ b.toNat) && decide (b.toNat ≤ 57)
def digs : List UInt8 := [48, 49, 50, 51, 52, 53, 54, 55, 56, 57]
theorem digs_contains (b : UInt8) : digs.contains b = isDig b := by
  have h : ∀ n : Fin 256, digs.contains (UInt8.ofNat n.val) = isDig (UInt8.ofNat n.val) := by decide +kernel
  have := h ⟨b.toNat, b.toNat_lt⟩
  simpa using this
theorem dropWhile_nil {p : UInt8 → Bool} {l : List UInt8} : l.dropWhile p = [] ↔ ∀ x ∈ l, p x = true := by
  induction l with
  | nil => simp
  | cons a l ih =>
    rw [List.dropWhile_cons]
    split
    · rename_i h; rw [ih]; simp [h]
    · rename_i h; simp [h]
theorem trim_nil (l : List UInt8) : Lib.trimS l digs = [] ↔ l.all isDig = true := by
  unfold Lib.trimS Lib.trimLeftS Lib.trimRightS
  rw [dropWhile_nil, List.all_eq_true]
  simp only [digs_contains]
  constructor
  · intro h x hx
    by_cases hall : ∀ y ∈ l, isDig y = true
    · exact hall x hx
    · exfalso
      have hne : l.reverse.dropWhile isDig ≠ [] := fun he => hall fun y hy => dropWhile_nil.1 he y (by simpa using hy)
      have hh := List.head_dropWhile_not (p := isDig) (l := l.reverse) hne
      have hm : (l.reverse.dropWhile isDig).head hne ∈ (l.reverse.dropWhile isDig).reverse := by simp
      rw [h _ hm] at hh
      cases hh
  · intro h x hx
    rw [List.mem_reverse] at hx
    exact h x (by have := (List.dropWhile_sublist isDig).mem hx; simpa using this)
/-- Plain digits, at most m of them, no 0 ahead. -/
def plainB (m : Nat) (l : List UInt8) : Bool := !l.isEmpty && decide (l.length ≤ m) && l.all isDig && (decide (l = [48]) || decide (l.head? ≠ some 48))
theorem trim_any (t : List UInt8) (ht : t.length ≤ 10000000) (w : World) : Calls Tryz.prog 97 #[.string ⟨t.toArray⟩, .string ⟨#[48, 49, 50, 51, 52, 53, 54, 55, 56, 57]⟩] w fun e w' => e = .returned (.string ⟨(Lib.trimS t digs).toArray⟩) ∧ Below w.heap.size w w' := by
  have h := Any.strings_Trim_laid Tryz.lays160 (by kernel_rfl) ⟨t.toArray⟩ ⟨#[48, 49, 50, 51, 52, 53, 54, 55, 56, 57]⟩ w (by simp [ByteArray.size]; omega) (by decide) (ascii_of_all (by decide))
  exact h
theorem u8_ne (a : UInt8) : (((a.toNat : Int)) != 48) = decide (a ≠ 48) := by
  have h : ∀ n : Fin 256, ((((UInt8.ofNat n.val).toNat : Int)) != 48) = decide ((UInt8.ofNat n.val) ≠ 48) := by decide +kernel
  have := h ⟨a.toNat, a.toNat_lt⟩
  simpa using this
end Go.Proofs.YtbiajfkencamiaaGreatDoor.Core
/-! path.Read: a range over strings.SplitSeq. -/
namespace Go.Proofs.YtbiajfkencamiaaGreatDoor.Core
open Go.RowKit Go.Shelf Go.Proofs.YtbiajfkencamiaaGreatDoorW.PrintWords Go.Proofs.YtbiajfkencamiaaGreatDoor.Rf Go.Proofs.YtbiajfkencamiaaGreatDoor
set_option linter.unusedVariables false
set_option linter.unusedSimpArgs false
def splitW (w : World) (s sep : ByteArray) : World := ((w.alloc (.cells #[.string s] 9 (0, 0))).alloc (.cells #[.string sep] 9 (0, 0))).alloc (.cells #[.int .i64 0] 3 (0, 0))
def splitV (b0 : Nat) : Value := .func (.func 56) #[] #[.pointer (some ⟨b0 + 1, 0, none⟩), .pointer (some ⟨b0, 0, none⟩), .pointer (some ⟨b0 + 2, 0, none⟩)]
set_option maxHeartbeats 2000000 in
theorem split_in (s sep : ByteArray) (w : World) : Calls Tryz.prog 35 #[.string s, .string sep, .int .i64 0] w fun e w' => e = .returned (splitV w.heap.size) ∧ w' = splitW w s sep := by
  go_enter Tryz.func35, Tryz.ntmps35
  go_wp2_with fail
  go_ret
  exact ⟨rfl, rfl⟩
set_option maxHeartbeats 2000000 in
theorem split_any (s sep : ByteArray) (w : World) : Calls Tryz.prog 15 #[.string s, .string sep] w fun e w' => e = .returned (splitV w.heap.size) ∧ w' = splitW w s sep := by
  have HT := Lib.hid (split_in s sep w)
  go_enter Tryz.func15, Tryz.ntmps15
  go_wp2_with fail
  refine HT.out.mono ?_
  rintro _ w5 ⟨rfl, rfl⟩
  go_wp2_with fail
  go_ret
  exact ⟨rfl, rfl⟩
end Go.Proofs.YtbiajfkencamiaaGreatDoor.Core
/-! path.Read: the walk of the range. -/
namespace Go.Proofs.YtbiajfkencamiaaGreatDoor.Core
open Go.RowKit Go.Shelf Go.Proofs.YtbiajfkencamiaaGreatDoorW.PrintWords Go.Proofs.YtbiajfkencamiaaGreatDoor.Rf Go.Proofs.YtbiajfkencamiaaGreatDoor
set_option linter.unusedVariables false
set_option linter.unusedSimpArgs false
attribute [local go_sem] Oper.semAt_some
/-- The number that digits tell, behind acc. -/
def val (acc : Nat) (l : List UInt8) : Nat := l.foldl (fun n b => n * 10 + (b.toNat - 48)) acc
theorem decFrom_val : ∀ (l : List UInt8) (acc : Nat), l.all isDig = true → Lib.decFrom acc l = some (val acc l)
  | [], _, _ => rfl
  | b :: r, acc, h => by
    rw [List.all_cons, Bool.and_eq_true] at h
    have h1 := h.1
    unfold isDig at h1
    rw [Bool.and_eq_true, decide_eq_true_eq, decide_eq_true_eq] at h1
    have hd : Lib.digitVal b = some (b.toNat - 48) := by unfold Lib.digitVal; rw [if_pos h1]
    unfold Lib.decFrom
    rw [hd]
    exact decFrom_val r _ h.2
theorem atoi_val (x : List UInt8) (hne : x ≠ []) (h : x.all isDig = true) : Lib.atoi x = some (val 0 x : Int) := by
  cases x with
  | nil => exact absurd rfl hne
  | cons b r =>
    have hb : isDig b = true := by rw [List.all_cons, Bool.and_eq_true] at h; exact h.1
    have h45 : (b == 45) = false := by
      cases e : b == 45
      · rfl
      · rw [eq_of_beq e] at hb; exact absurd hb (by decide)
    have h43 : (b == 43) = false := by
      cases e : b == 43
      · rfl
      · rw [eq_of_beq e] at hb; exact absurd hb (by decide)
    have hd : Lib.decNat (b :: r) = some (val 0 (b :: r)) := by
      unfold Lib.decNat
      rw [if_neg (by simp)]
      exact decFrom_val _ _ h
    show (if (b == 45) = true then _ else if (b == 43) = true then _ else Option.map (fun m => ((m : Nat) : Int)) (Lib.decNat (b :: r))) = _
    rw [h45, h43, hd]
    rfl
def atoiV (x : List UInt8) : Int := (Lib.atoi x).getD 0
theorem Kp3.below {b0 : Nat} {W W' : World} (h : Below W.heap.size W W') (hb : b0 + 3 ≤ W.heap.size) : Kp3 b0 W W' := fun q _ h2 => h.block q (by omega)
theorem KeepsFrom.below {B : Nat} {W W' : World} (h : Below W.heap.size W W') : KeepsFrom B W W' := ⟨h.size, fun k o _ hk _ => blk_below hk h⟩
theorem load29 (w : World) (b : Nat) (u : Value) (h : Boxed w b 29 u) : (loadVar 29 ⟨b, 0, none⟩).run Tryz.prog w = .ok u w := by
  have h1 := h.cell
  have h2 := Tryz.underlying29
  simp [loadVar, loadCells, run_underlying h2, h1, Result.andThen]
end Go.Proofs.YtbiajfkencamiaaGreatDoor.Core
/-! The document's Read comes to the same. -/
namespace Go.Proofs.YtbiajfkencamiaaGreatDoor.Core
open Go.RowKit Go.Shelf Go.Proofs.YtbiajfkencamiaaGreatDoorW.PrintWords Go.Proofs.YtbiajfkencamiaaGreatDoorW.PrintMore Go.Proofs.YtbiajfkencamiaaGreatDoor.P1 Go.Proofs.YtbiajfkencamiaaGreatDoor
set_option linter.unusedVariables false
set_option linter.unusedSimpArgs false
abbrev bx (l : List UInt8) : ByteArray := ⟨l.toArray⟩
theorem bx_size (l : List UInt8) : (bx l).size = l.length := by simp [bx, ByteArray.size]
theorem bt_bx (l : List UInt8) (p : Nat) (h : p < l.length) : bt (bx l) (p : Int) = ((l[p]'h).toNat : Int) := by
  unfold bt
  have h2 : (p : Int).toNat < (bx l).size := by rw [bx_size]; simpa using h
  rw [dif_pos h2]
  simp [bx, ByteArray.getElem_eq_getElem_data]
theorem wr {n : Int} (h0 : -1000000000 ≤ n) (h1 : n ≤ 1000000000) : wrap64 n = n := by unfold wrap64; omega
theorem val_le : ∀ (l : List UInt8) (acc : Nat), l.all isDig = true → val acc l < (acc + 1) * 10 ^ l.length
  | [], acc, _ => by simp [val]
  | b :: r, acc, h => by
    rw [List.all_cons, Bool.and_eq_true] at h
    have h1 := h.1
    unfold isDig at h1
    rw [Bool.and_eq_true, decide_eq_true_eq, decide_eq_true_eq] at h1
    have ih := val_le r (acc * 10 + (b.toNat - 48)) h.2
    show val (acc * 10 + (b.toNat - 48)) r < _
    rw [List.length_cons, Nat.pow_succ]
    refine Nat.lt_of_lt_of_le ih ?_
    have : acc * 10 + (b.toNat - 48) + 1 ≤ (acc + 1) * 10 := by omega
    calc _ ≤ ((acc + 1) * 10) * 10 ^ r.length := Nat.mul_le_mul_right _ this
      _ = _ := by rw [Nat.mul_assoc, Nat.mul_comm 10]
end Go.Proofs.YtbiajfkencamiaaGreatDoor.Core
/-! haymowref05.Read: its walk. -/
namespace Go.Proofs.YtbiajfkencamiaaGreatDoor.Core
open Go.RowKit Go.Shelf Go.Proofs.YtbiajfkencamiaaGreatDoorW.PrintWords Go.Proofs.YtbiajfkencamiaaGreatDoorW.PrintMore Go.Proofs.YtbiajfkencamiaaGreatDoor.P1 Go.Proofs.YtbiajfkencamiaaGreatDoor
set_option linter.unusedVariables false
set_option linter.unusedSimpArgs false
/-- What Read answers of parts, behind numbers that have come. -/
def fin (vs : List Int) (ps : List (List UInt8)) : List Int × Int :=
  if ps.all (plainB 6) = true then (if 30 < vs.length + ps.length then ([], 3) else (vs ++ ps.map atoiV, 0)) else ([], 4)
end Go.Proofs.YtbiajfkencamiaaGreatDoor.Core
/-! What the functions of paths come to: one order of lists, and beginnings. -/
namespace Go.Proofs.YtbiajfkencamiaaGreatDoor.Core
open Go.RowKit Go.Proofs.YtbiajfkencamiaaGreatDoorW.PrintWords Go.Proofs.YtbiajfkencamiaaGreatDoorW.PrintMore Go.Proofs.YtbiajfkencamiaaGreatDoor.P1
set_option linter.unusedVariables false
set_option linter.unusedSimpArgs false
end Go.Proofs.YtbiajfkencamiaaGreatDoor.Core
/-! path.Compare, path.Under, path.Text: what they come to, where they are called. -/
namespace Go.Proofs.YtbiajfkencamiaaGreatDoor.Core
open Go.RowKit Go.Proofs.YtbiajfkencamiaaGreatDoorW.PrintWords Go.Proofs.YtbiajfkencamiaaGreatDoorW.PrintMore Go.Proofs.YtbiajfkencamiaaGreatDoor.P1
set_option linter.unusedVariables false
set_option linter.unusedSimpArgs false
theorem info9 : (Tryz.prog.info? 9).map (fun i => (i.zero, i.size, i.bytes)) = some (some (.string ByteArray.empty), 1, 16) := by kernel_rfl
end Go.Proofs.YtbiajfkencamiaaGreatDoor.Core
/-! awake: the chapter's example holds. -/
namespace Go.Proofs.YtbiajfkencamiaaGreatDoor.Core
open Go.RowKit Go.Proofs.YtbiajfkencamiaaGreatDoorW.PrintWords Go.Proofs.YtbiajfkencamiaaGreatDoorW.PrintMore Go.Proofs.YtbiajfkencamiaaGreatDoor.P1
set_option linter.unusedVariables false
set_option linter.unusedSimpArgs false
end Go.Proofs.YtbiajfkencamiaaGreatDoor.Core
/-! path.Read and haymowref05.Read, where they are called; the text of a path by the document. -/
namespace Go.Proofs.YtbiajfkencamiaaGreatDoor.Core
open Go.RowKit Go.Shelf Go.Proofs.YtbiajfkencamiaaGreatDoorW.PrintWords Go.Proofs.YtbiajfkencamiaaGreatDoorW.PrintMore Go.Proofs.YtbiajfkencamiaaGreatDoor.P1 Go.Proofs.YtbiajfkencamiaaGreatDoor
set_option linter.unusedVariables false
set_option linter.unusedSimpArgs false
/-- The table that strconv reads is as it was laid. -/
def Tab (w : World) : Prop := Lib.TabIs Tryz.prog w "internal/strconv.uint64pow10" .u64 Lib.pow10Tab
end Go.Proofs.YtbiajfkencamiaaGreatDoor.Core
/-! The text of a path by the program; what the laws' other callees come to. -/
namespace Go.Proofs.YtbiajfkencamiaaGreatDoor.Core
open Go.RowKit Go.Shelf Go.Proofs.YtbiajfkencamiaaGreatDoorW.PrintWords Go.Proofs.YtbiajfkencamiaaGreatDoorW.PrintMore Go.Proofs.YtbiajfkencamiaaGreatDoor.P1 Go.Proofs.YtbiajfkencamiaaGreatDoor
set_option linter.unusedVariables false
set_option linter.unusedSimpArgs false
theorem Tab.below {w w' : World} (h : Tab w) (hb : Below w.heap.size w w') : Tab w' := TabIs_below (g := 5) (by kernel_rfl) h hb
end Go.Proofs.YtbiajfkencamiaaGreatDoor.Core
/-! What is told is read as it was. -/
namespace Go.Proofs.YtbiajfkencamiaaGreatDoor.Core
open Go.RowKit Go.Shelf Go.Proofs.YtbiajfkencamiaaGreatDoorW.PrintWords Go.Proofs.YtbiajfkencamiaaGreatDoorW.PrintMore Go.Proofs.YtbiajfkencamiaaGreatDoor.P1 Go.Proofs.YtbiajfkencamiaaGreatDoor
set_option linter.unusedVariables false
set_option linter.unusedSimpArgs false
end Go.Proofs.YtbiajfkencamiaaGreatDoor.Core
