/- A range over a function whose iterator keeps its state in one cell that it has captured. -/
import Derived.RangeFuncNested
import Derived.RangeFuncBound
import Derived.RangeFuncCalls
import Derived.RangeFuncLeaves
namespace Go.Proofs.YtcchoeomeklgmaaDoor.Rf
open Go.RowKit
set_option linter.unusedVariables false
set_option linter.unusedSimpArgs false
variable {F : Fence} {n : Nat} {P : Program}
/-- The steps that an invariant must abide: the iterator's own block bc may turn, and walks that are new. -/
def OwnC {β : Type} (bc B : Nat) (I : β → World → Prop) : Prop :=
  ∀ s W W' row, I s W → W.grownBy W' row → (∀ r, row = some r → r = bc ∨ (B ≤ r ∧ ∃ o : Obj, W.heap[r]? = some o ∧ o.isCells = false)) → I s W'
theorem OwnC.putObj {β : Type} {bc B : Nat} {I : β → World → Prop} (h : OwnC bc B I) {s : β} {W : World} {l : Nat} {o : Obj} (o' : Obj) (hs : I s W) (hB : B ≤ l) (hl : W.heap[l]? = some o) (ho : o.isCells = false) : I s (W.putObj l o') :=
  h s W _ (some l) hs (grownBy_putObj' W l o') (fun r e => by cases e; exact .inr ⟨hB, o, hl, ho⟩)
theorem OwnC.alloc {β : Type} {bc B : Nat} {I : β → World → Prop} (h : OwnC bc B I) {s : β} {W : World} (o : Obj) (hs : I s W) : I s (W.alloc o) :=
  h s W _ none hs (World.grownBy_alloc W o none) (fun r e => by cases e)
theorem OwnC.and {β : Type} {bc B : Nat} {I I' : β → World → Prop} (h : OwnC bc B I) (h' : OwnC bc B I') : OwnC bc B (fun s W => I s W ∧ I' s W) := fun s W W' row hs hg hr => ⟨h s W W' row hs.1 hg hr, h' s W W' row hs.2 hg hr⟩
theorem ownC_pure {β : Type} (bc B : Nat) (p : β → Prop) : OwnC bc B (fun s (_ : World) => p s) := fun _ _ _ _ hs _ _ => hs
theorem ownC_below {β : Type} {n₀ bc B : Nat} {w : World} (hn : n₀ ≤ w.heap.size) (hbc : n₀ ≤ bc) (hB : n₀ ≤ B) : OwnC bc B (fun (_ : β) W => Below n₀ w W) :=
  fun _ X Y row hs hg hr => hs.grown hg (Nat.le_trans hn hs.size) (fun k e => by rcases hr k e with h | h <;> omega)
theorem ownC_block {β : Type} {bc B b : Nat} (o : β → Obj) (hc : ∀ s, (o s).isCells = true) (hne : b ≠ bc) : OwnC bc B (fun s W => W.heap[b]? = some (o s)) :=
  fun s X Y row hs hg hr => (hg.block b (Array.getElem?_eq_some_iff.1 hs).1 (fun e => by
    rcases hr b e.symm with h | ⟨_, o', h1, h2⟩
    · exact hne h
    · rw [hs] at h1; cases h1; rw [hc s] at h2; cases h2)).trans hs
/-- .. as the iterator has it: walks alone. -/
def OwnC' {β : Type} (bc B : Nat) (I : β → World → Prop) : Prop :=
  ∀ s W W' row, I s W → W.grownBy W' row → (∀ r, row = some r → r = bc ∨ (B ≤ r ∧ ∃ o : Obj, W.heap[r]? = some o ∧ o.isWalk = true)) → I s W'
theorem OwnC.weak {β : Type} {bc B B' : Nat} {I : β → World → Prop} (h : OwnC bc B I) (hB : B ≤ B') : OwnC' bc B' I := fun s W W' row hs hg hr =>
  h s W W' row hs hg (fun r e => by
    rcases hr r e with h | ⟨h1, o, h2, h3⟩
    · exact .inl h
    · exact .inr ⟨by omega, o, h2, Obj.not_cells_of_walk h3⟩)
/-- What an iterator gives that keeps its state in the cell bc. -/
def SeqC {α : Type} (F : Fence) (n : Nat) (P : Program) (g : Nat) (lb : Array Value) (encs : α → Array Value) (bc : Nat) (Kp : World → World → Prop) (S Sp : List α → Prop) (N : Nat) (w : World) : Prop :=
  ∀ (l : Nat) (J Jx : List α → World → Prop) (W : World), Below w.heap.size w W → OwnC' bc W.heap.size J → OwnC' bc W.heap.size Jx →
    (∀ pre x W1, J pre W1 → pre.length < N → YieldAt F (n - 1) P l (encs x) W1 fun e W' =>
      (e = .returned (.bool true) ∧ J (pre ++ [x]) W' ∧ Kp W1 W') ∨ (e = .returned (.bool false) ∧ Jx (pre ++ [x]) W')) →
    J [] W →
    CallsIn F n P g (#[.func (.yield l) #[] #[]] ++ lb) W fun e W' => (∃ v, e = .returned v) ∧ ((∃ xs, S xs ∧ J xs W') ∨ (∃ pre, Sp pre ∧ Jx pre W'))
theorem keepsC {W W' : World} {row : Option Nat} {bc B k : Nat} {o : Obj} (hg : W.grownBy W' row) (hrow : ∀ r, row = some r → r = bc ∨ (B ≤ r ∧ ∃ o : Obj, W.heap[r]? = some o ∧ o.isWalk = true)) (hk : W.heap[k]? = some o) (hw : o.isWalk = false) (hne : k ≠ bc) : W'.heap[k]? = some o :=
  (hg.block k (Array.getElem?_eq_some_iff.1 hk).1 (fun e => by
    rcases hrow k e.symm with h | ⟨_, o', h1, h2⟩
    · exact hne h
    · rw [hk] at h1; cases h1; rw [hw] at h2; cases h2)).trans hk
/-- The statement 'for .. := range g { .. }' over such an iterator, outermost. -/
theorem rangeCell {α : Type} {g : Operand} {ps : Array Tmp} {assign body : Code} {Q : Exit → Act → World → Prop} {a : Act} {w : World}
    (hro : F.round = none) (h1 : 1 ≤ n) {gf : Nat} {lb : Array Value} (hg : a.eval g = .func (.func gf) #[] lb) (hFg : F.fn gf) (eg : ∀ args w, (callFunc gf args).run P w = .ok (.enter gf args) w)
    {encs : α → Array Value} {bc : Nat} (hbc : bc < w.heap.size) {Kp : World → World → Prop} {S Sp : List α → Prop} {N : Nat} {w0 : World} (hseq : SeqC F (n - 1) P gf lb encs bc Kp S Sp N w0)
    (hKt : ∀ {A B C : World}, Kp A B → Kp B C → Kp A C) (hKb : ∀ (W : World) (l : Nat) (o o' : Obj), w.heap.size ≤ l → W.heap[l]? = some o → Kp W (W.putObj l o')) (hb0 : Below w0.heap.size w0 w) (hps : ∀ x, (encs x).size = ps.size)
    (I : List α → World → Prop) (Ix : Code → List α → World → Prop) (hI : OwnC bc w.heap.size I) (hIx : ∀ c, OwnC bc w.heap.size (Ix c)) (h0 : I [] w) (a1 : α → Act)
    (hassign : ∀ (l : Nat) (x : α) (W : World) (K : Act → World → Prop), K (a1 x) W →
      assign.wpIn (F.inRound l) (n - 1 - 1) P (Exit.then K (fun _ _ _ => False)) { tmps := (ps.zip (encs x)).foldl (fun t (p, v) => t.setIfInBounds p v) a.tmps, defers := [] } W)
    (hbody : ∀ (l : Nat) (pre : List α) (x : α) (W : World), I pre W → pre.length < N → body.wpIn (F.inRound l) (n - 1 - 1) P (ownPostG w.heap.size Kp I Ix (pre ++ [x]) W) (a1 x) W)
    (hdone : ∀ (D : Nat) (xs : List α) (W : World), w.heap.size ≤ D → S xs → I xs W → W.heap[D]? = some (.deferred (some [])) → Q .normal { a with defers := { target := .collected D, args := #[] } :: a.defers } W)
    (hstop : ∀ (D : Nat) (c : Code) (pre : List α) (W : World), w.heap.size ≤ D → Sp pre → Ix c pre W → W.heap[D]? = some (.deferred (some [])) → c.wpIn F n P Q { a with defers := { target := .collected D, args := #[] } :: a.defers } W) :
    (Code.rangeFunc g ps assign body).wpIn F n P Q a w := by
  refine wpIn_rangeFunc fun fn hfn => ?_
  rw [hro]
  obtain ⟨L, hL⟩ : ∃ L : LoopState → Option Code → Loop, L = fun st pe => { state := st, pending := pe, fn, tmps := a.tmps, params := ps, assign, body, defers := w.heap.size } := ⟨_, rfl⟩
  obtain ⟨W1, hW1⟩ : ∃ W1, (w.alloc (.deferred (some []))).alloc (.loop (L .ready none)) = W1 := ⟨_, rfl⟩
  obtain ⟨m, hm⟩ : ∃ m, m = w.heap.size := ⟨_, rfl⟩
  have hs1 : W1.heap.size = m + 2 := by rw [← hW1, hm]; simp
  have hl1 : W1.heap[m + 1]? = some (.loop (L .ready none)) := by
    rw [← hW1, hm]
    have h := World.alloc_heap_new (w.alloc (.deferred (some []))) (.loop (L .ready none))
    rwa [World.size_alloc] at h
  have hd1 : W1.heap[m]? = some (.deferred (some [])) := by
    rw [← hW1, hm]
    exact (Below.heap_alloc _ _ _ (by simp)).trans (World.alloc_heap_new w _)
  have hI1 : I [] W1 := by rw [← hW1]; exact hI.alloc _ (hI.alloc _ h0)
  have hb1 : Below w0.heap.size w0 W1 := by
    rw [← hW1]
    exact hb0.trans ((((Below.refl _ w).alloc (Nat.le_refl _) _).alloc (by simp) _).mono hb0.size)
  refine ⟨m + 1, [{ target := .collected m, args := #[] }], W1, { target := .fn (.func gf) lb, args := #[.func (.yield (m + 1)) #[] #[]] }, W1, gf, #[.func (.yield (m + 1)) #[] #[]] ++ lb, W1, ?_, ?_, ?_, ?_, fun _ => h1, ?_⟩
  · rw [← hW1, hL, hm]
    exact run_enterLoop_outer _ _ _ _ _
  · simp only [resolve, hg]
    simp [go_sem]
  · intro f' hf'
    simp [Target.leads] at hf'
    subst hf'
    exact hFg
  · simp [invoke, go_sem, eg]
  have hall := hseq (m + 1) (fun pre W => I pre W ∧ W.heap[m + 1]? = some (.loop (L .ready none)) ∧ W.heap[m]? = some (.deferred (some [])))
    (fun pre W => ∃ c, Ix c pre W ∧ W.heap[m + 1]? = some (.loop (L .done (some c))) ∧ W.heap[m]? = some (.deferred (some []))) W1 hb1
    (fun s A B row hs hg' hr => ⟨hI.weak (B' := W1.heap.size) (by rw [← hm, hs1]; omega) s A B row hs.1 hg' hr, keepsC hg' hr hs.2.1 rfl (by omega), keepsC hg' hr hs.2.2 rfl (by omega)⟩)
    (fun s A B row hs hg' hr => by
      obtain ⟨c, hc, hl, hd⟩ := hs
      exact ⟨c, (hIx c).weak (B' := W1.heap.size) (by rw [← hm, hs1]; omega) s A B row hc hg' hr, keepsC hg' hr hl rfl (by omega), keepsC hg' hr hd rfl (by omega)⟩)
    ?round ⟨hI1, hl1, hd1⟩
  case round =>
    rintro pre x W ⟨hi, hl, hd⟩ hlen
    have hlt : m + 1 < W.heap.size := (Array.getElem?_eq_some_iff.1 hl).1
    have hy := run_yield (P := P) (args := encs x) hl (by rw [hL]; exact hps x)
    rw [hL] at hy
    refine ⟨fn, _, assign, body, hy, roundIn_of_wpIn hfn (hassign _ x W _ ⟨_, run_beginRound hl (by rw [hL]), ?_⟩)⟩
    obtain ⟨X, hX⟩ : ∃ X, W.putObj (m + 1) (.loop { L .ready none with state := .busy }) = X := ⟨_, rfl⟩
    rw [hX]
    have hlX : X.heap[m + 1]? = some (.loop { L .ready none with state := .busy }) := by rw [← hX]; exact World.putObj_heap_same hlt
    have hdX : X.heap[m]? = some (.deferred (some [])) := by rw [← hX]; exact (World.putObj_heap_other (by omega)).trans hd
    have hkX : Kp W X := by rw [← hX]; exact hKb _ _ _ _ (by omega) hl
    have hiX : I pre X := by rw [← hX]; exact hI.putObj _ hi (by omega) hl rfl
    have ends : ∀ (jump : Option Code) (Y : World), KeepsFrom w.heap.size X Y → ∃ Z, Z = Y.putObj (m + 1) (.loop (L (if jump.isNone then .ready else .done) jump)) ∧
        (Instr.endRound (m + 1) jump).run P Y = .ok (.bool jump.isNone) Z ∧ Y.heap[m + 1]? = some (.loop { L .ready none with state := .busy }) ∧ Z.heap[m + 1]? = some (.loop (L (if jump.isNone then .ready else .done) jump)) ∧ Z.heap[m]? = some (.deferred (some [])) := fun jump Y hk => by
      have hlY := hk.same _ _ (by omega) hlX rfl
      have hdY := hk.same _ _ (by omega) hdX rfl
      have hr := run_endRound (P := P) jump hlY
      rw [hL] at hr hlY ⊢
      exact ⟨_, rfl, hr, hlY, World.putObj_heap_same (Array.getElem?_eq_some_iff.1 hlY).1, (World.putObj_heap_other (by omega)).trans hdY⟩
    refine wpIn_mono (hbody _ pre x X hiX hlen) ?_
    rintro e a3 Y hp
    cases e with
    | normal =>
      obtain ⟨hk, hkp, hiY⟩ := hp
      obtain ⟨Z, rfl, hr, hlY, hlZ, hdZ⟩ := ends none Y hk
      exact ⟨_, _, hr, .inl ⟨rfl, ⟨hI.putObj _ hiY (by omega) hlY rfl, hlZ, hdZ⟩, hKt (hKt hkX hkp) (hKb _ _ _ _ (by omega) hlY)⟩⟩
    | ret =>
      obtain ⟨hk, hiY⟩ := hp
      obtain ⟨Z, rfl, hr, hlY, hlZ, hdZ⟩ := ends (some .ret) Y hk
      exact ⟨_, _, hr, .inr ⟨rfl, .ret, (hIx _).putObj _ hiY (by omega) hlY rfl, hlZ, hdZ⟩⟩
    | exit id =>
      obtain ⟨hk, hiY⟩ := hp
      obtain ⟨Z, rfl, hr, hlY, hlZ, hdZ⟩ := ends (some (.exit id)) Y hk
      exact ⟨_, _, hr, .inr ⟨rfl, .exit id, (hIx _).putObj _ hiY (by omega) hlY rfl, hlZ, hdZ⟩⟩
    | goto t =>
      obtain ⟨hk, hiY⟩ := hp
      obtain ⟨Z, rfl, hr, hlY, hlZ, hdZ⟩ := ends (some (.goto t)) Y hk
      exact ⟨_, _, hr, .inr ⟨rfl, .goto t, (hIx _).putObj _ hiY (by omega) hlY rfl, hlZ, hdZ⟩⟩
    | panic ch => exact hp.elim
    | outgrown => exact hp.elim
  refine hall.mono ?_
  rintro e W2 ⟨⟨v, rfl⟩, (⟨xs, hS, hi, hl, hd⟩ | ⟨pre, hSp, c, hi, hl, hd⟩)⟩
  · exact ⟨none, _, by have h := run_endLoop (P := P) hl (by rw [hL]; simp); rw [hL] at h; exact h, hdone m xs _ (by omega) hS (hI.putObj _ hi (by omega) hl rfl) ((World.putObj_heap_other (by omega)).trans hd)⟩
  · exact ⟨some c, _, by have h := run_endLoop (P := P) hl (by rw [hL]; simp); rw [hL] at h; exact h, hstop m c pre _ (by omega) hSp ((hIx c).putObj _ hi (by omega) hl rfl) ((World.putObj_heap_other (by omega)).trans hd)⟩
end Go.Proofs.YtcchoeomeklgmaaDoor.Rf
