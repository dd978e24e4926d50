/- The reader: Read. -/
import Derived.Test.YthnefjkpjhfkgaaC12
namespace Go.Proofs.Ythnefjkpjhfkgaa.Core
open Go.RowKit Go.Proofs.YthnefjkpjhfkgaaW.PrintWords Go.Proofs.YthnefjkpjhfkgaaW.PrintMore Go.Proofs.Ythnefjkpjhfkgaa.PScriptWrites
set_option linter.unusedVariables false
set_option linter.unusedSimpArgs false
/-- The deferred closure of Read behind a return: nothing. -/
theorem readD_ret (b c : Nat) (w : World) : CallsD Try.prog 20 #[.pointer (some ⟨b, 0, none⟩), .pointer (some ⟨c, 0, none⟩)] .returning w fun e u' w' => u' = .returning ∧ e = .returned (.tuple #[]) ∧ w' = w := by
  refine callsD_of_wpS Try.func20 rfl fun c₀ cs hu => ?_
  apply wpS_seq; apply wpS_region
  simp [wpOpsS, go_sem, recoverD, hu, Try.ntmps20, Exit.thenS]
  refine wpS_of_wp ?_
  have hi : Try.prog.underlying 20 = some (.interface (Try.prog.methodsAt 20)) := by kernel_rfl
  have hne := fun w => run_neq_nil_nil (P := Try.prog) (w := w) 20 hi
  have hg : ∀ w, (eqGuard BinOp.neq 20 (Operand.tmp 4) (Operand.const Value.nilIface) Value.nilIface Value.nilIface).run Try.prog w = .ok () w := fun w => rfl
  change Code.wp _ _ _ { tmps := #[.pointer (some ⟨b, 0, none⟩), .pointer (some ⟨c, 0, none⟩), .nilIface, .nilIface, undef, undef, undef, undef], defers := [] } _
  go_wp2_with fail
  exact ⟨rfl, _, by rw [← hu], _, by simp [results, Try.results20, go_sem], rfl, rfl, rfl⟩

theorem readD_panic (b c : Nat) (e : Int) (old : List PanicEntry) (w : World) (vb vc : Value) (h1 : w.cell? ⟨b, 0, none⟩ = some vb) (h2 : w.cell? ⟨c, 0, none⟩ = some vc) (f1 : w.frozen? ⟨b, 0, none⟩ = false) (f2 : w.frozen? ⟨c, 0, none⟩ = false) (hbc : b ≠ c) :
    CallsD Try.prog 20 #[.pointer (some ⟨b, 0, none⟩), .pointer (some ⟨c, 0, none⟩)] (.panicking (chain e)) w fun x u' w' => u' = .panicking [{ v := wrongV e, recovered := true }] ∧ x = .returned (.tuple #[]) ∧
      w' = ((w.alloc (.cells #[.int .i64 e] 55)).setCell ⟨b, 0, none⟩ (.slice none 0 0)).setCell ⟨c, 0, none⟩ (.int .i64 e) := by
  refine callsD_of_wpS Try.func20 rfl fun c₀ cs hu => ?_
  apply wpS_seq; apply wpS_region
  simp [wpOpsS, go_sem, recoverD, hu, Try.ntmps20, Exit.thenS, chain]
  refine wpS_of_wp ?_
  unfold wrongV
  have hi : Try.prog.underlying 20 = some (.interface (Try.prog.methodsAt 20)) := by kernel_rfl
  have hne := fun (v : Value) w => run_neq_held_nil (P := Try.prog) (w := w) 20 55 v hi
  have hg : ∀ (v : Value) w, (eqGuard BinOp.neq 20 (Operand.tmp 4) (Operand.const Value.nilIface) (.iface 55 v) Value.nilIface).run Try.prog w = .ok () w := fun v w => rfl
  change Code.wp _ _ _ { tmps := #[.pointer (some ⟨b, 0, none⟩), .pointer (some ⟨c, 0, none⟩), .iface 55 (.agg #[.int .i64 e]), .iface 55 (.agg #[.int .i64 e]), undef, undef, undef, undef], defers := [] } _
  go_wp2_with fail
  refine (taken_any e _).mono ?_
  rintro x w' ⟨rfl, rfl⟩
  have b1 := World.block_lt_of_cell? _ _ h1
  have b2 := World.block_lt_of_cell? _ _ h2
  have g1 : (w.alloc (.cells #[.int .i64 e] 55)).cell? ⟨b, 0, none⟩ = some vb := by rw [World.cell?_alloc_past _ _ _ b1]; exact h1
  have g2 : (w.alloc (.cells #[.int .i64 e] 55)).cell? ⟨c, 0, none⟩ = some vc := by rw [World.cell?_alloc_past _ _ _ b2]; exact h2
  have g3 : (w.alloc (.cells #[.int .i64 e] 55)).frozen? ⟨b, 0, none⟩ = false := by rw [World.frozen?_alloc_old (h := by simp at b1 ⊢; omega)]; exact f1
  have g4 : (w.alloc (.cells #[.int .i64 e] 55)).frozen? ⟨c, 0, none⟩ = false := by rw [World.frozen?_alloc_old (h := by simp at b2 ⊢; omega)]; exact f2
  have g5 : ((w.alloc (.cells #[.int .i64 e] 55)).setCell ⟨b, 0, none⟩ (.slice none 0 0)).cell? ⟨c, 0, none⟩ = some vc := by rw [World.cell?_setCell_far _ _ _ _ (by simpa using hbc)]; exact g2
  generalize hw1 : w.alloc (.cells #[.int .i64 e] 55) = w1 at *
  have HW := Lib.hid hw1
  clear hw1 h1 h2 f1 f2 hg hne b1 b2
  go_wp2_with fail
  exact ⟨rfl, _, rfl, _, by simp [results, Try.results20, go_sem], rfl, rfl, by rw [HW.out]⟩
/-- Acts that are read off, and what is left. -/
inductive Steps (b : List Int) : List S47 → List Int → Prop
  | nil : Steps b [] b
  | snoc {l : List S47} {rs r : List Int} {x : S47} : Steps b l rs → dec rs = .ok (x, r) → Steps b (l ++ [x]) r
theorem dec_less {rs r : List Int} {x : S47} (h : dec rs = .ok (x, r)) : r.length < rs.length := by
  cases rs with
  | nil => simp [dec] at h
  | cons k rs =>
    simp only [dec] at h
    repeat' (split at h)
    all_goals (try (cases h; done))
    all_goals (simp only [Except.ok.injEq, Prod.mk.injEq] at h; obtain ⟨_, rfl⟩ := h)
    all_goals (first | (simp only [List.length_cons]; omega) | skip)
    all_goals
      have hq := congrArg List.length (by assumption : List.drop _ _ = _ :: _)
      simp only [List.length_drop, List.length_cons] at hq ⊢
      omega
/-- How Read stands: the result variable holds vo, the acts so far lie in v. -/
structure Rv (w W : World) (vo v : Value) (l : List S47) (rs : List Int) : Prop where
  row : Kd.N k47 47 W w.heap.size (fun k => w.heap.size + 3 ≤ k) v l
  rd : Rd w W (w.heap.size + 2) rs
  out : W.heap[w.heap.size]? = some (.cells #[vo] 28 (0, 0))
  err : W.heap[w.heap.size + 1]? = some (.cells #[.int .i64 0] 25 (0, 0))
theorem Rv.step {w W W1 : World} {vo v : Value} {l : List S47} {rs r : List Int} (h : Rv w W vo v l rs) (hr : Rd w W1 (w.heap.size + 2) r) (hg : W.grownBy W1 (some (w.heap.size + 2))) : Rv w W1 vo v l r :=
  ⟨Kd.N_grown h.row hg (fun k hk e => by injection e with e; omega), hr, blk_grown h.out hg (by intro e; injection e with e; omega), blk_grown h.err hg (by intro e; injection e with e; omega)⟩
end Go.Proofs.Ythnefjkpjhfkgaa.Core
