/- script.need, small, taken and the two deferred closures: what each call comes to, its panics told. -/
import Derived.Test.YthnefjkpjhfkgaaPScriptWritesx1
import Derived.Test.YthnefjkpjhfkgaaPScriptWritesx2
import Derived.Lib.Hide
import Derived.Recover
import Derived.WalkLawsBesides
import Derived.Deep.RegionHeld
import Derived.WalkSpells
namespace Go.Proofs.Ythnefjkpjhfkgaa.Core
open Go.RowKit Go.Proofs.YthnefjkpjhfkgaaW.PrintWords Go.Proofs.Ythnefjkpjhfkgaa.PScriptWrites
set_option linter.unusedVariables false
set_option linter.unusedSimpArgs false

def wrongV (e : Int) : Value := .iface 55 (.agg #[.int .i64 e])
def chain (e : Int) : List PanicEntry := [{ v := wrongV e, recovered := false }]

theorem need_ok (e : Int) (w : World) : Calls Try.prog 22 #[.bool true, .int .i64 e] w fun x w' => x = .returned (.tuple #[]) ∧ w = w' := by
  go_enter Try.func22, Try.ntmps22
  go_wp2
  go_end0
  exact ⟨rfl, rfl⟩
theorem run_panic (t : TypeId) (v : Value) (w : World) : (Instr.panic (.iface t v)).run Try.prog w = .halt (.panic (.iface t v)) w := rfl
theorem need_no (e : Int) (w : World) : Calls Try.prog 22 #[.bool false, .int .i64 e] w fun x w' => x = .panicked (chain e) ∧ w = w' := by
  have hp := run_panic
  go_enter Try.func22, Try.ntmps22
  go_wp2
  exact ⟨rfl, rfl, rfl⟩

set_option maxHeartbeats 400000 in
theorem small_ok (k : Nat) (P0 : Nat → Prop) (u : Value) (l : List Int) (n many : Int) (r : List Int) (w0 w : World) (hB : Below w0.heap.size w0 w) (ho : Kd.R (Kd.int .u8) 5 w w0.heap.size P0 u l) (hn : 0 ≤ n) (hm : many = 1 ∧ n < 256 ∨ many = 2 ∧ n < 65536)
    (h : script_put.f k l n many = some r) :
    Calls Try.prog 24 #[u, .int .i64 n, .int .i64 many] w fun e w' => ∃ v, e = .returned v ∧ Kd.R (Kd.int .u8) 5 w' w0.heap.size (fun k => P0 k ∨ w.heap.size ≤ k) v r ∧ Below w0.heap.size w0 w' ∧ Kept w w' P0 := by
  have H := Lib.hid (script_put.calls k P0 u l n many r w0 w hB ho h)
  clear ho hB h
  rcases hm with ⟨rfl, hlt⟩ | ⟨rfl, hlt⟩
  all_goals
    go_enter Try.func24, Try.ntmps24
    go_wp2_with fail
    refine (need_ok _ _).mono ?_
    rintro e w' ⟨rfl, rfl⟩
    go_wp2_with fail
    refine H.out.mono ?_
    rintro e w' ⟨v, rfl, hv⟩
    have HV := Lib.hid hv
    clear hv
    go_wp2
    go_ret
    exact ⟨_, rfl, HV.out⟩

set_option maxHeartbeats 400000 in
theorem small_no (u : Value) (n many : Int) (w : World) (hb : -9223372036854775808 ≤ n) (hm : many = 1 ∧ (n < 0 ∨ 256 ≤ n) ∨ many = 2 ∧ (n < 0 ∨ 65536 ≤ n)) :
    Calls Try.prog 24 #[u, .int .i64 n, .int .i64 many] w fun e w' => e = .panicked (chain 6) ∧ w = w' := by
  rcases hm with ⟨rfl, hlt | hlt⟩ | ⟨rfl, hlt | hlt⟩
  all_goals
    go_enter Try.func24, Try.ntmps24
    have hd1 : 256 ≤ n → decide (n < 256) = false := fun h => by simp; omega
    have hd2 : 65536 ≤ n → decide (n < 65536) = false := fun h => by simp; omega
    try (have hd := hd1 (by assumption))
    try (have hd := hd2 (by assumption))
    clear hd1 hd2
    go_wp2_with fail
    refine (need_no _ _).mono ?_
    rintro e w' ⟨rfl, rfl⟩
    go_wp2_with fail
    exact ⟨rfl, rfl, rfl⟩

theorem taken_any (e : Int) (w : World) : Calls Try.prog 18 #[wrongV e] w fun x w' => x = .returned (.int .i64 e) ∧ w' = w.alloc (.cells #[.int .i64 e] 55) := by
  have hta : ∀ (v : Value) (W : World), (Instr.typeAssert (.iface 55 v) 20 55 true).run Try.prog W = .ok (.tuple #[v, .bool true]) W := fun v W => by rfl
  unfold wrongV
  go_enter Try.func18, Try.ntmps18
  go_wp2
  go_ret
  exact ⟨rfl, rfl⟩

/-- The deferred closure of Write behind a return: nothing. -/
theorem writeD_ret (b c : Nat) (w : World) : CallsD Try.prog 17 #[.pointer (some ⟨b, 0, none⟩), .pointer (some ⟨c, 0, none⟩)] .returning w fun e u' w' => u' = .returning ∧ e = .returned (.tuple #[]) ∧ w' = w := by
  refine callsD_of_wpS Try.func17 rfl fun c₀ cs hu => ?_
  apply wpS_seq; apply wpS_region
  simp [wpOpsS, go_sem, recoverD, hu, Try.ntmps17, Exit.thenS]
  refine wpS_of_wp ?_
  have hi : Try.prog.underlying 20 = some (.interface (Try.prog.methodsAt 20)) := by kernel_rfl
  have hne := fun w => run_neq_nil_nil (P := Try.prog) (w := w) 20 hi
  have hg : ∀ w, (eqGuard BinOp.neq 20 (Operand.tmp 4) (Operand.const Value.nilIface) Value.nilIface Value.nilIface).run Try.prog w = .ok () w := fun w => rfl
  change Code.wp _ _ _ { tmps := #[.pointer (some ⟨b, 0, none⟩), .pointer (some ⟨c, 0, none⟩), .nilIface, .nilIface, undef, undef, undef, undef], defers := [] } _
  go_wp2_with fail
  exact ⟨rfl, _, by rw [← hu], _, by simp [results, Try.results17, go_sem], rfl, rfl, rfl⟩

theorem writeD_panic (b c : Nat) (e : Int) (old : List PanicEntry) (w : World) (vb vc : Value) (h1 : w.cell? ⟨b, 0, none⟩ = some vb) (h2 : w.cell? ⟨c, 0, none⟩ = some vc) (f1 : w.frozen? ⟨b, 0, none⟩ = false) (f2 : w.frozen? ⟨c, 0, none⟩ = false) (hbc : b ≠ c) :
    CallsD Try.prog 17 #[.pointer (some ⟨b, 0, none⟩), .pointer (some ⟨c, 0, none⟩)] (.panicking (chain e)) w fun x u' w' => u' = .panicking [{ v := wrongV e, recovered := true }] ∧ x = .returned (.tuple #[]) ∧
      w' = ((w.alloc (.cells #[.int .i64 e] 55)).setCell ⟨b, 0, none⟩ (.slice none 0 0)).setCell ⟨c, 0, none⟩ (.int .i64 e) := by
  refine callsD_of_wpS Try.func17 rfl fun c₀ cs hu => ?_
  apply wpS_seq; apply wpS_region
  simp [wpOpsS, go_sem, recoverD, hu, Try.ntmps17, Exit.thenS, chain]
  refine wpS_of_wp ?_
  unfold wrongV
  have hi : Try.prog.underlying 20 = some (.interface (Try.prog.methodsAt 20)) := by kernel_rfl
  have hne := fun (v : Value) w => run_neq_held_nil (P := Try.prog) (w := w) 20 55 v hi
  have hg : ∀ (v : Value) w, (eqGuard BinOp.neq 20 (Operand.tmp 4) (Operand.const Value.nilIface) (.iface 55 v) Value.nilIface).run Try.prog w = .ok () w := fun v w => rfl
  change Code.wp _ _ _ { tmps := #[.pointer (some ⟨b, 0, none⟩), .pointer (some ⟨c, 0, none⟩), .iface 55 (.agg #[.int .i64 e]), .iface 55 (.agg #[.int .i64 e]), undef, undef, undef, undef], defers := [] } _
  go_wp2_with fail
  refine (taken_any e _).mono ?_
  rintro x w' ⟨rfl, rfl⟩
  have b1 := World.block_lt_of_cell? _ _ h1
  have b2 := World.block_lt_of_cell? _ _ h2
  have g1 : (w.alloc (.cells #[.int .i64 e] 55)).cell? ⟨b, 0, none⟩ = some vb := by rw [World.cell?_alloc_past _ _ _ b1]; exact h1
  have g2 : (w.alloc (.cells #[.int .i64 e] 55)).cell? ⟨c, 0, none⟩ = some vc := by rw [World.cell?_alloc_past _ _ _ b2]; exact h2
  have g3 : (w.alloc (.cells #[.int .i64 e] 55)).frozen? ⟨b, 0, none⟩ = false := by rw [World.frozen?_alloc_old (h := by simp at b1 ⊢; omega)]; exact f1
  have g4 : (w.alloc (.cells #[.int .i64 e] 55)).frozen? ⟨c, 0, none⟩ = false := by rw [World.frozen?_alloc_old (h := by simp at b2 ⊢; omega)]; exact f2
  have g5 : ((w.alloc (.cells #[.int .i64 e] 55)).setCell ⟨b, 0, none⟩ (.slice none 0 0)).cell? ⟨c, 0, none⟩ = some vc := by rw [World.cell?_setCell_far _ _ _ _ (by simpa using hbc)]; exact g2
  generalize hw1 : w.alloc (.cells #[.int .i64 e] 55) = w1 at *
  have HW := Lib.hid hw1
  clear hw1 h1 h2 f1 f2 hg hne b1 b2
  go_wp2_with fail
  exact ⟨rfl, _, rfl, _, by simp [results, Try.results17, go_sem], rfl, rfl, by rw [HW.out]⟩
end Go.Proofs.Ythnefjkpjhfkgaa.Core
