/- The reader: small numbers. -/
import Derived.Test.YthnefjkpjhfkgaaC8
namespace Go.Proofs.Ythnefjkpjhfkgaa.Core
open Go.RowKit Go.Proofs.YthnefjkpjhfkgaaW.PrintWords Go.Proofs.YthnefjkpjhfkgaaW.PrintMore Go.Proofs.Ythnefjkpjhfkgaa.PScriptWrites
set_option linter.unusedVariables false
set_option linter.unusedSimpArgs false
/-- Every number is a byte. -/
def Byts (rs : List Int) : Prop := ∀ x ∈ rs, 0 ≤ x ∧ x < 256
theorem Byts.tl {x : Int} {r : List Int} (h : Byts (x :: r)) : Byts r := fun y hy => h y (List.mem_cons_of_mem _ hy)
theorem Byts.hd {x : Int} {r : List Int} (h : Byts (x :: r)) : 0 ≤ x ∧ x < 256 := h x List.mem_cons_self
theorem Byts.drop {r : List Int} (h : Byts r) (n : Nat) : Byts (r.drop n) := fun y hy => h y (List.mem_of_mem_drop hy)
theorem Byts.take {r : List Int} (h : Byts r) (n : Nat) : Byts (r.take n) := fun y hy => h y (List.mem_of_mem_take hy)
set_option maxHeartbeats 1000000 in
theorem small_rd (w0 W : World) (g : Nat) (rs : List Int) (n : Int) (h0 : 0 ≤ n) (h8 : n ≤ 2) (hn : n ≤ rs.length) (hby : Byts rs) (h : Rd w0 W g rs) :
    Calls Try.prog 26 #[.pointer (some ⟨g, 0, none⟩), .int .i64 n] W fun e w' => e = .returned (.int .i64 (leN (rs.take n.toNat))) ∧ Rd w0 w' g (rs.drop n.toNat) ∧ W.grownBy w' (some g) := by
  have H := Lib.hid (number_ok w0 W g rs n h0 (by omega) hn hby h)
  have hq : 0 ≤ leN (rs.take n.toNat) ∧ leN (rs.take n.toNat) < 65536 := by
    have h1 := leN_nonneg (hby.take n.toNat)
    have h2 := leN_lt (hby.take n.toNat)
    have h3 : (rs.take n.toNat).length ≤ 2 := by rw [List.length_take]; omega
    have h4 : ∀ m : Nat, m ≤ 2 → (2 : Int) ^ (8 * m) ≤ 65536 := by
      intro m hm
      obtain rfl | rfl | rfl : m = 0 ∨ m = 1 ∨ m = 2 := by omega
      all_goals decide
    have h5 := h4 _ h3
    exact ⟨h1, Int.lt_of_lt_of_le h2 h5⟩
  generalize leN (rs.take n.toNat) = q at *
  have e1 : IntKind.i64.wrap q = q := by rw [IntKind.wrap_i64]; omega
  have e2 : wrap64 q = q := by unfold wrap64; omega
  clear hq
  clear h0 h8 hn h
  go_enter Try.func26, Try.ntmps26
  go_wp2_with fail
  refine H.out.mono ?_
  rintro e w1 ⟨rfl, hr, hg⟩
  have HR := Lib.hid hr
  have HG := Lib.hid hg
  clear hr hg H
  go_wp2
  go_ret
  exact ⟨by simp only [e1, e2]; rfl, HR.out, HG.out⟩
theorem one_rd (w0 W : World) (g : Nat) (x : Int) (r : List Int) (hby : Byts (x :: r)) (h : Rd w0 W g (x :: r)) :
    Calls Try.prog 26 #[.pointer (some ⟨g, 0, none⟩), .int .i64 1] W fun e w' => e = .returned (.int .i64 x) ∧ Rd w0 w' g r ∧ W.grownBy w' (some g) := by
  refine (small_rd w0 W g (x :: r) 1 (by decide) (by decide) (by simp only [List.length_cons]; omega) hby h).mono ?_
  rintro e w' ⟨rfl, h1, h2⟩
  exact ⟨by simp [leN], h1, h2⟩
theorem two_rd (w0 W : World) (g : Nat) (x y : Int) (r : List Int) (hby : Byts (x :: y :: r)) (h : Rd w0 W g (x :: y :: r)) :
    Calls Try.prog 26 #[.pointer (some ⟨g, 0, none⟩), .int .i64 2] W fun e w' => e = .returned (.int .i64 (x + 256 * y)) ∧ Rd w0 w' g r ∧ W.grownBy w' (some g) := by
  refine (small_rd w0 W g (x :: y :: r) 2 (by decide) (by decide) (by simp only [List.length_cons]; omega) hby h).mono ?_
  rintro e w' ⟨rfl, h1, h2⟩
  exact ⟨by simp [leN], h1, h2⟩
set_option maxHeartbeats 1000000 in
theorem small_rdno (w0 W : World) (g : Nat) (rs : List Int) (n : Int) (hn : rs.length < n) (h : Rd w0 W g rs) :
    Calls Try.prog 26 #[.pointer (some ⟨g, 0, none⟩), .int .i64 n] W fun e w' => e = .panicked (chain 2) ∧ w' = W := by
  have H := Lib.hid (number_no w0 W g rs n hn h)
  clear hn h
  go_enter Try.func26, Try.ntmps26
  go_wp2_with fail
  refine H.out.mono ?_
  rintro e w1 ⟨rfl, rfl⟩
  go_wp2
  exact ⟨rfl, rfl, rfl⟩
theorem six {w1 : World} {h : Nat} {u0 u1 u2 u3 u4 u5 : Value} (hb : w1.heap[h]? = some (.cells #[u0, u1, u2, u3, u4, u5] 47 (0, 0))) :
    (w1.cell? ⟨h, 0, none⟩ = some u0) ∧ (∀ (v0 : Value), (w1.setCell ⟨h, 0, none⟩ v0).cell? ⟨h, 1, none⟩ = some u1) ∧ (∀ (v0 v1 : Value), ((w1.setCell ⟨h, 0, none⟩ v0).setCell ⟨h, 1, none⟩ v1).cell? ⟨h, 2, none⟩ = some u2) ∧ (∀ (v0 v1 v2 : Value), (((w1.setCell ⟨h, 0, none⟩ v0).setCell ⟨h, 1, none⟩ v1).setCell ⟨h, 2, none⟩ v2).cell? ⟨h, 3, none⟩ = some u3) ∧ (∀ (v0 v1 v2 v3 : Value), ((((w1.setCell ⟨h, 0, none⟩ v0).setCell ⟨h, 1, none⟩ v1).setCell ⟨h, 2, none⟩ v2).setCell ⟨h, 3, none⟩ v3).cell? ⟨h, 4, none⟩ = some u4) ∧ (∀ (v0 v1 v2 v3 v4 : Value), (((((w1.setCell ⟨h, 0, none⟩ v0).setCell ⟨h, 1, none⟩ v1).setCell ⟨h, 2, none⟩ v2).setCell ⟨h, 3, none⟩ v3).setCell ⟨h, 4, none⟩ v4).cell? ⟨h, 5, none⟩ = some u5) ∧
    (∀ i, w1.frozen? ⟨h, i, none⟩ = false) :=
  ⟨(blk_cell hb 0).trans rfl, fun v0 => (blk_cell (Go.Proofs.YthnefjkpjhfkgaaW.PrintWords.blk_set hb 0 v0) 1).trans rfl, fun v0 v1 => (blk_cell (Go.Proofs.YthnefjkpjhfkgaaW.PrintWords.blk_set (Go.Proofs.YthnefjkpjhfkgaaW.PrintWords.blk_set hb 0 v0) 1 v1) 2).trans rfl, fun v0 v1 v2 => (blk_cell (Go.Proofs.YthnefjkpjhfkgaaW.PrintWords.blk_set (Go.Proofs.YthnefjkpjhfkgaaW.PrintWords.blk_set (Go.Proofs.YthnefjkpjhfkgaaW.PrintWords.blk_set hb 0 v0) 1 v1) 2 v2) 3).trans rfl, fun v0 v1 v2 v3 => (blk_cell (Go.Proofs.YthnefjkpjhfkgaaW.PrintWords.blk_set (Go.Proofs.YthnefjkpjhfkgaaW.PrintWords.blk_set (Go.Proofs.YthnefjkpjhfkgaaW.PrintWords.blk_set (Go.Proofs.YthnefjkpjhfkgaaW.PrintWords.blk_set hb 0 v0) 1 v1) 2 v2) 3 v3) 4).trans rfl, fun v0 v1 v2 v3 v4 => (blk_cell (Go.Proofs.YthnefjkpjhfkgaaW.PrintWords.blk_set (Go.Proofs.YthnefjkpjhfkgaaW.PrintWords.blk_set (Go.Proofs.YthnefjkpjhfkgaaW.PrintWords.blk_set (Go.Proofs.YthnefjkpjhfkgaaW.PrintWords.blk_set (Go.Proofs.YthnefjkpjhfkgaaW.PrintWords.blk_set hb 0 v0) 1 v1) 2 v2) 3 v3) 4 v4) 5).trans rfl, fun i => blk_frozen hb i⟩
theorem sixp {w1 : World} {h : Nat} {u0 u1 u2 u3 u4 u5 : Value} (hb : w1.heap[h]? = some (.cells #[u0, u1, u2, u3, u4, u5] 47 (0, 0))) :
    w1.cell? ⟨h, 0, none⟩ = some u0 ∧ w1.cell? ⟨h, 1, none⟩ = some u1 ∧ w1.cell? ⟨h, 2, none⟩ = some u2 ∧ w1.cell? ⟨h, 3, none⟩ = some u3 ∧ w1.cell? ⟨h, 4, none⟩ = some u4 ∧ w1.cell? ⟨h, 5, none⟩ = some u5 :=
  ⟨(blk_cell hb 0).trans rfl, (blk_cell hb 1).trans rfl, (blk_cell hb 2).trans rfl, (blk_cell hb 3).trans rfl, (blk_cell hb 4).trans rfl, (blk_cell hb 5).trans rfl⟩
theorem six_set {w : World} {h : Nat} {u0 u1 u2 u3 u4 u5 v0 v1 v2 v3 v4 v5 : Value} (hb : w.heap[h]? = some (.cells #[u0, u1, u2, u3, u4, u5] 47 (0, 0))) :
    ((((((w.setCell ⟨h, 0, none⟩ v0).setCell ⟨h, 1, none⟩ v1).setCell ⟨h, 2, none⟩ v2).setCell ⟨h, 3, none⟩ v3).setCell ⟨h, 4, none⟩ v4).setCell ⟨h, 5, none⟩ v5).heap[h]? = some (.cells #[v0, v1, v2, v3, v4, v5] 47 (0, 0)) :=
  (Go.Proofs.YthnefjkpjhfkgaaW.PrintWords.blk_set (Go.Proofs.YthnefjkpjhfkgaaW.PrintWords.blk_set (Go.Proofs.YthnefjkpjhfkgaaW.PrintWords.blk_set (Go.Proofs.YthnefjkpjhfkgaaW.PrintWords.blk_set (Go.Proofs.YthnefjkpjhfkgaaW.PrintWords.blk_set (Go.Proofs.YthnefjkpjhfkgaaW.PrintWords.blk_set hb 0 v0) 1 v1) 2 v2) 3 v3) 4 v4) 5 v5).trans rfl
theorem grown_set {w : World} {h : Nat} (i : Nat) (v : Value) : w.grownBy (w.setCell ⟨h, i, none⟩ v) (some h) :=
  ⟨rfl, rfl, rfl, by simp [World.setCell], fun k hk hne => Below.heap_setCell w ⟨h, i, none⟩ _ k (fun e => hne (by rw [e]))⟩
theorem six_grown {w : World} {h : Nat} (v0 v1 v2 v3 v4 v5 : Value) :
    w.grownBy ((((((w.setCell ⟨h, 0, none⟩ v0).setCell ⟨h, 1, none⟩ v1).setCell ⟨h, 2, none⟩ v2).setCell ⟨h, 3, none⟩ v3).setCell ⟨h, 4, none⟩ v4).setCell ⟨h, 5, none⟩ v5) (some h) :=
  grown_trans (grown_trans (grown_trans (grown_trans (grown_trans (grown_set 0 v0) (grown_set 1 v1)) (grown_set 2 v2)) (grown_set 3 v3)) (grown_set 4 v4)) (grown_set 5 v5)
theorem act_fin {R : Ending → World → Prop} {a : Act} {w : World} {h : Nat} {v0 v1 v2 v3 v4 v5 : Value} (hd : a.defers = []) (ht : a.tmps.getD 2 undef = .pointer (some ⟨h, 0, none⟩))
    (hb : w.heap[h]? = some (.cells #[v0, v1, v2, v3, v4, v5] 47 (0, 0))) (hR : R (.returned (.agg #[v0, v1, v2, v3, v4, v5])) w) : bodyPost Try.prog Try.f21 R .ret a w := by
  refine bodyPost_ret ?_ hd hR
  exact results_cell_row (p := 2) (ty := 47) (by kernel_rfl) a.tmps w h 47 #[v0, v1, v2, v3, v4, v5] (0, 0) _ ht hb Try.underlying47 rfl (by
    have := info47
    rcases hq : Try.prog.info? 47 with _ | i
    · rw [hq] at this; cases this
    · rw [hq] at this
      simp only [Option.map_some, Option.some.injEq, Prod.mk.injEq] at this
      rw [Option.map_some, this.2.1]; rfl)
set_option maxHeartbeats 1000000 in
theorem act_shut (w0 W : World) (g : Nat) (k : Int) (r : List Int) (hk : k = 5 ∨ k = 6) (hby : Byts (k :: r)) (h : Rd w0 W g (k :: r)) :
    Calls Try.prog 21 #[.pointer (some ⟨g, 0, none⟩)] W fun e w' => e = .returned (.agg #[.int .i64 k, .int .i64 0, .int .i64 0, .int .i64 0, .slice none 0 0, .slice none 0 0]) ∧ Rd w0 w' g r ∧ W.grownBy w' (some g) := by
  have hgn : some W.heap.size ≠ some g := by have := h.lt; intro e; injection e with e; omega
  have hgs : w0.heap.size ≤ W.heap.size := h.below.size
  have H := Lib.hid (one_rd w0 (W.alloc (.cells #[.int .i64 0, .int .i64 0, .int .i64 0, .int .i64 0, .slice none 0 0, .slice none 0 0] 47)) g k r hby (h.keep0 (World.grownBy_alloc W _ none)))
  clear hby h
  go_enter Try.func21, Try.ntmps21
  go_wp2_with fail
  refine H.out.mono ?_
  rintro e w1 ⟨rfl, hr, hg⟩
  have HR := Lib.hid hr
  have HG := Lib.hid hg
  clear hr hg H
  have hb : w1.heap[W.heap.size]? = some (.cells #[.int .i64 0, .int .i64 0, .int .i64 0, .int .i64 0, .slice none 0 0, .slice none 0 0] 47 (0, 0)) := by
    rw [HG.out.block W.heap.size (by simp) hgn]
    exact heap_alloc_new W _
  have HB := Lib.hid hb
  clear hb
  go_upto_region 2 with (fail)
  obtain ⟨w2, hw2⟩ : ∃ w2, w2 = w1.alloc (.cells #[.int .i64 k, .int .i64 0, .int .i64 0, .int .i64 0, .slice none 0 0, .slice none 0 0] 47) := ⟨_, rfl⟩
  rw [← hw2]
  have hb2 : w2.heap[W.heap.size]? = some (.cells #[.int .i64 0, .int .i64 0, .int .i64 0, .int .i64 0, .slice none 0 0, .slice none 0 0] 47 (0, 0)) := by
    rw [hw2, Below.heap_alloc _ _ _ (blk_lt HB.out)]; exact HB.out
  have ha2 : w2.heap[w1.heap.size]? = some (.cells #[.int .i64 k, .int .i64 0, .int .i64 0, .int .i64 0, .slice none 0 0, .slice none 0 0] 47 (0, 0)) := by
    rw [hw2]; exact heap_alloc_new _ _
  have G2 : Hid (w1.grownBy w2 none) := by rw [hw2]; exact World.grownBy_alloc w1 _ none
  have hne : W.heap.size ≠ w1.heap.size := by have := blk_lt HB.out; omega
  obtain ⟨c0, c1, c2, c3, c4, c5, f0⟩ := six hb2
  obtain ⟨a0, a1, a2, a3, a4, a5⟩ := sixp ha2
  have HB2 := Lib.hid hb2
  have HA2 := Lib.hid ha2
  clear hb2 ha2 hw2
  generalize w1.heap.size = b at *
  rcases hk with rfl | rfl
  all_goals
    go_wp2
    refine act_fin rfl rfl (six_set HB2.out) ⟨rfl, ?_, ?_⟩
    · exact (HR.out.keep0 G2.out).keep (six_grown _ _ _ _ _ _) (fun k e => by injection e with e; subst e; exact ⟨fun e => hgn (by rw [e]), hgs⟩)
    · exact grown_fresh (grown_trans (grown_trans (grown_none (World.grownBy_alloc W _ none) _) HG.out) (grown_none G2.out _)) (six_grown _ _ _ _ _ _) (Nat.le_refl _)
end Go.Proofs.Ythnefjkpjhfkgaa.Core
