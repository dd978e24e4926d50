/- The reader: acts. Written by gen_script_c10.py. -/
import Derived.Test.YthnefjkpjhfkgaaC9
namespace Go.Proofs.Ythnefjkpjhfkgaa.Core
open Go.RowKit Go.Proofs.YthnefjkpjhfkgaaW.PrintWords Go.Proofs.YthnefjkpjhfkgaaW.PrintMore Go.Proofs.Ythnefjkpjhfkgaa.PScriptWrites
set_option linter.unusedVariables false
set_option linter.unusedSimpArgs false
/-- An act under way: the result's block, the act's block b, the reader. -/
structure Aw (w0 W W' : World) (g b : Nat) (rs : List Int) (c0 c1 c2 c3 c4 c5 : Value) : Prop where
  res : W'.heap[W.heap.size]? = some (.cells #[.int .i64 0, .int .i64 0, .int .i64 0, .int .i64 0, .slice none 0 0, .slice none 0 0] 47 (0, 0))
  act : W'.heap[b]? = some (.cells #[c0, c1, c2, c3, c4, c5] 47 (0, 0))
  rd : Rd w0 W' g rs
  grown : W.grownBy W' (some g)
  lt : W.heap.size < b
  glt : g < W.heap.size
  wlt : w0.heap.size ≤ g
theorem Aw.call {w0 W W' W2 : World} {g b : Nat} {rs rs2 : List Int} {c0 c1 c2 c3 c4 c5 : Value} (h : Aw w0 W W' g b rs c0 c1 c2 c3 c4 c5) (hr : Rd w0 W2 g rs2) (hg : W'.grownBy W2 (some g)) : Aw w0 W W2 g b rs2 c0 c1 c2 c3 c4 c5 :=
  ⟨blk_grown h.res hg (by have := h.glt; intro e; injection e with e; omega), blk_grown h.act hg (by have := h.glt; have := h.lt; intro e; injection e with e; omega), hr, grown_trans h.grown hg, h.lt, h.glt, h.wlt⟩
theorem Aw.other {w0 W W' W2 : World} {g b : Nat} {rs : List Int} {c0 c1 c2 c3 c4 c5 : Value} {r : Option Nat} (h : Aw w0 W W' g b rs c0 c1 c2 c3 c4 c5) (hg : W'.grownBy W2 r) (hr : ∀ k, r = some k → W.heap.size < k ∧ k ≠ b) : Aw w0 W W2 g b rs c0 c1 c2 c3 c4 c5 :=
  ⟨blk_grown h.res hg (fun e => by have := (hr _ e.symm).1; omega), blk_grown h.act hg (fun e => (hr _ e.symm).2 rfl), h.rd.keep hg (fun k e => by have := (hr k e).1; have := h.glt; have := h.wlt; omega),
   ⟨hg.os.trans h.grown.os, hg.tape.trans h.grown.tape, hg.output.trans h.grown.output, Nat.le_trans h.grown.size hg.size, fun i hi hn => (hg.block i (Nat.lt_of_lt_of_le hi h.grown.size) (fun e => by have := (hr i e.symm).1; omega)).trans (h.grown.block i hi hn)⟩, h.lt, h.glt, h.wlt⟩
theorem Aw.fr {w0 W W' : World} {g b : Nat} {rs : List Int} {c0 c1 c2 c3 c4 c5 : Value} (h : Aw w0 W W' g b rs c0 c1 c2 c3 c4 c5) : ∀ i, W'.frozen? ⟨b, i, none⟩ = false := fun i => blk_frozen h.act i
theorem Aw.end_ {w0 W W' : World} {g b : Nat} {rs : List Int} {c0 c1 c2 c3 c4 c5 : Value} (h : Aw w0 W W' g b rs c0 c1 c2 c3 c4 c5) {W2 : World} (hg : W'.grownBy W2 (some W.heap.size)) : Rd w0 W2 g rs ∧ W.grownBy W2 (some g) :=
  ⟨h.rd.keep hg (fun k e => by injection e with e; have := h.glt; have := h.wlt; omega), grown_fresh h.grown hg (Nat.le_refl _)⟩
theorem Aw.set0 {w0 W W' : World} {g b : Nat} {rs : List Int} {c0 c1 c2 c3 c4 c5 : Value} (h : Aw w0 W W' g b rs c0 c1 c2 c3 c4 c5) (v : Value) : Aw w0 W (W'.setCell ⟨b, 0, none⟩ v) g b rs v c1 c2 c3 c4 c5 :=
  ⟨blk_grown h.res (grown_set 0 v) (fun e => by injection e with e; have := h.lt; omega), (Go.Proofs.YthnefjkpjhfkgaaW.PrintWords.blk_set h.act 0 v).trans rfl, h.rd.keep (grown_set 0 v) (fun k e => by injection e with e; have := h.lt; have := h.glt; have := h.wlt; omega), grown_fresh h.grown (grown_set 0 v) (Nat.le_of_lt h.lt), h.lt, h.glt, h.wlt⟩
theorem Aw.set1 {w0 W W' : World} {g b : Nat} {rs : List Int} {c0 c1 c2 c3 c4 c5 : Value} (h : Aw w0 W W' g b rs c0 c1 c2 c3 c4 c5) (v : Value) : Aw w0 W (W'.setCell ⟨b, 1, none⟩ v) g b rs c0 v c2 c3 c4 c5 :=
  ⟨blk_grown h.res (grown_set 1 v) (fun e => by injection e with e; have := h.lt; omega), (Go.Proofs.YthnefjkpjhfkgaaW.PrintWords.blk_set h.act 1 v).trans rfl, h.rd.keep (grown_set 1 v) (fun k e => by injection e with e; have := h.lt; have := h.glt; have := h.wlt; omega), grown_fresh h.grown (grown_set 1 v) (Nat.le_of_lt h.lt), h.lt, h.glt, h.wlt⟩
theorem Aw.set2 {w0 W W' : World} {g b : Nat} {rs : List Int} {c0 c1 c2 c3 c4 c5 : Value} (h : Aw w0 W W' g b rs c0 c1 c2 c3 c4 c5) (v : Value) : Aw w0 W (W'.setCell ⟨b, 2, none⟩ v) g b rs c0 c1 v c3 c4 c5 :=
  ⟨blk_grown h.res (grown_set 2 v) (fun e => by injection e with e; have := h.lt; omega), (Go.Proofs.YthnefjkpjhfkgaaW.PrintWords.blk_set h.act 2 v).trans rfl, h.rd.keep (grown_set 2 v) (fun k e => by injection e with e; have := h.lt; have := h.glt; have := h.wlt; omega), grown_fresh h.grown (grown_set 2 v) (Nat.le_of_lt h.lt), h.lt, h.glt, h.wlt⟩
theorem Aw.set3 {w0 W W' : World} {g b : Nat} {rs : List Int} {c0 c1 c2 c3 c4 c5 : Value} (h : Aw w0 W W' g b rs c0 c1 c2 c3 c4 c5) (v : Value) : Aw w0 W (W'.setCell ⟨b, 3, none⟩ v) g b rs c0 c1 c2 v c4 c5 :=
  ⟨blk_grown h.res (grown_set 3 v) (fun e => by injection e with e; have := h.lt; omega), (Go.Proofs.YthnefjkpjhfkgaaW.PrintWords.blk_set h.act 3 v).trans rfl, h.rd.keep (grown_set 3 v) (fun k e => by injection e with e; have := h.lt; have := h.glt; have := h.wlt; omega), grown_fresh h.grown (grown_set 3 v) (Nat.le_of_lt h.lt), h.lt, h.glt, h.wlt⟩
theorem Aw.set4 {w0 W W' : World} {g b : Nat} {rs : List Int} {c0 c1 c2 c3 c4 c5 : Value} (h : Aw w0 W W' g b rs c0 c1 c2 c3 c4 c5) (v : Value) : Aw w0 W (W'.setCell ⟨b, 4, none⟩ v) g b rs c0 c1 c2 c3 v c5 :=
  ⟨blk_grown h.res (grown_set 4 v) (fun e => by injection e with e; have := h.lt; omega), (Go.Proofs.YthnefjkpjhfkgaaW.PrintWords.blk_set h.act 4 v).trans rfl, h.rd.keep (grown_set 4 v) (fun k e => by injection e with e; have := h.lt; have := h.glt; have := h.wlt; omega), grown_fresh h.grown (grown_set 4 v) (Nat.le_of_lt h.lt), h.lt, h.glt, h.wlt⟩
theorem Aw.set5 {w0 W W' : World} {g b : Nat} {rs : List Int} {c0 c1 c2 c3 c4 c5 : Value} (h : Aw w0 W W' g b rs c0 c1 c2 c3 c4 c5) (v : Value) : Aw w0 W (W'.setCell ⟨b, 5, none⟩ v) g b rs c0 c1 c2 c3 c4 v :=
  ⟨blk_grown h.res (grown_set 5 v) (fun e => by injection e with e; have := h.lt; omega), (Go.Proofs.YthnefjkpjhfkgaaW.PrintWords.blk_set h.act 5 v).trans rfl, h.rd.keep (grown_set 5 v) (fun k e => by injection e with e; have := h.lt; have := h.glt; have := h.wlt; omega), grown_fresh h.grown (grown_set 5 v) (Nat.le_of_lt h.lt), h.lt, h.glt, h.wlt⟩
set_option maxHeartbeats 2000000 in
set_option maxRecDepth 100000 in
theorem act_pick (w0 W : World) (g : Nat) (x y : Int) (r : List Int) (hby : Byts (1 :: x :: y :: r)) (h : Rd w0 W g (1 :: x :: y :: r)) :
    Calls Try.prog 21 #[.pointer (some ⟨g, 0, none⟩)] W fun e w' => e = .returned (.agg #[.int .i64 1, .int .i64 x, .int .i64 y, .int .i64 0, .slice none 0 0, .slice none 0 0]) ∧ Rd w0 w' g r ∧ W.grownBy w' (some g) := by
  have hgn : some W.heap.size ≠ some g := by have := h.lt; intro e; injection e with e; omega
  have hgl := h.lt
  have hge := h.ge
  have HBY := Lib.hid hby
  have H := Lib.hid (one_rd w0 (W.alloc (.cells #[.int .i64 0, .int .i64 0, .int .i64 0, .int .i64 0, .slice none 0 0, .slice none 0 0] 47)) g 1 (x :: y :: r) hby (h.keep0 (World.grownBy_alloc W _ none)))
  clear hby h
  go_enter Try.func21, Try.ntmps21
  go_wp2_with fail
  refine H.out.mono ?_
  rintro e w1 ⟨rfl, hr, hg⟩
  have HR := Lib.hid hr
  have HG := Lib.hid hg
  clear hr hg H
  have hb : w1.heap[W.heap.size]? = some (.cells #[.int .i64 0, .int .i64 0, .int .i64 0, .int .i64 0, .slice none 0 0, .slice none 0 0] 47 (0, 0)) := by
    rw [HG.out.block W.heap.size (by simp) hgn]
    exact heap_alloc_new W _
  have HB := Lib.hid hb
  clear hb
  go_upto_region 2 with (fail)
  obtain ⟨w2, hw2⟩ : ∃ w2, w2 = w1.alloc (.cells #[.int .i64 1, .int .i64 0, .int .i64 0, .int .i64 0, .slice none 0 0, .slice none 0 0] 47) := ⟨_, rfl⟩
  rw [← hw2]
  have G2 : w1.grownBy w2 none := by rw [hw2]; exact World.grownBy_alloc w1 _ none
  have A0 : Hid (Aw w0 W w2 g w1.heap.size (x :: y :: r) (.int .i64 1) (.int .i64 0) (.int .i64 0) (.int .i64 0) (.slice none 0 0) (.slice none 0 0)) :=
    ⟨by rw [hw2, Below.heap_alloc _ _ _ (blk_lt HB.out)]; exact HB.out, by rw [hw2]; exact heap_alloc_new _ _, HR.out.keep0 G2,
     grown_trans (grown_trans (grown_none (World.grownBy_alloc W _ none) _) HG.out) (grown_none G2 _), blk_lt HB.out, hgl, hge⟩
  clear G2 hw2 HB HG HR hgn hgl hge
  generalize w1.heap.size = b at *
  obtain ⟨a0, a1, a2, a3, a4, a5⟩ := sixp A0.out.act
  obtain ⟨d0, d1, d2, d3, d4, d5, f0⟩ := six A0.out.res
  have f1 := A0.out.fr
  have hne : W.heap.size ≠ b := by have := A0.out.lt; omega
  go_wp2_with fail
  refine (one_rd w0 w2 g x (y :: r) HBY.out.tl A0.out.rd).mono ?_
  rintro e w3 ⟨rfl, hr, hg⟩
  have A1 := Lib.hid (A0.out.call hr hg)
  clear hr hg A0
  clear a0 a1 a2 a3 a4 a5 d0 d1 d2 d3 d4 d5 f0 f1 hne
  obtain ⟨a0, a1, a2, a3, a4, a5⟩ := sixp A1.out.act
  obtain ⟨d0, d1, d2, d3, d4, d5, f0⟩ := six A1.out.res
  have f1 := A1.out.fr
  have hne : W.heap.size ≠ b := by have := A1.out.lt; omega
  go_wp2_with fail
  refine (one_rd w0 w3 g y r HBY.out.tl.tl A1.out.rd).mono ?_
  rintro e w4 ⟨rfl, hr, hg⟩
  have A2 := Lib.hid (A1.out.call hr hg)
  clear hr hg A1
  clear a0 a1 a2 a3 a4 a5 d0 d1 d2 d3 d4 d5 f0 f1 hne
  obtain ⟨a0, a1, a2, a3, a4, a5⟩ := sixp A2.out.act
  obtain ⟨d0, d1, d2, d3, d4, d5, f0⟩ := six A2.out.res
  have f1 := A2.out.fr
  have hne : W.heap.size ≠ b := by have := A2.out.lt; omega
  go_upto_region 19 with (fail)
  have A3 := Lib.hid ((A2.out.set1 (.int .i64 x)).set2 (.int .i64 y))
  clear A2
  clear a0 a1 a2 a3 a4 a5 d0 d1 d2 d3 d4 d5 f0 f1 hne
  generalize (w4.setCell ⟨b, 1, none⟩ (.int .i64 x)).setCell ⟨b, 2, none⟩ (.int .i64 y) = w5 at *
  obtain ⟨a0, a1, a2, a3, a4, a5⟩ := sixp A3.out.act
  obtain ⟨d0, d1, d2, d3, d4, d5, f0⟩ := six A3.out.res
  have f1 := A3.out.fr
  have hne : W.heap.size ≠ b := by have := A3.out.lt; omega
  go_wp2
  refine act_fin rfl rfl (six_set A3.out.res) ⟨rfl, A3.out.end_ (six_grown _ _ _ _ _ _)⟩
set_option maxHeartbeats 2000000 in
set_option maxRecDepth 100000 in
theorem act_pick0 (w0 W : World) (g : Nat)  (hby : Byts ([1])) (h : Rd w0 W g ([1])) :
    Calls Try.prog 21 #[.pointer (some ⟨g, 0, none⟩)] W fun e w' => e = .panicked (chain 2) ∧ W.grownBy w' (some g) := by
  have hgn : some W.heap.size ≠ some g := by have := h.lt; intro e; injection e with e; omega
  have hgl := h.lt
  have hge := h.ge
  have HBY := Lib.hid hby
  have H := Lib.hid (one_rd w0 (W.alloc (.cells #[.int .i64 0, .int .i64 0, .int .i64 0, .int .i64 0, .slice none 0 0, .slice none 0 0] 47)) g 1 [] hby (h.keep0 (World.grownBy_alloc W _ none)))
  clear hby h
  go_enter Try.func21, Try.ntmps21
  go_wp2_with fail
  refine H.out.mono ?_
  rintro e w1 ⟨rfl, hr, hg⟩
  have HR := Lib.hid hr
  have HG := Lib.hid hg
  clear hr hg H
  have hb : w1.heap[W.heap.size]? = some (.cells #[.int .i64 0, .int .i64 0, .int .i64 0, .int .i64 0, .slice none 0 0, .slice none 0 0] 47 (0, 0)) := by
    rw [HG.out.block W.heap.size (by simp) hgn]
    exact heap_alloc_new W _
  have HB := Lib.hid hb
  clear hb
  go_upto_region 2 with (fail)
  obtain ⟨w2, hw2⟩ : ∃ w2, w2 = w1.alloc (.cells #[.int .i64 1, .int .i64 0, .int .i64 0, .int .i64 0, .slice none 0 0, .slice none 0 0] 47) := ⟨_, rfl⟩
  rw [← hw2]
  have G2 : w1.grownBy w2 none := by rw [hw2]; exact World.grownBy_alloc w1 _ none
  have A0 : Hid (Aw w0 W w2 g w1.heap.size [] (.int .i64 1) (.int .i64 0) (.int .i64 0) (.int .i64 0) (.slice none 0 0) (.slice none 0 0)) :=
    ⟨by rw [hw2, Below.heap_alloc _ _ _ (blk_lt HB.out)]; exact HB.out, by rw [hw2]; exact heap_alloc_new _ _, HR.out.keep0 G2,
     grown_trans (grown_trans (grown_none (World.grownBy_alloc W _ none) _) HG.out) (grown_none G2 _), blk_lt HB.out, hgl, hge⟩
  clear G2 hw2 HB HG HR hgn hgl hge
  generalize w1.heap.size = b at *
  obtain ⟨a0, a1, a2, a3, a4, a5⟩ := sixp A0.out.act
  obtain ⟨d0, d1, d2, d3, d4, d5, f0⟩ := six A0.out.res
  have f1 := A0.out.fr
  have hne : W.heap.size ≠ b := by have := A0.out.lt; omega
  go_wp2_with fail
  refine (small_rdno w0 w2 g [] 1 (by decide) A0.out.rd).mono ?_
  rintro e w3 ⟨rfl, rfl⟩
  go_wp2
  exact ⟨rfl, rfl, A0.out.grown⟩
set_option maxHeartbeats 2000000 in
set_option maxRecDepth 100000 in
theorem act_pick1 (w0 W : World) (g : Nat) (x : Int) (hby : Byts ([1, x])) (h : Rd w0 W g ([1, x])) :
    Calls Try.prog 21 #[.pointer (some ⟨g, 0, none⟩)] W fun e w' => e = .panicked (chain 2) ∧ W.grownBy w' (some g) := by
  have hgn : some W.heap.size ≠ some g := by have := h.lt; intro e; injection e with e; omega
  have hgl := h.lt
  have hge := h.ge
  have HBY := Lib.hid hby
  have H := Lib.hid (one_rd w0 (W.alloc (.cells #[.int .i64 0, .int .i64 0, .int .i64 0, .int .i64 0, .slice none 0 0, .slice none 0 0] 47)) g 1 [x] hby (h.keep0 (World.grownBy_alloc W _ none)))
  clear hby h
  go_enter Try.func21, Try.ntmps21
  go_wp2_with fail
  refine H.out.mono ?_
  rintro e w1 ⟨rfl, hr, hg⟩
  have HR := Lib.hid hr
  have HG := Lib.hid hg
  clear hr hg H
  have hb : w1.heap[W.heap.size]? = some (.cells #[.int .i64 0, .int .i64 0, .int .i64 0, .int .i64 0, .slice none 0 0, .slice none 0 0] 47 (0, 0)) := by
    rw [HG.out.block W.heap.size (by simp) hgn]
    exact heap_alloc_new W _
  have HB := Lib.hid hb
  clear hb
  go_upto_region 2 with (fail)
  obtain ⟨w2, hw2⟩ : ∃ w2, w2 = w1.alloc (.cells #[.int .i64 1, .int .i64 0, .int .i64 0, .int .i64 0, .slice none 0 0, .slice none 0 0] 47) := ⟨_, rfl⟩
  rw [← hw2]
  have G2 : w1.grownBy w2 none := by rw [hw2]; exact World.grownBy_alloc w1 _ none
  have A0 : Hid (Aw w0 W w2 g w1.heap.size [x] (.int .i64 1) (.int .i64 0) (.int .i64 0) (.int .i64 0) (.slice none 0 0) (.slice none 0 0)) :=
    ⟨by rw [hw2, Below.heap_alloc _ _ _ (blk_lt HB.out)]; exact HB.out, by rw [hw2]; exact heap_alloc_new _ _, HR.out.keep0 G2,
     grown_trans (grown_trans (grown_none (World.grownBy_alloc W _ none) _) HG.out) (grown_none G2 _), blk_lt HB.out, hgl, hge⟩
  clear G2 hw2 HB HG HR hgn hgl hge
  generalize w1.heap.size = b at *
  obtain ⟨a0, a1, a2, a3, a4, a5⟩ := sixp A0.out.act
  obtain ⟨d0, d1, d2, d3, d4, d5, f0⟩ := six A0.out.res
  have f1 := A0.out.fr
  have hne : W.heap.size ≠ b := by have := A0.out.lt; omega
  go_wp2_with fail
  refine (one_rd w0 w2 g x [] HBY.out.tl A0.out.rd).mono ?_
  rintro e w3 ⟨rfl, hr, hg⟩
  have A1 := Lib.hid (A0.out.call hr hg)
  clear hr hg A0
  clear a0 a1 a2 a3 a4 a5 d0 d1 d2 d3 d4 d5 f0 f1 hne
  obtain ⟨a0, a1, a2, a3, a4, a5⟩ := sixp A1.out.act
  obtain ⟨d0, d1, d2, d3, d4, d5, f0⟩ := six A1.out.res
  have f1 := A1.out.fr
  have hne : W.heap.size ≠ b := by have := A1.out.lt; omega
  go_wp2_with fail
  refine (small_rdno w0 w3 g [] 1 (by decide) A1.out.rd).mono ?_
  rintro e w4 ⟨rfl, rfl⟩
  go_wp2
  exact ⟨rfl, rfl, A1.out.grown⟩
set_option maxHeartbeats 2000000 in
set_option maxRecDepth 100000 in
theorem act_poll3 (w0 W : World) (g : Nat) (x : Int) (r : List Int) (hby : Byts (3 :: x :: r)) (h : Rd w0 W g (3 :: x :: r)) :
    Calls Try.prog 21 #[.pointer (some ⟨g, 0, none⟩)] W fun e w' => e = .returned (.agg #[.int .i64 3, .int .i64 0, .int .i64 0, .int .i64 x, .slice none 0 0, .slice none 0 0]) ∧ Rd w0 w' g r ∧ W.grownBy w' (some g) := by
  have hgn : some W.heap.size ≠ some g := by have := h.lt; intro e; injection e with e; omega
  have hgl := h.lt
  have hge := h.ge
  have HBY := Lib.hid hby
  have H := Lib.hid (one_rd w0 (W.alloc (.cells #[.int .i64 0, .int .i64 0, .int .i64 0, .int .i64 0, .slice none 0 0, .slice none 0 0] 47)) g 3 (x :: r) hby (h.keep0 (World.grownBy_alloc W _ none)))
  clear hby h
  go_enter Try.func21, Try.ntmps21
  go_wp2_with fail
  refine H.out.mono ?_
  rintro e w1 ⟨rfl, hr, hg⟩
  have HR := Lib.hid hr
  have HG := Lib.hid hg
  clear hr hg H
  have hb : w1.heap[W.heap.size]? = some (.cells #[.int .i64 0, .int .i64 0, .int .i64 0, .int .i64 0, .slice none 0 0, .slice none 0 0] 47 (0, 0)) := by
    rw [HG.out.block W.heap.size (by simp) hgn]
    exact heap_alloc_new W _
  have HB := Lib.hid hb
  clear hb
  go_upto_region 2 with (fail)
  obtain ⟨w2, hw2⟩ : ∃ w2, w2 = w1.alloc (.cells #[.int .i64 3, .int .i64 0, .int .i64 0, .int .i64 0, .slice none 0 0, .slice none 0 0] 47) := ⟨_, rfl⟩
  rw [← hw2]
  have G2 : w1.grownBy w2 none := by rw [hw2]; exact World.grownBy_alloc w1 _ none
  have A0 : Hid (Aw w0 W w2 g w1.heap.size (x :: r) (.int .i64 3) (.int .i64 0) (.int .i64 0) (.int .i64 0) (.slice none 0 0) (.slice none 0 0)) :=
    ⟨by rw [hw2, Below.heap_alloc _ _ _ (blk_lt HB.out)]; exact HB.out, by rw [hw2]; exact heap_alloc_new _ _, HR.out.keep0 G2,
     grown_trans (grown_trans (grown_none (World.grownBy_alloc W _ none) _) HG.out) (grown_none G2 _), blk_lt HB.out, hgl, hge⟩
  clear G2 hw2 HB HG HR hgn hgl hge
  generalize w1.heap.size = b at *
  obtain ⟨a0, a1, a2, a3, a4, a5⟩ := sixp A0.out.act
  obtain ⟨d0, d1, d2, d3, d4, d5, f0⟩ := six A0.out.res
  have f1 := A0.out.fr
  have hne : W.heap.size ≠ b := by have := A0.out.lt; omega
  go_wp2_with fail
  refine (one_rd w0 w2 g x r HBY.out.tl A0.out.rd).mono ?_
  rintro e w3 ⟨rfl, hr, hg⟩
  have A1 := Lib.hid (A0.out.call hr hg)
  clear hr hg A0
  clear a0 a1 a2 a3 a4 a5 d0 d1 d2 d3 d4 d5 f0 f1 hne
  obtain ⟨a0, a1, a2, a3, a4, a5⟩ := sixp A1.out.act
  obtain ⟨d0, d1, d2, d3, d4, d5, f0⟩ := six A1.out.res
  have f1 := A1.out.fr
  have hne : W.heap.size ≠ b := by have := A1.out.lt; omega
  go_upto_region 19 with (fail)
  have A2 := Lib.hid (A1.out.set3 (.int .i64 x))
  clear A1
  clear a0 a1 a2 a3 a4 a5 d0 d1 d2 d3 d4 d5 f0 f1 hne
  generalize w3.setCell ⟨b, 3, none⟩ (.int .i64 x) = w5 at *
  obtain ⟨a0, a1, a2, a3, a4, a5⟩ := sixp A2.out.act
  obtain ⟨d0, d1, d2, d3, d4, d5, f0⟩ := six A2.out.res
  have f1 := A2.out.fr
  have hne : W.heap.size ≠ b := by have := A2.out.lt; omega
  go_wp2
  refine act_fin rfl rfl (six_set A2.out.res) ⟨rfl, A2.out.end_ (six_grown _ _ _ _ _ _)⟩
set_option maxHeartbeats 2000000 in
set_option maxRecDepth 100000 in
theorem act_poll03 (w0 W : World) (g : Nat)  (hby : Byts ([3])) (h : Rd w0 W g ([3])) :
    Calls Try.prog 21 #[.pointer (some ⟨g, 0, none⟩)] W fun e w' => e = .panicked (chain 2) ∧ W.grownBy w' (some g) := by
  have hgn : some W.heap.size ≠ some g := by have := h.lt; intro e; injection e with e; omega
  have hgl := h.lt
  have hge := h.ge
  have HBY := Lib.hid hby
  have H := Lib.hid (one_rd w0 (W.alloc (.cells #[.int .i64 0, .int .i64 0, .int .i64 0, .int .i64 0, .slice none 0 0, .slice none 0 0] 47)) g 3 [] hby (h.keep0 (World.grownBy_alloc W _ none)))
  clear hby h
  go_enter Try.func21, Try.ntmps21
  go_wp2_with fail
  refine H.out.mono ?_
  rintro e w1 ⟨rfl, hr, hg⟩
  have HR := Lib.hid hr
  have HG := Lib.hid hg
  clear hr hg H
  have hb : w1.heap[W.heap.size]? = some (.cells #[.int .i64 0, .int .i64 0, .int .i64 0, .int .i64 0, .slice none 0 0, .slice none 0 0] 47 (0, 0)) := by
    rw [HG.out.block W.heap.size (by simp) hgn]
    exact heap_alloc_new W _
  have HB := Lib.hid hb
  clear hb
  go_upto_region 2 with (fail)
  obtain ⟨w2, hw2⟩ : ∃ w2, w2 = w1.alloc (.cells #[.int .i64 3, .int .i64 0, .int .i64 0, .int .i64 0, .slice none 0 0, .slice none 0 0] 47) := ⟨_, rfl⟩
  rw [← hw2]
  have G2 : w1.grownBy w2 none := by rw [hw2]; exact World.grownBy_alloc w1 _ none
  have A0 : Hid (Aw w0 W w2 g w1.heap.size [] (.int .i64 3) (.int .i64 0) (.int .i64 0) (.int .i64 0) (.slice none 0 0) (.slice none 0 0)) :=
    ⟨by rw [hw2, Below.heap_alloc _ _ _ (blk_lt HB.out)]; exact HB.out, by rw [hw2]; exact heap_alloc_new _ _, HR.out.keep0 G2,
     grown_trans (grown_trans (grown_none (World.grownBy_alloc W _ none) _) HG.out) (grown_none G2 _), blk_lt HB.out, hgl, hge⟩
  clear G2 hw2 HB HG HR hgn hgl hge
  generalize w1.heap.size = b at *
  obtain ⟨a0, a1, a2, a3, a4, a5⟩ := sixp A0.out.act
  obtain ⟨d0, d1, d2, d3, d4, d5, f0⟩ := six A0.out.res
  have f1 := A0.out.fr
  have hne : W.heap.size ≠ b := by have := A0.out.lt; omega
  go_wp2_with fail
  refine (small_rdno w0 w2 g [] 1 (by decide) A0.out.rd).mono ?_
  rintro e w3 ⟨rfl, rfl⟩
  go_wp2
  exact ⟨rfl, rfl, A0.out.grown⟩
set_option maxHeartbeats 2000000 in
set_option maxRecDepth 100000 in
theorem act_poll4 (w0 W : World) (g : Nat) (x : Int) (r : List Int) (hby : Byts (4 :: x :: r)) (h : Rd w0 W g (4 :: x :: r)) :
    Calls Try.prog 21 #[.pointer (some ⟨g, 0, none⟩)] W fun e w' => e = .returned (.agg #[.int .i64 4, .int .i64 0, .int .i64 0, .int .i64 x, .slice none 0 0, .slice none 0 0]) ∧ Rd w0 w' g r ∧ W.grownBy w' (some g) := by
  have hgn : some W.heap.size ≠ some g := by have := h.lt; intro e; injection e with e; omega
  have hgl := h.lt
  have hge := h.ge
  have HBY := Lib.hid hby
  have H := Lib.hid (one_rd w0 (W.alloc (.cells #[.int .i64 0, .int .i64 0, .int .i64 0, .int .i64 0, .slice none 0 0, .slice none 0 0] 47)) g 4 (x :: r) hby (h.keep0 (World.grownBy_alloc W _ none)))
  clear hby h
  go_enter Try.func21, Try.ntmps21
  go_wp2_with fail
  refine H.out.mono ?_
  rintro e w1 ⟨rfl, hr, hg⟩
  have HR := Lib.hid hr
  have HG := Lib.hid hg
  clear hr hg H
  have hb : w1.heap[W.heap.size]? = some (.cells #[.int .i64 0, .int .i64 0, .int .i64 0, .int .i64 0, .slice none 0 0, .slice none 0 0] 47 (0, 0)) := by
    rw [HG.out.block W.heap.size (by simp) hgn]
    exact heap_alloc_new W _
  have HB := Lib.hid hb
  clear hb
  go_upto_region 2 with (fail)
  obtain ⟨w2, hw2⟩ : ∃ w2, w2 = w1.alloc (.cells #[.int .i64 4, .int .i64 0, .int .i64 0, .int .i64 0, .slice none 0 0, .slice none 0 0] 47) := ⟨_, rfl⟩
  rw [← hw2]
  have G2 : w1.grownBy w2 none := by rw [hw2]; exact World.grownBy_alloc w1 _ none
  have A0 : Hid (Aw w0 W w2 g w1.heap.size (x :: r) (.int .i64 4) (.int .i64 0) (.int .i64 0) (.int .i64 0) (.slice none 0 0) (.slice none 0 0)) :=
    ⟨by rw [hw2, Below.heap_alloc _ _ _ (blk_lt HB.out)]; exact HB.out, by rw [hw2]; exact heap_alloc_new _ _, HR.out.keep0 G2,
     grown_trans (grown_trans (grown_none (World.grownBy_alloc W _ none) _) HG.out) (grown_none G2 _), blk_lt HB.out, hgl, hge⟩
  clear G2 hw2 HB HG HR hgn hgl hge
  generalize w1.heap.size = b at *
  obtain ⟨a0, a1, a2, a3, a4, a5⟩ := sixp A0.out.act
  obtain ⟨d0, d1, d2, d3, d4, d5, f0⟩ := six A0.out.res
  have f1 := A0.out.fr
  have hne : W.heap.size ≠ b := by have := A0.out.lt; omega
  go_wp2_with fail
  refine (one_rd w0 w2 g x r HBY.out.tl A0.out.rd).mono ?_
  rintro e w3 ⟨rfl, hr, hg⟩
  have A1 := Lib.hid (A0.out.call hr hg)
  clear hr hg A0
  clear a0 a1 a2 a3 a4 a5 d0 d1 d2 d3 d4 d5 f0 f1 hne
  obtain ⟨a0, a1, a2, a3, a4, a5⟩ := sixp A1.out.act
  obtain ⟨d0, d1, d2, d3, d4, d5, f0⟩ := six A1.out.res
  have f1 := A1.out.fr
  have hne : W.heap.size ≠ b := by have := A1.out.lt; omega
  go_upto_region 19 with (fail)
  have A2 := Lib.hid (A1.out.set3 (.int .i64 x))
  clear A1
  clear a0 a1 a2 a3 a4 a5 d0 d1 d2 d3 d4 d5 f0 f1 hne
  generalize w3.setCell ⟨b, 3, none⟩ (.int .i64 x) = w5 at *
  obtain ⟨a0, a1, a2, a3, a4, a5⟩ := sixp A2.out.act
  obtain ⟨d0, d1, d2, d3, d4, d5, f0⟩ := six A2.out.res
  have f1 := A2.out.fr
  have hne : W.heap.size ≠ b := by have := A2.out.lt; omega
  go_wp2
  refine act_fin rfl rfl (six_set A2.out.res) ⟨rfl, A2.out.end_ (six_grown _ _ _ _ _ _)⟩
set_option maxHeartbeats 2000000 in
set_option maxRecDepth 100000 in
theorem act_poll04 (w0 W : World) (g : Nat)  (hby : Byts ([4])) (h : Rd w0 W g ([4])) :
    Calls Try.prog 21 #[.pointer (some ⟨g, 0, none⟩)] W fun e w' => e = .panicked (chain 2) ∧ W.grownBy w' (some g) := by
  have hgn : some W.heap.size ≠ some g := by have := h.lt; intro e; injection e with e; omega
  have hgl := h.lt
  have hge := h.ge
  have HBY := Lib.hid hby
  have H := Lib.hid (one_rd w0 (W.alloc (.cells #[.int .i64 0, .int .i64 0, .int .i64 0, .int .i64 0, .slice none 0 0, .slice none 0 0] 47)) g 4 [] hby (h.keep0 (World.grownBy_alloc W _ none)))
  clear hby h
  go_enter Try.func21, Try.ntmps21
  go_wp2_with fail
  refine H.out.mono ?_
  rintro e w1 ⟨rfl, hr, hg⟩
  have HR := Lib.hid hr
  have HG := Lib.hid hg
  clear hr hg H
  have hb : w1.heap[W.heap.size]? = some (.cells #[.int .i64 0, .int .i64 0, .int .i64 0, .int .i64 0, .slice none 0 0, .slice none 0 0] 47 (0, 0)) := by
    rw [HG.out.block W.heap.size (by simp) hgn]
    exact heap_alloc_new W _
  have HB := Lib.hid hb
  clear hb
  go_upto_region 2 with (fail)
  obtain ⟨w2, hw2⟩ : ∃ w2, w2 = w1.alloc (.cells #[.int .i64 4, .int .i64 0, .int .i64 0, .int .i64 0, .slice none 0 0, .slice none 0 0] 47) := ⟨_, rfl⟩
  rw [← hw2]
  have G2 : w1.grownBy w2 none := by rw [hw2]; exact World.grownBy_alloc w1 _ none
  have A0 : Hid (Aw w0 W w2 g w1.heap.size [] (.int .i64 4) (.int .i64 0) (.int .i64 0) (.int .i64 0) (.slice none 0 0) (.slice none 0 0)) :=
    ⟨by rw [hw2, Below.heap_alloc _ _ _ (blk_lt HB.out)]; exact HB.out, by rw [hw2]; exact heap_alloc_new _ _, HR.out.keep0 G2,
     grown_trans (grown_trans (grown_none (World.grownBy_alloc W _ none) _) HG.out) (grown_none G2 _), blk_lt HB.out, hgl, hge⟩
  clear G2 hw2 HB HG HR hgn hgl hge
  generalize w1.heap.size = b at *
  obtain ⟨a0, a1, a2, a3, a4, a5⟩ := sixp A0.out.act
  obtain ⟨d0, d1, d2, d3, d4, d5, f0⟩ := six A0.out.res
  have f1 := A0.out.fr
  have hne : W.heap.size ≠ b := by have := A0.out.lt; omega
  go_wp2_with fail
  refine (small_rdno w0 w2 g [] 1 (by decide) A0.out.rd).mono ?_
  rintro e w3 ⟨rfl, rfl⟩
  go_wp2
  exact ⟨rfl, rfl, A0.out.grown⟩
set_option maxHeartbeats 2000000 in
set_option maxRecDepth 100000 in
theorem act_rounds (w0 W : World) (g : Nat) (x y z : Int) (hz : x + 256 * y = z) (r : List Int) (hby : Byts (7 :: x :: y :: r)) (h : Rd w0 W g (7 :: x :: y :: r)) :
    Calls Try.prog 21 #[.pointer (some ⟨g, 0, none⟩)] W fun e w' => e = .returned (.agg #[.int .i64 7, .int .i64 0, .int .i64 0, .int .i64 z, .slice none 0 0, .slice none 0 0]) ∧ Rd w0 w' g r ∧ W.grownBy w' (some g) := by
  have hgn : some W.heap.size ≠ some g := by have := h.lt; intro e; injection e with e; omega
  have hgl := h.lt
  have hge := h.ge
  have HBY := Lib.hid hby
  have H := Lib.hid (one_rd w0 (W.alloc (.cells #[.int .i64 0, .int .i64 0, .int .i64 0, .int .i64 0, .slice none 0 0, .slice none 0 0] 47)) g 7 (x :: y :: r) hby (h.keep0 (World.grownBy_alloc W _ none)))
  clear hby h
  go_enter Try.func21, Try.ntmps21
  go_wp2_with fail
  refine H.out.mono ?_
  rintro e w1 ⟨rfl, hr, hg⟩
  have HR := Lib.hid hr
  have HG := Lib.hid hg
  clear hr hg H
  have hb : w1.heap[W.heap.size]? = some (.cells #[.int .i64 0, .int .i64 0, .int .i64 0, .int .i64 0, .slice none 0 0, .slice none 0 0] 47 (0, 0)) := by
    rw [HG.out.block W.heap.size (by simp) hgn]
    exact heap_alloc_new W _
  have HB := Lib.hid hb
  clear hb
  go_upto_region 2 with (fail)
  obtain ⟨w2, hw2⟩ : ∃ w2, w2 = w1.alloc (.cells #[.int .i64 7, .int .i64 0, .int .i64 0, .int .i64 0, .slice none 0 0, .slice none 0 0] 47) := ⟨_, rfl⟩
  rw [← hw2]
  have G2 : w1.grownBy w2 none := by rw [hw2]; exact World.grownBy_alloc w1 _ none
  have A0 : Hid (Aw w0 W w2 g w1.heap.size (x :: y :: r) (.int .i64 7) (.int .i64 0) (.int .i64 0) (.int .i64 0) (.slice none 0 0) (.slice none 0 0)) :=
    ⟨by rw [hw2, Below.heap_alloc _ _ _ (blk_lt HB.out)]; exact HB.out, by rw [hw2]; exact heap_alloc_new _ _, HR.out.keep0 G2,
     grown_trans (grown_trans (grown_none (World.grownBy_alloc W _ none) _) HG.out) (grown_none G2 _), blk_lt HB.out, hgl, hge⟩
  clear G2 hw2 HB HG HR hgn hgl hge
  generalize w1.heap.size = b at *
  obtain ⟨a0, a1, a2, a3, a4, a5⟩ := sixp A0.out.act
  obtain ⟨d0, d1, d2, d3, d4, d5, f0⟩ := six A0.out.res
  have f1 := A0.out.fr
  have hne : W.heap.size ≠ b := by have := A0.out.lt; omega
  go_wp2_with fail
  refine (two_rd w0 w2 g x y r HBY.out.tl A0.out.rd).mono ?_
  rw [hz]
  clear hz
  rintro e w3 ⟨rfl, hr, hg⟩
  have A1 := Lib.hid (A0.out.call hr hg)
  clear hr hg A0
  clear a0 a1 a2 a3 a4 a5 d0 d1 d2 d3 d4 d5 f0 f1 hne
  obtain ⟨a0, a1, a2, a3, a4, a5⟩ := sixp A1.out.act
  obtain ⟨d0, d1, d2, d3, d4, d5, f0⟩ := six A1.out.res
  have f1 := A1.out.fr
  have hne : W.heap.size ≠ b := by have := A1.out.lt; omega
  go_upto_region 19 with (fail)
  have A2 := Lib.hid (A1.out.set3 (.int .i64 z))
  clear A1
  clear a0 a1 a2 a3 a4 a5 d0 d1 d2 d3 d4 d5 f0 f1 hne
  generalize w3.setCell ⟨b, 3, none⟩ (.int .i64 z) = w5 at *
  obtain ⟨a0, a1, a2, a3, a4, a5⟩ := sixp A2.out.act
  obtain ⟨d0, d1, d2, d3, d4, d5, f0⟩ := six A2.out.res
  have f1 := A2.out.fr
  have hne : W.heap.size ≠ b := by have := A2.out.lt; omega
  go_wp2
  refine act_fin rfl rfl (six_set A2.out.res) ⟨rfl, A2.out.end_ (six_grown _ _ _ _ _ _)⟩
set_option maxHeartbeats 2000000 in
set_option maxRecDepth 100000 in
theorem act_rounds0 (w0 W : World) (g : Nat) (r : List Int) (hr : r.length < 2) (hby : Byts (7 :: r)) (h : Rd w0 W g (7 :: r)) :
    Calls Try.prog 21 #[.pointer (some ⟨g, 0, none⟩)] W fun e w' => e = .panicked (chain 2) ∧ W.grownBy w' (some g) := by
  have hgn : some W.heap.size ≠ some g := by have := h.lt; intro e; injection e with e; omega
  have hgl := h.lt
  have hge := h.ge
  have HBY := Lib.hid hby
  have H := Lib.hid (one_rd w0 (W.alloc (.cells #[.int .i64 0, .int .i64 0, .int .i64 0, .int .i64 0, .slice none 0 0, .slice none 0 0] 47)) g 7 r hby (h.keep0 (World.grownBy_alloc W _ none)))
  clear hby h
  go_enter Try.func21, Try.ntmps21
  go_wp2_with fail
  refine H.out.mono ?_
  rintro e w1 ⟨rfl, hr, hg⟩
  have HR := Lib.hid hr
  have HG := Lib.hid hg
  clear hr hg H
  have hb : w1.heap[W.heap.size]? = some (.cells #[.int .i64 0, .int .i64 0, .int .i64 0, .int .i64 0, .slice none 0 0, .slice none 0 0] 47 (0, 0)) := by
    rw [HG.out.block W.heap.size (by simp) hgn]
    exact heap_alloc_new W _
  have HB := Lib.hid hb
  clear hb
  go_upto_region 2 with (fail)
  obtain ⟨w2, hw2⟩ : ∃ w2, w2 = w1.alloc (.cells #[.int .i64 7, .int .i64 0, .int .i64 0, .int .i64 0, .slice none 0 0, .slice none 0 0] 47) := ⟨_, rfl⟩
  rw [← hw2]
  have G2 : w1.grownBy w2 none := by rw [hw2]; exact World.grownBy_alloc w1 _ none
  have A0 : Hid (Aw w0 W w2 g w1.heap.size r (.int .i64 7) (.int .i64 0) (.int .i64 0) (.int .i64 0) (.slice none 0 0) (.slice none 0 0)) :=
    ⟨by rw [hw2, Below.heap_alloc _ _ _ (blk_lt HB.out)]; exact HB.out, by rw [hw2]; exact heap_alloc_new _ _, HR.out.keep0 G2,
     grown_trans (grown_trans (grown_none (World.grownBy_alloc W _ none) _) HG.out) (grown_none G2 _), blk_lt HB.out, hgl, hge⟩
  clear G2 hw2 HB HG HR hgn hgl hge
  generalize w1.heap.size = b at *
  obtain ⟨a0, a1, a2, a3, a4, a5⟩ := sixp A0.out.act
  obtain ⟨d0, d1, d2, d3, d4, d5, f0⟩ := six A0.out.res
  have f1 := A0.out.fr
  have hne : W.heap.size ≠ b := by have := A0.out.lt; omega
  go_wp2_with fail
  refine (small_rdno w0 w2 g r 2 (by omega) A0.out.rd).mono ?_
  rintro e w3 ⟨rfl, rfl⟩
  go_wp2
  exact ⟨rfl, rfl, A0.out.grown⟩
set_option maxHeartbeats 2000000 in
set_option maxRecDepth 100000 in
theorem act_bad (w0 W : World) (g : Nat) (k : Int) (r : List Int) (h1 : k ≠ 1) (h2 : k ≠ 2) (h3 : k ≠ 3) (h4 : k ≠ 4) (h5 : k ≠ 5) (h6 : k ≠ 6) (h7 : k ≠ 7) (hby : Byts (k :: r)) (h : Rd w0 W g (k :: r)) :
    Calls Try.prog 21 #[.pointer (some ⟨g, 0, none⟩)] W fun e w' => e = .panicked (chain 4) ∧ W.grownBy w' (some g) := by
  have hgn : some W.heap.size ≠ some g := by have := h.lt; intro e; injection e with e; omega
  have hgl := h.lt
  have hge := h.ge
  have HBY := Lib.hid hby
  have H := Lib.hid (one_rd w0 (W.alloc (.cells #[.int .i64 0, .int .i64 0, .int .i64 0, .int .i64 0, .slice none 0 0, .slice none 0 0] 47)) g k r hby (h.keep0 (World.grownBy_alloc W _ none)))
  clear hby h
  go_enter Try.func21, Try.ntmps21
  go_wp2_with fail
  refine H.out.mono ?_
  rintro e w1 ⟨rfl, hr, hg⟩
  have HR := Lib.hid hr
  have HG := Lib.hid hg
  clear hr hg H
  have hb : w1.heap[W.heap.size]? = some (.cells #[.int .i64 0, .int .i64 0, .int .i64 0, .int .i64 0, .slice none 0 0, .slice none 0 0] 47 (0, 0)) := by
    rw [HG.out.block W.heap.size (by simp) hgn]
    exact heap_alloc_new W _
  have HB := Lib.hid hb
  clear hb
  go_upto_region 2 with (fail)
  obtain ⟨w2, hw2⟩ : ∃ w2, w2 = w1.alloc (.cells #[.int .i64 k, .int .i64 0, .int .i64 0, .int .i64 0, .slice none 0 0, .slice none 0 0] 47) := ⟨_, rfl⟩
  rw [← hw2]
  have G2 : w1.grownBy w2 none := by rw [hw2]; exact World.grownBy_alloc w1 _ none
  have A0 : Hid (Aw w0 W w2 g w1.heap.size r (.int .i64 k) (.int .i64 0) (.int .i64 0) (.int .i64 0) (.slice none 0 0) (.slice none 0 0)) :=
    ⟨by rw [hw2, Below.heap_alloc _ _ _ (blk_lt HB.out)]; exact HB.out, by rw [hw2]; exact heap_alloc_new _ _, HR.out.keep0 G2,
     grown_trans (grown_trans (grown_none (World.grownBy_alloc W _ none) _) HG.out) (grown_none G2 _), blk_lt HB.out, hgl, hge⟩
  clear G2 hw2 HB HG HR hgn hgl hge
  generalize w1.heap.size = b at *
  obtain ⟨a0, a1, a2, a3, a4, a5⟩ := sixp A0.out.act
  obtain ⟨d0, d1, d2, d3, d4, d5, f0⟩ := six A0.out.res
  have f1 := A0.out.fr
  have hne : W.heap.size ≠ b := by have := A0.out.lt; omega
  have q1 : (k == 1) = false := by simpa using h1
  have q2 : (k == 2) = false := by simpa using h2
  have q3 : (k == 3) = false := by simpa using h3
  have q4 : (k == 4) = false := by simpa using h4
  have q5 : (k == 5) = false := by simpa using h5
  have q6 : (k == 6) = false := by simpa using h6
  have q7 : (k == 7) = false := by simpa using h7
  clear h1 h2 h3 h4 h5 h6 h7
  go_wp2_with fail
  refine (need_no 4 w2).mono ?_
  rintro e w3 ⟨rfl, rfl⟩
  go_wp2
  exact ⟨rfl, rfl, A0.out.grown⟩
set_option maxHeartbeats 2000000 in
set_option maxRecDepth 100000 in
theorem act_none (w0 W : World) (g : Nat)  (hby : Byts ([])) (h : Rd w0 W g ([])) :
    Calls Try.prog 21 #[.pointer (some ⟨g, 0, none⟩)] W fun e w' => e = .panicked (chain 2) ∧ W.grownBy w' (some g) := by
  have H := Lib.hid (small_rdno w0 (W.alloc (.cells #[.int .i64 0, .int .i64 0, .int .i64 0, .int .i64 0, .slice none 0 0, .slice none 0 0] 47)) g [] 1 (by decide) (h.keep0 (World.grownBy_alloc W _ none)))
  clear hby h
  go_enter Try.func21, Try.ntmps21
  go_wp2_with fail
  refine H.out.mono ?_
  rintro e w1 ⟨rfl, rfl⟩
  go_wp2
  exact ⟨rfl, rfl, grown_none (World.grownBy_alloc W _ none) _⟩
end Go.Proofs.Ythnefjkpjhfkgaa.Core
