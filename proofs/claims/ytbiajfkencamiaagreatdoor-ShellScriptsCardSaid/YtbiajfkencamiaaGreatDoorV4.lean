/- valid: an instruction: its walk. -/
import Derived.Test.YtbiajfkencamiaaGreatDoorV3
/-! V4 -/
namespace Go.Proofs.YtbiajfkencamiaaGreatDoor.Core
open Go.RowKit Go.Shelf Go.Proofs.YtbiajfkencamiaaGreatDoorW.PrintWords Go.Proofs.YtbiajfkencamiaaGreatDoorW.PrintMore Go.Proofs.YtbiajfkencamiaaGreatDoor.P1 Go.Proofs.YtbiajfkencamiaaGreatDoor
open Go.Proofs.YtbiajfkencamiaaGreatDoor.PK (S121 k121 z121 S124 k124 z124 at_T124 at_T121 rd_T124 rd_T121)
set_option linter.unusedVariables false
set_option linter.unusedSimpArgs false
abbrev ints (l : List Int) : Array Value := (l.map (Value.int .i64)).toArray
theorem cell_ints {W : World} {b t : Nat} {l : List Int} (h : W.heap[b]? = some (.cells (ints l) t (0, 0))) (j : Nat) (v : Int) (hj : l[j]? = some v) : W.cell? ⟨b, j, none⟩ = some (.int .i64 v) := by
  rw [blk_cell h j]
  simp [hj]
theorem set4 {W : World} {b t : Nat} {z0 z1 z2 z3 : Int} (h : W.heap[b]? = some (.cells (ints [z0, z1, z2, z3]) t (0, 0))) (a0 a1 a2 a3 : Int) :
    ((((W.setCell ⟨b, 0, none⟩ (.int .i64 a0)).setCell ⟨b, 1, none⟩ (.int .i64 a1)).setCell ⟨b, 2, none⟩ (.int .i64 a2)).setCell ⟨b, 3, none⟩ (.int .i64 a3)).heap[b]? = some (.cells (ints [a0, a1, a2, a3]) t (0, 0)) :=
  blk_set (blk_set (blk_set (blk_set h 0 _) 1 _) 2 _) 3 _
theorem far4 {W : World} {b g t : Nat} {cs : Array Value} (h : W.heap[g]? = some (.cells cs t (0, 0))) (hne : g ≠ b) (a0 a1 a2 a3 : Value) :
    ((((W.setCell ⟨b, 0, none⟩ a0).setCell ⟨b, 1, none⟩ a1).setCell ⟨b, 2, none⟩ a2).setCell ⟨b, 3, none⟩ a3).heap[g]? = some (.cells cs t (0, 0)) :=
  blk_far (blk_far (blk_far (blk_far h hne _) hne _) hne _) hne _
theorem below4 {w W : World} {b base : Nat} (hb : base ≤ b) (h : Below base w W) (a0 a1 a2 a3 : Value) :
    Below base w ((((W.setCell ⟨b, 0, none⟩ a0).setCell ⟨b, 1, none⟩ a1).setCell ⟨b, 2, none⟩ a2).setCell ⟨b, 3, none⟩ a3) :=
  (((h.setCell (p := ⟨b, 0, none⟩) hb _).setCell (p := ⟨b, 1, none⟩) hb _).setCell (p := ⟨b, 2, none⟩) hb _).setCell (p := ⟨b, 3, none⟩) hb _
/-- The looker, the instruction, the shape, in blocks. -/
structure V0 (w : World) (A : Option Addr) (n c q : Nat) (at' : Int) (is ps : List Int) (g2 : Nat) (W : World) : Prop where
  below : Below w.heap.size w W
  l : W.heap[w.heap.size]? = some (.cells #[.slice A n c, .int .i64 q, .int .i64 at'] 210 (0, 0))
  i : W.heap[w.heap.size + 1]? = some (.cells (ints is) 121 (0, 0))
  s : W.heap[g2]? = some (.cells (ints ps) 284 (0, 0))
theorem V0.drawn {w : World} {A : Option Addr} {n c q : Nat} {at' : Int} {is ps : List Int} {g2 : Nat} {W W' : World} (h : V0 w A n c q at' is ps g2 W) (hb : Below W.heap.size W W') : V0 w A n c q at' is ps g2 W' :=
  ⟨h.below.trans (hb.mono h.below.size), blk_below h.l hb, blk_below h.i hb, blk_below h.s hb⟩
theorem V0.set4 {w : World} {A : Option Addr} {n c q : Nat} {at' : Int} {is ps : List Int} {g2 : Nat} {W : World} (h : V0 w A n c q at' is ps g2 W) {b : Nat} (hb : w.heap.size + 1 < b) (hg : g2 < b) (a0 a1 a2 a3 : Value) :
    V0 w A n c q at' is ps g2 ((((W.setCell ⟨b, 0, none⟩ a0).setCell ⟨b, 1, none⟩ a1).setCell ⟨b, 2, none⟩ a2).setCell ⟨b, 3, none⟩ a3) :=
  ⟨below4 (by omega) h.below _ _ _ _, far4 h.l (by omega) _ _ _ _, far4 h.i (by omega) _ _ _ _, far4 h.s (by omega) _ _ _ _⟩
theorem idx94 (p1 p2 p3 p4 : Int) (j : Nat) (hj : j < 4) (W : World) : (Instr.index 287 (.agg #[.int .i64 p1, .int .i64 p2, .int .i64 p3, .int .i64 p4]) (.int .i64 (j : Int))).run Tryz.prog W = .ok (.int .i64 ([p1, p2, p3, p4].getD j 0)) W := by
  have h94 := Tryz.underlying287
  have h89 := Tryz.underlying282
  match j, hj with
  | 0, _ => (first | kernel_rfl | (simp [Instr.index, run_underlying h94, h94, asIntOf, part, Tryz.isAgg89, Tryz.sizeOf89]; done))
  | 1, _ => (first | kernel_rfl | (simp [Instr.index, run_underlying h94, h94, asIntOf, part, Tryz.isAgg89, Tryz.sizeOf89]; done))
  | 2, _ => (first | kernel_rfl | (simp [Instr.index, run_underlying h94, h94, asIntOf, part, Tryz.isAgg89, Tryz.sizeOf89]; done))
  | 3, _ => (first | kernel_rfl | (simp [Instr.index, run_underlying h94, h94, asIntOf, part, Tryz.isAgg89, Tryz.sizeOf89]; done))
/-- May an instruction be so? (np functions, cl instructions of its own, ar the arity of the one it names) -/
def zeroB (p v : Int) : Bool := p != 0 || v == 0
def instrB (np cl : Nat) (ar : Int → Int) (o a1 a2 a3 a4 : Int) : Bool :=
  (shapeV o).2.2.2.2 && (zeroB (shapeV o).1 a1 && (zeroB (shapeV o).2.1 a2 && (zeroB (shapeV o).2.2.1 a3 && zeroB (shapeV o).2.2.2.1 a4)))
  && (fieldB np cl a1 (shapeV o).1 && (fieldB np cl a2 (shapeV o).2.1 && (fieldB np cl a3 (shapeV o).2.2.1 && fieldB np cl a4 (shapeV o).2.2.2.1)))
  && ((shapeV o).2.2.1 != 3 || decide (ar a3 ≤ 8 - a2))
/-- .. with the fields and their parts. -/
structure VF (w : World) (A : Option Addr) (n c q : Nat) (at' : Int) (is ps : List Int) (g2 g3 g4 : Nat) (F P : List Int) (W : World) : Prop where
  v : V0 w A n c q at' is ps g2 W
  f : W.heap[g3]? = some (.cells (ints F) 221 (0, 0))
  p : W.heap[g4]? = some (.cells (ints P) 287 (0, 0))
theorem VF.drawn {w : World} {A : Option Addr} {n c q : Nat} {at' : Int} {is ps : List Int} {g2 g3 g4 : Nat} {F P : List Int} {W W' : World} (h : VF w A n c q at' is ps g2 g3 g4 F P W) (hb : Below W.heap.size W W') : VF w A n c q at' is ps g2 g3 g4 F P W' :=
  ⟨h.v.drawn hb, blk_below h.f hb, blk_below h.p hb⟩
theorem shape_three (o : Int) : (shapeV o).2.2.1 = 3 → (shapeV o).2.1 = 1 := by
  unfold shapeV
  repeat' split
  all_goals decide
theorem shape_is (o : Int) : ∀ p ∈ [(shapeV o).1, (shapeV o).2.1, (shapeV o).2.2.1, (shapeV o).2.2.2.1], p = 0 ∨ p = 1 ∨ p = 2 ∨ p = 3 ∨ p = 6 ∨ p = 4 ∨ p = 5 := by
  unfold shapeV
  repeat' split
  all_goals decide
set_option maxRecDepth 100000 in
set_option maxHeartbeats 8000000 in
theorem vinstr_any (A : Option Addr) (n c cl q : Nat) (at' o a1 a2 a3 a4 : Int) (ar : Int → Int) (w : World) (hq : q < n)
    (hT : ∃ ad A1 c1, A = some ad ∧ w.cell? ⟨(ad.add (q * 2)).block, (ad.add (q * 2)).off + 1, none⟩ = some (.slice A1 cl c1))
    (hA : ∀ j : Nat, j < n → ∃ ad, A = some ad ∧ w.cell? (ad.add (j * 2)) = some (.int .i64 (ar j))) :
    Calls Tryz.prog 115 #[.agg #[.slice A n c, .int .i64 q, .int .i64 at'], .agg #[.int .i64 o, .int .i64 a1, .int .i64 a2, .int .i64 a3, .int .i64 a4]] w (GivesV w (instrB n cl ar o a1 a2 a3 a4)) := by
  have HS := Lib.hid (fun W => shapeOf_any o W)
  have HPS := Lib.hid (shape_is o)
  have HP3 := Lib.hid (shape_three o)
  obtain ⟨B, hB⟩ : ∃ B, B = instrB n cl ar o a1 a2 a3 a4 := ⟨_, rfl⟩
  rw [← hB]
  unfold instrB at hB
  obtain ⟨sh, hsh⟩ : ∃ s, shapeV o = s := ⟨_, rfl⟩
  rw [hsh] at HS HPS HP3 hB
  obtain ⟨p1, p2, p3, p4, is⟩ := sh
  have HBB := Lib.hid hB
  have HT := Lib.hid hT
  have HA := Lib.hid hA
  have HQ := Lib.hid hq
  simp only at HS HPS HP3 HBB
  clear hsh hB hT hA hq
  go_enter Tryz.func115, Tryz.ntmps115
  go_wp2_with fail
  refine (HS.out _).mono ?_
  rintro _ w1 ⟨rfl, hb1⟩
  have HB1 : Hid (Below w.heap.size w w1) := ((((Below.refl _ _).alloc (Nat.le_refl _) _).alloc (by simp) _)).trans (hb1.mono (by simp; omega))
  have HL1 : Hid (w1.heap[w.heap.size]? = some (.cells #[.slice A n c, .int .i64 q, .int .i64 at'] 210 (0, 0))) := blk_below ((Below.heap_alloc _ _ _ (by simp)).trans (heap_alloc_new w _)) hb1
  have HI1 : Hid (w1.heap[w.heap.size + 1]? = some (.cells (ints [o, a1, a2, a3, a4]) 121 (0, 0))) := by
    have h := heap_alloc_new (w.alloc (.cells #[.slice A n c, .int .i64 q, .int .i64 at'] 210)) (.cells (ints [o, a1, a2, a3, a4]) 121)
    rw [World.size_alloc] at h
    exact blk_below h hb1
  have HV : Hid (V0 w A n c q at' [o, a1, a2, a3, a4] [p1, p2, p3, p4] w1.heap.size (w1.alloc (.cells #[.int .i64 p1, .int .i64 p2, .int .i64 p3, .int .i64 p4] 284))) := ⟨HB1.out.alloc HB1.out.size _, (Below.heap_alloc _ _ _ (blk_lt HL1.out)).trans HL1.out, (Below.heap_alloc _ _ _ (blk_lt HI1.out)).trans HI1.out, heap_alloc_new _ _⟩
  have l0 := blk_cell HV.out.l 0
  have l1 := blk_cell HV.out.l 1
  have l2 := blk_cell HV.out.l 2
  simp only [List.getElem?_toArray, List.getElem?_cons_zero, List.getElem?_cons_succ] at l0 l1 l2
  have HG2 : Hid (w.heap.size + 1 < w1.heap.size) := blk_lt HI1.out
  clear hb1
  go_wp2_with fail
  refine (vneed_any A n c q at' is 4 (by decide) _).mono ?_
  rintro e w2 ⟨he, hb2⟩
  have HV2 := Lib.hid (HV.out.drawn hb2)
  cases is with
  | false =>
    obtain ⟨f', a', e', hne, rfl⟩ := he
    have hBf : B = false := by rw [HBB.out]; simp
    rw [hBf]
    exact ⟨rfl, ⟨f', a', e', hne, rfl⟩, HV2.out.below⟩
  | true =>
    obtain rfl : e = .returned (.tuple #[]) := he
    clear hb2 l0 l1 l2
    generalize w1.heap.size = g2 at *
    go_wp2_with fail
    refine Reg.wp_region_float (by kernel_rfl) [18, 20, 21] 19 (fun i => match i with | 0 => fun v => v = .pointer (some ⟨w.heap.size + 1, 1, none⟩) | 1 => fun v => v = .int .i64 a1 | 2 => fun v => v = .pointer (some ⟨w.heap.size + 1, 2, none⟩) | 3 => fun v => v = .int .i64 a2 | 4 => fun v => v = .pointer (some ⟨w.heap.size + 1, 3, none⟩) | 5 => fun v => v = .int .i64 a3 | 6 => fun v => v = .pointer (some ⟨w.heap.size + 1, 4, none⟩) | 7 => fun v => v = .int .i64 a4 | 8 => fun v => v = .agg #[.int .i64 a1, .int .i64 a2, .int .i64 a3, .int .i64 a4] | 9 => fun v => v = .pointer (some ⟨g2, 0, none⟩) | 10 => fun v => v = .int .i64 p1 | 11 => fun v => v = .pointer (some ⟨g2, 1, none⟩) | 12 => fun v => v = .int .i64 p2 | 13 => fun v => v = .pointer (some ⟨g2, 2, none⟩) | 14 => fun v => v = .int .i64 p3 | 15 => fun v => v = .pointer (some ⟨g2, 3, none⟩) | 16 => fun v => v = .int .i64 p4 | 17 => fun v => v = .agg #[.int .i64 p1, .int .i64 p2, .int .i64 p3, .int .i64 p4] | _ => fun _ => True) (fun k b f Wx => V0 w A n c q at' [o, a1, a2, a3, a4] [p1, p2, p3, p4] g2 Wx ∧ (1 ≤ k → ∃ g3, f 6 = .pointer (some ⟨g3, 0, none⟩) ∧ w.heap.size + 1 < g3 ∧ g2 < g3 ∧ Wx.heap[g3]? = some (.cells (ints (if 2 ≤ k then [a1, a2, a3, a4] else [0, 0, 0, 0])) 221 (0, 0))) ∧ (b = true → ∃ g4, f 7 = .pointer (some ⟨g4, 0, none⟩) ∧ w.heap.size + 1 < g4 ∧ g2 < g4 ∧ Wx.heap[g4]? = some (.cells (ints (if 3 ≤ k then [p1, p2, p3, p4] else [0, 0, 0, 0])) 287 (0, 0)))) (by kernel_rfl) (by kernel_rfl) (by decide) (by decide) (by decide) (by decide) ?hJ ?h0 ?pure ?flo ?act ?fin
    case hJ => intro k b f f' W h hb hj; exact ⟨hj.1, fun h1 => (h 0 (by omega) (by decide) 6 (by kernel_rfl)) ▸ hj.2.1 h1, fun h1 => (hb h1 7 (by kernel_rfl)) ▸ hj.2.2 h1⟩
    case h0 => exact ⟨(show V0 _ _ _ _ _ _ _ _ _ w2.drew from HV2.out.drawn (pw_below_drewN (Below.refl _ _) 1)), fun h => absurd h (by decide), fun h => absurd h (by decide)⟩
    case pure =>
      intro i o k bq a w_ ho hE hne hk hmc hf hst hkn hj
      have hi : i < 22 := (Array.getElem?_eq_some_iff.1 ho).1
      obtain rfl | rfl | rfl | rfl | rfl | rfl | rfl | rfl | rfl | rfl | rfl | rfl | rfl | rfl | rfl | rfl | rfl | rfl : i = 0 ∨ i = 1 ∨ i = 2 ∨ i = 3 ∨ i = 4 ∨ i = 5 ∨ i = 6 ∨ i = 7 ∨ i = 8 ∨ i = 9 ∨ i = 10 ∨ i = 11 ∨ i = 12 ∨ i = 13 ∨ i = 14 ∨ i = 15 ∨ i = 16 ∨ i = 17 := by
        simp only [List.mem_cons, List.not_mem_nil, or_false, not_or] at hE
        omega
      · skip
        obtain rfl := Reg.oper_eq ho rfl
        have e3 : a.eval (.tmp 3) = .pointer (some ⟨w.heap.size + 1, 0, none⟩) := (hf.eval 3 (by kernel_rfl)).trans rfl
        have g3 := Reg.eval_getD e3
        exact Reg.op_value rfl rfl (by simp only [List.getElem_toArray, List.getElem_cons_zero, List.getElem_cons_succ, execOp, e3]; go_simp) ⟨_, rfl, rfl, hj⟩
      · skip
        obtain rfl := Reg.oper_eq ho rfl
        have e21 : a.eval (.tmp 21) = .pointer (some ⟨w.heap.size + 1, 1, none⟩) := hkn.eval 0 21 (by kernel_rfl) (by kernel_rfl)
        have g21 := Reg.eval_getD e21
        have kk := cell_ints hj.1.i 1 _ rfl
        exact Reg.op_value rfl rfl (by simp only [List.getElem_toArray, List.getElem_cons_zero, List.getElem_cons_succ, execOp, e21]; go_simp) ⟨_, rfl, rfl, hj⟩
      · skip
        obtain rfl := Reg.oper_eq ho rfl
        have e3 : a.eval (.tmp 3) = .pointer (some ⟨w.heap.size + 1, 0, none⟩) := (hf.eval 3 (by kernel_rfl)).trans rfl
        have g3 := Reg.eval_getD e3
        exact Reg.op_value rfl rfl (by simp only [List.getElem_toArray, List.getElem_cons_zero, List.getElem_cons_succ, execOp, e3]; go_simp) ⟨_, rfl, rfl, hj⟩
      · skip
        obtain rfl := Reg.oper_eq ho rfl
        have e23 : a.eval (.tmp 23) = .pointer (some ⟨w.heap.size + 1, 2, none⟩) := hkn.eval 2 23 (by kernel_rfl) (by kernel_rfl)
        have g23 := Reg.eval_getD e23
        have kk := cell_ints hj.1.i 2 _ rfl
        exact Reg.op_value rfl rfl (by simp only [List.getElem_toArray, List.getElem_cons_zero, List.getElem_cons_succ, execOp, e23]; go_simp) ⟨_, rfl, rfl, hj⟩
      · skip
        obtain rfl := Reg.oper_eq ho rfl
        have e3 : a.eval (.tmp 3) = .pointer (some ⟨w.heap.size + 1, 0, none⟩) := (hf.eval 3 (by kernel_rfl)).trans rfl
        have g3 := Reg.eval_getD e3
        exact Reg.op_value rfl rfl (by simp only [List.getElem_toArray, List.getElem_cons_zero, List.getElem_cons_succ, execOp, e3]; go_simp) ⟨_, rfl, rfl, hj⟩
      · skip
        obtain rfl := Reg.oper_eq ho rfl
        have e25 : a.eval (.tmp 25) = .pointer (some ⟨w.heap.size + 1, 3, none⟩) := hkn.eval 4 25 (by kernel_rfl) (by kernel_rfl)
        have g25 := Reg.eval_getD e25
        have kk := cell_ints hj.1.i 3 _ rfl
        exact Reg.op_value rfl rfl (by simp only [List.getElem_toArray, List.getElem_cons_zero, List.getElem_cons_succ, execOp, e25]; go_simp) ⟨_, rfl, rfl, hj⟩
      · skip
        obtain rfl := Reg.oper_eq ho rfl
        have e3 : a.eval (.tmp 3) = .pointer (some ⟨w.heap.size + 1, 0, none⟩) := (hf.eval 3 (by kernel_rfl)).trans rfl
        have g3 := Reg.eval_getD e3
        exact Reg.op_value rfl rfl (by simp only [List.getElem_toArray, List.getElem_cons_zero, List.getElem_cons_succ, execOp, e3]; go_simp) ⟨_, rfl, rfl, hj⟩
      · skip
        obtain rfl := Reg.oper_eq ho rfl
        have e27 : a.eval (.tmp 27) = .pointer (some ⟨w.heap.size + 1, 4, none⟩) := hkn.eval 6 27 (by kernel_rfl) (by kernel_rfl)
        have g27 := Reg.eval_getD e27
        have kk := cell_ints hj.1.i 4 _ rfl
        exact Reg.op_value rfl rfl (by simp only [List.getElem_toArray, List.getElem_cons_zero, List.getElem_cons_succ, execOp, e27]; go_simp) ⟨_, rfl, rfl, hj⟩
      · skip
        obtain rfl := Reg.oper_eq ho rfl
        have e22 : a.eval (.tmp 22) = .int .i64 a1 := hkn.eval 1 22 (by kernel_rfl) (by kernel_rfl)
        have e24 : a.eval (.tmp 24) = .int .i64 a2 := hkn.eval 3 24 (by kernel_rfl) (by kernel_rfl)
        have e26 : a.eval (.tmp 26) = .int .i64 a3 := hkn.eval 5 26 (by kernel_rfl) (by kernel_rfl)
        have e28 : a.eval (.tmp 28) = .int .i64 a4 := hkn.eval 7 28 (by kernel_rfl) (by kernel_rfl)
        have g22 := Reg.eval_getD e22
        have g24 := Reg.eval_getD e24
        have g26 := Reg.eval_getD e26
        have g28 := Reg.eval_getD e28
        exact Reg.op_value rfl rfl (by simp only [List.getElem_toArray, List.getElem_cons_zero, List.getElem_cons_succ, execOp, e22, e24, e26, e28]; go_simp) ⟨_, rfl, rfl, hj⟩
      · skip
        obtain rfl := Reg.oper_eq ho rfl
        have e4 : a.eval (.tmp 4) = .pointer (some ⟨g2, 0, none⟩) := (hf.eval 4 (by kernel_rfl)).trans rfl
        have g4 := Reg.eval_getD e4
        exact Reg.op_value rfl rfl (by simp only [List.getElem_toArray, List.getElem_cons_zero, List.getElem_cons_succ, execOp, e4]; go_simp) ⟨_, rfl, rfl, hj⟩
      · skip
        obtain rfl := Reg.oper_eq ho rfl
        have e30 : a.eval (.tmp 30) = .pointer (some ⟨g2, 0, none⟩) := hkn.eval 9 30 (by kernel_rfl) (by kernel_rfl)
        have g30 := Reg.eval_getD e30
        have kk := cell_ints hj.1.s 0 _ rfl
        exact Reg.op_value rfl rfl (by simp only [List.getElem_toArray, List.getElem_cons_zero, List.getElem_cons_succ, execOp, e30]; go_simp) ⟨_, rfl, rfl, hj⟩
      · skip
        obtain rfl := Reg.oper_eq ho rfl
        have e4 : a.eval (.tmp 4) = .pointer (some ⟨g2, 0, none⟩) := (hf.eval 4 (by kernel_rfl)).trans rfl
        have g4 := Reg.eval_getD e4
        exact Reg.op_value rfl rfl (by simp only [List.getElem_toArray, List.getElem_cons_zero, List.getElem_cons_succ, execOp, e4]; go_simp) ⟨_, rfl, rfl, hj⟩
      · skip
        obtain rfl := Reg.oper_eq ho rfl
        have e32 : a.eval (.tmp 32) = .pointer (some ⟨g2, 1, none⟩) := hkn.eval 11 32 (by kernel_rfl) (by kernel_rfl)
        have g32 := Reg.eval_getD e32
        have kk := cell_ints hj.1.s 1 _ rfl
        exact Reg.op_value rfl rfl (by simp only [List.getElem_toArray, List.getElem_cons_zero, List.getElem_cons_succ, execOp, e32]; go_simp) ⟨_, rfl, rfl, hj⟩
      · skip
        obtain rfl := Reg.oper_eq ho rfl
        have e4 : a.eval (.tmp 4) = .pointer (some ⟨g2, 0, none⟩) := (hf.eval 4 (by kernel_rfl)).trans rfl
        have g4 := Reg.eval_getD e4
        exact Reg.op_value rfl rfl (by simp only [List.getElem_toArray, List.getElem_cons_zero, List.getElem_cons_succ, execOp, e4]; go_simp) ⟨_, rfl, rfl, hj⟩
      · skip
        obtain rfl := Reg.oper_eq ho rfl
        have e34 : a.eval (.tmp 34) = .pointer (some ⟨g2, 2, none⟩) := hkn.eval 13 34 (by kernel_rfl) (by kernel_rfl)
        have g34 := Reg.eval_getD e34
        have kk := cell_ints hj.1.s 2 _ rfl
        exact Reg.op_value rfl rfl (by simp only [List.getElem_toArray, List.getElem_cons_zero, List.getElem_cons_succ, execOp, e34]; go_simp) ⟨_, rfl, rfl, hj⟩
      · skip
        obtain rfl := Reg.oper_eq ho rfl
        have e4 : a.eval (.tmp 4) = .pointer (some ⟨g2, 0, none⟩) := (hf.eval 4 (by kernel_rfl)).trans rfl
        have g4 := Reg.eval_getD e4
        exact Reg.op_value rfl rfl (by simp only [List.getElem_toArray, List.getElem_cons_zero, List.getElem_cons_succ, execOp, e4]; go_simp) ⟨_, rfl, rfl, hj⟩
      · skip
        obtain rfl := Reg.oper_eq ho rfl
        have e36 : a.eval (.tmp 36) = .pointer (some ⟨g2, 3, none⟩) := hkn.eval 15 36 (by kernel_rfl) (by kernel_rfl)
        have g36 := Reg.eval_getD e36
        have kk := cell_ints hj.1.s 3 _ rfl
        exact Reg.op_value rfl rfl (by simp only [List.getElem_toArray, List.getElem_cons_zero, List.getElem_cons_succ, execOp, e36]; go_simp) ⟨_, rfl, rfl, hj⟩
      · skip
        obtain rfl := Reg.oper_eq ho rfl
        have e31 : a.eval (.tmp 31) = .int .i64 p1 := hkn.eval 10 31 (by kernel_rfl) (by kernel_rfl)
        have e33 : a.eval (.tmp 33) = .int .i64 p2 := hkn.eval 12 33 (by kernel_rfl) (by kernel_rfl)
        have e35 : a.eval (.tmp 35) = .int .i64 p3 := hkn.eval 14 35 (by kernel_rfl) (by kernel_rfl)
        have e37 : a.eval (.tmp 37) = .int .i64 p4 := hkn.eval 16 37 (by kernel_rfl) (by kernel_rfl)
        have g31 := Reg.eval_getD e31
        have g33 := Reg.eval_getD e33
        have g35 := Reg.eval_getD e35
        have g37 := Reg.eval_getD e37
        exact Reg.op_value rfl rfl (by simp only [List.getElem_toArray, List.getElem_cons_zero, List.getElem_cons_succ, execOp, e31, e33, e35, e37]; go_simp) ⟨_, rfl, rfl, hj⟩
    case flo =>
      intro o k a w_ ho hk hmc hf hst hkn hj
      · skip
        obtain rfl := Reg.oper_eq ho rfl
        have hk3 : ¬ 3 ≤ k := by
          intro h3
          have : k = 3 := by simp only [List.length_cons, List.length_nil] at hk; omega
          subst this
          exact Bool.noConfusion (hmc.symm.trans (show Reg.mayComeB _ _ _ _ = false from by kernel_rfl))
        refine Reg.op_value (v := .pointer (some ⟨w_.heap.size, 0, none⟩)) (w' := w_.alloc (.cells (ints [0, 0, 0, 0]) 287)) rfl rfl (by simp only [List.getElem_toArray, List.getElem_cons_zero, List.getElem_cons_succ, execOp]; go_simp; rfl) ⟨_, rfl, trivial, hj.1.drawn ((Below.refl _ _).alloc (Nat.le_refl _) _), fun h1 => ?_, fun _ => ⟨w_.heap.size, Reg.val_put_in hf (by kernel_rfl), blk_lt hj.1.i, blk_lt hj.1.s, by rw [if_neg hk3]; exact heap_alloc_new _ _⟩⟩
        obtain ⟨g3, e, ha, hb, hc⟩ := hj.2.1 h1
        exact ⟨g3, by rw [Reg.val_put_ne _ _ _ _ (by decide)]; exact e, ha, hb, (Below.heap_alloc _ _ _ (blk_lt hc)).trans hc⟩
    case act =>
      intro k bq o a w_ hk ho hbf hf hst hkn hj
      obtain rfl | rfl | rfl : k = 0 ∨ k = 1 ∨ k = 2 := by simp only [List.length_cons, List.length_nil] at hk; omega
      · skip
        obtain rfl := Reg.oper_eq ho rfl
        refine Reg.op_value (v := .pointer (some ⟨w_.heap.size, 0, none⟩)) (w' := w_.alloc (.cells (ints [0, 0, 0, 0]) 221)) rfl rfl (by simp only [List.getElem_toArray, List.getElem_cons_zero, List.getElem_cons_succ, execOp]; go_simp; rfl) ⟨_, rfl, trivial, hj.1.drawn ((Below.refl _ _).alloc (Nat.le_refl _) _), fun _ => ⟨w_.heap.size, Reg.val_put_in hf (by kernel_rfl), blk_lt hj.1.i, blk_lt hj.1.s, heap_alloc_new _ _⟩, fun h1 => ?_⟩
        obtain ⟨g4, e, ha, hb, hc⟩ := hj.2.2 h1
        exact ⟨g4, by rw [Reg.val_put_ne _ _ _ _ (by decide)]; exact e, ha, hb, (Below.heap_alloc _ _ _ (blk_lt hc)).trans hc⟩
      · skip
        obtain rfl := Reg.oper_eq ho rfl
        have e29 : a.eval (.tmp 29) = .agg #[.int .i64 a1, .int .i64 a2, .int .i64 a3, .int .i64 a4] := hkn.eval 8 29 (by kernel_rfl) (by kernel_rfl)
        have g29 := Reg.eval_getD e29
        obtain ⟨g3, hg3, ha, hb, hc⟩ := hj.2.1 (by decide)
        rw [if_neg (by decide)] at hc
        have e6 : a.eval (.tmp 6) = .pointer (some ⟨g3, 0, none⟩) := (Reg.eval_val a 6).trans hg3
        have g6 := Reg.eval_getD e6
        have z0 := cell_ints hc 0 _ rfl
        have z1 := cell_ints hc 1 _ rfl
        have z2 := cell_ints hc 2 _ rfl
        have z3 := cell_ints hc 3 _ rfl
        have y0 := blk_frozen hc 0
        have y1 := blk_frozen hc 1
        have y2 := blk_frozen hc 2
        have y3 := blk_frozen hc 3
        refine Reg.op_unit (w' := (((w_.setCell ⟨g3, 0, none⟩ (.int .i64 a1)).setCell ⟨g3, 1, none⟩ (.int .i64 a2)).setCell ⟨g3, 2, none⟩ (.int .i64 a3)).setCell ⟨g3, 3, none⟩ (.int .i64 a4)) rfl rfl (by simp only [List.getElem_toArray, List.getElem_cons_zero, List.getElem_cons_succ, execOp, e6, e29]; go_simp) ⟨_, rfl, trivial, hj.1.set4 ha hb _ _ _ _, fun _ => ⟨g3, hg3, ha, hb, set4 hc _ _ _ _⟩, fun h1 => ?_⟩
        obtain ⟨g4, e, ha', hb', hc'⟩ := hj.2.2 h1
        refine ⟨g4, e, ha', hb', far4 hc' (fun e => ?_) _ _ _ _⟩
        subst e
        rw [hc] at hc'
        injection hc' with hc'
        injection hc' with _ h9
        exact absurd h9 (by decide)
      · skip
        obtain rfl := Reg.oper_eq ho rfl
        have e38 : a.eval (.tmp 38) = .agg #[.int .i64 p1, .int .i64 p2, .int .i64 p3, .int .i64 p4] := hkn.eval 17 38 (by kernel_rfl) (by kernel_rfl)
        have g38 := Reg.eval_getD e38
        obtain ⟨g4, hg4, ha, hb, hc⟩ := hj.2.2 (hbf (by kernel_rfl))
        obtain ⟨g3, e, ha', hb', hc'⟩ := hj.2.1 (by decide)
        rw [if_neg (by decide)] at hc
        have e7 : a.eval (.tmp 7) = .pointer (some ⟨g4, 0, none⟩) := (Reg.eval_val a 7).trans hg4
        have g7 := Reg.eval_getD e7
        have z0 := cell_ints hc 0 _ rfl
        have z1 := cell_ints hc 1 _ rfl
        have z2 := cell_ints hc 2 _ rfl
        have z3 := cell_ints hc 3 _ rfl
        have y0 := blk_frozen hc 0
        have y1 := blk_frozen hc 1
        have y2 := blk_frozen hc 2
        have y3 := blk_frozen hc 3
        refine Reg.op_unit (w' := (((w_.setCell ⟨g4, 0, none⟩ (.int .i64 p1)).setCell ⟨g4, 1, none⟩ (.int .i64 p2)).setCell ⟨g4, 2, none⟩ (.int .i64 p3)).setCell ⟨g4, 3, none⟩ (.int .i64 p4)) rfl rfl (by simp only [List.getElem_toArray, List.getElem_cons_zero, List.getElem_cons_succ, execOp, e7, e38]; go_simp) ⟨_, rfl, trivial, hj.1.set4 ha hb _ _ _ _, fun _ => ⟨g3, e, ha', hb', far4 hc' (fun e => ?_) _ _ _ _⟩, fun _ => ⟨g4, hg4, ha, hb, set4 hc _ _ _ _⟩⟩
        subst e
        rw [hc] at hc'
        injection hc' with hc'
        injection hc' with _ h9
        exact absurd h9 (by decide)
    case fin =>
      intro a w_ hf hkn hj
      have e21 : Reg.val a 21 = _ := hkn 0 21 (by show _ < _; decide) (by kernel_rfl)
      have e22 : Reg.val a 22 = _ := hkn 1 22 (by show _ < _; decide) (by kernel_rfl)
      have e23 : Reg.val a 23 = _ := hkn 2 23 (by show _ < _; decide) (by kernel_rfl)
      have e24 : Reg.val a 24 = _ := hkn 3 24 (by show _ < _; decide) (by kernel_rfl)
      have e25 : Reg.val a 25 = _ := hkn 4 25 (by show _ < _; decide) (by kernel_rfl)
      have e26 : Reg.val a 26 = _ := hkn 5 26 (by show _ < _; decide) (by kernel_rfl)
      have e27 : Reg.val a 27 = _ := hkn 6 27 (by show _ < _; decide) (by kernel_rfl)
      have e28 : Reg.val a 28 = _ := hkn 7 28 (by show _ < _; decide) (by kernel_rfl)
      have e29 : Reg.val a 29 = _ := hkn 8 29 (by show _ < _; decide) (by kernel_rfl)
      have e30 : Reg.val a 30 = _ := hkn 9 30 (by show _ < _; decide) (by kernel_rfl)
      have e31 : Reg.val a 31 = _ := hkn 10 31 (by show _ < _; decide) (by kernel_rfl)
      have e32 : Reg.val a 32 = _ := hkn 11 32 (by show _ < _; decide) (by kernel_rfl)
      have e33 : Reg.val a 33 = _ := hkn 12 33 (by show _ < _; decide) (by kernel_rfl)
      have e34 : Reg.val a 34 = _ := hkn 13 34 (by show _ < _; decide) (by kernel_rfl)
      have e35 : Reg.val a 35 = _ := hkn 14 35 (by show _ < _; decide) (by kernel_rfl)
      have e36 : Reg.val a 36 = _ := hkn 15 36 (by show _ < _; decide) (by kernel_rfl)
      have e37 : Reg.val a 37 = _ := hkn 16 37 (by show _ < _; decide) (by kernel_rfl)
      have e38 : Reg.val a 38 = _ := hkn 17 38 (by show _ < _; decide) (by kernel_rfl)
      rw [Reg.frm_fold hf [21, 22, 23, 24, 25, 26, 27, 28, 29, 30, 31, 32, 33, 34, 35, 36, 37, 38, 6, 7] (by kernel_rfl) (by kernel_rfl)]
      simp only [List.foldl_cons, List.foldl_nil, Act.put, List.setIfInBounds_toArray, List.set_cons_zero, List.set_cons_succ, e21, e22, e23, e24, e25, e26, e27, e28, e29, e30, e31, e32, e33, e34, e35, e36, e37, e38]
      generalize Reg.val a 6 = v6_ at *
      generalize Reg.val a 7 = v7_ at *
      clear hkn hf e21 e22 e23 e24 e25 e26 e27 e28 e29 e30 e31 e32 e33 e34 e35 e36 e37 e38
      obtain ⟨hV, h3, h4⟩ := hj
      obtain ⟨g3, hg3, ha3, hb3, hc3⟩ := h3 (by decide)
      obtain ⟨g4, hg4, ha4, hb4, hc4⟩ := h4 rfl
      subst hg3
      subst hg4
      have k0 := cell_ints hc4 0 _ rfl
      have k1 := cell_ints hc4 1 _ rfl
      have k2 := cell_ints hc4 2 _ rfl
      have k3 := cell_ints hc4 3 _ rfl
      have HG3 : Hid (w.heap.size + 1 < g3) := ha3
      obtain ⟨P, hP⟩ : ∃ P : List Int, P = [p1, p2, p3, p4] := ⟨_, rfl⟩
      obtain ⟨F, hF⟩ : ∃ P : List Int, P = [a1, a2, a3, a4] := ⟨_, rfl⟩
      have HV5 : Hid (VF w A n c q at' [o, a1, a2, a3, a4] [p1, p2, p3, p4] g2 g3 g4 F P w_) := ⟨hV, by rw [hF]; exact hc3, by rw [hP]; exact hc4⟩
      clear hV h3 h4 hc3 ha3 hb3 ha4 hb4 hc4 HV2
      have HPP := Lib.hid hP
      have HFF := Lib.hid hF
      clear hP hF
      go_wp2_with fail
      go_loopg [40] 4 (fun d i W => ∃ j : Nat, j + d = 4 ∧ i = .int .i64 j ∧ Hid (VF w A n c q at' [o, a1, a2, a3, a4] [p1, p2, p3, p4] g2 g3 g4 F P W) ∧ Hid (∀ m, m < j → zeroB (P.getD m 0) (F.getD m 0) = true))
      case atStart => exact ⟨0, rfl, rfl, HV5.out, fun m hm => absurd hm (by omega)⟩
      case round =>
        obtain ⟨j, hjd, rfl, hV, hZ⟩ := hrel
        by_cases hj4 : j < 4
        · have hj1 : (j : Int) < 4 := by omega
          have hj2 : decide ((j : Int) < 4) = true := decide_eq_true hj1
          have hj0 : (0 : Int) ≤ (j : Int) := by omega
          have hjw : wrap64 ((j : Int) + 1) = ((j + 1 : Nat) : Int) := by unfold wrap64; omega
          have HJD := Lib.hid hjd
          obtain ⟨pj, hpj⟩ : ∃ x, P.getD j 0 = x := ⟨_, rfl⟩
          obtain ⟨vj, hvj⟩ : ∃ x, F.getD j 0 = x := ⟨_, rfl⟩
          have HIX : Hid (∀ W : World, (Instr.index 287 (.agg #[.int .i64 p1, .int .i64 p2, .int .i64 p3, .int .i64 p4]) (.int .i64 (j : Int))).run Tryz.prog W = .ok (.int .i64 pj) W) := fun W => by rw [← hpj, HPP.out]; exact idx94 p1 p2 p3 p4 j hj4 W
          have HZ0 := Lib.hid (show ∀ m, m < j + 1 → zeroB pj vj = true → zeroB (P.getD m 0) (F.getD m 0) = true from fun m hm hz => by
            by_cases hmj : m < j
            · exact hZ.out m hmj
            · obtain rfl : m = j := by omega
              rw [hpj, hvj]
              exact hz)
          have HBZ : Hid (zeroB pj vj = false → B = false) := fun hz => by
            rw [HBB.out]
            rw [← hpj, ← hvj, HPP.out, HFF.out] at hz
            match j, hj4 with
            | 0, _ => change zeroB p1 a1 = false at hz; rw [hz]; simp
            | 1, _ => change zeroB p2 a2 = false at hz; rw [hz]; simp
            | 2, _ => change zeroB p3 a3 = false at hz; rw [hz]; simp
            | 3, _ => change zeroB p4 a4 = false at hz; rw [hz]; simp
          have hlen : F[j]? = some vj := by
            rw [← hvj, HFF.out]
            match j, hj4 with
            | 0, _ => rfl
            | 1, _ => rfl
            | 2, _ => rfl
            | 3, _ => rfl
          have HLN := Lib.hid hlen
          clear hpj hvj hlen hjd
          go_wp2_with fail
          rw [HIX.out]
          simp only [Result.andThen]
          rw [Oper.upon_value]
          go_wp2_with fail
          obtain ⟨W7, hW7⟩ : ∃ X, wr.drew = X := ⟨_, rfl⟩
          have HV7 : Hid (VF w A n c q at' [o, a1, a2, a3, a4] [p1, p2, p3, p4] g2 g3 g4 F P W7) := by rw [← hW7]; exact hV.out.drawn (pw_below_drewN (Below.refl _ _) 1)
          have HVJ : Hid (W7.cell? ⟨g3, j, none⟩ = some (.int .i64 vj)) := cell_ints HV7.out.f j vj HLN.out
          have HW7 := Lib.hid hW7
          clear hW7
          by_cases hp0 : pj = 0
          · have gp : (pj != 0) = false := by rw [hp0]; rfl
            by_cases hv0 : vj = 0
            · have gv : (vj == 0) = true := by rw [hv0]; rfl
              have HZ1 : Hid (∀ m, m < j + 1 → zeroB (P.getD m 0) (F.getD m 0) = true) := fun m hm => HZ0.out m hm (by unfold zeroB; rw [gv]; simp)
              clear hp0 hv0
              refine Reg.wp_region_phase (by kernel_rfl) [9] (fun i => match i with | 0 => fun v => v = .agg #[.slice A n c, .int .i64 q, .int .i64 at'] | 1 => fun v => v = .int .i64 pj | 2 => fun v => v = .bool false | 3 => fun v => v = .bool false | 4 => fun v => v = .int .i64 (j : Int) | 5 => fun v => v = .pointer (some ⟨g3, j, none⟩) | 6 => fun v => v = .int .i64 vj | 7 => fun v => v = .bool true | 8 => fun v => v = .bool true | _ => fun _ => True) (fun k _ Wx => match k with | 0 => Wx = W7 | _ => VF w A n c q at' [o, a1, a2, a3, a4] [p1, p2, p3, p4] g2 g3 g4 F P Wx ∧ true = true) (by kernel_rfl) (by kernel_rfl) (by decide) (by decide) ?hJ ?h0 ?pure ?act ?fin
              case hJ => intro k f f' W h hj; exact hj
              case h0 => exact HW7.out
              case pure =>
                intro i o k a w_ ho hE hk hmc hf hst hkn hj
                have hi : i < 10 := (Array.getElem?_eq_some_iff.1 ho).1
                obtain rfl | rfl | rfl | rfl | rfl | rfl | rfl | rfl | rfl : i = 0 ∨ i = 1 ∨ i = 2 ∨ i = 3 ∨ i = 4 ∨ i = 5 ∨ i = 6 ∨ i = 7 ∨ i = 8 := by
                  simp only [List.mem_cons, List.not_mem_nil, or_false, not_or] at hE
                  omega
                · skip
                  obtain rfl := Reg.oper_eq ho rfl
                  have e2 : a.eval (.tmp 2) = .pointer (some ⟨w.heap.size, 0, none⟩) := (hf.eval 2 (by kernel_rfl)).trans rfl
                  have g2 := Reg.eval_getD e2
                  have hw0 : w_ = W7 := by
                    have hk2 : k = 0 ∨ k = 1 := by simp only [List.length_cons, List.length_nil] at hk; omega
                    rcases hk2 with rfl | rfl
                    · exact hj
                    · exact Bool.noConfusion (hmc.symm.trans (show Reg.mayComeB _ _ _ _ = false from by kernel_rfl))
                  have l0 := blk_cell HV7.out.v.l 0
                  have l1 := blk_cell HV7.out.v.l 1
                  have l2 := blk_cell HV7.out.v.l 2
                  simp only [List.getElem?_toArray, List.getElem?_cons_zero, List.getElem?_cons_succ] at l0 l1 l2
                  exact Reg.op_value rfl rfl (by rw [hw0]; simp only [List.getElem_toArray, List.getElem_cons_zero, List.getElem_cons_succ, execOp, e2]; go_simp) ⟨_, rfl, rfl, hj⟩
                · skip
                  obtain rfl := Reg.oper_eq ho rfl
                  have e9 : a.eval (.tmp 9) = .int .i64 pj := (hf.eval 9 (by kernel_rfl)).trans rfl
                  have g9 := Reg.eval_getD e9
                  exact Reg.op_value rfl rfl (by simp only [List.getElem_toArray, List.getElem_cons_zero, List.getElem_cons_succ, execOp, e9]; go_simp) ⟨_, rfl, rfl, hj⟩
                · skip
                  obtain rfl := Reg.oper_eq ho rfl
                  have e45 : a.eval (.tmp 45) = .int .i64 pj := hkn.eval 1 45 (by kernel_rfl) (by kernel_rfl)
                  have g45 := Reg.eval_getD e45
                  exact Reg.op_value rfl rfl (by simp only [List.getElem_toArray, List.getElem_cons_zero, List.getElem_cons_succ, execOp, e45]; go_simp) ⟨_, rfl, rfl, hj⟩
                · skip
                  obtain rfl := Reg.oper_eq ho rfl
                  have e46 : a.eval (.tmp 46) = .bool false := hkn.eval 2 46 (by kernel_rfl) (by kernel_rfl)
                  have g46 := Reg.eval_getD e46
                  exact Reg.op_value rfl rfl (by simp only [List.getElem_toArray, List.getElem_cons_zero, List.getElem_cons_succ, execOp, e46]; go_simp) ⟨_, rfl, rfl, hj⟩
                · skip
                  obtain rfl := Reg.oper_eq ho rfl
                  have e8 : a.eval (.tmp 8) = .int .i64 (j : Int) := (hf.eval 8 (by kernel_rfl)).trans rfl
                  have e47 : a.eval (.tmp 47) = .bool false := hkn.eval 3 47 (by kernel_rfl) (by kernel_rfl)
                  have g8 := Reg.eval_getD e8
                  have g47 := Reg.eval_getD e47
                  exact Reg.op_value rfl ((Reg.wanted_of (j := 3) (d := 47) (b := false) rfl (by kernel_rfl) e47).trans rfl) (by simp only [List.getElem_toArray, List.getElem_cons_zero, List.getElem_cons_succ, execOp, e8, e47]; go_simp) ⟨_, rfl, rfl, hj⟩
                · skip
                  obtain rfl := Reg.oper_eq ho rfl
                  have e6 : a.eval (.tmp 6) = .pointer (some ⟨g3, 0, none⟩) := (hf.eval 6 (by kernel_rfl)).trans rfl
                  have e48 : a.eval (.tmp 48) = .int .i64 (j : Int) := hkn.eval 4 48 (by kernel_rfl) (by kernel_rfl)
                  have e47 : a.eval (.tmp 47) = .bool false := hkn.eval 3 47 (by kernel_rfl) (by kernel_rfl)
                  have g6 := Reg.eval_getD e6
                  have g48 := Reg.eval_getD e48
                  have g47 := Reg.eval_getD e47
                  exact Reg.op_value rfl ((Reg.wanted_of (j := 3) (d := 47) (b := false) rfl (by kernel_rfl) e47).trans rfl) (by simp only [List.getElem_toArray, List.getElem_cons_zero, List.getElem_cons_succ, execOp, e6, e48, e47]; go_simp) ⟨_, rfl, rfl, hj⟩
                · skip
                  obtain rfl := Reg.oper_eq ho rfl
                  have e49 : a.eval (.tmp 49) = .pointer (some ⟨g3, j, none⟩) := hkn.eval 5 49 (by kernel_rfl) (by kernel_rfl)
                  have e47 : a.eval (.tmp 47) = .bool false := hkn.eval 3 47 (by kernel_rfl) (by kernel_rfl)
                  have g49 := Reg.eval_getD e49
                  have g47 := Reg.eval_getD e47
                  have hw0 : w_ = W7 := by
                    have hk2 : k = 0 ∨ k = 1 := by simp only [List.length_cons, List.length_nil] at hk; omega
                    rcases hk2 with rfl | rfl
                    · exact hj
                    · exact Bool.noConfusion (hmc.symm.trans (show Reg.mayComeB _ _ _ _ = false from by kernel_rfl))
                  have l0 := blk_cell HV7.out.v.l 0
                  have l1 := blk_cell HV7.out.v.l 1
                  have l2 := blk_cell HV7.out.v.l 2
                  simp only [List.getElem?_toArray, List.getElem?_cons_zero, List.getElem?_cons_succ] at l0 l1 l2
                  have kf := HVJ.out
                  exact Reg.op_value rfl ((Reg.wanted_of (j := 3) (d := 47) (b := false) rfl (by kernel_rfl) e47).trans rfl) (by rw [hw0]; simp only [List.getElem_toArray, List.getElem_cons_zero, List.getElem_cons_succ, execOp, e49]; go_simp) ⟨_, rfl, rfl, hj⟩
                · skip
                  obtain rfl := Reg.oper_eq ho rfl
                  have e50 : a.eval (.tmp 50) = .int .i64 vj := hkn.eval 6 50 (by kernel_rfl) (by kernel_rfl)
                  have e47 : a.eval (.tmp 47) = .bool false := hkn.eval 3 47 (by kernel_rfl) (by kernel_rfl)
                  have g50 := Reg.eval_getD e50
                  have g47 := Reg.eval_getD e47
                  exact Reg.op_value rfl ((Reg.wanted_of (j := 3) (d := 47) (b := false) rfl (by kernel_rfl) e47).trans rfl) (by simp only [List.getElem_toArray, List.getElem_cons_zero, List.getElem_cons_succ, execOp, e50, e47]; go_simp) ⟨_, rfl, rfl, hj⟩
                · skip
                  obtain rfl := Reg.oper_eq ho rfl
                  have e47 : a.eval (.tmp 47) = .bool false := hkn.eval 3 47 (by kernel_rfl) (by kernel_rfl)
                  have e51 : a.eval (.tmp 51) = .bool true := hkn.eval 7 51 (by kernel_rfl) (by kernel_rfl)
                  have g47 := Reg.eval_getD e47
                  have g51 := Reg.eval_getD e51
                  exact Reg.op_value rfl rfl (by simp only [List.getElem_toArray, List.getElem_cons_zero, List.getElem_cons_succ, execOp, e47, e51]; go_simp) ⟨_, rfl, rfl, hj⟩
              case act =>
                intro k o a w_ hk ho hf hst hkn hj
                obtain rfl : k = 0 := by simp only [List.length_cons, List.length_nil] at hk; omega
                · skip
                  obtain rfl := Reg.oper_eq ho rfl
                  have e44 : a.eval (.tmp 44) = .agg #[.slice A n c, .int .i64 q, .int .i64 at'] := hkn.eval 0 44 (by kernel_rfl) (by kernel_rfl)
                  have e52 : a.eval (.tmp 52) = .bool true := hkn.eval 8 52 (by kernel_rfl) (by kernel_rfl)
                  have g44 := Reg.eval_getD e44
                  have g52 := Reg.eval_getD e52
                  rw [show w_ = W7 from hj]
                  refine Reg.op_call (f := 114) (args := #[.agg #[.slice A n c, .int .i64 q, .int .i64 at'], .bool true, .int .i64 4]) (w' := W7) rfl rfl (by simp only [List.getElem_toArray, List.getElem_cons_zero, List.getElem_cons_succ, execOp, e44, e52]; go_simp) ((vneed_any A n c q at' true 4 (by decide) W7).mono ?_)
                  rintro e w2 ⟨he, hb⟩
                  obtain rfl : e = .returned (.tuple #[]) := he
                  exact .inl ⟨_, rfl, _, rfl, trivial, HV7.out.drawn hb, rfl⟩
              case fin =>
                intro a w_ hf hkn hj
                have e44 : Reg.val a 44 = _ := hkn 0 44 (by show _ < _; decide) (by kernel_rfl)
                have e45 : Reg.val a 45 = _ := hkn 1 45 (by show _ < _; decide) (by kernel_rfl)
                have e46 : Reg.val a 46 = _ := hkn 2 46 (by show _ < _; decide) (by kernel_rfl)
                have e47 : Reg.val a 47 = _ := hkn 3 47 (by show _ < _; decide) (by kernel_rfl)
                have e48 : Reg.val a 48 = _ := hkn 4 48 (by show _ < _; decide) (by kernel_rfl)
                have e49 : Reg.val a 49 = _ := hkn 5 49 (by show _ < _; decide) (by kernel_rfl)
                have e50 : Reg.val a 50 = _ := hkn 6 50 (by show _ < _; decide) (by kernel_rfl)
                have e51 : Reg.val a 51 = _ := hkn 7 51 (by show _ < _; decide) (by kernel_rfl)
                have e52 : Reg.val a 52 = _ := hkn 8 52 (by show _ < _; decide) (by kernel_rfl)
                rw [Reg.frm_fold hf [44, 45, 46, 47, 48, 49, 50, 51, 52, 53] (by kernel_rfl) (by kernel_rfl)]
                simp only [List.foldl_cons, List.foldl_nil, Act.put, List.setIfInBounds_toArray, List.set_cons_zero, List.set_cons_succ, e44, e45, e46, e47, e48, e49, e50, e51, e52]
                generalize Reg.val a 53 = v53_ at *
                clear hkn hf e44 e45 e46 e47 e48 e49 e50 e51 e52
                have HV9 := Lib.hid hj.1
                clear hj
                go_wp2_with fail
                go_roundg (4 - (j + 1))
                case measure => exact step_lt HJD.out hj4
                case rel => exact ⟨j + 1, step_eq hj4, by go_num, HV9.out, HZ1.out⟩
            · have gv : (vj == 0) = false := by rw [beq_eq_false_iff_ne]; exact hv0
              have HBF := Lib.hid (HBZ.out (by unfold zeroB; rw [gp, gv]; rfl))
              clear hp0 hv0
              refine Reg.wp_region_phase (by kernel_rfl) [9] (fun i => match i with | 0 => fun v => v = .agg #[.slice A n c, .int .i64 q, .int .i64 at'] | 1 => fun v => v = .int .i64 pj | 2 => fun v => v = .bool false | 3 => fun v => v = .bool false | 4 => fun v => v = .int .i64 (j : Int) | 5 => fun v => v = .pointer (some ⟨g3, j, none⟩) | 6 => fun v => v = .int .i64 vj | 7 => fun v => v = .bool false | 8 => fun v => v = .bool false | _ => fun _ => True) (fun k _ Wx => match k with | 0 => Wx = W7 | _ => VF w A n c q at' [o, a1, a2, a3, a4] [p1, p2, p3, p4] g2 g3 g4 F P Wx ∧ false = true) (by kernel_rfl) (by kernel_rfl) (by decide) (by decide) ?hJ ?h0 ?pure ?act ?fin
              case hJ => intro k f f' W h hj; exact hj
              case h0 => exact HW7.out
              case pure =>
                intro i o k a w_ ho hE hk hmc hf hst hkn hj
                have hi : i < 10 := (Array.getElem?_eq_some_iff.1 ho).1
                obtain rfl | rfl | rfl | rfl | rfl | rfl | rfl | rfl | rfl : i = 0 ∨ i = 1 ∨ i = 2 ∨ i = 3 ∨ i = 4 ∨ i = 5 ∨ i = 6 ∨ i = 7 ∨ i = 8 := by
                  simp only [List.mem_cons, List.not_mem_nil, or_false, not_or] at hE
                  omega
                · skip
                  obtain rfl := Reg.oper_eq ho rfl
                  have e2 : a.eval (.tmp 2) = .pointer (some ⟨w.heap.size, 0, none⟩) := (hf.eval 2 (by kernel_rfl)).trans rfl
                  have g2 := Reg.eval_getD e2
                  have hw0 : w_ = W7 := by
                    have hk2 : k = 0 ∨ k = 1 := by simp only [List.length_cons, List.length_nil] at hk; omega
                    rcases hk2 with rfl | rfl
                    · exact hj
                    · exact Bool.noConfusion (hmc.symm.trans (show Reg.mayComeB _ _ _ _ = false from by kernel_rfl))
                  have l0 := blk_cell HV7.out.v.l 0
                  have l1 := blk_cell HV7.out.v.l 1
                  have l2 := blk_cell HV7.out.v.l 2
                  simp only [List.getElem?_toArray, List.getElem?_cons_zero, List.getElem?_cons_succ] at l0 l1 l2
                  exact Reg.op_value rfl rfl (by rw [hw0]; simp only [List.getElem_toArray, List.getElem_cons_zero, List.getElem_cons_succ, execOp, e2]; go_simp) ⟨_, rfl, rfl, hj⟩
                · skip
                  obtain rfl := Reg.oper_eq ho rfl
                  have e9 : a.eval (.tmp 9) = .int .i64 pj := (hf.eval 9 (by kernel_rfl)).trans rfl
                  have g9 := Reg.eval_getD e9
                  exact Reg.op_value rfl rfl (by simp only [List.getElem_toArray, List.getElem_cons_zero, List.getElem_cons_succ, execOp, e9]; go_simp) ⟨_, rfl, rfl, hj⟩
                · skip
                  obtain rfl := Reg.oper_eq ho rfl
                  have e45 : a.eval (.tmp 45) = .int .i64 pj := hkn.eval 1 45 (by kernel_rfl) (by kernel_rfl)
                  have g45 := Reg.eval_getD e45
                  exact Reg.op_value rfl rfl (by simp only [List.getElem_toArray, List.getElem_cons_zero, List.getElem_cons_succ, execOp, e45]; go_simp) ⟨_, rfl, rfl, hj⟩
                · skip
                  obtain rfl := Reg.oper_eq ho rfl
                  have e46 : a.eval (.tmp 46) = .bool false := hkn.eval 2 46 (by kernel_rfl) (by kernel_rfl)
                  have g46 := Reg.eval_getD e46
                  exact Reg.op_value rfl rfl (by simp only [List.getElem_toArray, List.getElem_cons_zero, List.getElem_cons_succ, execOp, e46]; go_simp) ⟨_, rfl, rfl, hj⟩
                · skip
                  obtain rfl := Reg.oper_eq ho rfl
                  have e8 : a.eval (.tmp 8) = .int .i64 (j : Int) := (hf.eval 8 (by kernel_rfl)).trans rfl
                  have e47 : a.eval (.tmp 47) = .bool false := hkn.eval 3 47 (by kernel_rfl) (by kernel_rfl)
                  have g8 := Reg.eval_getD e8
                  have g47 := Reg.eval_getD e47
                  exact Reg.op_value rfl ((Reg.wanted_of (j := 3) (d := 47) (b := false) rfl (by kernel_rfl) e47).trans rfl) (by simp only [List.getElem_toArray, List.getElem_cons_zero, List.getElem_cons_succ, execOp, e8, e47]; go_simp) ⟨_, rfl, rfl, hj⟩
                · skip
                  obtain rfl := Reg.oper_eq ho rfl
                  have e6 : a.eval (.tmp 6) = .pointer (some ⟨g3, 0, none⟩) := (hf.eval 6 (by kernel_rfl)).trans rfl
                  have e48 : a.eval (.tmp 48) = .int .i64 (j : Int) := hkn.eval 4 48 (by kernel_rfl) (by kernel_rfl)
                  have e47 : a.eval (.tmp 47) = .bool false := hkn.eval 3 47 (by kernel_rfl) (by kernel_rfl)
                  have g6 := Reg.eval_getD e6
                  have g48 := Reg.eval_getD e48
                  have g47 := Reg.eval_getD e47
                  exact Reg.op_value rfl ((Reg.wanted_of (j := 3) (d := 47) (b := false) rfl (by kernel_rfl) e47).trans rfl) (by simp only [List.getElem_toArray, List.getElem_cons_zero, List.getElem_cons_succ, execOp, e6, e48, e47]; go_simp) ⟨_, rfl, rfl, hj⟩
                · skip
                  obtain rfl := Reg.oper_eq ho rfl
                  have e49 : a.eval (.tmp 49) = .pointer (some ⟨g3, j, none⟩) := hkn.eval 5 49 (by kernel_rfl) (by kernel_rfl)
                  have e47 : a.eval (.tmp 47) = .bool false := hkn.eval 3 47 (by kernel_rfl) (by kernel_rfl)
                  have g49 := Reg.eval_getD e49
                  have g47 := Reg.eval_getD e47
                  have hw0 : w_ = W7 := by
                    have hk2 : k = 0 ∨ k = 1 := by simp only [List.length_cons, List.length_nil] at hk; omega
                    rcases hk2 with rfl | rfl
                    · exact hj
                    · exact Bool.noConfusion (hmc.symm.trans (show Reg.mayComeB _ _ _ _ = false from by kernel_rfl))
                  have l0 := blk_cell HV7.out.v.l 0
                  have l1 := blk_cell HV7.out.v.l 1
                  have l2 := blk_cell HV7.out.v.l 2
                  simp only [List.getElem?_toArray, List.getElem?_cons_zero, List.getElem?_cons_succ] at l0 l1 l2
                  have kf := HVJ.out
                  exact Reg.op_value rfl ((Reg.wanted_of (j := 3) (d := 47) (b := false) rfl (by kernel_rfl) e47).trans rfl) (by rw [hw0]; simp only [List.getElem_toArray, List.getElem_cons_zero, List.getElem_cons_succ, execOp, e49]; go_simp) ⟨_, rfl, rfl, hj⟩
                · skip
                  obtain rfl := Reg.oper_eq ho rfl
                  have e50 : a.eval (.tmp 50) = .int .i64 vj := hkn.eval 6 50 (by kernel_rfl) (by kernel_rfl)
                  have e47 : a.eval (.tmp 47) = .bool false := hkn.eval 3 47 (by kernel_rfl) (by kernel_rfl)
                  have g50 := Reg.eval_getD e50
                  have g47 := Reg.eval_getD e47
                  exact Reg.op_value rfl ((Reg.wanted_of (j := 3) (d := 47) (b := false) rfl (by kernel_rfl) e47).trans rfl) (by simp only [List.getElem_toArray, List.getElem_cons_zero, List.getElem_cons_succ, execOp, e50, e47]; go_simp) ⟨_, rfl, rfl, hj⟩
                · skip
                  obtain rfl := Reg.oper_eq ho rfl
                  have e47 : a.eval (.tmp 47) = .bool false := hkn.eval 3 47 (by kernel_rfl) (by kernel_rfl)
                  have e51 : a.eval (.tmp 51) = .bool false := hkn.eval 7 51 (by kernel_rfl) (by kernel_rfl)
                  have g47 := Reg.eval_getD e47
                  have g51 := Reg.eval_getD e51
                  exact Reg.op_value rfl rfl (by simp only [List.getElem_toArray, List.getElem_cons_zero, List.getElem_cons_succ, execOp, e47, e51]; go_simp) ⟨_, rfl, rfl, hj⟩
              case act =>
                intro k o a w_ hk ho hf hst hkn hj
                obtain rfl : k = 0 := by simp only [List.length_cons, List.length_nil] at hk; omega
                · skip
                  obtain rfl := Reg.oper_eq ho rfl
                  have e44 : a.eval (.tmp 44) = .agg #[.slice A n c, .int .i64 q, .int .i64 at'] := hkn.eval 0 44 (by kernel_rfl) (by kernel_rfl)
                  have e52 : a.eval (.tmp 52) = .bool false := hkn.eval 8 52 (by kernel_rfl) (by kernel_rfl)
                  have g44 := Reg.eval_getD e44
                  have g52 := Reg.eval_getD e52
                  rw [show w_ = W7 from hj]
                  refine Reg.op_call (f := 114) (args := #[.agg #[.slice A n c, .int .i64 q, .int .i64 at'], .bool false, .int .i64 4]) (w' := W7) rfl rfl (by simp only [List.getElem_toArray, List.getElem_cons_zero, List.getElem_cons_succ, execOp, e44, e52]; go_simp) ((vneed_any A n c q at' false 4 (by decide) W7).mono ?_)
                  rintro e w2 ⟨he, hb⟩
                  obtain ⟨f', a', e', hne, rfl⟩ := he
                  refine .inr ⟨_, rfl, hf.defers, ?_⟩
                  rw [HBF.out]
                  exact ⟨⟨f', a', e', hne, rfl⟩, (HV7.out.drawn hb).v.below⟩
              case fin =>
                intro a w_ hf hkn hj
                have e44 : Reg.val a 44 = _ := hkn 0 44 (by show _ < _; decide) (by kernel_rfl)
                have e45 : Reg.val a 45 = _ := hkn 1 45 (by show _ < _; decide) (by kernel_rfl)
                have e46 : Reg.val a 46 = _ := hkn 2 46 (by show _ < _; decide) (by kernel_rfl)
                have e47 : Reg.val a 47 = _ := hkn 3 47 (by show _ < _; decide) (by kernel_rfl)
                have e48 : Reg.val a 48 = _ := hkn 4 48 (by show _ < _; decide) (by kernel_rfl)
                have e49 : Reg.val a 49 = _ := hkn 5 49 (by show _ < _; decide) (by kernel_rfl)
                have e50 : Reg.val a 50 = _ := hkn 6 50 (by show _ < _; decide) (by kernel_rfl)
                have e51 : Reg.val a 51 = _ := hkn 7 51 (by show _ < _; decide) (by kernel_rfl)
                have e52 : Reg.val a 52 = _ := hkn 8 52 (by show _ < _; decide) (by kernel_rfl)
                rw [Reg.frm_fold hf [44, 45, 46, 47, 48, 49, 50, 51, 52, 53] (by kernel_rfl) (by kernel_rfl)]
                simp only [List.foldl_cons, List.foldl_nil, Act.put, List.setIfInBounds_toArray, List.set_cons_zero, List.set_cons_succ, e44, e45, e46, e47, e48, e49, e50, e51, e52]
                generalize Reg.val a 53 = v53_ at *
                clear hkn hf e44 e45 e46 e47 e48 e49 e50 e51 e52
                exact absurd hj.2 (by decide)
          · have gp : (pj != 0) = true := by rw [bne_iff_ne]; exact hp0
            have HZ1 : Hid (∀ m, m < j + 1 → zeroB (P.getD m 0) (F.getD m 0) = true) := fun m hm => HZ0.out m hm (by unfold zeroB; rw [gp]; rfl)
            clear hp0
            refine Reg.wp_region_phase (by kernel_rfl) [9] (fun i => match i with | 0 => fun v => v = .agg #[.slice A n c, .int .i64 q, .int .i64 at'] | 1 => fun v => v = .int .i64 pj | 2 => fun v => v = .bool true | 3 => fun v => v = .bool true | 4 => fun v => v = undef | 5 => fun v => v = undef | 6 => fun v => v = undef | 7 => fun v => v = undef | 8 => fun v => v = .bool true | _ => fun _ => True) (fun k _ Wx => match k with | 0 => Wx = W7 | _ => VF w A n c q at' [o, a1, a2, a3, a4] [p1, p2, p3, p4] g2 g3 g4 F P Wx ∧ true = true) (by kernel_rfl) (by kernel_rfl) (by decide) (by decide) ?hJ ?h0 ?pure ?act ?fin
            case hJ => intro k f f' W h hj; exact hj
            case h0 => exact HW7.out
            case pure =>
              intro i o k a w_ ho hE hk hmc hf hst hkn hj
              have hi : i < 10 := (Array.getElem?_eq_some_iff.1 ho).1
              obtain rfl | rfl | rfl | rfl | rfl | rfl | rfl | rfl | rfl : i = 0 ∨ i = 1 ∨ i = 2 ∨ i = 3 ∨ i = 4 ∨ i = 5 ∨ i = 6 ∨ i = 7 ∨ i = 8 := by
                simp only [List.mem_cons, List.not_mem_nil, or_false, not_or] at hE
                omega
              · skip
                obtain rfl := Reg.oper_eq ho rfl
                have e2 : a.eval (.tmp 2) = .pointer (some ⟨w.heap.size, 0, none⟩) := (hf.eval 2 (by kernel_rfl)).trans rfl
                have g2 := Reg.eval_getD e2
                have hw0 : w_ = W7 := by
                  have hk2 : k = 0 ∨ k = 1 := by simp only [List.length_cons, List.length_nil] at hk; omega
                  rcases hk2 with rfl | rfl
                  · exact hj
                  · exact Bool.noConfusion (hmc.symm.trans (show Reg.mayComeB _ _ _ _ = false from by kernel_rfl))
                have l0 := blk_cell HV7.out.v.l 0
                have l1 := blk_cell HV7.out.v.l 1
                have l2 := blk_cell HV7.out.v.l 2
                simp only [List.getElem?_toArray, List.getElem?_cons_zero, List.getElem?_cons_succ] at l0 l1 l2
                exact Reg.op_value rfl rfl (by rw [hw0]; simp only [List.getElem_toArray, List.getElem_cons_zero, List.getElem_cons_succ, execOp, e2]; go_simp) ⟨_, rfl, rfl, hj⟩
              · skip
                obtain rfl := Reg.oper_eq ho rfl
                have e9 : a.eval (.tmp 9) = .int .i64 pj := (hf.eval 9 (by kernel_rfl)).trans rfl
                have g9 := Reg.eval_getD e9
                exact Reg.op_value rfl rfl (by simp only [List.getElem_toArray, List.getElem_cons_zero, List.getElem_cons_succ, execOp, e9]; go_simp) ⟨_, rfl, rfl, hj⟩
              · skip
                obtain rfl := Reg.oper_eq ho rfl
                have e45 : a.eval (.tmp 45) = .int .i64 pj := hkn.eval 1 45 (by kernel_rfl) (by kernel_rfl)
                have g45 := Reg.eval_getD e45
                exact Reg.op_value rfl rfl (by simp only [List.getElem_toArray, List.getElem_cons_zero, List.getElem_cons_succ, execOp, e45]; go_simp) ⟨_, rfl, rfl, hj⟩
              · skip
                obtain rfl := Reg.oper_eq ho rfl
                have e46 : a.eval (.tmp 46) = .bool true := hkn.eval 2 46 (by kernel_rfl) (by kernel_rfl)
                have g46 := Reg.eval_getD e46
                exact Reg.op_value rfl rfl (by simp only [List.getElem_toArray, List.getElem_cons_zero, List.getElem_cons_succ, execOp, e46]; go_simp) ⟨_, rfl, rfl, hj⟩
              · skip
                obtain rfl := Reg.oper_eq ho rfl
                have e8 : a.eval (.tmp 8) = .int .i64 (j : Int) := (hf.eval 8 (by kernel_rfl)).trans rfl
                have e47 : a.eval (.tmp 47) = .bool true := hkn.eval 3 47 (by kernel_rfl) (by kernel_rfl)
                have g8 := Reg.eval_getD e8
                have g47 := Reg.eval_getD e47
                exact Reg.op_skip rfl ((Reg.wanted_of (j := 3) (d := 47) (b := false) rfl (by kernel_rfl) e47).trans rfl) ⟨_, rfl, rfl, hj⟩
              · skip
                obtain rfl := Reg.oper_eq ho rfl
                have e6 : a.eval (.tmp 6) = .pointer (some ⟨g3, 0, none⟩) := (hf.eval 6 (by kernel_rfl)).trans rfl
                have e48 : a.eval (.tmp 48) = undef := hkn.eval 4 48 (by kernel_rfl) (by kernel_rfl)
                have e47 : a.eval (.tmp 47) = .bool true := hkn.eval 3 47 (by kernel_rfl) (by kernel_rfl)
                have g6 := Reg.eval_getD e6
                have g48 := Reg.eval_getD e48
                have g47 := Reg.eval_getD e47
                exact Reg.op_skip rfl ((Reg.wanted_of (j := 3) (d := 47) (b := false) rfl (by kernel_rfl) e47).trans rfl) ⟨_, rfl, rfl, hj⟩
              · skip
                obtain rfl := Reg.oper_eq ho rfl
                have e49 : a.eval (.tmp 49) = undef := hkn.eval 5 49 (by kernel_rfl) (by kernel_rfl)
                have e47 : a.eval (.tmp 47) = .bool true := hkn.eval 3 47 (by kernel_rfl) (by kernel_rfl)
                have g49 := Reg.eval_getD e49
                have g47 := Reg.eval_getD e47
                exact Reg.op_skip rfl ((Reg.wanted_of (j := 3) (d := 47) (b := false) rfl (by kernel_rfl) e47).trans rfl) ⟨_, rfl, rfl, hj⟩
              · skip
                obtain rfl := Reg.oper_eq ho rfl
                have e50 : a.eval (.tmp 50) = undef := hkn.eval 6 50 (by kernel_rfl) (by kernel_rfl)
                have e47 : a.eval (.tmp 47) = .bool true := hkn.eval 3 47 (by kernel_rfl) (by kernel_rfl)
                have g50 := Reg.eval_getD e50
                have g47 := Reg.eval_getD e47
                exact Reg.op_skip rfl ((Reg.wanted_of (j := 3) (d := 47) (b := false) rfl (by kernel_rfl) e47).trans rfl) ⟨_, rfl, rfl, hj⟩
              · skip
                obtain rfl := Reg.oper_eq ho rfl
                have e47 : a.eval (.tmp 47) = .bool true := hkn.eval 3 47 (by kernel_rfl) (by kernel_rfl)
                have e51 : a.eval (.tmp 51) = undef := hkn.eval 7 51 (by kernel_rfl) (by kernel_rfl)
                have g47 := Reg.eval_getD e47
                have g51 := Reg.eval_getD e51
                exact Reg.op_value rfl rfl (by simp only [List.getElem_toArray, List.getElem_cons_zero, List.getElem_cons_succ, execOp, e47, e51]; go_simp) ⟨_, rfl, rfl, hj⟩
            case act =>
              intro k o a w_ hk ho hf hst hkn hj
              obtain rfl : k = 0 := by simp only [List.length_cons, List.length_nil] at hk; omega
              · skip
                obtain rfl := Reg.oper_eq ho rfl
                have e44 : a.eval (.tmp 44) = .agg #[.slice A n c, .int .i64 q, .int .i64 at'] := hkn.eval 0 44 (by kernel_rfl) (by kernel_rfl)
                have e52 : a.eval (.tmp 52) = .bool true := hkn.eval 8 52 (by kernel_rfl) (by kernel_rfl)
                have g44 := Reg.eval_getD e44
                have g52 := Reg.eval_getD e52
                rw [show w_ = W7 from hj]
                refine Reg.op_call (f := 114) (args := #[.agg #[.slice A n c, .int .i64 q, .int .i64 at'], .bool true, .int .i64 4]) (w' := W7) rfl rfl (by simp only [List.getElem_toArray, List.getElem_cons_zero, List.getElem_cons_succ, execOp, e44, e52]; go_simp) ((vneed_any A n c q at' true 4 (by decide) W7).mono ?_)
                rintro e w2 ⟨he, hb⟩
                obtain rfl : e = .returned (.tuple #[]) := he
                exact .inl ⟨_, rfl, _, rfl, trivial, HV7.out.drawn hb, rfl⟩
            case fin =>
              intro a w_ hf hkn hj
              have e44 : Reg.val a 44 = _ := hkn 0 44 (by show _ < _; decide) (by kernel_rfl)
              have e45 : Reg.val a 45 = _ := hkn 1 45 (by show _ < _; decide) (by kernel_rfl)
              have e46 : Reg.val a 46 = _ := hkn 2 46 (by show _ < _; decide) (by kernel_rfl)
              have e47 : Reg.val a 47 = _ := hkn 3 47 (by show _ < _; decide) (by kernel_rfl)
              have e48 : Reg.val a 48 = _ := hkn 4 48 (by show _ < _; decide) (by kernel_rfl)
              have e49 : Reg.val a 49 = _ := hkn 5 49 (by show _ < _; decide) (by kernel_rfl)
              have e50 : Reg.val a 50 = _ := hkn 6 50 (by show _ < _; decide) (by kernel_rfl)
              have e51 : Reg.val a 51 = _ := hkn 7 51 (by show _ < _; decide) (by kernel_rfl)
              have e52 : Reg.val a 52 = _ := hkn 8 52 (by show _ < _; decide) (by kernel_rfl)
              rw [Reg.frm_fold hf [44, 45, 46, 47, 48, 49, 50, 51, 52, 53] (by kernel_rfl) (by kernel_rfl)]
              simp only [List.foldl_cons, List.foldl_nil, Act.put, List.setIfInBounds_toArray, List.set_cons_zero, List.set_cons_succ, e44, e45, e46, e47, e48, e49, e50, e51, e52]
              generalize Reg.val a 53 = v53_ at *
              clear hkn hf e44 e45 e46 e47 e48 e49 e50 e51 e52
              have HV9 := Lib.hid hj.1
              clear hj
              go_wp2_with fail
              go_roundg (4 - (j + 1))
              case measure => exact step_lt HJD.out hj4
              case rel => exact ⟨j + 1, step_eq hj4, by go_num, HV9.out, HZ1.out⟩
        · have HZA : Hid (zeroB p1 a1 = true ∧ zeroB p2 a2 = true ∧ zeroB p3 a3 = true ∧ zeroB p4 a4 = true) := by
            have h := hZ.out
            rw [HPP.out, HFF.out] at h
            exact ⟨h 0 (by omega), h 1 (by omega), h 2 (by omega), h 3 (by omega)⟩
          have hj1 : ¬ (j : Int) < 4 := by omega
          have hj2 : decide ((j : Int) < 4) = false := decide_eq_false hj1
          have HP0 := Lib.hid hV.out.p
          rw [HPP.out] at HP0
          have k0 := cell_ints HP0.out 0 _ rfl
          have k1 := cell_ints HP0.out 1 _ rfl
          have k2 := cell_ints HP0.out 2 _ rfl
          have k3 := cell_ints HP0.out 3 _ rfl
          clear hZ hjd HV5
          go_wp2_with fail
          go_loopg [56] 4 (fun d i W => ∃ j : Nat, j + d = 4 ∧ i = .int .i64 j ∧ Hid (VF w A n c q at' [o, a1, a2, a3, a4] [p1, p2, p3, p4] g2 g3 g4 F P W) ∧ Hid (∀ m, m < j → fieldB n cl (F.getD m 0) (P.getD m 0) = true))
          case atStart => exact ⟨0, rfl, rfl, hV.out, fun m hm => absurd hm (by omega)⟩
          case round =>
            obtain ⟨j, hjd, rfl, hV, hZ⟩ := hrel
            by_cases hj4 : j < 4
            · have hj1 : (j : Int) < 4 := by omega
              have hj2 : decide ((j : Int) < 4) = true := decide_eq_true hj1
              have hj0 : (0 : Int) ≤ (j : Int) := by omega
              have hjw : wrap64 ((j : Int) + 1) = ((j + 1 : Nat) : Int) := by unfold wrap64; omega
              have HJD := Lib.hid hjd
              obtain ⟨pj, hpj⟩ : ∃ x, P.getD j 0 = x := ⟨_, rfl⟩
              obtain ⟨vj, hvj⟩ : ∃ x, F.getD j 0 = x := ⟨_, rfl⟩
              have HIX : Hid (∀ W : World, (Instr.index 287 (.agg #[.int .i64 p1, .int .i64 p2, .int .i64 p3, .int .i64 p4]) (.int .i64 (j : Int))).run Tryz.prog W = .ok (.int .i64 pj) W) := fun W => by rw [← hpj, HPP.out]; exact idx94 p1 p2 p3 p4 j hj4 W
              have HZ0 := Lib.hid (show ∀ m, m < j + 1 → fieldB n cl vj pj = true → fieldB n cl (F.getD m 0) (P.getD m 0) = true from fun m hm hz => by
                by_cases hmj : m < j
                · exact hZ.out m hmj
                · obtain rfl : m = j := by omega
                  rw [hpj, hvj]
                  exact hz)
              have HBZ : Hid (fieldB n cl vj pj = false → B = false) := fun hz => by
                rw [HBB.out]
                rw [← hpj, ← hvj, HPP.out, HFF.out] at hz
                match j, hj4 with
                | 0, _ => change fieldB n cl a1 p1 = false at hz; rw [hz]; simp
                | 1, _ => change fieldB n cl a2 p2 = false at hz; rw [hz]; simp
                | 2, _ => change fieldB n cl a3 p3 = false at hz; rw [hz]; simp
                | 3, _ => change fieldB n cl a4 p4 = false at hz; rw [hz]; simp
              have hlen : F[j]? = some vj := by
                rw [← hvj, HFF.out]
                match j, hj4 with
                | 0, _ => rfl
                | 1, _ => rfl
                | 2, _ => rfl
                | 3, _ => rfl
              have HLN := Lib.hid hlen
              have hpm : pj ∈ [p1, p2, p3, p4] := by
                rw [← hpj, HPP.out]
                match j, hj4 with
                | 0, _ => simp
                | 1, _ => simp
                | 2, _ => simp
                | 3, _ => simp
              have HFL : Hid (∀ W, Below w.heap.size w W → Calls Tryz.prog 158 #[.agg #[.slice A n c, .int .i64 q, .int .i64 at'], .int .i64 vj, .int .i64 pj] W (GivesV W (fieldB n cl vj pj))) := fun W hb => by
                by_cases h5 : pj = 5
                · subst h5
                  obtain ⟨ad, A1, c1, rfl, hc⟩ := HT.out
                  exact vfield_target ad A1 n c cl c1 q at' vj W HQ.out ((hb.cell (World.block_lt_of_cell? w _ hc)).trans hc)
                · exact vfield_any pj (by have := HPS.out pj hpm; omega) A n c cl q at' vj W
              obtain ⟨fb, hfb⟩ : ∃ x, fieldB n cl vj pj = x := ⟨_, rfl⟩
              rw [hfb] at HBZ HZ0 HFL
              clear hpj hvj hlen hjd hpm hfb
              go_wp2_with fail
              rw [HIX.out]
              simp only [Result.andThen]
              rw [Oper.upon_value]
              go_wp2_with fail
              obtain ⟨W7, hW7⟩ : ∃ X, wr.drew = X := ⟨_, rfl⟩
              have HV7 : Hid (VF w A n c q at' [o, a1, a2, a3, a4] [p1, p2, p3, p4] g2 g3 g4 F P W7) := by rw [← hW7]; exact hV.out.drawn (pw_below_drewN (Below.refl _ _) 1)
              have HVJ : Hid (W7.cell? ⟨g3, j, none⟩ = some (.int .i64 vj)) := cell_ints HV7.out.f j vj HLN.out
              have HW7 := Lib.hid hW7
              clear hW7
              refine Reg.wp_region_phase (by kernel_rfl) [5] (fun i => match i with | 0 => fun v => v = .agg #[.slice A n c, .int .i64 q, .int .i64 at'] | 1 => fun v => v = .int .i64 (j : Int) | 2 => fun v => v = .pointer (some ⟨g3, j, none⟩) | 3 => fun v => v = .int .i64 vj | 4 => fun v => v = .int .i64 pj | _ => fun _ => True) (fun k _ Wx => match k with | 0 => Wx = W7 | _ => VF w A n c q at' [o, a1, a2, a3, a4] [p1, p2, p3, p4] g2 g3 g4 F P Wx ∧ fb = true) (by kernel_rfl) (by kernel_rfl) (by decide) (by decide) ?hJ ?h0 ?pure ?act ?fin
              case hJ => intro k f f' W h hj; exact hj
              case h0 => exact HW7.out
              case pure =>
                intro i o k a w_ ho hE hk hmc hf hst hkn hj
                have hi : i < 6 := (Array.getElem?_eq_some_iff.1 ho).1
                obtain rfl | rfl | rfl | rfl | rfl : i = 0 ∨ i = 1 ∨ i = 2 ∨ i = 3 ∨ i = 4 := by
                  simp only [List.mem_cons, List.not_mem_nil, or_false, not_or] at hE
                  omega
                · skip
                  obtain rfl := Reg.oper_eq ho rfl
                  have e2 : a.eval (.tmp 2) = .pointer (some ⟨w.heap.size, 0, none⟩) := (hf.eval 2 (by kernel_rfl)).trans rfl
                  have g2 := Reg.eval_getD e2
                  have hw0 : w_ = W7 := by
                    have hk2 : k = 0 ∨ k = 1 := by simp only [List.length_cons, List.length_nil] at hk; omega
                    rcases hk2 with rfl | rfl
                    · exact hj
                    · exact Bool.noConfusion (hmc.symm.trans (show Reg.mayComeB _ _ _ _ = false from by kernel_rfl))
                  have l0 := blk_cell HV7.out.v.l 0
                  have l1 := blk_cell HV7.out.v.l 1
                  have l2 := blk_cell HV7.out.v.l 2
                  simp only [List.getElem?_toArray, List.getElem?_cons_zero, List.getElem?_cons_succ] at l0 l1 l2
                  exact Reg.op_value rfl rfl (by rw [hw0]; simp only [List.getElem_toArray, List.getElem_cons_zero, List.getElem_cons_succ, execOp, e2]; go_simp) ⟨_, rfl, rfl, hj⟩
                · skip
                  obtain rfl := Reg.oper_eq ho rfl
                  have e10 : a.eval (.tmp 10) = .int .i64 (j : Int) := (hf.eval 10 (by kernel_rfl)).trans rfl
                  have g10 := Reg.eval_getD e10
                  exact Reg.op_value rfl rfl (by simp only [List.getElem_toArray, List.getElem_cons_zero, List.getElem_cons_succ, execOp, e10]; go_simp) ⟨_, rfl, rfl, hj⟩
                · skip
                  obtain rfl := Reg.oper_eq ho rfl
                  have e6 : a.eval (.tmp 6) = .pointer (some ⟨g3, 0, none⟩) := (hf.eval 6 (by kernel_rfl)).trans rfl
                  have e61 : a.eval (.tmp 61) = .int .i64 (j : Int) := hkn.eval 1 61 (by kernel_rfl) (by kernel_rfl)
                  have g6 := Reg.eval_getD e6
                  have g61 := Reg.eval_getD e61
                  exact Reg.op_value rfl rfl (by simp only [List.getElem_toArray, List.getElem_cons_zero, List.getElem_cons_succ, execOp, e6, e61]; go_simp) ⟨_, rfl, rfl, hj⟩
                · skip
                  obtain rfl := Reg.oper_eq ho rfl
                  have e62 : a.eval (.tmp 62) = .pointer (some ⟨g3, j, none⟩) := hkn.eval 2 62 (by kernel_rfl) (by kernel_rfl)
                  have g62 := Reg.eval_getD e62
                  have hw0 : w_ = W7 := by
                    have hk2 : k = 0 ∨ k = 1 := by simp only [List.length_cons, List.length_nil] at hk; omega
                    rcases hk2 with rfl | rfl
                    · exact hj
                    · exact Bool.noConfusion (hmc.symm.trans (show Reg.mayComeB _ _ _ _ = false from by kernel_rfl))
                  have l0 := blk_cell HV7.out.v.l 0
                  have l1 := blk_cell HV7.out.v.l 1
                  have l2 := blk_cell HV7.out.v.l 2
                  simp only [List.getElem?_toArray, List.getElem?_cons_zero, List.getElem?_cons_succ] at l0 l1 l2
                  have kf := HVJ.out
                  exact Reg.op_value rfl rfl (by rw [hw0]; simp only [List.getElem_toArray, List.getElem_cons_zero, List.getElem_cons_succ, execOp, e62]; go_simp) ⟨_, rfl, rfl, hj⟩
                · skip
                  obtain rfl := Reg.oper_eq ho rfl
                  have e11 : a.eval (.tmp 11) = .int .i64 pj := (hf.eval 11 (by kernel_rfl)).trans rfl
                  have g11 := Reg.eval_getD e11
                  exact Reg.op_value rfl rfl (by simp only [List.getElem_toArray, List.getElem_cons_zero, List.getElem_cons_succ, execOp, e11]; go_simp) ⟨_, rfl, rfl, hj⟩
              case act =>
                intro k o a w_ hk ho hf hst hkn hj
                obtain rfl : k = 0 := by simp only [List.length_cons, List.length_nil] at hk; omega
                · skip
                  obtain rfl := Reg.oper_eq ho rfl
                  have e60 : a.eval (.tmp 60) = .agg #[.slice A n c, .int .i64 q, .int .i64 at'] := hkn.eval 0 60 (by kernel_rfl) (by kernel_rfl)
                  have e63 : a.eval (.tmp 63) = .int .i64 vj := hkn.eval 3 63 (by kernel_rfl) (by kernel_rfl)
                  have e64 : a.eval (.tmp 64) = .int .i64 pj := hkn.eval 4 64 (by kernel_rfl) (by kernel_rfl)
                  have g60 := Reg.eval_getD e60
                  have g63 := Reg.eval_getD e63
                  have g64 := Reg.eval_getD e64
                  rw [show w_ = W7 from hj]
                  refine Reg.op_call (f := 158) (args := #[.agg #[.slice A n c, .int .i64 q, .int .i64 at'], .int .i64 vj, .int .i64 pj]) (w' := W7) rfl rfl (by simp only [List.getElem_toArray, List.getElem_cons_zero, List.getElem_cons_succ, execOp, e60, e63, e64]; go_simp) ((HFL.out W7 HV7.out.v.below).mono ?_)
                  rintro e w2 ⟨he, hb⟩
                  cases fb with
                  | true =>
                    obtain rfl : e = .returned (.tuple #[]) := he
                    exact .inl ⟨_, rfl, _, rfl, trivial, HV7.out.drawn hb, rfl⟩
                  | false =>
                    obtain ⟨f', a', e', hne, rfl⟩ := he
                    refine .inr ⟨_, rfl, hf.defers, ?_⟩
                    rw [HBZ.out rfl]
                    exact ⟨⟨f', a', e', hne, rfl⟩, (HV7.out.drawn hb).v.below⟩
              case fin =>
                intro a w_ hf hkn hj
                have e60 : Reg.val a 60 = _ := hkn 0 60 (by show _ < _; decide) (by kernel_rfl)
                have e61 : Reg.val a 61 = _ := hkn 1 61 (by show _ < _; decide) (by kernel_rfl)
                have e62 : Reg.val a 62 = _ := hkn 2 62 (by show _ < _; decide) (by kernel_rfl)
                have e63 : Reg.val a 63 = _ := hkn 3 63 (by show _ < _; decide) (by kernel_rfl)
                have e64 : Reg.val a 64 = _ := hkn 4 64 (by show _ < _; decide) (by kernel_rfl)
                rw [Reg.frm_fold hf [60, 61, 62, 63, 64, 65] (by kernel_rfl) (by kernel_rfl)]
                simp only [List.foldl_cons, List.foldl_nil, Act.put, List.setIfInBounds_toArray, List.set_cons_zero, List.set_cons_succ, e60, e61, e62, e63, e64]
                generalize Reg.val a 65 = v65_ at *
                clear hkn hf e60 e61 e62 e63 e64
                have HV9 := Lib.hid hj.1
                have HFB := Lib.hid hj.2
                clear hj
                go_wp2_with fail
                go_roundg (4 - (j + 1))
                case measure => exact step_lt HJD.out hj4
                case rel => exact ⟨j + 1, step_eq hj4, by go_num, HV9.out, fun m hm => HZ0.out m hm HFB.out⟩
            · have HFA : Hid (fieldB n cl a1 p1 = true ∧ fieldB n cl a2 p2 = true ∧ fieldB n cl a3 p3 = true ∧ fieldB n cl a4 p4 = true) := by
                have h := hZ.out
                rw [HPP.out, HFF.out] at h
                exact ⟨h 0 (by omega), h 1 (by omega), h 2 (by omega), h 3 (by omega)⟩
              have HB9 : Hid (B = (p3 != 3 || decide (ar a3 ≤ 8 - a2))) := by
                show _ = _
                rw [HBB.out, HZA.out.1, HZA.out.2.1, HZA.out.2.2.1, HZA.out.2.2.2, HFA.out.1, HFA.out.2.1, HFA.out.2.2.1, HFA.out.2.2.2]
                rfl
              have hj1 : ¬ (j : Int) < 4 := by omega
              have hj2 : decide ((j : Int) < 4) = false := decide_eq_false hj1
              have s2 := cell_ints hV.out.v.s 2 _ rfl
              clear hZ hjd
              by_cases h3 : p3 = 3
              · subst h3
                have hp2 : p2 = 1 := HP3.out rfl
                have hf2 := HFA.out.2.1
                rw [hp2] at hf2
                have hf3 := HFA.out.2.2.1
                have ha2 : 0 ≤ a2 ∧ a2 < 8 := by simpa [fieldB] using hf2
                have ha3 : 0 ≤ a3 ∧ a3 < n := by simpa [fieldB] using hf3
                obtain ⟨m, hm⟩ : ∃ m : Nat, a3 = (m : Int) := ⟨a3.toNat, by omega⟩
                obtain ⟨ad, hAd, hca⟩ := HA.out m (by omega)
                have HCA : Hid (∀ W, Below w.heap.size w W → W.cell? (ad.add (m * 2)) = some (.int .i64 (ar a3))) := fun W hb => by
                  rw [hm]
                  exact (hb.cell (World.block_lt_of_cell? w _ hca)).trans hca
                have hmn : (m : Int) < (n : Int) := by omega
                have hm0 : (0 : Int) ≤ (m : Int) := by omega
                have hw8 : wrap64 (8 - a2) = 8 - a2 := by unfold wrap64; omega
                have hw9 : IntKind.i64.wrap (8 - a2) = 8 - a2 := by rw [IntKind.wrap_i64]; omega
                have HMM := Lib.hid hm
                obtain ⟨arv, harv⟩ : ∃ x, ar a3 = x := ⟨_, rfl⟩
                rw [harv] at HB9 HCA
                clear hp2 hf2 hf3 ha2 ha3 hca harv hm
                go_wp2_with fail
                obtain ⟨W7, hW7⟩ : ∃ X, wr.drew = X := ⟨_, rfl⟩
                have HV7 : Hid (VF w A n c q at' [o, a1, a2, a3, a4] [p1, p2, 3, p4] g2 g3 g4 F P W7) := by rw [← hW7]; exact hV.out.drawn (pw_below_drewN (Below.refl _ _) 1)
                have HW7 := Lib.hid hW7
                clear hW7
                by_cases hle : arv ≤ 8 - a2
                · have gle : decide (arv ≤ 8 - a2) = true := decide_eq_true hle
                  have HBT : Hid (B = true) := by show _ = _; rw [HB9.out, gle]; simp
                  refine Reg.wp_region_phase (by kernel_rfl) [12] (fun i => match i with | 0 => fun v => v = .agg #[.slice A n c, .int .i64 q, .int .i64 at'] | 1 => fun v => v = .pointer (some ⟨w.heap.size, 0, none⟩) | 2 => fun v => v = .slice A n c | 3 => fun v => v = .pointer (some ⟨w.heap.size + 1, 3, none⟩) | 4 => fun v => v = .int .i64 a3 | 5 => fun v => v = .pointer (some (ad.add (m * 2))) | 6 => fun v => v = .pointer (some (ad.add (m * 2))) | 7 => fun v => v = .int .i64 arv | 8 => fun v => v = .pointer (some ⟨w.heap.size + 1, 2, none⟩) | 9 => fun v => v = .int .i64 a2 | 10 => fun v => v = .int .i64 (8 - a2) | 11 => fun v => v = .bool true | _ => fun _ => True) (fun k _ Wx => match k with | 0 => Wx = W7 | _ => Below w.heap.size w Wx ∧ true = true) (by kernel_rfl) (by kernel_rfl) (by decide) (by decide) ?hJ ?h0 ?pure ?act ?fin
                  case hJ => intro k f f' W h hj; exact hj
                  case h0 => exact HW7.out
                  case pure =>
                    intro i o k a w_ ho hE hk hmc hf hst hkn hj
                    have hi : i < 13 := (Array.getElem?_eq_some_iff.1 ho).1
                    obtain rfl | rfl | rfl | rfl | rfl | rfl | rfl | rfl | rfl | rfl | rfl | rfl : i = 0 ∨ i = 1 ∨ i = 2 ∨ i = 3 ∨ i = 4 ∨ i = 5 ∨ i = 6 ∨ i = 7 ∨ i = 8 ∨ i = 9 ∨ i = 10 ∨ i = 11 := by
                      simp only [List.mem_cons, List.not_mem_nil, or_false, not_or] at hE
                      omega
                    · skip
                      obtain rfl := Reg.oper_eq ho rfl
                      have e2 : a.eval (.tmp 2) = .pointer (some ⟨w.heap.size, 0, none⟩) := (hf.eval 2 (by kernel_rfl)).trans rfl
                      have g2 := Reg.eval_getD e2
                      have hw0 : w_ = W7 := by
                        have hk2 : k = 0 ∨ k = 1 := by simp only [List.length_cons, List.length_nil] at hk; omega
                        rcases hk2 with rfl | rfl
                        · exact hj
                        · exact Bool.noConfusion (hmc.symm.trans (show Reg.mayComeB _ _ _ _ = false from by kernel_rfl))
                      have l0 := blk_cell HV7.out.v.l 0
                      have l1 := blk_cell HV7.out.v.l 1
                      have l2 := blk_cell HV7.out.v.l 2
                      simp only [List.getElem?_toArray, List.getElem?_cons_zero, List.getElem?_cons_succ] at l0 l1 l2
                      have i3 := cell_ints HV7.out.v.i 3 _ rfl
                      have i2 := cell_ints HV7.out.v.i 2 _ rfl
                      have kar := HCA.out W7 HV7.out.v.below
                      exact Reg.op_value rfl rfl (by rw [hw0]; simp only [List.getElem_toArray, List.getElem_cons_zero, List.getElem_cons_succ, execOp, e2]; go_simp) ⟨_, rfl, rfl, hj⟩
                    · skip
                      obtain rfl := Reg.oper_eq ho rfl
                      have e2 : a.eval (.tmp 2) = .pointer (some ⟨w.heap.size, 0, none⟩) := (hf.eval 2 (by kernel_rfl)).trans rfl
                      have g2 := Reg.eval_getD e2
                      exact Reg.op_value rfl rfl (by simp only [List.getElem_toArray, List.getElem_cons_zero, List.getElem_cons_succ, execOp, e2]; go_simp) ⟨_, rfl, rfl, hj⟩
                    · skip
                      obtain rfl := Reg.oper_eq ho rfl
                      have e71 : a.eval (.tmp 71) = .pointer (some ⟨w.heap.size, 0, none⟩) := hkn.eval 1 71 (by kernel_rfl) (by kernel_rfl)
                      have g71 := Reg.eval_getD e71
                      have hw0 : w_ = W7 := by
                        have hk2 : k = 0 ∨ k = 1 := by simp only [List.length_cons, List.length_nil] at hk; omega
                        rcases hk2 with rfl | rfl
                        · exact hj
                        · exact Bool.noConfusion (hmc.symm.trans (show Reg.mayComeB _ _ _ _ = false from by kernel_rfl))
                      have l0 := blk_cell HV7.out.v.l 0
                      have l1 := blk_cell HV7.out.v.l 1
                      have l2 := blk_cell HV7.out.v.l 2
                      simp only [List.getElem?_toArray, List.getElem?_cons_zero, List.getElem?_cons_succ] at l0 l1 l2
                      have i3 := cell_ints HV7.out.v.i 3 _ rfl
                      have i2 := cell_ints HV7.out.v.i 2 _ rfl
                      have kar := HCA.out W7 HV7.out.v.below
                      exact Reg.op_value rfl rfl (by rw [hw0]; simp only [List.getElem_toArray, List.getElem_cons_zero, List.getElem_cons_succ, execOp, e71]; go_simp) ⟨_, rfl, rfl, hj⟩
                    · skip
                      obtain rfl := Reg.oper_eq ho rfl
                      have e3 : a.eval (.tmp 3) = .pointer (some ⟨w.heap.size + 1, 0, none⟩) := (hf.eval 3 (by kernel_rfl)).trans rfl
                      have g3 := Reg.eval_getD e3
                      exact Reg.op_value rfl rfl (by simp only [List.getElem_toArray, List.getElem_cons_zero, List.getElem_cons_succ, execOp, e3]; go_simp) ⟨_, rfl, rfl, hj⟩
                    · skip
                      obtain rfl := Reg.oper_eq ho rfl
                      have e73 : a.eval (.tmp 73) = .pointer (some ⟨w.heap.size + 1, 3, none⟩) := hkn.eval 3 73 (by kernel_rfl) (by kernel_rfl)
                      have g73 := Reg.eval_getD e73
                      have hw0 : w_ = W7 := by
                        have hk2 : k = 0 ∨ k = 1 := by simp only [List.length_cons, List.length_nil] at hk; omega
                        rcases hk2 with rfl | rfl
                        · exact hj
                        · exact Bool.noConfusion (hmc.symm.trans (show Reg.mayComeB _ _ _ _ = false from by kernel_rfl))
                      have l0 := blk_cell HV7.out.v.l 0
                      have l1 := blk_cell HV7.out.v.l 1
                      have l2 := blk_cell HV7.out.v.l 2
                      simp only [List.getElem?_toArray, List.getElem?_cons_zero, List.getElem?_cons_succ] at l0 l1 l2
                      have i3 := cell_ints HV7.out.v.i 3 _ rfl
                      have i2 := cell_ints HV7.out.v.i 2 _ rfl
                      have kar := HCA.out W7 HV7.out.v.below
                      exact Reg.op_value rfl rfl (by rw [hw0]; simp only [List.getElem_toArray, List.getElem_cons_zero, List.getElem_cons_succ, execOp, e73]; go_simp) ⟨_, rfl, rfl, hj⟩
                    · skip
                      obtain rfl := Reg.oper_eq ho rfl
                      have e72 : a.eval (.tmp 72) = .slice A n c := hkn.eval 2 72 (by kernel_rfl) (by kernel_rfl)
                      have e74 : a.eval (.tmp 74) = .int .i64 a3 := hkn.eval 4 74 (by kernel_rfl) (by kernel_rfl)
                      have g72 := Reg.eval_getD e72
                      have g74 := Reg.eval_getD e74
                      rw [HMM.out] at e74 g74
                      rw [hAd] at e72 g72
                      exact Reg.op_value rfl rfl (by simp only [List.getElem_toArray, List.getElem_cons_zero, List.getElem_cons_succ, execOp, e72, e74]; go_simp) ⟨_, rfl, rfl, hj⟩
                    · skip
                      obtain rfl := Reg.oper_eq ho rfl
                      have e75 : a.eval (.tmp 75) = .pointer (some (ad.add (m * 2))) := hkn.eval 5 75 (by kernel_rfl) (by kernel_rfl)
                      have g75 := Reg.eval_getD e75
                      exact Reg.op_value rfl rfl (by simp only [List.getElem_toArray, List.getElem_cons_zero, List.getElem_cons_succ, execOp, e75]; go_simp) ⟨_, rfl, rfl, hj⟩
                    · skip
                      obtain rfl := Reg.oper_eq ho rfl
                      have e76 : a.eval (.tmp 76) = .pointer (some (ad.add (m * 2))) := hkn.eval 6 76 (by kernel_rfl) (by kernel_rfl)
                      have g76 := Reg.eval_getD e76
                      have hw0 : w_ = W7 := by
                        have hk2 : k = 0 ∨ k = 1 := by simp only [List.length_cons, List.length_nil] at hk; omega
                        rcases hk2 with rfl | rfl
                        · exact hj
                        · exact Bool.noConfusion (hmc.symm.trans (show Reg.mayComeB _ _ _ _ = false from by kernel_rfl))
                      have l0 := blk_cell HV7.out.v.l 0
                      have l1 := blk_cell HV7.out.v.l 1
                      have l2 := blk_cell HV7.out.v.l 2
                      simp only [List.getElem?_toArray, List.getElem?_cons_zero, List.getElem?_cons_succ] at l0 l1 l2
                      have i3 := cell_ints HV7.out.v.i 3 _ rfl
                      have i2 := cell_ints HV7.out.v.i 2 _ rfl
                      have kar := HCA.out W7 HV7.out.v.below
                      exact Reg.op_value rfl rfl (by rw [hw0]; simp only [List.getElem_toArray, List.getElem_cons_zero, List.getElem_cons_succ, execOp, e76]; go_simp) ⟨_, rfl, rfl, hj⟩
                    · skip
                      obtain rfl := Reg.oper_eq ho rfl
                      have e3 : a.eval (.tmp 3) = .pointer (some ⟨w.heap.size + 1, 0, none⟩) := (hf.eval 3 (by kernel_rfl)).trans rfl
                      have g3 := Reg.eval_getD e3
                      exact Reg.op_value rfl rfl (by simp only [List.getElem_toArray, List.getElem_cons_zero, List.getElem_cons_succ, execOp, e3]; go_simp) ⟨_, rfl, rfl, hj⟩
                    · skip
                      obtain rfl := Reg.oper_eq ho rfl
                      have e78 : a.eval (.tmp 78) = .pointer (some ⟨w.heap.size + 1, 2, none⟩) := hkn.eval 8 78 (by kernel_rfl) (by kernel_rfl)
                      have g78 := Reg.eval_getD e78
                      have hw0 : w_ = W7 := by
                        have hk2 : k = 0 ∨ k = 1 := by simp only [List.length_cons, List.length_nil] at hk; omega
                        rcases hk2 with rfl | rfl
                        · exact hj
                        · exact Bool.noConfusion (hmc.symm.trans (show Reg.mayComeB _ _ _ _ = false from by kernel_rfl))
                      have l0 := blk_cell HV7.out.v.l 0
                      have l1 := blk_cell HV7.out.v.l 1
                      have l2 := blk_cell HV7.out.v.l 2
                      simp only [List.getElem?_toArray, List.getElem?_cons_zero, List.getElem?_cons_succ] at l0 l1 l2
                      have i3 := cell_ints HV7.out.v.i 3 _ rfl
                      have i2 := cell_ints HV7.out.v.i 2 _ rfl
                      have kar := HCA.out W7 HV7.out.v.below
                      exact Reg.op_value rfl rfl (by rw [hw0]; simp only [List.getElem_toArray, List.getElem_cons_zero, List.getElem_cons_succ, execOp, e78]; go_simp) ⟨_, rfl, rfl, hj⟩
                    · skip
                      obtain rfl := Reg.oper_eq ho rfl
                      have e79 : a.eval (.tmp 79) = .int .i64 a2 := hkn.eval 9 79 (by kernel_rfl) (by kernel_rfl)
                      have g79 := Reg.eval_getD e79
                      exact Reg.op_value rfl rfl (by simp only [List.getElem_toArray, List.getElem_cons_zero, List.getElem_cons_succ, execOp, e79]; go_simp) ⟨_, rfl, rfl, hj⟩
                    · skip
                      obtain rfl := Reg.oper_eq ho rfl
                      have e77 : a.eval (.tmp 77) = .int .i64 arv := hkn.eval 7 77 (by kernel_rfl) (by kernel_rfl)
                      have e80 : a.eval (.tmp 80) = .int .i64 (8 - a2) := hkn.eval 10 80 (by kernel_rfl) (by kernel_rfl)
                      have g77 := Reg.eval_getD e77
                      have g80 := Reg.eval_getD e80
                      exact Reg.op_value rfl rfl (by simp only [List.getElem_toArray, List.getElem_cons_zero, List.getElem_cons_succ, execOp, e77, e80]; go_simp) ⟨_, rfl, rfl, hj⟩
                  case act =>
                    intro k o a w_ hk ho hf hst hkn hj
                    obtain rfl : k = 0 := by simp only [List.length_cons, List.length_nil] at hk; omega
                    · skip
                      obtain rfl := Reg.oper_eq ho rfl
                      have e70 : a.eval (.tmp 70) = .agg #[.slice A n c, .int .i64 q, .int .i64 at'] := hkn.eval 0 70 (by kernel_rfl) (by kernel_rfl)
                      have e81 : a.eval (.tmp 81) = .bool true := hkn.eval 11 81 (by kernel_rfl) (by kernel_rfl)
                      have g70 := Reg.eval_getD e70
                      have g81 := Reg.eval_getD e81
                      rw [show w_ = W7 from hj]
                      refine Reg.op_call (f := 114) (args := #[.agg #[.slice A n c, .int .i64 q, .int .i64 at'], .bool true, .int .i64 6]) (w' := W7) rfl rfl (by simp only [List.getElem_toArray, List.getElem_cons_zero, List.getElem_cons_succ, execOp, e70, e81]; go_simp) ((vneed_any A n c q at' true 6 (by decide) W7).mono ?_)
                      rintro e w2 ⟨he, hb⟩
                      obtain rfl : e = .returned (.tuple #[]) := he
                      exact .inl ⟨_, rfl, _, rfl, trivial, (HV7.out.drawn hb).v.below, rfl⟩
                  case fin =>
                    intro a w_ hf hkn hj
                    have e70 : Reg.val a 70 = _ := hkn 0 70 (by show _ < _; decide) (by kernel_rfl)
                    have e71 : Reg.val a 71 = _ := hkn 1 71 (by show _ < _; decide) (by kernel_rfl)
                    have e72 : Reg.val a 72 = _ := hkn 2 72 (by show _ < _; decide) (by kernel_rfl)
                    have e73 : Reg.val a 73 = _ := hkn 3 73 (by show _ < _; decide) (by kernel_rfl)
                    have e74 : Reg.val a 74 = _ := hkn 4 74 (by show _ < _; decide) (by kernel_rfl)
                    have e75 : Reg.val a 75 = _ := hkn 5 75 (by show _ < _; decide) (by kernel_rfl)
                    have e76 : Reg.val a 76 = _ := hkn 6 76 (by show _ < _; decide) (by kernel_rfl)
                    have e77 : Reg.val a 77 = _ := hkn 7 77 (by show _ < _; decide) (by kernel_rfl)
                    have e78 : Reg.val a 78 = _ := hkn 8 78 (by show _ < _; decide) (by kernel_rfl)
                    have e79 : Reg.val a 79 = _ := hkn 9 79 (by show _ < _; decide) (by kernel_rfl)
                    have e80 : Reg.val a 80 = _ := hkn 10 80 (by show _ < _; decide) (by kernel_rfl)
                    have e81 : Reg.val a 81 = _ := hkn 11 81 (by show _ < _; decide) (by kernel_rfl)
                    rw [Reg.frm_fold hf [70, 71, 72, 73, 74, 75, 76, 77, 78, 79, 80, 81, 82] (by kernel_rfl) (by kernel_rfl)]
                    simp only [List.foldl_cons, List.foldl_nil, Act.put, List.setIfInBounds_toArray, List.set_cons_zero, List.set_cons_succ, e70, e71, e72, e73, e74, e75, e76, e77, e78, e79, e80, e81]
                    generalize Reg.val a 82 = v82_ at *
                    clear hkn hf e70 e71 e72 e73 e74 e75 e76 e77 e78 e79 e80 e81
                    have hb9 : Below w.heap.size w w_ := hj.1
                    clear hj
                    go_wp2_with fail
                    go_end0
                    rw [HBT.out]
                    exact ⟨rfl, hb9⟩
                · have gle : decide (arv ≤ 8 - a2) = false := decide_eq_false hle
                  have HBT : Hid (B = false) := by show _ = _; rw [HB9.out, gle]; rfl
                  refine Reg.wp_region_phase (by kernel_rfl) [12] (fun i => match i with | 0 => fun v => v = .agg #[.slice A n c, .int .i64 q, .int .i64 at'] | 1 => fun v => v = .pointer (some ⟨w.heap.size, 0, none⟩) | 2 => fun v => v = .slice A n c | 3 => fun v => v = .pointer (some ⟨w.heap.size + 1, 3, none⟩) | 4 => fun v => v = .int .i64 a3 | 5 => fun v => v = .pointer (some (ad.add (m * 2))) | 6 => fun v => v = .pointer (some (ad.add (m * 2))) | 7 => fun v => v = .int .i64 arv | 8 => fun v => v = .pointer (some ⟨w.heap.size + 1, 2, none⟩) | 9 => fun v => v = .int .i64 a2 | 10 => fun v => v = .int .i64 (8 - a2) | 11 => fun v => v = .bool false | _ => fun _ => True) (fun k _ Wx => match k with | 0 => Wx = W7 | _ => Below w.heap.size w Wx ∧ false = true) (by kernel_rfl) (by kernel_rfl) (by decide) (by decide) ?hJ ?h0 ?pure ?act ?fin
                  case hJ => intro k f f' W h hj; exact hj
                  case h0 => exact HW7.out
                  case pure =>
                    intro i o k a w_ ho hE hk hmc hf hst hkn hj
                    have hi : i < 13 := (Array.getElem?_eq_some_iff.1 ho).1
                    obtain rfl | rfl | rfl | rfl | rfl | rfl | rfl | rfl | rfl | rfl | rfl | rfl : i = 0 ∨ i = 1 ∨ i = 2 ∨ i = 3 ∨ i = 4 ∨ i = 5 ∨ i = 6 ∨ i = 7 ∨ i = 8 ∨ i = 9 ∨ i = 10 ∨ i = 11 := by
                      simp only [List.mem_cons, List.not_mem_nil, or_false, not_or] at hE
                      omega
                    · skip
                      obtain rfl := Reg.oper_eq ho rfl
                      have e2 : a.eval (.tmp 2) = .pointer (some ⟨w.heap.size, 0, none⟩) := (hf.eval 2 (by kernel_rfl)).trans rfl
                      have g2 := Reg.eval_getD e2
                      have hw0 : w_ = W7 := by
                        have hk2 : k = 0 ∨ k = 1 := by simp only [List.length_cons, List.length_nil] at hk; omega
                        rcases hk2 with rfl | rfl
                        · exact hj
                        · exact Bool.noConfusion (hmc.symm.trans (show Reg.mayComeB _ _ _ _ = false from by kernel_rfl))
                      have l0 := blk_cell HV7.out.v.l 0
                      have l1 := blk_cell HV7.out.v.l 1
                      have l2 := blk_cell HV7.out.v.l 2
                      simp only [List.getElem?_toArray, List.getElem?_cons_zero, List.getElem?_cons_succ] at l0 l1 l2
                      have i3 := cell_ints HV7.out.v.i 3 _ rfl
                      have i2 := cell_ints HV7.out.v.i 2 _ rfl
                      have kar := HCA.out W7 HV7.out.v.below
                      exact Reg.op_value rfl rfl (by rw [hw0]; simp only [List.getElem_toArray, List.getElem_cons_zero, List.getElem_cons_succ, execOp, e2]; go_simp) ⟨_, rfl, rfl, hj⟩
                    · skip
                      obtain rfl := Reg.oper_eq ho rfl
                      have e2 : a.eval (.tmp 2) = .pointer (some ⟨w.heap.size, 0, none⟩) := (hf.eval 2 (by kernel_rfl)).trans rfl
                      have g2 := Reg.eval_getD e2
                      exact Reg.op_value rfl rfl (by simp only [List.getElem_toArray, List.getElem_cons_zero, List.getElem_cons_succ, execOp, e2]; go_simp) ⟨_, rfl, rfl, hj⟩
                    · skip
                      obtain rfl := Reg.oper_eq ho rfl
                      have e71 : a.eval (.tmp 71) = .pointer (some ⟨w.heap.size, 0, none⟩) := hkn.eval 1 71 (by kernel_rfl) (by kernel_rfl)
                      have g71 := Reg.eval_getD e71
                      have hw0 : w_ = W7 := by
                        have hk2 : k = 0 ∨ k = 1 := by simp only [List.length_cons, List.length_nil] at hk; omega
                        rcases hk2 with rfl | rfl
                        · exact hj
                        · exact Bool.noConfusion (hmc.symm.trans (show Reg.mayComeB _ _ _ _ = false from by kernel_rfl))
                      have l0 := blk_cell HV7.out.v.l 0
                      have l1 := blk_cell HV7.out.v.l 1
                      have l2 := blk_cell HV7.out.v.l 2
                      simp only [List.getElem?_toArray, List.getElem?_cons_zero, List.getElem?_cons_succ] at l0 l1 l2
                      have i3 := cell_ints HV7.out.v.i 3 _ rfl
                      have i2 := cell_ints HV7.out.v.i 2 _ rfl
                      have kar := HCA.out W7 HV7.out.v.below
                      exact Reg.op_value rfl rfl (by rw [hw0]; simp only [List.getElem_toArray, List.getElem_cons_zero, List.getElem_cons_succ, execOp, e71]; go_simp) ⟨_, rfl, rfl, hj⟩
                    · skip
                      obtain rfl := Reg.oper_eq ho rfl
                      have e3 : a.eval (.tmp 3) = .pointer (some ⟨w.heap.size + 1, 0, none⟩) := (hf.eval 3 (by kernel_rfl)).trans rfl
                      have g3 := Reg.eval_getD e3
                      exact Reg.op_value rfl rfl (by simp only [List.getElem_toArray, List.getElem_cons_zero, List.getElem_cons_succ, execOp, e3]; go_simp) ⟨_, rfl, rfl, hj⟩
                    · skip
                      obtain rfl := Reg.oper_eq ho rfl
                      have e73 : a.eval (.tmp 73) = .pointer (some ⟨w.heap.size + 1, 3, none⟩) := hkn.eval 3 73 (by kernel_rfl) (by kernel_rfl)
                      have g73 := Reg.eval_getD e73
                      have hw0 : w_ = W7 := by
                        have hk2 : k = 0 ∨ k = 1 := by simp only [List.length_cons, List.length_nil] at hk; omega
                        rcases hk2 with rfl | rfl
                        · exact hj
                        · exact Bool.noConfusion (hmc.symm.trans (show Reg.mayComeB _ _ _ _ = false from by kernel_rfl))
                      have l0 := blk_cell HV7.out.v.l 0
                      have l1 := blk_cell HV7.out.v.l 1
                      have l2 := blk_cell HV7.out.v.l 2
                      simp only [List.getElem?_toArray, List.getElem?_cons_zero, List.getElem?_cons_succ] at l0 l1 l2
                      have i3 := cell_ints HV7.out.v.i 3 _ rfl
                      have i2 := cell_ints HV7.out.v.i 2 _ rfl
                      have kar := HCA.out W7 HV7.out.v.below
                      exact Reg.op_value rfl rfl (by rw [hw0]; simp only [List.getElem_toArray, List.getElem_cons_zero, List.getElem_cons_succ, execOp, e73]; go_simp) ⟨_, rfl, rfl, hj⟩
                    · skip
                      obtain rfl := Reg.oper_eq ho rfl
                      have e72 : a.eval (.tmp 72) = .slice A n c := hkn.eval 2 72 (by kernel_rfl) (by kernel_rfl)
                      have e74 : a.eval (.tmp 74) = .int .i64 a3 := hkn.eval 4 74 (by kernel_rfl) (by kernel_rfl)
                      have g72 := Reg.eval_getD e72
                      have g74 := Reg.eval_getD e74
                      rw [HMM.out] at e74 g74
                      rw [hAd] at e72 g72
                      exact Reg.op_value rfl rfl (by simp only [List.getElem_toArray, List.getElem_cons_zero, List.getElem_cons_succ, execOp, e72, e74]; go_simp) ⟨_, rfl, rfl, hj⟩
                    · skip
                      obtain rfl := Reg.oper_eq ho rfl
                      have e75 : a.eval (.tmp 75) = .pointer (some (ad.add (m * 2))) := hkn.eval 5 75 (by kernel_rfl) (by kernel_rfl)
                      have g75 := Reg.eval_getD e75
                      exact Reg.op_value rfl rfl (by simp only [List.getElem_toArray, List.getElem_cons_zero, List.getElem_cons_succ, execOp, e75]; go_simp) ⟨_, rfl, rfl, hj⟩
                    · skip
                      obtain rfl := Reg.oper_eq ho rfl
                      have e76 : a.eval (.tmp 76) = .pointer (some (ad.add (m * 2))) := hkn.eval 6 76 (by kernel_rfl) (by kernel_rfl)
                      have g76 := Reg.eval_getD e76
                      have hw0 : w_ = W7 := by
                        have hk2 : k = 0 ∨ k = 1 := by simp only [List.length_cons, List.length_nil] at hk; omega
                        rcases hk2 with rfl | rfl
                        · exact hj
                        · exact Bool.noConfusion (hmc.symm.trans (show Reg.mayComeB _ _ _ _ = false from by kernel_rfl))
                      have l0 := blk_cell HV7.out.v.l 0
                      have l1 := blk_cell HV7.out.v.l 1
                      have l2 := blk_cell HV7.out.v.l 2
                      simp only [List.getElem?_toArray, List.getElem?_cons_zero, List.getElem?_cons_succ] at l0 l1 l2
                      have i3 := cell_ints HV7.out.v.i 3 _ rfl
                      have i2 := cell_ints HV7.out.v.i 2 _ rfl
                      have kar := HCA.out W7 HV7.out.v.below
                      exact Reg.op_value rfl rfl (by rw [hw0]; simp only [List.getElem_toArray, List.getElem_cons_zero, List.getElem_cons_succ, execOp, e76]; go_simp) ⟨_, rfl, rfl, hj⟩
                    · skip
                      obtain rfl := Reg.oper_eq ho rfl
                      have e3 : a.eval (.tmp 3) = .pointer (some ⟨w.heap.size + 1, 0, none⟩) := (hf.eval 3 (by kernel_rfl)).trans rfl
                      have g3 := Reg.eval_getD e3
                      exact Reg.op_value rfl rfl (by simp only [List.getElem_toArray, List.getElem_cons_zero, List.getElem_cons_succ, execOp, e3]; go_simp) ⟨_, rfl, rfl, hj⟩
                    · skip
                      obtain rfl := Reg.oper_eq ho rfl
                      have e78 : a.eval (.tmp 78) = .pointer (some ⟨w.heap.size + 1, 2, none⟩) := hkn.eval 8 78 (by kernel_rfl) (by kernel_rfl)
                      have g78 := Reg.eval_getD e78
                      have hw0 : w_ = W7 := by
                        have hk2 : k = 0 ∨ k = 1 := by simp only [List.length_cons, List.length_nil] at hk; omega
                        rcases hk2 with rfl | rfl
                        · exact hj
                        · exact Bool.noConfusion (hmc.symm.trans (show Reg.mayComeB _ _ _ _ = false from by kernel_rfl))
                      have l0 := blk_cell HV7.out.v.l 0
                      have l1 := blk_cell HV7.out.v.l 1
                      have l2 := blk_cell HV7.out.v.l 2
                      simp only [List.getElem?_toArray, List.getElem?_cons_zero, List.getElem?_cons_succ] at l0 l1 l2
                      have i3 := cell_ints HV7.out.v.i 3 _ rfl
                      have i2 := cell_ints HV7.out.v.i 2 _ rfl
                      have kar := HCA.out W7 HV7.out.v.below
                      exact Reg.op_value rfl rfl (by rw [hw0]; simp only [List.getElem_toArray, List.getElem_cons_zero, List.getElem_cons_succ, execOp, e78]; go_simp) ⟨_, rfl, rfl, hj⟩
                    · skip
                      obtain rfl := Reg.oper_eq ho rfl
                      have e79 : a.eval (.tmp 79) = .int .i64 a2 := hkn.eval 9 79 (by kernel_rfl) (by kernel_rfl)
                      have g79 := Reg.eval_getD e79
                      exact Reg.op_value rfl rfl (by simp only [List.getElem_toArray, List.getElem_cons_zero, List.getElem_cons_succ, execOp, e79]; go_simp) ⟨_, rfl, rfl, hj⟩
                    · skip
                      obtain rfl := Reg.oper_eq ho rfl
                      have e77 : a.eval (.tmp 77) = .int .i64 arv := hkn.eval 7 77 (by kernel_rfl) (by kernel_rfl)
                      have e80 : a.eval (.tmp 80) = .int .i64 (8 - a2) := hkn.eval 10 80 (by kernel_rfl) (by kernel_rfl)
                      have g77 := Reg.eval_getD e77
                      have g80 := Reg.eval_getD e80
                      exact Reg.op_value rfl rfl (by simp only [List.getElem_toArray, List.getElem_cons_zero, List.getElem_cons_succ, execOp, e77, e80]; go_simp) ⟨_, rfl, rfl, hj⟩
                  case act =>
                    intro k o a w_ hk ho hf hst hkn hj
                    obtain rfl : k = 0 := by simp only [List.length_cons, List.length_nil] at hk; omega
                    · skip
                      obtain rfl := Reg.oper_eq ho rfl
                      have e70 : a.eval (.tmp 70) = .agg #[.slice A n c, .int .i64 q, .int .i64 at'] := hkn.eval 0 70 (by kernel_rfl) (by kernel_rfl)
                      have e81 : a.eval (.tmp 81) = .bool false := hkn.eval 11 81 (by kernel_rfl) (by kernel_rfl)
                      have g70 := Reg.eval_getD e70
                      have g81 := Reg.eval_getD e81
                      rw [show w_ = W7 from hj]
                      refine Reg.op_call (f := 114) (args := #[.agg #[.slice A n c, .int .i64 q, .int .i64 at'], .bool false, .int .i64 6]) (w' := W7) rfl rfl (by simp only [List.getElem_toArray, List.getElem_cons_zero, List.getElem_cons_succ, execOp, e70, e81]; go_simp) ((vneed_any A n c q at' false 6 (by decide) W7).mono ?_)
                      rintro e w2 ⟨he, hb⟩
                      obtain ⟨f', a', e', hne, rfl⟩ := he
                      refine .inr ⟨_, rfl, hf.defers, ?_⟩
                      rw [HBT.out]
                      exact ⟨⟨f', a', e', hne, rfl⟩, (HV7.out.drawn hb).v.below⟩
                  case fin =>
                    intro a w_ hf hkn hj
                    have e70 : Reg.val a 70 = _ := hkn 0 70 (by show _ < _; decide) (by kernel_rfl)
                    have e71 : Reg.val a 71 = _ := hkn 1 71 (by show _ < _; decide) (by kernel_rfl)
                    have e72 : Reg.val a 72 = _ := hkn 2 72 (by show _ < _; decide) (by kernel_rfl)
                    have e73 : Reg.val a 73 = _ := hkn 3 73 (by show _ < _; decide) (by kernel_rfl)
                    have e74 : Reg.val a 74 = _ := hkn 4 74 (by show _ < _; decide) (by kernel_rfl)
                    have e75 : Reg.val a 75 = _ := hkn 5 75 (by show _ < _; decide) (by kernel_rfl)
                    have e76 : Reg.val a 76 = _ := hkn 6 76 (by show _ < _; decide) (by kernel_rfl)
                    have e77 : Reg.val a 77 = _ := hkn 7 77 (by show _ < _; decide) (by kernel_rfl)
                    have e78 : Reg.val a 78 = _ := hkn 8 78 (by show _ < _; decide) (by kernel_rfl)
                    have e79 : Reg.val a 79 = _ := hkn 9 79 (by show _ < _; decide) (by kernel_rfl)
                    have e80 : Reg.val a 80 = _ := hkn 10 80 (by show _ < _; decide) (by kernel_rfl)
                    have e81 : Reg.val a 81 = _ := hkn 11 81 (by show _ < _; decide) (by kernel_rfl)
                    rw [Reg.frm_fold hf [70, 71, 72, 73, 74, 75, 76, 77, 78, 79, 80, 81, 82] (by kernel_rfl) (by kernel_rfl)]
                    simp only [List.foldl_cons, List.foldl_nil, Act.put, List.setIfInBounds_toArray, List.set_cons_zero, List.set_cons_succ, e70, e71, e72, e73, e74, e75, e76, e77, e78, e79, e80, e81]
                    generalize Reg.val a 82 = v82_ at *
                    clear hkn hf e70 e71 e72 e73 e74 e75 e76 e77 e78 e79 e80 e81
                    exact absurd hj.2 (by decide)
              · have g3 : (p3 == 3) = false := by rw [beq_eq_false_iff_ne]; exact h3
                have HBT : Hid (B = true) := by
                  show _ = _
                  rw [HB9.out]
                  have : (p3 != 3) = true := by rw [bne_iff_ne]; exact h3
                  rw [this]
                  rfl
                clear h3
                go_wp2_with fail
                go_end0
                rw [HBT.out]
                exact ⟨rfl, hV.out.v.below⟩
end Go.Proofs.YtbiajfkencamiaaGreatDoor.Core
