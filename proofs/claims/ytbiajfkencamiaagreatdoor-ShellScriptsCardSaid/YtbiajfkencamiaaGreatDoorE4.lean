/- eval: what is told; what waits is stored. Printed by gen_se4.py. -/
import Derived.Test.YtbiajfkencamiaaGreatDoorE3
import Derived.Test.YtbiajfkencamiaaGreatDoorRegion
import Derived.Deep.LoopGhost
import Derived.RangeFuncBox
/-! E4 -/
namespace Go.Proofs.YtbiajfkencamiaaGreatDoor.EV
open Go.Proofs.YtbiajfkencamiaaGreatDoor Go.Proofs.YtbiajfkencamiaaGreatDoor.Core Go.RowKit Go.Proofs.YtbiajfkencamiaaGreatDoorW.PrintWords
set_option linter.unusedVariables false
set_option linter.unusedSimpArgs false
/-- A task in memory, but for the row of what waits. -/
structure TkB (b0 gt gw : Nat) (W : World) (t : Tk) (wv : Value) : Prop where
  hb : b0 ≤ gt
  regs : t.regs.length = 8
  hands : t.hands.length = 4
  ex : ∃ pv, W.heap[gt]? = some (.cells (tkC gw pv wv t).toArray 227 (0, 0)) ∧ PathR W pv t.dep
theorem PathR.kq {ts : List Nat} {W W' : World} {v : Value} {n : Nat} (h : PathR W v n) (hk : Kq ts W W') (h3 : 3 ∉ ts) : PathR W' v n := by
  obtain ⟨ps, hp⟩ := h
  exact ⟨ps, hk.own hp h3⟩
section
variable {b0 gt gw : Nat} {W W' : World} {t : Tk} {wv : Value} {ts : List Nat}
theorem TkR.opened (h : TkR b0 gt gw W t) : ∃ wv, TkB b0 gt gw W t wv ∧ W.ownsRow b0 355 2 wv t.wait.length (waitC t.wait) := by
  obtain ⟨hb, h8, h4, pv, wv, q1, q2, q3⟩ := h
  exact ⟨wv, ⟨hb, h8, h4, pv, q1, q2⟩, q3⟩
theorem TkB.shut (h : TkB b0 gt gw W t wv) (ho : W.ownsRow b0 355 2 wv t.wait.length (waitC t.wait)) : TkR b0 gt gw W t := by
  obtain ⟨hb, h8, h4, pv, q1, q2⟩ := h
  exact ⟨hb, h8, h4, pv, wv, q1, q2, ho⟩
theorem TkB.kq (h : TkB b0 gt gw W t wv) (hk : Kq ts W W') (h1 : 227 ∉ ts) (h3 : 3 ∉ ts) : TkB b0 gt gw W' t wv := by
  obtain ⟨hb, h8, h4, pv, q1, q2⟩ := h
  exact ⟨hb, h8, h4, pv, hk.get q1 h1, q2.kq hk h3⟩
theorem TkR.kq (h : TkR b0 gt gw W t) (hk : Kq ts W W') (h1 : 227 ∉ ts) (h3 : 3 ∉ ts) (h5 : 355 ∉ ts) : TkR b0 gt gw W' t := by
  obtain ⟨wv, h, ho⟩ := h.opened
  exact (h.kq hk h1 h3).shut (hk.own ho h5)
theorem TkB.waitAt (h : TkB b0 gt gw W t wv) : W.cell? ⟨gt, 18, none⟩ = some wv := by
  obtain ⟨hb, h8, h4, pv, q1, q2⟩ := h
  rw [blk_cell q1]
  simpa using tk_tail h8 h4 0
theorem TkB.frozen (h : TkB b0 gt gw W t wv) (j : Nat) : W.frozen? ⟨gt, j, none⟩ = false := by
  obtain ⟨hb, h8, h4, pv, q1, q2⟩ := h
  exact blk_frozen q1 j
theorem TkB.setWait (h : TkB b0 gt gw W t wv) (v : Value) (l : List (Int × Int)) (ho : W.ownsRow b0 355 2 v l.length (waitC l)) : TkR b0 gt gw (W.setCell ⟨gt, 18, none⟩ v) { t with wait := l } := by
  obtain ⟨hb, h8, h4, pv, q1, ps, q2⟩ := h
  refine ⟨hb, h8, h4, pv, v, ?_, ⟨ps, own_setCell q2 (p := ⟨gt, 18, none⟩) (own_ne q2 q1 (by decide)) v⟩, own_setCell ho (p := ⟨gt, 18, none⟩) (own_ne ho q1 (by decide)) v⟩
  rw [blk_set q1 18 v, List.setIfInBounds_toArray, show 18 = 18 + 0 from rfl, tk_tput h8 h4 0 v]
  rfl
end
abbrev whC (pv : Value) (B D : Int) (left : Nat) (tv lv : Value) : Array Value := #[pv, .int .i64 B, .int .i64 D, .int .i64 (left : Int), .int .i64 0, .int .i64 0, tv, lv]
/-- All but the row of what was told. -/
structure EF (w w00 W : World) (b0 gt gw base gb : Nat) (pv : Value) (B D : Int) (t : Tk) (e : Ev) (bx : Array Value) (tv lv : Value) : Prop where
  kq : Kq [142, 2] w W
  bel : Below base w00 W
  sz : base ≤ W.heap.size
  box : W.heap[gb]? = some (.cells bx 121 (0, 0))
  tk : TkR b0 gt gw W t
  hb : base ≤ gw
  blk : W.heap[gw]? = some (.cells (whC pv B D e.left tv lv) 142 (0, 0))
  log : ∃ lx, W.ownsRow base 229 2 lv e.log.length lx ∧ LogOf lx e.log
section
variable {w w00 W W' : World} {b0 gt gw base gb : Nat} {pv : Value} {B D : Int} {t : Tk} {e : Ev} {bx : Array Value} {tv lv : Value}
theorem EF.kept (h : EF w w00 W b0 gt gw base gb pv B D t e bx tv lv) (hk : Kq [2] W W') (hb : Below base w00 W') : EF w w00 W' b0 gt gw base gb pv B D t e bx tv lv := by
  obtain ⟨h1, h2, h3, h4, h5, h6, h7, lx, h8, h9⟩ := h
  exact ⟨h1.trans (hk.more (by intro t ht; simp at ht; subst ht; simp)), hb, Nat.le_trans h3 hk.1, hk.get h4 (by decide), h5.kq hk (by decide) (by decide) (by decide), h6, hk.get h7 (by decide), lx, hk.own h8 (by decide), h9⟩
theorem EF.below (h : EF w w00 W b0 gt gw base gb pv B D t e bx tv lv) (hb : Below W.heap.size W W') : EF w w00 W' b0 gt gw base gb pv B D t e bx tv lv := h.kept (Kq.below hb) (h.bel.trans (hb.mono h.sz))
theorem EF.cells (h : EF w w00 W b0 gt gw base gb pv B D t e bx tv lv) : W.cell? ⟨gt, 0, none⟩ = some (.pointer (some ⟨gw, 0, none⟩)) ∧ W.cell? ⟨gw, 6, none⟩ = some tv ∧ (∀ j, W.frozen? ⟨gw, j, none⟩ = false) :=
  ⟨h.tk.own, (blk_cell h.blk 6).trans rfl, fun j => blk_frozen h.blk j⟩
theorem EF.store (h : EF w w00 W b0 gt gw base gb pv B D t e bx tv lv) (v : Value) (x : Int) (ho : W.ownsRow base 2 1 v (e.told.length + 1) ((e.told ++ [x]).map (.int .i64))) :
    Kq [142, 2] w (W.setCell ⟨gw, 6, none⟩ v) ∧ Below base w00 (W.setCell ⟨gw, 6, none⟩ v) ∧ TkR b0 gt gw (W.setCell ⟨gw, 6, none⟩ v) t ∧ EvR base gw pv B D (W.setCell ⟨gw, 6, none⟩ v) { e with told := e.told ++ [x] } := by
  obtain ⟨h1, h2, h3, h4, h5, h6, h7, lx, h8, h9⟩ := h
  have hk : Kq [142] W (W.setCell ⟨gw, 6, none⟩ v) := Kq.set h7 (by simp) 6 v
  refine ⟨h1.trans (hk.more (by intro t ht; simp at ht; subst ht; simp)), h2.setCell (p := ⟨gw, 6, none⟩) h6 v, h5.kq hk (by decide) (by decide) (by decide), h6, v, lv, lx, ?_, ?_, hk.own h8 (by decide), h9⟩
  · rw [blk_set h7 6 v]; rfl
  · have := hk.own ho (by decide)
    simpa using this
end
theorem info2 : (Tryz.prog.info? 2).map (fun i => (i.zero, i.size, i.bytes)) = some (some (.int .i64 0), 1, 8) := by kernel_rfl
set_option maxRecDepth 100000 in
set_option maxHeartbeats 8000000 in
theorem temit_any {w w00 : World} {b0 gt gw base : Nat} {pv : Value} {B D : Int} {t : Tk} {e : Ev} (h : TkR b0 gt gw w t) (hE : EvR base gw pv B D w e) (hB : Below base w00 w) (hbw : base ≤ w.heap.size) (hlen : e.told.length ≤ 1000000) (o : Int) (ra : Nat) (b c k0 : Int) (ha : ra < 8) :
    Calls Tryz.prog 217 #[.pointer (some ⟨gt, 0, none⟩), .agg #[.int .i64 o, .int .i64 (ra : Int), .int .i64 b, .int .i64 c, .int .i64 k0]] w fun en w' => en = .returned (.tuple #[]) ∧ Kq [142, 2] w w' ∧ Below base w00 w' ∧ TkR b0 gt gw w' t ∧ EvR base gw pv B D w' { e with told := e.told ++ [t.regs.getD ra 0] } := by
  obtain ⟨x, hx⟩ : ∃ x, t.regs.getD ra 0 = x := ⟨_, rfl⟩
  rw [hx]
  obtain ⟨hb, tv, lv, lx, q1, q2, q3, q4⟩ := hE
  have ha0 : Below w.heap.size w (w.alloc (.cells #[.int .i64 o, .int .i64 (ra : Int), .int .i64 b, .int .i64 c, .int .i64 k0] 121)) := (Below.refl _ _).alloc (Nat.le_refl _) _
  have HF : Hid ((EF w w00 (w.alloc (.cells #[.int .i64 o, .int .i64 (ra : Int), .int .i64 b, .int .i64 c, .int .i64 k0] 121)) b0 gt gw base w.heap.size pv B D t e #[.int .i64 o, .int .i64 (ra : Int), .int .i64 b, .int .i64 c, .int .i64 k0] tv lv) ∧ (w.alloc (.cells #[.int .i64 o, .int .i64 (ra : Int), .int .i64 b, .int .i64 c, .int .i64 k0] 121)).ownsRow base 2 1 tv e.told.length (e.told.map (.int .i64))) :=
    ⟨⟨Kq.below ha0, hB.trans (ha0.mono hbw), Nat.le_trans hbw ha0.size, heap_alloc_new _ _, h.below ha0, hb, blk_below q1 ha0, lx, pw_own_below q3 ha0, q4⟩, pw_own_below q2 ha0⟩
  have HI0 : Hid ((0 : Int) ≤ (ra : Int)) := by show (0 : Int) ≤ (ra : Int); omega
  have HI1 : Hid ((ra : Int) < 8) := by show (ra : Int) < 8; omega
  have HA := Lib.hid ha
  have HX := Lib.hid hx
  have HLN := Lib.hid hlen
  clear h hB hbw hlen ha hx hb q1 q2 q3 q4 ha0
  go_enter Tryz.func217, Tryz.ntmps217
  go_wp2_with fail
  refine Reg.wp_region_phase (by kernel_rfl) [19, 20, 24] (fun i => match i with | 0 => fun v => v = .pointer (some ⟨gt, 0, none⟩) | 1 => fun v => v = .pointer (some ⟨gt, 0, none⟩) | 2 => fun v => v = .pointer (some ⟨gt, 0, none⟩) | 3 => fun v => v = .pointer (some ⟨gw, 0, none⟩) | 4 => fun v => v = .pointer (some ⟨gt, 0, none⟩) | 5 => fun v => v = .pointer (some ⟨gt, 0, none⟩) | 6 => fun v => v = .pointer (some ⟨gt, 0, none⟩) | 7 => fun v => v = .pointer (some ⟨gw, 0, none⟩) | 8 => fun v => v = .pointer (some ⟨gw, 0, none⟩) | 9 => fun v => v = .pointer (some ⟨gw, 4, none⟩) | 10 => fun v => v = .pointer (some ⟨gw, 6, none⟩) | 11 => fun v => v = tv | 12 => fun v => v = .pointer (some ⟨gt, 0, none⟩) | 13 => fun v => v = .pointer (some ⟨w.heap.size, 1, none⟩) | 14 => fun v => v = .int .i64 (ra : Int) | 15 => fun v => v = .pointer (some ⟨gt, 0, none⟩) | 16 => fun v => v = .pointer (some ⟨gt, 2, none⟩) | 17 => fun v => v = .pointer (some ⟨gt, 2 + ra, none⟩) | 18 => fun v => v = .int .i64 x | 21 => fun v => v = .pointer (some ⟨gw, 0, none⟩) | 22 => fun v => v = .pointer (some ⟨gw, 4, none⟩) | 23 => fun v => v = .pointer (some ⟨gw, 6, none⟩) | _ => fun _ => True) (fun k f X => match k with | 0 => EF w w00 X b0 gt gw base w.heap.size pv B D t e #[.int .i64 o, .int .i64 (ra : Int), .int .i64 b, .int .i64 c, .int .i64 k0] tv lv ∧ X.ownsRow base 2 1 tv e.told.length (e.told.map (.int .i64)) | 1 => ∃ W9, X = W9.alloc (.cells ([.int .i64 x] : List Value).toArray 2) ∧ f 23 = .slice (some ⟨W9.heap.size, 0, none⟩) 1 1 ∧ EF w w00 W9 b0 gt gw base w.heap.size pv B D t e #[.int .i64 o, .int .i64 (ra : Int), .int .i64 b, .int .i64 c, .int .i64 k0] tv lv ∧ W9.ownsRow base 2 1 tv e.told.length (e.told.map (.int .i64)) | 2 => ∃ v1, f 24 = v1 ∧ EF w w00 X b0 gt gw base w.heap.size pv B D t e #[.int .i64 o, .int .i64 (ra : Int), .int .i64 b, .int .i64 c, .int .i64 k0] tv lv ∧ X.ownsRow base 2 1 v1 (e.told.length + 1) ((e.told ++ [x]).map (.int .i64)) | _ => Kq [142, 2] w X ∧ Below base w00 X ∧ TkR b0 gt gw X t ∧ EvR base gw pv B D X { e with told := e.told ++ [x] }) (by kernel_rfl) (by kernel_rfl) (by decide) (by decide) ?hJ ?h0 ?pure ?act ?fin
  case hJ => (intro k f f' X h hj; match k, hj with
    | 0, hj => exact hj
    | 1, hj => (obtain ⟨W9, h1, h2, h3⟩ := hj; exact ⟨W9, h1, (h 0 (by omega) (by decide) 23 (by kernel_rfl)).symm.trans h2, h3⟩)
    | 2, hj => (obtain ⟨v1, h2, h3⟩ := hj; exact ⟨v1, (h 1 (by omega) (by decide) 24 (by kernel_rfl)).symm.trans h2, h3⟩)
    | k + 3, hj => exact hj)
  case h0 => exact ⟨HF.out.1.below (pw_below_drewN (Below.refl _ _) 1), pw_own_below HF.out.2 (pw_below_drewN (Below.refl _ _) 1)⟩
  case pure =>
    intro i o k a w_ ho hE hk hmc hf hst hkn hj
    have hi : i < 25 := (Array.getElem?_eq_some_iff.1 ho).1
    obtain rfl | rfl | rfl | rfl | rfl | rfl | rfl | rfl | rfl | rfl | rfl | rfl | rfl | rfl | rfl | rfl | rfl | rfl | rfl | rfl | rfl | rfl : i = 0 ∨ i = 1 ∨ i = 2 ∨ i = 3 ∨ i = 4 ∨ i = 5 ∨ i = 6 ∨ i = 7 ∨ i = 8 ∨ i = 9 ∨ i = 10 ∨ i = 11 ∨ i = 12 ∨ i = 13 ∨ i = 14 ∨ i = 15 ∨ i = 16 ∨ i = 17 ∨ i = 18 ∨ i = 21 ∨ i = 22 ∨ i = 23 := by
      simp only [List.mem_cons, List.not_mem_nil, or_false, not_or] at hE
      omega
    · skip
      obtain rfl := Reg.oper_eq ho rfl
      have e0 : a.eval (.tmp 0) = .pointer (some ⟨gt, 0, none⟩) := (hf.eval 0 (by kernel_rfl)).trans rfl
      have g0 := Reg.eval_getD e0
      exact Reg.op_value rfl rfl (by simp only [List.getElem_toArray, List.getElem_cons_zero, List.getElem_cons_succ, execOp, e0]; go_simp) ⟨_, rfl, rfl, hj⟩
    · skip
      obtain rfl := Reg.oper_eq ho rfl
      have e4 : a.eval (.tmp 4) = .pointer (some ⟨gt, 0, none⟩) := hkn.eval 0 4 (by kernel_rfl) (by kernel_rfl)
      have g4 := Reg.eval_getD e4
      exact Reg.op_value rfl rfl (by simp only [List.getElem_toArray, List.getElem_cons_zero, List.getElem_cons_succ, execOp, e4]; go_simp) ⟨_, rfl, rfl, hj⟩
    · skip
      obtain rfl := Reg.oper_eq ho rfl
      have e5 : a.eval (.tmp 5) = .pointer (some ⟨gt, 0, none⟩) := hkn.eval 1 5 (by kernel_rfl) (by kernel_rfl)
      have g5 := Reg.eval_getD e5
      exact Reg.op_value rfl rfl (by simp only [List.getElem_toArray, List.getElem_cons_zero, List.getElem_cons_succ, execOp, e5]; go_simp) ⟨_, rfl, rfl, hj⟩
    · skip
      obtain rfl := Reg.oper_eq ho rfl
      have e6 : a.eval (.tmp 6) = .pointer (some ⟨gt, 0, none⟩) := hkn.eval 2 6 (by kernel_rfl) (by kernel_rfl)
      have g6 := Reg.eval_getD e6
      have hk2 : k = 0 ∨ k = 1 ∨ k = 2 ∨ k = 3 := by (simp only [List.length_cons, List.length_nil] at hk; omega)
      have hz : EF w w00 w_ b0 gt gw base w.heap.size pv B D t e #[.int .i64 o, .int .i64 (ra : Int), .int .i64 b, .int .i64 c, .int .i64 k0] tv lv := by
        rcases hk2 with rfl | rfl | rfl | rfl
        · exact hj.1
        · obtain ⟨W9, rfl, _, h, _⟩ := hj
          exact h.below ((Below.refl _ _).alloc (Nat.le_refl _) _)
        · obtain ⟨v1, _, h, _⟩ := hj
          exact h
        · exact Bool.noConfusion (hmc.symm.trans (show Reg.mayComeB _ _ _ _ = false from by kernel_rfl))
      clear hk2
      have kf := hz.cells.1
      exact Reg.op_value rfl rfl (by simp only [List.getElem_toArray, List.getElem_cons_zero, List.getElem_cons_succ, execOp, e6]; go_simp) ⟨_, rfl, rfl, hj⟩
    · skip
      obtain rfl := Reg.oper_eq ho rfl
      have e0 : a.eval (.tmp 0) = .pointer (some ⟨gt, 0, none⟩) := (hf.eval 0 (by kernel_rfl)).trans rfl
      have g0 := Reg.eval_getD e0
      exact Reg.op_value rfl rfl (by simp only [List.getElem_toArray, List.getElem_cons_zero, List.getElem_cons_succ, execOp, e0]; go_simp) ⟨_, rfl, rfl, hj⟩
    · skip
      obtain rfl := Reg.oper_eq ho rfl
      have e8 : a.eval (.tmp 8) = .pointer (some ⟨gt, 0, none⟩) := hkn.eval 4 8 (by kernel_rfl) (by kernel_rfl)
      have g8 := Reg.eval_getD e8
      exact Reg.op_value rfl rfl (by simp only [List.getElem_toArray, List.getElem_cons_zero, List.getElem_cons_succ, execOp, e8]; go_simp) ⟨_, rfl, rfl, hj⟩
    · skip
      obtain rfl := Reg.oper_eq ho rfl
      have e9 : a.eval (.tmp 9) = .pointer (some ⟨gt, 0, none⟩) := hkn.eval 5 9 (by kernel_rfl) (by kernel_rfl)
      have g9 := Reg.eval_getD e9
      exact Reg.op_value rfl rfl (by simp only [List.getElem_toArray, List.getElem_cons_zero, List.getElem_cons_succ, execOp, e9]; go_simp) ⟨_, rfl, rfl, hj⟩
    · skip
      obtain rfl := Reg.oper_eq ho rfl
      have e10 : a.eval (.tmp 10) = .pointer (some ⟨gt, 0, none⟩) := hkn.eval 6 10 (by kernel_rfl) (by kernel_rfl)
      have g10 := Reg.eval_getD e10
      have hk2 : k = 0 ∨ k = 1 ∨ k = 2 ∨ k = 3 := by (simp only [List.length_cons, List.length_nil] at hk; omega)
      have hz : EF w w00 w_ b0 gt gw base w.heap.size pv B D t e #[.int .i64 o, .int .i64 (ra : Int), .int .i64 b, .int .i64 c, .int .i64 k0] tv lv := by
        rcases hk2 with rfl | rfl | rfl | rfl
        · exact hj.1
        · obtain ⟨W9, rfl, _, h, _⟩ := hj
          exact h.below ((Below.refl _ _).alloc (Nat.le_refl _) _)
        · obtain ⟨v1, _, h, _⟩ := hj
          exact h
        · exact Bool.noConfusion (hmc.symm.trans (show Reg.mayComeB _ _ _ _ = false from by kernel_rfl))
      clear hk2
      have kf := hz.cells.1
      exact Reg.op_value rfl rfl (by simp only [List.getElem_toArray, List.getElem_cons_zero, List.getElem_cons_succ, execOp, e10]; go_simp) ⟨_, rfl, rfl, hj⟩
    · skip
      obtain rfl := Reg.oper_eq ho rfl
      have e11 : a.eval (.tmp 11) = .pointer (some ⟨gw, 0, none⟩) := hkn.eval 7 11 (by kernel_rfl) (by kernel_rfl)
      have g11 := Reg.eval_getD e11
      exact Reg.op_value rfl rfl (by simp only [List.getElem_toArray, List.getElem_cons_zero, List.getElem_cons_succ, execOp, e11]; go_simp) ⟨_, rfl, rfl, hj⟩
    · skip
      obtain rfl := Reg.oper_eq ho rfl
      have e12 : a.eval (.tmp 12) = .pointer (some ⟨gw, 0, none⟩) := hkn.eval 8 12 (by kernel_rfl) (by kernel_rfl)
      have g12 := Reg.eval_getD e12
      exact Reg.op_value rfl rfl (by simp only [List.getElem_toArray, List.getElem_cons_zero, List.getElem_cons_succ, execOp, e12]; go_simp) ⟨_, rfl, rfl, hj⟩
    · skip
      obtain rfl := Reg.oper_eq ho rfl
      have e13 : a.eval (.tmp 13) = .pointer (some ⟨gw, 4, none⟩) := hkn.eval 9 13 (by kernel_rfl) (by kernel_rfl)
      have g13 := Reg.eval_getD e13
      exact Reg.op_value rfl rfl (by simp only [List.getElem_toArray, List.getElem_cons_zero, List.getElem_cons_succ, execOp, e13]; go_simp) ⟨_, rfl, rfl, hj⟩
    · skip
      obtain rfl := Reg.oper_eq ho rfl
      have e14 : a.eval (.tmp 14) = .pointer (some ⟨gw, 6, none⟩) := hkn.eval 10 14 (by kernel_rfl) (by kernel_rfl)
      have g14 := Reg.eval_getD e14
      have hk2 : k = 0 ∨ k = 1 ∨ k = 2 ∨ k = 3 := by (simp only [List.length_cons, List.length_nil] at hk; omega)
      have hz : EF w w00 w_ b0 gt gw base w.heap.size pv B D t e #[.int .i64 o, .int .i64 (ra : Int), .int .i64 b, .int .i64 c, .int .i64 k0] tv lv := by
        rcases hk2 with rfl | rfl | rfl | rfl
        · exact hj.1
        · obtain ⟨W9, rfl, _, h, _⟩ := hj
          exact h.below ((Below.refl _ _).alloc (Nat.le_refl _) _)
        · obtain ⟨v1, _, h, _⟩ := hj
          exact h
        · exact Bool.noConfusion (hmc.symm.trans (show Reg.mayComeB _ _ _ _ = false from by kernel_rfl))
      clear hk2
      have kf := hz.cells.2.1
      exact Reg.op_value rfl rfl (by simp only [List.getElem_toArray, List.getElem_cons_zero, List.getElem_cons_succ, execOp, e14]; go_simp) ⟨_, rfl, rfl, hj⟩
    · skip
      obtain rfl := Reg.oper_eq ho rfl
      have e0 : a.eval (.tmp 0) = .pointer (some ⟨gt, 0, none⟩) := (hf.eval 0 (by kernel_rfl)).trans rfl
      have g0 := Reg.eval_getD e0
      exact Reg.op_value rfl rfl (by simp only [List.getElem_toArray, List.getElem_cons_zero, List.getElem_cons_succ, execOp, e0]; go_simp) ⟨_, rfl, rfl, hj⟩
    · skip
      obtain rfl := Reg.oper_eq ho rfl
      have e3 : a.eval (.tmp 3) = .pointer (some ⟨w.heap.size, 0, none⟩) := (hf.eval 3 (by kernel_rfl)).trans rfl
      have g3 := Reg.eval_getD e3
      exact Reg.op_value rfl rfl (by simp only [List.getElem_toArray, List.getElem_cons_zero, List.getElem_cons_succ, execOp, e3]; go_simp) ⟨_, rfl, rfl, hj⟩
    · skip
      obtain rfl := Reg.oper_eq ho rfl
      have e17 : a.eval (.tmp 17) = .pointer (some ⟨w.heap.size, 1, none⟩) := hkn.eval 13 17 (by kernel_rfl) (by kernel_rfl)
      have g17 := Reg.eval_getD e17
      have hk2 : k = 0 ∨ k = 1 ∨ k = 2 ∨ k = 3 := by (simp only [List.length_cons, List.length_nil] at hk; omega)
      have hz : EF w w00 w_ b0 gt gw base w.heap.size pv B D t e #[.int .i64 o, .int .i64 (ra : Int), .int .i64 b, .int .i64 c, .int .i64 k0] tv lv := by
        rcases hk2 with rfl | rfl | rfl | rfl
        · exact hj.1
        · obtain ⟨W9, rfl, _, h, _⟩ := hj
          exact h.below ((Below.refl _ _).alloc (Nat.le_refl _) _)
        · obtain ⟨v1, _, h, _⟩ := hj
          exact h
        · exact Bool.noConfusion (hmc.symm.trans (show Reg.mayComeB _ _ _ _ = false from by kernel_rfl))
      clear hk2
      have kf := (blk_cell hz.box 1).trans rfl
      exact Reg.op_value rfl rfl (by simp only [List.getElem_toArray, List.getElem_cons_zero, List.getElem_cons_succ, execOp, e17]; go_simp) ⟨_, rfl, rfl, hj⟩
    · skip
      obtain rfl := Reg.oper_eq ho rfl
      have e16 : a.eval (.tmp 16) = .pointer (some ⟨gt, 0, none⟩) := hkn.eval 12 16 (by kernel_rfl) (by kernel_rfl)
      have g16 := Reg.eval_getD e16
      exact Reg.op_value rfl rfl (by simp only [List.getElem_toArray, List.getElem_cons_zero, List.getElem_cons_succ, execOp, e16]; go_simp) ⟨_, rfl, rfl, hj⟩
    · skip
      obtain rfl := Reg.oper_eq ho rfl
      have e19 : a.eval (.tmp 19) = .pointer (some ⟨gt, 0, none⟩) := hkn.eval 15 19 (by kernel_rfl) (by kernel_rfl)
      have g19 := Reg.eval_getD e19
      exact Reg.op_value rfl rfl (by simp only [List.getElem_toArray, List.getElem_cons_zero, List.getElem_cons_succ, execOp, e19]; go_simp) ⟨_, rfl, rfl, hj⟩
    · skip
      obtain rfl := Reg.oper_eq ho rfl
      have e20 : a.eval (.tmp 20) = .pointer (some ⟨gt, 2, none⟩) := hkn.eval 16 20 (by kernel_rfl) (by kernel_rfl)
      have e18 : a.eval (.tmp 18) = .int .i64 (ra : Int) := hkn.eval 14 18 (by kernel_rfl) (by kernel_rfl)
      have g20 := Reg.eval_getD e20
      have g18 := Reg.eval_getD e18
      have hk2 : k = 0 ∨ k = 1 ∨ k = 2 ∨ k = 3 := by (simp only [List.length_cons, List.length_nil] at hk; omega)
      have hz : EF w w00 w_ b0 gt gw base w.heap.size pv B D t e #[.int .i64 o, .int .i64 (ra : Int), .int .i64 b, .int .i64 c, .int .i64 k0] tv lv := by
        rcases hk2 with rfl | rfl | rfl | rfl
        · exact hj.1
        · obtain ⟨W9, rfl, _, h, _⟩ := hj
          exact h.below ((Below.refl _ _).alloc (Nat.le_refl _) _)
        · obtain ⟨v1, _, h, _⟩ := hj
          exact h
        · exact Bool.noConfusion (hmc.symm.trans (show Reg.mayComeB _ _ _ _ = false from by kernel_rfl))
      clear hk2
      have i0 := HI0.out
      have i1 := HI1.out
      exact Reg.op_value rfl rfl (by simp only [List.getElem_toArray, List.getElem_cons_zero, List.getElem_cons_succ, execOp, e20, e18]; go_simp) ⟨_, rfl, rfl, hj⟩
    · skip
      obtain rfl := Reg.oper_eq ho rfl
      have e21 : a.eval (.tmp 21) = .pointer (some ⟨gt, 2 + ra, none⟩) := hkn.eval 17 21 (by kernel_rfl) (by kernel_rfl)
      have g21 := Reg.eval_getD e21
      have hk2 : k = 0 ∨ k = 1 ∨ k = 2 ∨ k = 3 := by (simp only [List.length_cons, List.length_nil] at hk; omega)
      have hz : EF w w00 w_ b0 gt gw base w.heap.size pv B D t e #[.int .i64 o, .int .i64 (ra : Int), .int .i64 b, .int .i64 c, .int .i64 k0] tv lv := by
        rcases hk2 with rfl | rfl | rfl | rfl
        · exact hj.1
        · obtain ⟨W9, rfl, _, h, _⟩ := hj
          exact h.below ((Below.refl _ _).alloc (Nat.le_refl _) _)
        · obtain ⟨v1, _, h, _⟩ := hj
          exact h
        · exact Bool.noConfusion (hmc.symm.trans (show Reg.mayComeB _ _ _ _ = false from by kernel_rfl))
      clear hk2
      have kf := hz.tk.reg ra HA.out
      rw [HX.out] at kf
      exact Reg.op_value rfl rfl (by simp only [List.getElem_toArray, List.getElem_cons_zero, List.getElem_cons_succ, execOp, e21]; go_simp) ⟨_, rfl, rfl, hj⟩
    · skip
      obtain rfl := Reg.oper_eq ho rfl
      have e7 : a.eval (.tmp 7) = .pointer (some ⟨gw, 0, none⟩) := hkn.eval 3 7 (by kernel_rfl) (by kernel_rfl)
      have g7 := Reg.eval_getD e7
      exact Reg.op_value rfl rfl (by simp only [List.getElem_toArray, List.getElem_cons_zero, List.getElem_cons_succ, execOp, e7]; go_simp) ⟨_, rfl, rfl, hj⟩
    · skip
      obtain rfl := Reg.oper_eq ho rfl
      have e25 : a.eval (.tmp 25) = .pointer (some ⟨gw, 0, none⟩) := hkn.eval 21 25 (by kernel_rfl) (by kernel_rfl)
      have g25 := Reg.eval_getD e25
      exact Reg.op_value rfl rfl (by simp only [List.getElem_toArray, List.getElem_cons_zero, List.getElem_cons_succ, execOp, e25]; go_simp) ⟨_, rfl, rfl, hj⟩
    · skip
      obtain rfl := Reg.oper_eq ho rfl
      have e26 : a.eval (.tmp 26) = .pointer (some ⟨gw, 4, none⟩) := hkn.eval 22 26 (by kernel_rfl) (by kernel_rfl)
      have g26 := Reg.eval_getD e26
      exact Reg.op_value rfl rfl (by simp only [List.getElem_toArray, List.getElem_cons_zero, List.getElem_cons_succ, execOp, e26]; go_simp) ⟨_, rfl, rfl, hj⟩
  case act =>
    intro k o a w_ hk ho hf hst hkn hj
    obtain rfl | rfl | rfl : k = 0 ∨ k = 1 ∨ k = 2 := by simp only [List.length_cons, List.length_nil] at hk; omega
    · skip
      obtain rfl := Reg.oper_eq ho rfl
      have e22 : a.eval (.tmp 22) = .int .i64 x := hkn.eval 18 22 (by kernel_rfl) (by kernel_rfl)
      have g22 := Reg.eval_getD e22
      refine Reg.op_value (v := .slice (some ⟨w_.heap.size, 0, none⟩) 1 1) (w' := w_.alloc (.cells ([.int .i64 x] : List Value).toArray 2)) rfl rfl (by simp only [List.getElem_toArray, List.getElem_cons_zero, List.getElem_cons_succ, execOp, e22]; go_simp) ⟨_, rfl, trivial, w_, rfl, Reg.val_put_in hf (by kernel_rfl), hj.1, hj.2⟩
    · skip
      obtain rfl := Reg.oper_eq ho rfl
      have e15 : a.eval (.tmp 15) = tv := hkn.eval 11 15 (by kernel_rfl) (by kernel_rfl)
      have g15 := Reg.eval_getD e15
      obtain ⟨W9, rfl, eb, hP9, hR9⟩ := hj
      refine Reg.op_wp rfl rfl ?_
      refine step_append_cells (w0 := w00) base rfl (.tmp 15) (.tmp 23) 80 2 (.int .i64 0) 1 8 rfl Tryz.underlying80 info2 rfl (by decide) (by decide) tv e.told.length (e.told.map (.int .i64)) [.int .i64 x] e15 ((Reg.eval_val a 23).trans eb) rfl (by intro u hu; simp at hu; subst hu; rfl) hR9 hP9.bel hP9.sz (by have := HLN.out; omega) ?_
      intro v1 w1 hR hB hg hat
      refine ⟨_, rfl, trivial, v1, Reg.val_put_in hf (by kernel_rfl), hP9.kept (Kq.row hR9 (by simp) hg.size hg) hB, by rw [List.map_append]; exact hR⟩
    · skip
      obtain rfl := Reg.oper_eq ho rfl
      have e27 : a.eval (.tmp 27) = .pointer (some ⟨gw, 6, none⟩) := hkn.eval 23 27 (by kernel_rfl) (by kernel_rfl)
      have g27 := Reg.eval_getD e27
      obtain ⟨v1, ea, hP, hR⟩ := hj
      obtain ⟨A1, c1, hv1⟩ := own_slice hR
      subst hv1
      have ea' : a.eval (.tmp 24) = .slice A1 (e.told.length + 1) c1 := (Reg.eval_val a 24).trans ea
      have ga := Reg.eval_getD ea'
      have kf := hP.cells.2.1
      have qf := hP.cells.2.2 6
      refine Reg.op_unit (w' := w_.setCell ⟨gw, 6, none⟩ (.slice A1 (e.told.length + 1) c1)) rfl rfl (by simp only [List.getElem_toArray, List.getElem_cons_zero, List.getElem_cons_succ, execOp, ea', e27]; go_simp) ⟨_, rfl, trivial, hP.store _ x hR⟩
  case fin =>
    intro a w_ hf hkn hj
    have e4 : Reg.val a 4 = _ := hkn 0 4 (by show _ < _; decide) (by kernel_rfl)
    have e5 : Reg.val a 5 = _ := hkn 1 5 (by show _ < _; decide) (by kernel_rfl)
    have e6 : Reg.val a 6 = _ := hkn 2 6 (by show _ < _; decide) (by kernel_rfl)
    have e7 : Reg.val a 7 = _ := hkn 3 7 (by show _ < _; decide) (by kernel_rfl)
    have e8 : Reg.val a 8 = _ := hkn 4 8 (by show _ < _; decide) (by kernel_rfl)
    have e9 : Reg.val a 9 = _ := hkn 5 9 (by show _ < _; decide) (by kernel_rfl)
    have e10 : Reg.val a 10 = _ := hkn 6 10 (by show _ < _; decide) (by kernel_rfl)
    have e11 : Reg.val a 11 = _ := hkn 7 11 (by show _ < _; decide) (by kernel_rfl)
    have e12 : Reg.val a 12 = _ := hkn 8 12 (by show _ < _; decide) (by kernel_rfl)
    have e13 : Reg.val a 13 = _ := hkn 9 13 (by show _ < _; decide) (by kernel_rfl)
    have e14 : Reg.val a 14 = _ := hkn 10 14 (by show _ < _; decide) (by kernel_rfl)
    have e15 : Reg.val a 15 = _ := hkn 11 15 (by show _ < _; decide) (by kernel_rfl)
    have e16 : Reg.val a 16 = _ := hkn 12 16 (by show _ < _; decide) (by kernel_rfl)
    have e17 : Reg.val a 17 = _ := hkn 13 17 (by show _ < _; decide) (by kernel_rfl)
    have e18 : Reg.val a 18 = _ := hkn 14 18 (by show _ < _; decide) (by kernel_rfl)
    have e19 : Reg.val a 19 = _ := hkn 15 19 (by show _ < _; decide) (by kernel_rfl)
    have e20 : Reg.val a 20 = _ := hkn 16 20 (by show _ < _; decide) (by kernel_rfl)
    have e21 : Reg.val a 21 = _ := hkn 17 21 (by show _ < _; decide) (by kernel_rfl)
    have e22 : Reg.val a 22 = _ := hkn 18 22 (by show _ < _; decide) (by kernel_rfl)
    have e25 : Reg.val a 25 = _ := hkn 21 25 (by show _ < _; decide) (by kernel_rfl)
    have e26 : Reg.val a 26 = _ := hkn 22 26 (by show _ < _; decide) (by kernel_rfl)
    have e27 : Reg.val a 27 = _ := hkn 23 27 (by show _ < _; decide) (by kernel_rfl)
    rw [Reg.frm_fold hf [4, 5, 6, 7, 8, 9, 10, 11, 12, 13, 14, 15, 16, 17, 18, 19, 20, 21, 22, 23, 24, 25, 26, 27] (by kernel_rfl) (by kernel_rfl)]
    simp only [List.foldl_cons, List.foldl_nil, Act.put, List.setIfInBounds_toArray, List.set_cons_zero, List.set_cons_succ, e4, e5, e6, e7, e8, e9, e10, e11, e12, e13, e14, e15, e16, e17, e18, e19, e20, e21, e22, e25, e26, e27]
    generalize Reg.val a 23 = v23_ at *
    generalize Reg.val a 24 = v24_ at *
    clear hkn hf e4 e5 e6 e7 e8 e9 e10 e11 e12 e13 e14 e15 e16 e17 e18 e19 e20 e21 e22 e25 e26 e27
    have HD := Lib.hid hj
    clear hj
    go_wp2_with fail
    go_end0
    exact ⟨rfl, HD.out⟩
theorem wait_get : ∀ (l : List (Int × Int)) (j : Nat), j < l.length → (waitC l)[j * 2]? = some (.int .i64 (l.getD j (0, 0)).1) ∧ (waitC l)[j * 2 + 1]? = some (.int .i64 (l.getD j (0, 0)).2)
  | [], j, h => by simp at h
  | x :: l, 0, h => ⟨rfl, rfl⟩
  | x :: l, j + 1, h => by
    have := wait_get l j (by simpa using h)
    have e1 : (waitC (x :: l))[(j + 1) * 2]? = (waitC l)[j * 2]? := by
      rw [show (j + 1) * 2 = j * 2 + 1 + 1 by omega]; rfl
    have e2 : (waitC (x :: l))[(j + 1) * 2 + 1]? = (waitC l)[j * 2 + 1]? := by
      rw [show (j + 1) * 2 + 1 = j * 2 + 1 + 1 + 1 by omega]; rfl
    rw [e1, e2]
    exact this
def foldW (l : List (Int × Int)) (r : List Int) : List Int := l.foldl (fun r x => r.set x.1.toNat x.2) r
theorem foldW_succ (l : List (Int × Int)) (r : List Int) (q : Nat) (h : q < l.length) : foldW (l.take (q + 1)) r = (foldW (l.take q) r).set (l.getD q (0, 0)).1.toNat (l.getD q (0, 0)).2 := by
  unfold foldW
  rw [List.take_succ_eq_append_getElem h, List.foldl_append, List.getD_eq_getElem?_getD, List.getElem?_eq_getElem h]
  rfl
theorem TkB.reg {b0 gt gw : Nat} {W : World} {t : Tk} {wv : Value} (h : TkB b0 gt gw W t wv) (a : Nat) (ha : a < 8) : W.cell? ⟨gt, 2 + a, none⟩ = some (.int .i64 (t.regs.getD a 0)) := by
  obtain ⟨hb, h8, h4, pv, q1, _⟩ := h
  rw [blk_cell q1]
  simpa using tk_reg h8 h4 a ha
theorem TkB.below {b0 gt gw : Nat} {W W' : World} {t : Tk} {wv : Value} (h : TkB b0 gt gw W t wv) (hb : Below W.heap.size W W') : TkB b0 gt gw W' t wv := h.kq (Kq.below (ts := []) hb) (by simp) (by simp)
theorem TkB.put {b0 gt gw : Nat} {W : World} {t : Tk} {wv : Value} (h : TkB b0 gt gw W t wv) (a : Nat) (ha : a < 8) (v : Int) : TkB b0 gt gw (W.setCell ⟨gt, 2 + a, none⟩ (.int .i64 v)) { t with regs := t.regs.set a v } wv := by
  obtain ⟨hb, h8, h4, pv, q1, ps, q2⟩ := h
  refine ⟨hb, by rw [List.length_set]; exact h8, h4, pv, ?_, ps, own_setCell q2 (p := ⟨gt, 2 + a, none⟩) (own_ne q2 q1 (by decide)) _⟩
  rw [blk_set q1, List.setIfInBounds_toArray, tk_put h8 h4 a ha v]
theorem TkB.blk {b0 gt gw : Nat} {W : World} {t : Tk} {wv : Value} (h : TkB b0 gt gw W t wv) : ∃ c, W.heap[gt]? = some (.cells c 227 (0, 0)) := by
  obtain ⟨hb, h8, h4, pv, q1, _⟩ := h
  exact ⟨_, q1⟩
set_option maxRecDepth 100000 in
set_option maxHeartbeats 4000000 in
theorem tsync_any {b0 gt gw : Nat} {w : World} {t : Tk} (h : TkR b0 gt gw w t) (hw : ∀ x ∈ t.wait, regOk x.1) (hlen : t.wait.length ≤ 1000000) (o a b c k : Int) :
    Calls Tryz.prog 167 #[.pointer (some ⟨gt, 0, none⟩), .agg #[.int .i64 o, .int .i64 a, .int .i64 b, .int .i64 c, .int .i64 k]] w (DG b0 gt gw w t.sync) := by
  obtain ⟨wv, hT, ho⟩ := h.opened
  have ha0 : Below w.heap.size w (w.alloc (.cells #[.int .i64 o, .int .i64 a, .int .i64 b, .int .i64 c, .int .i64 k] 121)) := (Below.refl _ _).alloc (Nat.le_refl _) _
  have HS0 : Hid (TkB b0 gt gw (w.alloc (.cells #[.int .i64 o, .int .i64 a, .int .i64 b, .int .i64 c, .int .i64 k] 121)) t wv ∧ Upd gt w (w.alloc (.cells #[.int .i64 o, .int .i64 a, .int .i64 b, .int .i64 c, .int .i64 k] 121)) ∧ (w.alloc (.cells #[.int .i64 o, .int .i64 a, .int .i64 b, .int .i64 c, .int .i64 k] 121)).ownsRow b0 355 2 wv t.wait.length (waitC t.wait)) :=
    ⟨hT.below ha0, Upd.below ha0, pw_own_below ho ha0⟩
  obtain ⟨A, cp, rfl⟩ := own_slice ho
  have kw := HS0.out.1.waitAt
  obtain ⟨n, hn⟩ : ∃ n, n = t.wait.length := ⟨_, rfl⟩
  rw [← hn] at kw HS0 hlen
  have HN := Lib.hid hn
  have HW := Lib.hid hw
  have HLN := Lib.hid hlen
  clear h hT ho ha0 hn hw hlen
  go_enter Tryz.func167, Tryz.ntmps167
  go_wp2_with fail
  clear kw
  go_loopg [11] n (fun d j X => ∃ q : Nat, q + d = n ∧ j = .int .i64 (q : Int) ∧ Hid (TkB b0 gt gw X { t with regs := foldW (t.wait.take q) t.regs } (.slice A n cp) ∧ Upd gt w X ∧ X.ownsRow b0 355 2 (.slice A n cp) n (waitC t.wait)))
  case atStart => exact ⟨0, by omega, rfl, HS0.out⟩
  case round =>
    clear HS0
    obtain ⟨q, hqd, rfl, hS⟩ := hrel
    by_cases hq : q < n
    · have hq0 : (0 : Int) ≤ (q : Int) := by omega
      have hq1 : (q : Int) < (n : Int) := by omega
      have hq2 : decide ((q : Int) < (n : Int)) = true := decide_eq_true hq1
      have hqw : wrap64 ((q : Int) + 1) = ((q + 1 : Nat) : Int) := by have := HLN.out; unfold wrap64; omega
      obtain ⟨m, hm⟩ : ∃ m, n = m + 1 := ⟨n - 1, by omega⟩
      obtain ⟨g, hg⟩ : ∃ g, A = some ⟨g, 0, none⟩ := by
        have ho := hS.out.2.2
        rw [hm] at ho
        obtain ⟨g, cap, e⟩ := ownsRow_succ ho
        injection e with e1 e2 e3
        exact ⟨g, e1⟩
      subst hg
      clear hm
      have hqn : q < t.wait.length := by rw [← HN.out]; exact hq
      have hx := wait_get t.wait q hqn
      have hf := foldW_succ t.wait t.regs q hqn
      have hr8 := HW.out (t.wait.getD q (0, 0)) (by rw [List.getD_eq_getElem?_getD, List.getElem?_eq_getElem hqn]; exact List.getElem_mem hqn)
      obtain ⟨y, hy⟩ : ∃ y, t.wait.getD q (0, 0) = y := ⟨_, rfl⟩
      rw [hy] at hx hf hr8
      obtain ⟨yr, yv⟩ := y
      obtain ⟨r, hr⟩ := Int.eq_ofNat_of_zero_le (a := yr) hr8.1
      obtain rfl : yr = (r : Int) := hr
      have hr2 : r < 8 := by have := hr8.2; change (r : Int) < 8 at this; omega
      have i0 : (0 : Int) ≤ (r : Int) := by omega
      have i1 : (r : Int) < 8 := by omega
      have c0 : wr.cell? ⟨g, q * 2, none⟩ = some (.int .i64 (r : Int)) := (World.ownsRow.cellAt hS.out.2.2 (q * 2) (by omega)).trans hx.1
      have c1 : wr.cell? ⟨g, q * 2 + 1, none⟩ = some (.int .i64 yv) := (World.ownsRow.cellAt hS.out.2.2 (q * 2 + 1) (by omega)).trans hx.2
      have ha1 : Below wr.heap.size wr (wr.alloc (.cells #[.int .i64 (r : Int), .int .i64 yv] 355)) := (Below.refl _ _).alloc (Nat.le_refl _) _
      have HS1 := Lib.hid (And.intro (hS.out.1.below ha1) (And.intro (hS.out.2.1.trans (Upd.below ha1)) (pw_own_below hS.out.2.2 ha1)))
      have k1 := HS1.out.1.reg r hr2
      have z1 := HS1.out.1.frozen (2 + r)
      have hf' : foldW (t.wait.take (q + 1)) t.regs = (foldW (t.wait.take q) t.regs).set r yv := hf
      have HS2 : Hid (TkB b0 gt gw ((wr.alloc (.cells #[.int .i64 (r : Int), .int .i64 yv] 355)).setCell ⟨gt, 2 + r, none⟩ (.int .i64 yv)) { t with regs := foldW (t.wait.take (q + 1)) t.regs } (.slice (some ⟨g, 0, none⟩) n cp) ∧ Upd gt w ((wr.alloc (.cells #[.int .i64 (r : Int), .int .i64 yv] 355)).setCell ⟨gt, 2 + r, none⟩ (.int .i64 yv)) ∧ ((wr.alloc (.cells #[.int .i64 (r : Int), .int .i64 yv] 355)).setCell ⟨gt, 2 + r, none⟩ (.int .i64 yv)).ownsRow b0 355 2 (.slice (some ⟨g, 0, none⟩) n cp) n (waitC t.wait)) := by
        obtain ⟨cb, hcb⟩ := HS1.out.1.blk
        exact ⟨by rw [hf']; exact HS1.out.1.put r hr2 yv, HS1.out.2.1.set _ _, own_setCell HS1.out.2.2 (p := ⟨gt, 2 + r, none⟩) (own_ne HS1.out.2.2 hcb (by decide)) _⟩
      have HQ := Lib.hid hq
      have HQD := Lib.hid hqd
      clear hq hqd hx hf hr8 hy hr2 ha1 hf' hS hqn
      go_wp2_with fail
      go_region
      all_goals go_wp2_with fail
      all_goals
        go_roundg (n - (q + 1))
        case measure => exact step_lt HQD.out HQ.out
        case rel => exact ⟨q + 1, step_eq HQ.out, by go_num, HS2.out.1.below (pw_below_drewN (Below.refl _ _) 1), Upd.drew HS2.out.2.1, HS2.out.2.2.drew⟩
    · have hq1 : ¬ (q : Int) < (n : Int) := by omega
      have hq2 : decide ((q : Int) < (n : Int)) = false := decide_eq_false hq1
      obtain rfl : q = n := by omega
      have kw := hS.out.1.waitAt
      have zw := hS.out.1.frozen 18
      have e1 : ({ t with regs := foldW (t.wait.take q) t.regs, wait := [] } : Tk) = t.sync := by
        rw [HN.out, List.take_length]
        rfl
      have HE := Lib.hid e1
      clear hq hqd e1
      go_wp2_with fail
      go_end0
      refine ⟨rfl, hS.out.2.1.set _ _, ?_⟩
      rw [← HE.out]
      exact hS.out.1.setWait _ [] (own_nil _ _ _ _)
end Go.Proofs.YtbiajfkencamiaaGreatDoor.EV
