/- eval: spawn and future. Printed by gen_se7.py. -/
import Derived.Test.YtbiajfkencamiaaGreatDoorE6
/-! E7 -/
namespace Go.Proofs.YtbiajfkencamiaaGreatDoor.EV
open Go.Proofs.YtbiajfkencamiaaGreatDoorW.PrintMore Go.Proofs.YtbiajfkencamiaaGreatDoor Go.Proofs.YtbiajfkencamiaaGreatDoor.Core Go.RowKit Go.Proofs.YtbiajfkencamiaaGreatDoorW.PrintWords
set_option linter.unusedVariables false
set_option linter.unusedSimpArgs false
theorem Kq.upd {ts : List Nat} {wb W W5 : World} {gt : Nat} (h : Kq ts wb W) (hu : Upd gt W W5) (hg : wb.heap.size ≤ gt) : Kq ts wb W5 :=
  ⟨Nat.le_trans h.1 hu.size, fun k o hk hn => by
    have hlt := (Array.getElem?_eq_some_iff.1 hk).1
    rw [hu.same k (Nat.lt_of_lt_of_le hlt h.1) (by omega)]
    exact h.2 k o hk hn⟩
theorem Kq.row0 {ts : List Nat} {wb w w1 : World} {base e size n : Nat} {v : Value} {xs : List Value} (h : Kq ts wb w) (ho : w.ownsRow base e size v n xs) (hb : wb.heap.size ≤ base) (hg : w.grownBy w1 v.ownBlock) : Kq ts wb w1 :=
  ⟨Nat.le_trans h.1 hg.size, fun k o hk hn => by
    have hlt := (Array.getElem?_eq_some_iff.1 hk).1
    rw [hg.block k (Nat.lt_of_lt_of_le hlt h.1) (fun he => by have := own_base ho k he.symm; omega)]
    exact h.2 k o hk hn⟩
/-- What is no row of cells stays. -/
def Km (w w' : World) : Prop := ∀ (k : Nat) (o : Obj), w.heap[k]? = some o → (∀ c t fr, o ≠ .cells c t fr) → w'.heap[k]? = some o
theorem Kq.km {ts : List Nat} {w w' : World} (h : Kq ts w w') : Km w w' := fun k o hk ho => h.2 k o hk (fun c t fr e => absurd e (ho c t fr))
theorem Km.trans {w w1 w2 : World} (h : Km w w1) (h' : Km w1 w2) : Km w w2 := fun k o hk ho => h' k o (h k o hk ho) ho
/-- Behind a kid that has ended: all but the row of what waits. -/
structure SF (c : Cx) (wb W0 : World) (gt gb : Nat) (bx : Array Value) (t : Tk) (wv : Value) (e : Ev) (X : World) : Prop where
  kq : Kq [142, 2, 229] wb X
  bel : Below c.base c.w00 X
  tk : TkB wb.heap.size gt c.gw X t wv
  ev : c.ev X e
  box : X.heap[gb]? = some (.cells bx 121 (0, 0))
  km : Km W0 X
section
variable {c : Cx} {wb W0 : World} {gt gb : Nat} {bx : Array Value} {t : Tk} {wv : Value} {e : Ev} {X X' : World}
theorem SF.below (h : SF c wb W0 gt gb bx t wv e X) (hb : Below X.heap.size X X') : SF c wb W0 gt gb bx t wv e X' :=
  ⟨h.kq.trans (Kq.below hb), h.bel.trans (hb.mono h.bel.size), h.tk.below hb, EvR.below h.ev hb, blk_below h.box hb, h.km.trans (Kq.below (ts := []) hb).km⟩
theorem SF.cells (h : SF c wb W0 gt gb bx t wv e X) : X.cell? ⟨gt, 18, none⟩ = some wv ∧ ∀ j, X.frozen? ⟨gt, j, none⟩ = false := ⟨h.tk.waitAt, h.tk.frozen⟩
/-- What a kid that has ended leaves. -/
theorem SF.of {b0 : Nat} {W1 W5 : World} {e2 : Ev} {v : Int} (hb0 : wb.heap.size = b0) (hm : Km W0 W1) (hcb : ∃ cb, W1.heap[gt]? = some (.cells cb 227 (0, 0))) (hk : Kq [142, 2, 229] wb W1) (hu : Upd gt W1 W5) (ht : TkR b0 gt c.gw W5 t) (hwv : W5.cell? ⟨gt, 18, none⟩ = some wv) (hbx : W1.heap[gb]? = some (.cells bx 121 (0, 0))) (hne : gb ≠ gt) (hr : RP c W5 (.ok e2 v) (.returned (.int .i64 v)) X) :
    SF c wb W0 gt gb bx t wv e2 X ∧ X.ownsRow b0 355 2 wv t.wait.length (waitC t.wait) := by
  subst hb0
  obtain ⟨wv', hT, ho⟩ := ht.opened
  have e1 : wv' = wv := by
    have := hT.waitAt
    rw [hwv] at this
    injection this with this
    exact this.symm
  subst e1
  have hbx5 : W5.heap[gb]? = some (.cells bx 121 (0, 0)) := (hu.same gb (blk_lt hbx) hne).trans hbx
  exact ⟨⟨(hk.upd hu hT.hb).trans hr.1, hr.2.1, hT.kq hr.1 (by decide) (by decide), hr.2.2.2, hr.1.get hbx5 (by decide), hm.trans ((hu.kq hcb.choose_spec).km.trans hr.1.km)⟩, hr.1.own ho (by decide)⟩
end
theorem info355 : (Tryz.prog.info? 355).map (fun i => (i.zero, i.size, i.bytes)) = some (some (.agg #[.int .i64 0, .int .i64 0]), 2, 16) := by kernel_rfl
/-- What a deed that begins a kid answers: the task goes on, or gives up. -/
def DK (c : Cx) (wb W0 : World) (gt : Nat) (t2 : Tk) (oo : Out) (en : Ending) (X : World) : Prop :=
  Kq [142, 2, 229] wb X ∧ Below c.base c.w00 X ∧ match oo with
  | .ok e2 v => en = .returned (.tuple #[]) ∧ c.ev X e2 ∧ TkR wb.heap.size gt c.gw X t2 ∧ Km W0 X
  | .fail e2 why => en = .panicked (failV why) ∧ c.ev X e2
  | .long e2 => en = .panicked longV ∧ c.ev X e2
/-- Which kid an instruction begins, and what it comes to. -/
abbrev kidOut (c : Cx) (n : Nat) (e : Ev) (t : Tk) (rb f ar : Nat) : Out := runF c.p c.B c.D n { e with log := e.log ++ [0] } (tk0 (t.dep + 1) ((t.regs.drop rb).take ar) t.hands e.log.length) f
def tkOf (t : Tk) (oa : Nat) (sp : Bool) : Out → Tk
  | .ok _ v => if sp = true then { t with kids := t.kids + 1, wait := t.wait ++ [((oa : Int), v)] } else { t with kids := t.kids + 1, hands := t.hands.set oa (true, v) }
  | _ => t
theorem grown_bel {c : Cx} {wb w w1 : World} {n : Nat} {v : Value} {xs : List Value} (hbz : c.base ≤ wb.heap.size) (h : Below c.base c.w00 w) (ho : w.ownsRow wb.heap.size 355 2 v n xs) (hg : w.grownBy w1 v.ownBlock) : Below c.base c.w00 w1 :=
  h.grown hg h.size (fun k e => Nat.le_trans hbz (own_base ho k e))
set_option maxRecDepth 100000 in
set_option maxHeartbeats 8000000 in
theorem tspawn_any {c : Cx} (hc : c.Ok) (n : Nat) (HR : RunSpec c n) {wb : World} {gt : Nat} {W : World} {t : Tk} {e : Ev} (o : Int) (oa rb f ar : Nat) (k0 : Int) (h : TkR wb.heap.size gt c.gw W t) (hE : c.ev W e) (heo : EvS e) (hl : e.left < n) (hkl : t.kids ≤ 1000000) (hwl : t.wait.length ≤ 1000000) (hdl : (t.dep : Int) ≤ c.D) (hf : f < c.p.length) (hb : rb < 8) (har : arityOf c.p f = (ar : Int)) (hra : rb + ar ≤ 8) (hB : Below c.base c.w00 W) (hb0 : c.base ≤ wb.heap.size) (hK : Kq [142, 2, 229] wb W) (hd : ¬ (t.dep : Int) = c.D) :
    Calls Tryz.prog 214 #[.pointer (some ⟨gt, 0, none⟩), .agg #[.int .i64 o, .int .i64 (oa : Int), .int .i64 (rb : Int), .int .i64 (f : Int), .int .i64 k0]] W (DK c wb W gt (tkOf t oa true (kidOut c n e t rb f ar)) (kidOut c n e t rb f ar)) := by
  obtain ⟨oo, hoo⟩ : ∃ oo, kidOut c n e t rb f ar = oo := ⟨_, rfl⟩
  rw [hoo]
  obtain ⟨W1, hW1⟩ : ∃ X : World, X = W.alloc (.cells #[.int .i64 o, .int .i64 (oa : Int), .int .i64 (rb : Int), .int .i64 (f : Int), .int .i64 k0] 121) := ⟨_, rfl⟩
  have ha0 : Below W.heap.size W W1 := by rw [hW1]; exact (Below.refl _ _).alloc (Nat.le_refl _) _
  have HXX : Hid (W1.heap[W.heap.size]? = some (.cells #[.int .i64 o, .int .i64 (oa : Int), .int .i64 (rb : Int), .int .i64 (f : Int), .int .i64 k0] 121 (0, 0))) := by rw [hW1]; exact heap_alloc_new _ _
  have HT1 : Hid (TkR wb.heap.size gt c.gw W1 t) := h.below ha0
  obtain ⟨wv, hwv, _⟩ := HT1.out.waitAt
  have HWV := Lib.hid hwv
  have HNE : Hid (W.heap.size ≠ gt) := by
    obtain ⟨cb, hcb⟩ := h.blk
    have := blk_lt hcb
    show W.heap.size ≠ gt
    omega
  have HKB : Hid (Kq [142, 2, 229] wb W1) := hK.trans (Kq.below ha0)
  have HKW : Hid (Km W W1) := (Kq.below (ts := []) ha0).km
  have HBZ := Lib.hid hb0
  have HWL := Lib.hid hwl
  have HKD : Hid (∀ X, Below W1.heap.size W1 X → Calls Tryz.prog 249 #[.pointer (some ⟨gt, 0, none⟩), .agg #[.int .i64 o, .int .i64 (oa : Int), .int .i64 (rb : Int), .int .i64 (f : Int), .int .i64 k0]] X (fun en w' => ∃ W5, Upd gt X W5 ∧ TkR wb.heap.size gt c.gw W5 { t with kids := t.kids + 1 } ∧ Below c.base c.w00 W5 ∧ W5.cell? ⟨gt, 18, none⟩ = X.cell? ⟨gt, 18, none⟩ ∧ RP c W5 oo en w')) := fun X hX => by
    have hWX : Below W.heap.size W X := ha0.trans (hX.mono ha0.size)
    have := kid_any hc n HR o (oa : Int) rb f ar k0 (h.below hWX) (EvR.below hE hWX) heo hl hkl hdl hf hb har hra (hB.trans (hWX.mono hB.size)) hb0 hd
    rw [← hoo]
    exact this
  have HBX : Hid (∀ {w w1 : World} {n : Nat} {v : Value} {xs : List Value}, Below c.base c.w00 w → w.ownsRow wb.heap.size 355 2 v n xs → w.grownBy w1 v.ownBlock → Below c.base c.w00 w1) := fun h ho hg => grown_bel hb0 h ho hg
  have HW1 := Lib.hid hW1
  clear HR hc h hE heo hl hkl hwl hdl hf hb har hra hB hb0 hK hd hoo ha0 hwv hW1
  go_enter Tryz.func214, Tryz.ntmps214
  go_wp2_with fail
  rw [← HW1.out]
  refine Reg.wp_region_phase (by kernel_rfl) [9, 10, 11, 12, 15] (fun i => match i with | 0 => fun v => v = .pointer (some ⟨gt, 0, none⟩) | 1 => fun v => v = .pointer (some ⟨gt, 0, none⟩) | 2 => fun v => v = .pointer (some ⟨gt, 0, none⟩) | 3 => fun v => v = .pointer (some ⟨gt, 18, none⟩) | 4 => fun v => v = wv | 5 => fun v => v = .pointer (some ⟨W.heap.size, 1, none⟩) | 6 => fun v => v = .int .i64 (oa : Int) | 7 => fun v => v = .pointer (some ⟨gt, 0, none⟩) | 8 => fun v => v = .agg #[.int .i64 o, .int .i64 (oa : Int), .int .i64 (rb : Int), .int .i64 (f : Int), .int .i64 k0] | 13 => fun v => v = .pointer (some ⟨gt, 0, none⟩) | 14 => fun v => v = .pointer (some ⟨gt, 18, none⟩) | _ => fun _ => True) (fun k f9 X => match k with | 0 => Below W1.heap.size W1 X | 1 => ∃ e2 v, oo = .ok e2 v ∧ f9 13 = .int .i64 v ∧ SF c wb W1 gt W.heap.size #[.int .i64 o, .int .i64 (oa : Int), .int .i64 (rb : Int), .int .i64 (f : Int), .int .i64 k0] { t with kids := t.kids + 1 } wv e2 X ∧ X.ownsRow wb.heap.size 355 2 wv t.wait.length (waitC t.wait) | 2 => ∃ e2 v, oo = .ok e2 v ∧ f9 14 = .agg #[.int .i64 (oa : Int), .int .i64 v] ∧ SF c wb W1 gt W.heap.size #[.int .i64 o, .int .i64 (oa : Int), .int .i64 (rb : Int), .int .i64 (f : Int), .int .i64 k0] { t with kids := t.kids + 1 } wv e2 X ∧ X.ownsRow wb.heap.size 355 2 wv t.wait.length (waitC t.wait) | 3 => ∃ e2 v W9, oo = .ok e2 v ∧ X = W9.alloc (.cells ([.int .i64 (oa : Int), .int .i64 v] : List Value).toArray 355) ∧ f9 15 = .slice (some ⟨W9.heap.size, 0, none⟩) 1 1 ∧ SF c wb W1 gt W.heap.size #[.int .i64 o, .int .i64 (oa : Int), .int .i64 (rb : Int), .int .i64 (f : Int), .int .i64 k0] { t with kids := t.kids + 1 } wv e2 W9 ∧ W9.ownsRow wb.heap.size 355 2 wv t.wait.length (waitC t.wait) | 4 => ∃ e2 v A2 c2, oo = .ok e2 v ∧ f9 16 = .slice A2 (t.wait.length + 1) c2 ∧ SF c wb W1 gt W.heap.size #[.int .i64 o, .int .i64 (oa : Int), .int .i64 (rb : Int), .int .i64 (f : Int), .int .i64 k0] { t with kids := t.kids + 1 } wv e2 X ∧ X.ownsRow wb.heap.size 355 2 (.slice A2 (t.wait.length + 1) c2) (t.wait.length + 1) (waitC (t.wait ++ [((oa : Int), v)])) | _ => ∃ e2 v, oo = .ok e2 v ∧ Kq [142, 2, 229] wb X ∧ Below c.base c.w00 X ∧ c.ev X e2 ∧ TkR wb.heap.size gt c.gw X { t with kids := t.kids + 1, wait := t.wait ++ [((oa : Int), v)] } ∧ Km W1 X) (by kernel_rfl) (by kernel_rfl) (by decide) (by decide) ?hJ ?h0 ?pure ?act ?fin
  case hJ => (intro k f9 f' X h hj; match k, hj with
    | 0, hj => exact hj
    | 1, hj => (obtain ⟨e2, v, h1, h2, h3⟩ := hj; exact ⟨e2, v, h1, (h 0 (by omega) (by decide) 13 (by kernel_rfl)).symm.trans h2, h3⟩)
    | 2, hj => (obtain ⟨e2, v, h1, h2, h3⟩ := hj; exact ⟨e2, v, h1, (h 1 (by omega) (by decide) 14 (by kernel_rfl)).symm.trans h2, h3⟩)
    | 3, hj => (obtain ⟨e2, v, W9, h1, h2, h3, h4⟩ := hj; exact ⟨e2, v, W9, h1, h2, (h 2 (by omega) (by decide) 15 (by kernel_rfl)).symm.trans h3, h4⟩)
    | 4, hj => (obtain ⟨e2, v, A2, c2, h1, h2, h3⟩ := hj; exact ⟨e2, v, A2, c2, h1, (h 3 (by omega) (by decide) 16 (by kernel_rfl)).symm.trans h2, h3⟩)
    | k + 5, hj => exact hj)
  case h0 => exact pw_below_drewN (Below.refl _ _) 1
  case pure =>
    intro i o k a w_ ho hE hk hmc hf hst hkn hj
    have hi : i < 16 := (Array.getElem?_eq_some_iff.1 ho).1
    obtain rfl | rfl | rfl | rfl | rfl | rfl | rfl | rfl | rfl | rfl | rfl : i = 0 ∨ i = 1 ∨ i = 2 ∨ i = 3 ∨ i = 4 ∨ i = 5 ∨ i = 6 ∨ i = 7 ∨ i = 8 ∨ i = 13 ∨ i = 14 := by
      simp only [List.mem_cons, List.not_mem_nil, or_false, not_or] at hE
      omega
    · skip
      obtain rfl := Reg.oper_eq ho rfl
      have e0 : a.eval (.tmp 0) = .pointer (some ⟨gt, 0, none⟩) := (hf.eval 0 (by kernel_rfl)).trans rfl
      have g0 := Reg.eval_getD e0
      exact Reg.op_value rfl rfl (by simp only [List.getElem_toArray, List.getElem_cons_zero, List.getElem_cons_succ, execOp, e0]; go_simp) ⟨_, rfl, rfl, hj⟩
    · skip
      obtain rfl := Reg.oper_eq ho rfl
      have e0 : a.eval (.tmp 0) = .pointer (some ⟨gt, 0, none⟩) := (hf.eval 0 (by kernel_rfl)).trans rfl
      have g0 := Reg.eval_getD e0
      exact Reg.op_value rfl rfl (by simp only [List.getElem_toArray, List.getElem_cons_zero, List.getElem_cons_succ, execOp, e0]; go_simp) ⟨_, rfl, rfl, hj⟩
    · skip
      obtain rfl := Reg.oper_eq ho rfl
      have e5 : a.eval (.tmp 5) = .pointer (some ⟨gt, 0, none⟩) := hkn.eval 1 5 (by kernel_rfl) (by kernel_rfl)
      have g5 := Reg.eval_getD e5
      exact Reg.op_value rfl rfl (by simp only [List.getElem_toArray, List.getElem_cons_zero, List.getElem_cons_succ, execOp, e5]; go_simp) ⟨_, rfl, rfl, hj⟩
    · skip
      obtain rfl := Reg.oper_eq ho rfl
      have e6 : a.eval (.tmp 6) = .pointer (some ⟨gt, 0, none⟩) := hkn.eval 2 6 (by kernel_rfl) (by kernel_rfl)
      have g6 := Reg.eval_getD e6
      exact Reg.op_value rfl rfl (by simp only [List.getElem_toArray, List.getElem_cons_zero, List.getElem_cons_succ, execOp, e6]; go_simp) ⟨_, rfl, rfl, hj⟩
    · skip
      obtain rfl := Reg.oper_eq ho rfl
      have e7 : a.eval (.tmp 7) = .pointer (some ⟨gt, 18, none⟩) := hkn.eval 3 7 (by kernel_rfl) (by kernel_rfl)
      have g7 := Reg.eval_getD e7
      have hz : w_.cell? ⟨gt, 18, none⟩ = some wv ∧ w_.heap[W.heap.size]? = some (.cells #[.int .i64 o, .int .i64 (oa : Int), .int .i64 (rb : Int), .int .i64 (f : Int), .int .i64 k0] 121 (0, 0)) := by
        have hk3 : k = 0 ∨ k = 1 ∨ k = 2 ∨ k = 3 ∨ k = 4 ∨ k = 5 := by (simp only [List.length_cons, List.length_nil] at hk; omega)
        rcases hk3 with rfl | rfl | rfl | rfl | rfl | rfl
        · exact ⟨(tk_cell HT1.out hj 18).trans HWV.out, blk_below HXX.out hj⟩
        · obtain ⟨e2, v, _, _, h3, _⟩ := hj
          exact ⟨h3.cells.1, h3.box⟩
        · obtain ⟨e2, v, _, _, h3, _⟩ := hj
          exact ⟨h3.cells.1, h3.box⟩
        · obtain ⟨e2, v, W9, _, rfl, _, h3, _⟩ := hj
          have h4 := h3.below ((Below.refl _ _).alloc (Nat.le_refl _) (.cells ([.int .i64 (oa : Int), .int .i64 v] : List Value).toArray 355))
          exact ⟨h4.cells.1, h4.box⟩
        · exact Bool.noConfusion (hmc.symm.trans (show Reg.mayComeB _ _ _ _ = false from by kernel_rfl))
        · exact Bool.noConfusion (hmc.symm.trans (show Reg.mayComeB _ _ _ _ = false from by kernel_rfl))
      have kf := hz.1
      exact Reg.op_value rfl rfl (by simp only [List.getElem_toArray, List.getElem_cons_zero, List.getElem_cons_succ, execOp, e7]; go_simp) ⟨_, rfl, rfl, hj⟩
    · skip
      obtain rfl := Reg.oper_eq ho rfl
      have e3 : a.eval (.tmp 3) = .pointer (some ⟨W.heap.size, 0, none⟩) := (hf.eval 3 (by kernel_rfl)).trans rfl
      have g3 := Reg.eval_getD e3
      exact Reg.op_value rfl rfl (by simp only [List.getElem_toArray, List.getElem_cons_zero, List.getElem_cons_succ, execOp, e3]; go_simp) ⟨_, rfl, rfl, hj⟩
    · skip
      obtain rfl := Reg.oper_eq ho rfl
      have e9 : a.eval (.tmp 9) = .pointer (some ⟨W.heap.size, 1, none⟩) := hkn.eval 5 9 (by kernel_rfl) (by kernel_rfl)
      have g9 := Reg.eval_getD e9
      have hz : w_.cell? ⟨gt, 18, none⟩ = some wv ∧ w_.heap[W.heap.size]? = some (.cells #[.int .i64 o, .int .i64 (oa : Int), .int .i64 (rb : Int), .int .i64 (f : Int), .int .i64 k0] 121 (0, 0)) := by
        have hk3 : k = 0 ∨ k = 1 ∨ k = 2 ∨ k = 3 ∨ k = 4 ∨ k = 5 := by (simp only [List.length_cons, List.length_nil] at hk; omega)
        rcases hk3 with rfl | rfl | rfl | rfl | rfl | rfl
        · exact ⟨(tk_cell HT1.out hj 18).trans HWV.out, blk_below HXX.out hj⟩
        · obtain ⟨e2, v, _, _, h3, _⟩ := hj
          exact ⟨h3.cells.1, h3.box⟩
        · obtain ⟨e2, v, _, _, h3, _⟩ := hj
          exact ⟨h3.cells.1, h3.box⟩
        · obtain ⟨e2, v, W9, _, rfl, _, h3, _⟩ := hj
          have h4 := h3.below ((Below.refl _ _).alloc (Nat.le_refl _) (.cells ([.int .i64 (oa : Int), .int .i64 v] : List Value).toArray 355))
          exact ⟨h4.cells.1, h4.box⟩
        · exact Bool.noConfusion (hmc.symm.trans (show Reg.mayComeB _ _ _ _ = false from by kernel_rfl))
        · exact Bool.noConfusion (hmc.symm.trans (show Reg.mayComeB _ _ _ _ = false from by kernel_rfl))
      have kf := (blk_cell hz.2 1).trans rfl
      exact Reg.op_value rfl rfl (by simp only [List.getElem_toArray, List.getElem_cons_zero, List.getElem_cons_succ, execOp, e9]; go_simp) ⟨_, rfl, rfl, hj⟩
    · skip
      obtain rfl := Reg.oper_eq ho rfl
      have e0 : a.eval (.tmp 0) = .pointer (some ⟨gt, 0, none⟩) := (hf.eval 0 (by kernel_rfl)).trans rfl
      have g0 := Reg.eval_getD e0
      exact Reg.op_value rfl rfl (by simp only [List.getElem_toArray, List.getElem_cons_zero, List.getElem_cons_succ, execOp, e0]; go_simp) ⟨_, rfl, rfl, hj⟩
    · skip
      obtain rfl := Reg.oper_eq ho rfl
      have e3 : a.eval (.tmp 3) = .pointer (some ⟨W.heap.size, 0, none⟩) := (hf.eval 3 (by kernel_rfl)).trans rfl
      have g3 := Reg.eval_getD e3
      have hz : w_.cell? ⟨gt, 18, none⟩ = some wv ∧ w_.heap[W.heap.size]? = some (.cells #[.int .i64 o, .int .i64 (oa : Int), .int .i64 (rb : Int), .int .i64 (f : Int), .int .i64 k0] 121 (0, 0)) := by
        have hk3 : k = 0 ∨ k = 1 ∨ k = 2 ∨ k = 3 ∨ k = 4 ∨ k = 5 := by (simp only [List.length_cons, List.length_nil] at hk; omega)
        rcases hk3 with rfl | rfl | rfl | rfl | rfl | rfl
        · exact ⟨(tk_cell HT1.out hj 18).trans HWV.out, blk_below HXX.out hj⟩
        · obtain ⟨e2, v, _, _, h3, _⟩ := hj
          exact ⟨h3.cells.1, h3.box⟩
        · obtain ⟨e2, v, _, _, h3, _⟩ := hj
          exact ⟨h3.cells.1, h3.box⟩
        · obtain ⟨e2, v, W9, _, rfl, _, h3, _⟩ := hj
          have h4 := h3.below ((Below.refl _ _).alloc (Nat.le_refl _) (.cells ([.int .i64 (oa : Int), .int .i64 v] : List Value).toArray 355))
          exact ⟨h4.cells.1, h4.box⟩
        · exact Bool.noConfusion (hmc.symm.trans (show Reg.mayComeB _ _ _ _ = false from by kernel_rfl))
        · exact Bool.noConfusion (hmc.symm.trans (show Reg.mayComeB _ _ _ _ = false from by kernel_rfl))
      have x0 := (blk_cell hz.2 0).trans rfl
      have x1 := (blk_cell hz.2 1).trans rfl
      have x2 := (blk_cell hz.2 2).trans rfl
      have x3 := (blk_cell hz.2 3).trans rfl
      have x4 := (blk_cell hz.2 4).trans rfl
      exact Reg.op_value rfl rfl (by simp only [List.getElem_toArray, List.getElem_cons_zero, List.getElem_cons_succ, execOp, e3]; go_simp) ⟨_, rfl, rfl, hj⟩
    · skip
      obtain rfl := Reg.oper_eq ho rfl
      have e4 : a.eval (.tmp 4) = .pointer (some ⟨gt, 0, none⟩) := hkn.eval 0 4 (by kernel_rfl) (by kernel_rfl)
      have g4 := Reg.eval_getD e4
      exact Reg.op_value rfl rfl (by simp only [List.getElem_toArray, List.getElem_cons_zero, List.getElem_cons_succ, execOp, e4]; go_simp) ⟨_, rfl, rfl, hj⟩
    · skip
      obtain rfl := Reg.oper_eq ho rfl
      have e17 : a.eval (.tmp 17) = .pointer (some ⟨gt, 0, none⟩) := hkn.eval 13 17 (by kernel_rfl) (by kernel_rfl)
      have g17 := Reg.eval_getD e17
      exact Reg.op_value rfl rfl (by simp only [List.getElem_toArray, List.getElem_cons_zero, List.getElem_cons_succ, execOp, e17]; go_simp) ⟨_, rfl, rfl, hj⟩
  case act =>
    intro k o a w_ hk ho hf hst hkn hj
    obtain rfl | rfl | rfl | rfl | rfl : k = 0 ∨ k = 1 ∨ k = 2 ∨ k = 3 ∨ k = 4 := by simp only [List.length_cons, List.length_nil] at hk; omega
    · skip
      obtain rfl := Reg.oper_eq ho rfl
      have e11 : a.eval (.tmp 11) = .pointer (some ⟨gt, 0, none⟩) := hkn.eval 7 11 (by kernel_rfl) (by kernel_rfl)
      have e12 : a.eval (.tmp 12) = .agg #[.int .i64 o, .int .i64 (oa : Int), .int .i64 (rb : Int), .int .i64 (f : Int), .int .i64 k0] := hkn.eval 8 12 (by kernel_rfl) (by kernel_rfl)
      have g11 := Reg.eval_getD e11
      have g12 := Reg.eval_getD e12
      refine Reg.op_call (f := 249) (args := #[.pointer (some ⟨gt, 0, none⟩), .agg #[.int .i64 o, .int .i64 (oa : Int), .int .i64 (rb : Int), .int .i64 (f : Int), .int .i64 k0]]) (w' := w_) rfl rfl (by simp only [List.getElem_toArray, List.getElem_cons_zero, List.getElem_cons_succ, execOp, e11, e12]; go_simp) ((HKD.out w_ hj).mono ?_)
      rintro e9 w2 ⟨W5, hu5, ht5, hb5, hc5, hrp⟩
      cases oo with
      | ok e2 v =>
        obtain ⟨g1, g2, rfl, g4⟩ := hrp
        obtain ⟨s1, s2⟩ := SF.of (v := v) rfl (Kq.below (ts := []) hj).km (HT1.out.below hj).blk (HKB.out.trans (Kq.below hj)) hu5 ht5 (hc5.trans ((tk_cell HT1.out hj 18).trans HWV.out)) (blk_below HXX.out hj) HNE.out ⟨g1, g2, rfl, g4⟩
        exact .inl ⟨_, rfl, _, rfl, trivial, e2, v, rfl, Reg.val_put_in hf (by kernel_rfl), s1, s2⟩
      | fail e2 why =>
        obtain ⟨g1, g2, rfl, g4⟩ := hrp
        exact .inr ⟨_, rfl, hf.defers, ((HKB.out.trans (Kq.below hj)).upd hu5 ht5.hb).trans g1, g2, rfl, g4⟩
      | long e2 =>
        obtain ⟨g1, g2, rfl, g4⟩ := hrp
        exact .inr ⟨_, rfl, hf.defers, ((HKB.out.trans (Kq.below hj)).upd hu5 ht5.hb).trans g1, g2, rfl, g4⟩
    · skip
      obtain rfl := Reg.oper_eq ho rfl
      have e10 : a.eval (.tmp 10) = .int .i64 (oa : Int) := hkn.eval 6 10 (by kernel_rfl) (by kernel_rfl)
      have g10 := Reg.eval_getD e10
      obtain ⟨e2, v, h1, h2, h3, h4⟩ := hj
      have e13' : a.eval (.tmp 13) = .int .i64 v := (Reg.eval_val a 13).trans h2
      have g13 := Reg.eval_getD e13'
      exact Reg.op_value (v := .agg #[.int .i64 (oa : Int), .int .i64 v]) (w' := w_) rfl rfl (by simp only [List.getElem_toArray, List.getElem_cons_zero, List.getElem_cons_succ, execOp, e13', e10]; go_simp) ⟨_, rfl, trivial, e2, v, h1, Reg.val_put_in hf (by kernel_rfl), h3, h4⟩
    · skip
      obtain rfl := Reg.oper_eq ho rfl
      obtain ⟨e2, v, h1, h2, h3, h4⟩ := hj
      have e14' : a.eval (.tmp 14) = .agg #[.int .i64 (oa : Int), .int .i64 v] := (Reg.eval_val a 14).trans h2
      have g14 := Reg.eval_getD e14'
      exact Reg.op_value (v := .slice (some ⟨w_.heap.size, 0, none⟩) 1 1) (w' := w_.alloc (.cells ([.int .i64 (oa : Int), .int .i64 v] : List Value).toArray 355)) rfl rfl (by simp only [List.getElem_toArray, List.getElem_cons_zero, List.getElem_cons_succ, execOp, e14']; go_simp) ⟨_, rfl, trivial, e2, v, w_, h1, rfl, Reg.val_put_in hf (by kernel_rfl), h3, h4⟩
    · skip
      obtain rfl := Reg.oper_eq ho rfl
      have e8 : a.eval (.tmp 8) = wv := hkn.eval 4 8 (by kernel_rfl) (by kernel_rfl)
      have g8 := Reg.eval_getD e8
      obtain ⟨e2, v, W9, h1, rfl, h15, h3, h4⟩ := hj
      refine Reg.op_wp rfl rfl ?_
      refine step_append_cells (w0 := W9) wb.heap.size rfl (.tmp 8) (.tmp 15) 225 355 (.agg #[.int .i64 0, .int .i64 0]) 2 16 rfl Tryz.underlying225 info355 rfl (by decide) (by decide) wv t.wait.length (waitC t.wait) [.int .i64 (oa : Int), .int .i64 v] e8 ((Reg.eval_val a 15).trans h15) rfl (by intro u hu; simp at hu; rcases hu with rfl | rfl <;> rfl) h4 (Below.refl _ _) h3.kq.1 (by have := HWL.out; omega) ?_
      intro v1 w1 hR hB hg hat
      obtain ⟨A2, c2, hv1⟩ := own_slice hR
      subst hv1
      have hkk : Kq [355] W9 w1 := Kq.row h4 (by simp) hg.size hg
      refine ⟨_, rfl, trivial, e2, v, A2, c2, h1, Reg.val_put_in hf (by kernel_rfl), ⟨h3.kq.row0 h4 (Nat.le_refl _) hg, HBX.out h3.bel h4 hg, h3.tk.kq hkk (by decide) (by decide), EvR.keep h3.ev hkk (by decide) (by decide) (by decide), hkk.get h3.box (by decide), h3.km.trans hkk.km⟩, ?_⟩
      rw [show waitC (t.wait ++ [((oa : Int), v)]) = waitC t.wait ++ [.int .i64 (oa : Int), .int .i64 v] from by simp [waitC]]
      exact hR
    · skip
      obtain rfl := Reg.oper_eq ho rfl
      have e18 : a.eval (.tmp 18) = .pointer (some ⟨gt, 18, none⟩) := hkn.eval 14 18 (by kernel_rfl) (by kernel_rfl)
      have g18 := Reg.eval_getD e18
      obtain ⟨e2, v, A2, c2, h1, h16, h3, h4⟩ := hj
      have e16' : a.eval (.tmp 16) = .slice A2 (t.wait.length + 1) c2 := (Reg.eval_val a 16).trans h16
      have g16 := Reg.eval_getD e16'
      have kf := h3.cells.1
      have qf := h3.cells.2 18
      obtain ⟨cb, hcb⟩ := h3.tk.blk
      have hks : Kq [227] w_ (w_.setCell ⟨gt, 18, none⟩ (.slice A2 (t.wait.length + 1) c2)) := Kq.set hcb (by simp) 18 _
      refine Reg.op_unit (w' := w_.setCell ⟨gt, 18, none⟩ (.slice A2 (t.wait.length + 1) c2)) rfl rfl (by simp only [List.getElem_toArray, List.getElem_cons_zero, List.getElem_cons_succ, execOp, e16', e18]; go_simp) ⟨_, rfl, trivial, e2, v, h1, h3.kq.fresh gt h3.tk.hb 18 _, h3.bel.setCell (p := ⟨gt, 18, none⟩) (Nat.le_trans HBZ.out h3.tk.hb) _, EvR.keep h3.ev hks (by decide) (by decide) (by decide), ?_, h3.km.trans hks.km⟩
      exact h3.tk.setWait _ (t.wait ++ [((oa : Int), v)]) (by simpa using h4)
  case fin =>
    intro a w_ hf hkn hj
    have e4 : Reg.val a 4 = _ := hkn 0 4 (by show _ < _; decide) (by kernel_rfl)
    have e5 : Reg.val a 5 = _ := hkn 1 5 (by show _ < _; decide) (by kernel_rfl)
    have e6 : Reg.val a 6 = _ := hkn 2 6 (by show _ < _; decide) (by kernel_rfl)
    have e7 : Reg.val a 7 = _ := hkn 3 7 (by show _ < _; decide) (by kernel_rfl)
    have e8 : Reg.val a 8 = _ := hkn 4 8 (by show _ < _; decide) (by kernel_rfl)
    have e9 : Reg.val a 9 = _ := hkn 5 9 (by show _ < _; decide) (by kernel_rfl)
    have e10 : Reg.val a 10 = _ := hkn 6 10 (by show _ < _; decide) (by kernel_rfl)
    have e11 : Reg.val a 11 = _ := hkn 7 11 (by show _ < _; decide) (by kernel_rfl)
    have e12 : Reg.val a 12 = _ := hkn 8 12 (by show _ < _; decide) (by kernel_rfl)
    have e17 : Reg.val a 17 = _ := hkn 13 17 (by show _ < _; decide) (by kernel_rfl)
    have e18 : Reg.val a 18 = _ := hkn 14 18 (by show _ < _; decide) (by kernel_rfl)
    rw [Reg.frm_fold hf [4, 5, 6, 7, 8, 9, 10, 11, 12, 13, 14, 15, 16, 17, 18] (by kernel_rfl) (by kernel_rfl)]
    simp only [List.foldl_cons, List.foldl_nil, Act.put, List.setIfInBounds_toArray, List.set_cons_zero, List.set_cons_succ, e4, e5, e6, e7, e8, e9, e10, e11, e12, e17, e18]
    generalize Reg.val a 13 = v13_ at *
    generalize Reg.val a 14 = v14_ at *
    generalize Reg.val a 15 = v15_ at *
    generalize Reg.val a 16 = v16_ at *
    clear hkn hf e4 e5 e6 e7 e8 e9 e10 e11 e12 e17 e18
    obtain ⟨e2, v, h1, h2, h3, h4, h5⟩ := hj
    have HD := Lib.hid (And.intro h2 (And.intro h3 (And.intro h4 h5)))
    clear h2 h3 h4 h5
    go_wp2_with fail
    go_end0
    subst h1
    exact ⟨HD.out.1, HD.out.2.1, rfl, HD.out.2.2.1, HD.out.2.2.2.1, HKW.out.trans HD.out.2.2.2.2⟩
theorem TkB.hput {b0 gt gw : Nat} {W : World} {t : Tk} {wv : Value} (h : TkB b0 gt gw W t wv) (a : Nat) (ha : a < 4) (v : Int) : TkB b0 gt gw ((W.setCell ⟨gt, 10 + a * 2, none⟩ (.bool true)).setCell ⟨gt, 10 + a * 2 + 1, none⟩ (.int .i64 v)) { t with hands := t.hands.set a (true, v) } wv := by
  obtain ⟨hb, h8, h4, pv, q1, ps, q2⟩ := h
  refine ⟨hb, h8, by rw [List.length_set]; exact h4, pv, ?_, ps, ?_⟩
  · rw [blk_set (blk_set q1 _ _), List.setIfInBounds_toArray, List.setIfInBounds_toArray, tk_hput h8 h4 a ha v]
  · have n1 := own_ne q2 q1 (by decide)
    exact own_setCell (own_setCell q2 (p := ⟨gt, 10 + a * 2, none⟩) n1 _) (p := ⟨gt, 10 + a * 2 + 1, none⟩) n1 _
theorem TkB.handAt {b0 gt gw : Nat} {W : World} {t : Tk} {wv : Value} (h : TkB b0 gt gw W t wv) (a : Nat) (ha : a < 4) : (∃ u, W.cell? ⟨gt, 10 + a * 2, none⟩ = some u) ∧ (∃ u, W.cell? ⟨gt, 10 + a * 2 + 1, none⟩ = some u) := by
  obtain ⟨hb, h8, h4, pv, q1, _⟩ := h
  obtain ⟨g1, g2⟩ := tk_hand (gw := gw) (pv := pv) (wv := wv) h8 h4 a ha
  exact ⟨⟨_, by rw [blk_cell q1]; simpa using g1⟩, ⟨_, by rw [blk_cell q1]; simpa using g2⟩⟩
set_option maxRecDepth 100000 in
set_option maxHeartbeats 8000000 in
theorem tfuture_any {c : Cx} (hc : c.Ok) (n : Nat) (HR : RunSpec c n) {wb : World} {gt : Nat} {W : World} {t : Tk} {e : Ev} (o : Int) (oa rb f ar : Nat) (k0 : Int) (h : TkR wb.heap.size gt c.gw W t) (hE : c.ev W e) (heo : EvS e) (hl : e.left < n) (hkl : t.kids ≤ 1000000) (hwl : t.wait.length ≤ 1000000) (hdl : (t.dep : Int) ≤ c.D) (hoa : oa < 4) (hf : f < c.p.length) (hb : rb < 8) (har : arityOf c.p f = (ar : Int)) (hra : rb + ar ≤ 8) (hB : Below c.base c.w00 W) (hb0 : c.base ≤ wb.heap.size) (hK : Kq [142, 2, 229] wb W) (hd : ¬ (t.dep : Int) = c.D) :
    Calls Tryz.prog 215 #[.pointer (some ⟨gt, 0, none⟩), .agg #[.int .i64 o, .int .i64 (oa : Int), .int .i64 (rb : Int), .int .i64 (f : Int), .int .i64 k0]] W (DK c wb W gt (tkOf t oa false (kidOut c n e t rb f ar)) (kidOut c n e t rb f ar)) := by
  obtain ⟨oo, hoo⟩ : ∃ oo, kidOut c n e t rb f ar = oo := ⟨_, rfl⟩
  rw [hoo]
  obtain ⟨W1, hW1⟩ : ∃ X : World, X = W.alloc (.cells #[.int .i64 o, .int .i64 (oa : Int), .int .i64 (rb : Int), .int .i64 (f : Int), .int .i64 k0] 121) := ⟨_, rfl⟩
  have ha0 : Below W.heap.size W W1 := by rw [hW1]; exact (Below.refl _ _).alloc (Nat.le_refl _) _
  have HXX : Hid (W1.heap[W.heap.size]? = some (.cells #[.int .i64 o, .int .i64 (oa : Int), .int .i64 (rb : Int), .int .i64 (f : Int), .int .i64 k0] 121 (0, 0))) := by rw [hW1]; exact heap_alloc_new _ _
  have HT1 : Hid (TkR wb.heap.size gt c.gw W1 t) := h.below ha0
  obtain ⟨wv, hwv, _⟩ := HT1.out.waitAt
  have HWV := Lib.hid hwv
  have HNE : Hid (W.heap.size ≠ gt) := by
    obtain ⟨cb, hcb⟩ := h.blk
    have := blk_lt hcb
    show W.heap.size ≠ gt
    omega
  have HKB : Hid (Kq [142, 2, 229] wb W1) := hK.trans (Kq.below ha0)
  have HKW : Hid (Km W W1) := (Kq.below (ts := []) ha0).km
  have HBZ := Lib.hid hb0
  have HWL := Lib.hid hwl
  have HOA := Lib.hid hoa
  have HKD : Hid (∀ X, Below W1.heap.size W1 X → Calls Tryz.prog 249 #[.pointer (some ⟨gt, 0, none⟩), .agg #[.int .i64 o, .int .i64 (oa : Int), .int .i64 (rb : Int), .int .i64 (f : Int), .int .i64 k0]] X (fun en w' => ∃ W5, Upd gt X W5 ∧ TkR wb.heap.size gt c.gw W5 { t with kids := t.kids + 1 } ∧ Below c.base c.w00 W5 ∧ W5.cell? ⟨gt, 18, none⟩ = X.cell? ⟨gt, 18, none⟩ ∧ RP c W5 oo en w')) := fun X hX => by
    have hWX : Below W.heap.size W X := ha0.trans (hX.mono ha0.size)
    have := kid_any hc n HR o (oa : Int) rb f ar k0 (h.below hWX) (EvR.below hE hWX) heo hl hkl hdl hf hb har hra (hB.trans (hWX.mono hB.size)) hb0 hd
    rw [← hoo]
    exact this
  have HBX : Hid (∀ {w w1 : World} {n : Nat} {v : Value} {xs : List Value}, Below c.base c.w00 w → w.ownsRow wb.heap.size 355 2 v n xs → w.grownBy w1 v.ownBlock → Below c.base c.w00 w1) := fun h ho hg => grown_bel hb0 h ho hg
  have HW1 := Lib.hid hW1
  clear HR hc h hE heo hl hkl hwl hdl hoa hf hb har hra hB hb0 hK hd hoo ha0 hwv hW1
  go_enter Tryz.func215, Tryz.ntmps215
  go_wp2_with fail
  rw [← HW1.out]
  refine Reg.wp_region_phase (by kernel_rfl) [5, 6, 10] (fun i => match i with | 0 => fun v => v = .pointer (some ⟨gt, 0, none⟩) | 1 => fun v => v = .pointer (some ⟨W.heap.size, 1, none⟩) | 2 => fun v => v = .int .i64 (oa : Int) | 3 => fun v => v = .pointer (some ⟨gt, 0, none⟩) | 4 => fun v => v = .agg #[.int .i64 o, .int .i64 (oa : Int), .int .i64 (rb : Int), .int .i64 (f : Int), .int .i64 k0] | 7 => fun v => v = .pointer (some ⟨gt, 0, none⟩) | 8 => fun v => v = .pointer (some ⟨gt, 10, none⟩) | 9 => fun v => v = .pointer (some ⟨gt, 10 + oa * 2, none⟩) | _ => fun _ => True) (fun k f9 X => match k with | 0 => Below W1.heap.size W1 X | 1 => ∃ e2 v, oo = .ok e2 v ∧ f9 9 = .int .i64 v ∧ SF c wb W1 gt W.heap.size #[.int .i64 o, .int .i64 (oa : Int), .int .i64 (rb : Int), .int .i64 (f : Int), .int .i64 k0] { t with kids := t.kids + 1 } wv e2 X ∧ X.ownsRow wb.heap.size 355 2 wv t.wait.length (waitC t.wait) | 2 => ∃ e2 v, oo = .ok e2 v ∧ f9 10 = .agg #[.bool true, .int .i64 v] ∧ SF c wb W1 gt W.heap.size #[.int .i64 o, .int .i64 (oa : Int), .int .i64 (rb : Int), .int .i64 (f : Int), .int .i64 k0] { t with kids := t.kids + 1 } wv e2 X ∧ X.ownsRow wb.heap.size 355 2 wv t.wait.length (waitC t.wait) | _ => ∃ e2 v, oo = .ok e2 v ∧ Kq [142, 2, 229] wb X ∧ Below c.base c.w00 X ∧ c.ev X e2 ∧ TkR wb.heap.size gt c.gw X { t with kids := t.kids + 1, hands := t.hands.set oa (true, v) } ∧ Km W1 X) (by kernel_rfl) (by kernel_rfl) (by decide) (by decide) ?hJ ?h0 ?pure ?act ?fin
  case hJ => (intro k f9 f' X h hj; match k, hj with
    | 0, hj => exact hj
    | 1, hj => (obtain ⟨e2, v, h1, h2, h3⟩ := hj; exact ⟨e2, v, h1, (h 0 (by omega) (by decide) 9 (by kernel_rfl)).symm.trans h2, h3⟩)
    | 2, hj => (obtain ⟨e2, v, h1, h2, h3⟩ := hj; exact ⟨e2, v, h1, (h 1 (by omega) (by decide) 10 (by kernel_rfl)).symm.trans h2, h3⟩)
    | k + 3, hj => exact hj)
  case h0 => exact pw_below_drewN (Below.refl _ _) 1
  case pure =>
    intro i o k a w_ ho hE hk hmc hf hst hkn hj
    have hi : i < 11 := (Array.getElem?_eq_some_iff.1 ho).1
    obtain rfl | rfl | rfl | rfl | rfl | rfl | rfl | rfl : i = 0 ∨ i = 1 ∨ i = 2 ∨ i = 3 ∨ i = 4 ∨ i = 7 ∨ i = 8 ∨ i = 9 := by
      simp only [List.mem_cons, List.not_mem_nil, or_false, not_or] at hE
      omega
    · skip
      obtain rfl := Reg.oper_eq ho rfl
      have e0 : a.eval (.tmp 0) = .pointer (some ⟨gt, 0, none⟩) := (hf.eval 0 (by kernel_rfl)).trans rfl
      have g0 := Reg.eval_getD e0
      exact Reg.op_value rfl rfl (by simp only [List.getElem_toArray, List.getElem_cons_zero, List.getElem_cons_succ, execOp, e0]; go_simp) ⟨_, rfl, rfl, hj⟩
    · skip
      obtain rfl := Reg.oper_eq ho rfl
      have e3 : a.eval (.tmp 3) = .pointer (some ⟨W.heap.size, 0, none⟩) := (hf.eval 3 (by kernel_rfl)).trans rfl
      have g3 := Reg.eval_getD e3
      exact Reg.op_value rfl rfl (by simp only [List.getElem_toArray, List.getElem_cons_zero, List.getElem_cons_succ, execOp, e3]; go_simp) ⟨_, rfl, rfl, hj⟩
    · skip
      obtain rfl := Reg.oper_eq ho rfl
      have e5 : a.eval (.tmp 5) = .pointer (some ⟨W.heap.size, 1, none⟩) := hkn.eval 1 5 (by kernel_rfl) (by kernel_rfl)
      have g5 := Reg.eval_getD e5
      have hz : w_.heap[W.heap.size]? = some (.cells #[.int .i64 o, .int .i64 (oa : Int), .int .i64 (rb : Int), .int .i64 (f : Int), .int .i64 k0] 121 (0, 0)) := by
        have hk3 : k = 0 ∨ k = 1 ∨ k = 2 ∨ k = 3 := by (simp only [List.length_cons, List.length_nil] at hk; omega)
        rcases hk3 with rfl | rfl | rfl | rfl
        · exact blk_below HXX.out hj
        · obtain ⟨e2, v, _, _, h3, _⟩ := hj
          exact h3.box
        · obtain ⟨e2, v, _, _, h3, _⟩ := hj
          exact h3.box
        · exact Bool.noConfusion (hmc.symm.trans (show Reg.mayComeB _ _ _ _ = false from by kernel_rfl))
      have kf := (blk_cell hz 1).trans rfl
      exact Reg.op_value rfl rfl (by simp only [List.getElem_toArray, List.getElem_cons_zero, List.getElem_cons_succ, execOp, e5]; go_simp) ⟨_, rfl, rfl, hj⟩
    · skip
      obtain rfl := Reg.oper_eq ho rfl
      have e0 : a.eval (.tmp 0) = .pointer (some ⟨gt, 0, none⟩) := (hf.eval 0 (by kernel_rfl)).trans rfl
      have g0 := Reg.eval_getD e0
      exact Reg.op_value rfl rfl (by simp only [List.getElem_toArray, List.getElem_cons_zero, List.getElem_cons_succ, execOp, e0]; go_simp) ⟨_, rfl, rfl, hj⟩
    · skip
      obtain rfl := Reg.oper_eq ho rfl
      have e3 : a.eval (.tmp 3) = .pointer (some ⟨W.heap.size, 0, none⟩) := (hf.eval 3 (by kernel_rfl)).trans rfl
      have g3 := Reg.eval_getD e3
      have hz : w_.heap[W.heap.size]? = some (.cells #[.int .i64 o, .int .i64 (oa : Int), .int .i64 (rb : Int), .int .i64 (f : Int), .int .i64 k0] 121 (0, 0)) := by
        have hk3 : k = 0 ∨ k = 1 ∨ k = 2 ∨ k = 3 := by (simp only [List.length_cons, List.length_nil] at hk; omega)
        rcases hk3 with rfl | rfl | rfl | rfl
        · exact blk_below HXX.out hj
        · obtain ⟨e2, v, _, _, h3, _⟩ := hj
          exact h3.box
        · obtain ⟨e2, v, _, _, h3, _⟩ := hj
          exact h3.box
        · exact Bool.noConfusion (hmc.symm.trans (show Reg.mayComeB _ _ _ _ = false from by kernel_rfl))
      have x0 := (blk_cell hz 0).trans rfl
      have x1 := (blk_cell hz 1).trans rfl
      have x2 := (blk_cell hz 2).trans rfl
      have x3 := (blk_cell hz 3).trans rfl
      have x4 := (blk_cell hz 4).trans rfl
      exact Reg.op_value rfl rfl (by simp only [List.getElem_toArray, List.getElem_cons_zero, List.getElem_cons_succ, execOp, e3]; go_simp) ⟨_, rfl, rfl, hj⟩
    · skip
      obtain rfl := Reg.oper_eq ho rfl
      have e4 : a.eval (.tmp 4) = .pointer (some ⟨gt, 0, none⟩) := hkn.eval 0 4 (by kernel_rfl) (by kernel_rfl)
      have g4 := Reg.eval_getD e4
      exact Reg.op_value rfl rfl (by simp only [List.getElem_toArray, List.getElem_cons_zero, List.getElem_cons_succ, execOp, e4]; go_simp) ⟨_, rfl, rfl, hj⟩
    · skip
      obtain rfl := Reg.oper_eq ho rfl
      have e11 : a.eval (.tmp 11) = .pointer (some ⟨gt, 0, none⟩) := hkn.eval 7 11 (by kernel_rfl) (by kernel_rfl)
      have g11 := Reg.eval_getD e11
      exact Reg.op_value rfl rfl (by simp only [List.getElem_toArray, List.getElem_cons_zero, List.getElem_cons_succ, execOp, e11]; go_simp) ⟨_, rfl, rfl, hj⟩
    · skip
      obtain rfl := Reg.oper_eq ho rfl
      have e12 : a.eval (.tmp 12) = .pointer (some ⟨gt, 10, none⟩) := hkn.eval 8 12 (by kernel_rfl) (by kernel_rfl)
      have e6 : a.eval (.tmp 6) = .int .i64 (oa : Int) := hkn.eval 2 6 (by kernel_rfl) (by kernel_rfl)
      have g12 := Reg.eval_getD e12
      have g6 := Reg.eval_getD e6
      have i0 : (0 : Int) ≤ (oa : Int) := by omega
      have i1 : (oa : Int) < 4 := by have := HOA.out; omega
      exact Reg.op_value rfl rfl (by simp only [List.getElem_toArray, List.getElem_cons_zero, List.getElem_cons_succ, execOp, e12, e6]; go_simp) ⟨_, rfl, rfl, hj⟩
  case act =>
    intro k o a w_ hk ho hf hst hkn hj
    obtain rfl | rfl | rfl : k = 0 ∨ k = 1 ∨ k = 2 := by simp only [List.length_cons, List.length_nil] at hk; omega
    · skip
      obtain rfl := Reg.oper_eq ho rfl
      have e7 : a.eval (.tmp 7) = .pointer (some ⟨gt, 0, none⟩) := hkn.eval 3 7 (by kernel_rfl) (by kernel_rfl)
      have e8 : a.eval (.tmp 8) = .agg #[.int .i64 o, .int .i64 (oa : Int), .int .i64 (rb : Int), .int .i64 (f : Int), .int .i64 k0] := hkn.eval 4 8 (by kernel_rfl) (by kernel_rfl)
      have g7 := Reg.eval_getD e7
      have g8 := Reg.eval_getD e8
      refine Reg.op_call (f := 249) (args := #[.pointer (some ⟨gt, 0, none⟩), .agg #[.int .i64 o, .int .i64 (oa : Int), .int .i64 (rb : Int), .int .i64 (f : Int), .int .i64 k0]]) (w' := w_) rfl rfl (by simp only [List.getElem_toArray, List.getElem_cons_zero, List.getElem_cons_succ, execOp, e7, e8]; go_simp) ((HKD.out w_ hj).mono ?_)
      rintro e9 w2 ⟨W5, hu5, ht5, hb5, hc5, hrp⟩
      cases oo with
      | ok e2 v =>
        obtain ⟨g1, g2, rfl, g4⟩ := hrp
        obtain ⟨s1, s2⟩ := SF.of (v := v) rfl (Kq.below (ts := []) hj).km (HT1.out.below hj).blk (HKB.out.trans (Kq.below hj)) hu5 ht5 (hc5.trans ((tk_cell HT1.out hj 18).trans HWV.out)) (blk_below HXX.out hj) HNE.out ⟨g1, g2, rfl, g4⟩
        exact .inl ⟨_, rfl, _, rfl, trivial, e2, v, rfl, Reg.val_put_in hf (by kernel_rfl), s1, s2⟩
      | fail e2 why =>
        obtain ⟨g1, g2, rfl, g4⟩ := hrp
        exact .inr ⟨_, rfl, hf.defers, ((HKB.out.trans (Kq.below hj)).upd hu5 ht5.hb).trans g1, g2, rfl, g4⟩
      | long e2 =>
        obtain ⟨g1, g2, rfl, g4⟩ := hrp
        exact .inr ⟨_, rfl, hf.defers, ((HKB.out.trans (Kq.below hj)).upd hu5 ht5.hb).trans g1, g2, rfl, g4⟩
    · skip
      obtain rfl := Reg.oper_eq ho rfl
      obtain ⟨e2, v, h1, h2, h3, h4⟩ := hj
      have e9' : a.eval (.tmp 9) = .int .i64 v := (Reg.eval_val a 9).trans h2
      have g9 := Reg.eval_getD e9'
      exact Reg.op_value (v := .agg #[.bool true, .int .i64 v]) (w' := w_) rfl rfl (by simp only [List.getElem_toArray, List.getElem_cons_zero, List.getElem_cons_succ, execOp, e9']; go_simp) ⟨_, rfl, trivial, e2, v, h1, Reg.val_put_in hf (by kernel_rfl), h3, h4⟩
    · skip
      obtain rfl := Reg.oper_eq ho rfl
      have e13 : a.eval (.tmp 13) = .pointer (some ⟨gt, 10 + oa * 2, none⟩) := hkn.eval 9 13 (by kernel_rfl) (by kernel_rfl)
      have g13 := Reg.eval_getD e13
      obtain ⟨e2, v, h1, h2, h3, h4⟩ := hj
      have e10' : a.eval (.tmp 10) = .agg #[.bool true, .int .i64 v] := (Reg.eval_val a 10).trans h2
      have g10 := Reg.eval_getD e10'
      obtain ⟨⟨u1, k1⟩, ⟨u2, k2⟩⟩ := h3.tk.handAt oa HOA.out
      have z1 := h3.cells.2 (10 + oa * 2)
      have z2 := h3.cells.2 (10 + oa * 2 + 1)
      obtain ⟨cb, hcb⟩ := h3.tk.blk
      have hks : Kq [227] w_ ((w_.setCell ⟨gt, 10 + oa * 2, none⟩ (.bool true)).setCell ⟨gt, 10 + oa * 2 + 1, none⟩ (.int .i64 v)) := (Kq.set hcb (by simp) _ _).trans (Kq.set (blk_set hcb _ _) (by simp) _ _)
      refine Reg.op_unit (w' := (w_.setCell ⟨gt, 10 + oa * 2, none⟩ (.bool true)).setCell ⟨gt, 10 + oa * 2 + 1, none⟩ (.int .i64 v)) rfl rfl (by simp only [List.getElem_toArray, List.getElem_cons_zero, List.getElem_cons_succ, execOp, e10', e13]; go_simp) ⟨_, rfl, trivial, e2, v, h1, (h3.kq.fresh gt h3.tk.hb _ _).fresh gt h3.tk.hb _ _, (h3.bel.setCell (p := ⟨gt, 10 + oa * 2, none⟩) (Nat.le_trans HBZ.out h3.tk.hb) _).setCell (p := ⟨gt, 10 + oa * 2 + 1, none⟩) (Nat.le_trans HBZ.out h3.tk.hb) _, EvR.keep h3.ev hks (by decide) (by decide) (by decide), ?_, h3.km.trans hks.km⟩
      exact (h3.tk.hput oa HOA.out v).shut (hks.own h4 (by decide))
  case fin =>
    intro a w_ hf hkn hj
    have e4 : Reg.val a 4 = _ := hkn 0 4 (by show _ < _; decide) (by kernel_rfl)
    have e5 : Reg.val a 5 = _ := hkn 1 5 (by show _ < _; decide) (by kernel_rfl)
    have e6 : Reg.val a 6 = _ := hkn 2 6 (by show _ < _; decide) (by kernel_rfl)
    have e7 : Reg.val a 7 = _ := hkn 3 7 (by show _ < _; decide) (by kernel_rfl)
    have e8 : Reg.val a 8 = _ := hkn 4 8 (by show _ < _; decide) (by kernel_rfl)
    have e11 : Reg.val a 11 = _ := hkn 7 11 (by show _ < _; decide) (by kernel_rfl)
    have e12 : Reg.val a 12 = _ := hkn 8 12 (by show _ < _; decide) (by kernel_rfl)
    have e13 : Reg.val a 13 = _ := hkn 9 13 (by show _ < _; decide) (by kernel_rfl)
    rw [Reg.frm_fold hf [4, 5, 6, 7, 8, 9, 10, 11, 12, 13] (by kernel_rfl) (by kernel_rfl)]
    simp only [List.foldl_cons, List.foldl_nil, Act.put, List.setIfInBounds_toArray, List.set_cons_zero, List.set_cons_succ, e4, e5, e6, e7, e8, e11, e12, e13]
    generalize Reg.val a 9 = v9_ at *
    generalize Reg.val a 10 = v10_ at *
    clear hkn hf e4 e5 e6 e7 e8 e11 e12 e13
    obtain ⟨e2, v, h1, h2, h3, h4, h5⟩ := hj
    have HD := Lib.hid (And.intro h2 (And.intro h3 (And.intro h4 h5)))
    clear h2 h3 h4 h5
    go_wp2_with fail
    go_end0
    subst h1
    exact ⟨HD.out.1, HD.out.2.1, rfl, HD.out.2.2.1, HD.out.2.2.2.1, HKW.out.trans HD.out.2.2.2.2⟩
end Go.Proofs.YtbiajfkencamiaaGreatDoor.EV
