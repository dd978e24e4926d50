/- eval's deeds that work on a task alone. Printed by gen_se3.py. -/
import Derived.Test.YtbiajfkencamiaaGreatDoorEE
import Derived.RegionTactic
import Derived.Deep.RegionWith
import Derived.StillTailTactics
import Derived.Deep.QuietTactic
import Derived.BigRegion
import Derived.BigQuiet
import Derived.IntWalk
import Derived.KernelRfl
import Derived.WalkKit
/-! E3 -/
namespace Go.Proofs.YtbiajfkencamiaaGreatDoor.EV
open Go.Proofs.YtbiajfkencamiaaGreatDoor Go.Proofs.YtbiajfkencamiaaGreatDoor.Core Go.RowKit Go.Proofs.YtbiajfkencamiaaGreatDoorW.PrintWords
set_option linter.unusedVariables false
set_option linter.unusedSimpArgs false
theorem TkR.keep {b0 gt gw : Nat} {W W' : World} {t : Tk} (h : TkR b0 gt gw W t) (hk : ∀ k, k < W.heap.size → W'.heap[k]? = W.heap[k]?) : TkR b0 gt gw W' t := by
  obtain ⟨hb, h8, h4, pv, wv, q1, ⟨ps, q2⟩, q3⟩ := h
  exact ⟨hb, h8, h4, pv, wv, (hk _ (blk_lt q1)).trans q1, ⟨ps, own_move q2 (fun k e => hk k (own_lt q2 k e))⟩, own_move q3 (fun k e => hk k (own_lt q3 k e))⟩
theorem TkR.below {b0 gt gw : Nat} {W W' : World} {t : Tk} (h : TkR b0 gt gw W t) (hb : Below W.heap.size W W') : TkR b0 gt gw W' t := h.keep (fun k hk => hb.block k hk)
section
variable {b0 gt gw : Nat} {W : World} {t : Tk}
theorem TkR.reg (h : TkR b0 gt gw W t) (a : Nat) (ha : a < 8) : W.cell? ⟨gt, 2 + a, none⟩ = some (.int .i64 (t.regs.getD a 0)) := by
  obtain ⟨hb, h8, h4, pv, wv, q1, _⟩ := h
  rw [blk_cell q1]
  simpa using tk_reg h8 h4 a ha
theorem TkR.hand (h : TkR b0 gt gw W t) (a : Nat) (ha : a < 4) : W.cell? ⟨gt, 10 + a * 2, none⟩ = some (.bool (t.hands.getD a (false, 0)).1) ∧ W.cell? ⟨gt, 10 + a * 2 + 1, none⟩ = some (.int .i64 (t.hands.getD a (false, 0)).2) := by
  obtain ⟨hb, h8, h4, pv, wv, q1, _⟩ := h
  rw [blk_cell q1, blk_cell q1]
  simpa using tk_hand h8 h4 a ha
theorem TkR.own (h : TkR b0 gt gw W t) : W.cell? ⟨gt, 0, none⟩ = some (.pointer (some ⟨gw, 0, none⟩)) := by
  obtain ⟨hb, h8, h4, pv, wv, q1, _⟩ := h
  rw [blk_cell q1]
  rfl
theorem TkR.kidsAt (h : TkR b0 gt gw W t) : W.cell? ⟨gt, 19, none⟩ = some (.int .i64 (t.kids : Int)) := by
  obtain ⟨hb, h8, h4, pv, wv, q1, _⟩ := h
  rw [blk_cell q1]
  simpa using tk_tail h8 h4 1
theorem TkR.pcAt (h : TkR b0 gt gw W t) : W.cell? ⟨gt, 20, none⟩ = some (.int .i64 (t.pc : Int)) := by
  obtain ⟨hb, h8, h4, pv, wv, q1, _⟩ := h
  rw [blk_cell q1]
  simpa using tk_tail h8 h4 2
theorem TkR.at0At (h : TkR b0 gt gw W t) : W.cell? ⟨gt, 21, none⟩ = some (.int .i64 (t.at0 : Int)) := by
  obtain ⟨hb, h8, h4, pv, wv, q1, _⟩ := h
  rw [blk_cell q1]
  simpa using tk_tail h8 h4 3
theorem TkR.path (h : TkR b0 gt gw W t) : ∃ pv, W.cell? ⟨gt, 1, none⟩ = some pv ∧ PathR W pv t.dep := by
  obtain ⟨hb, h8, h4, pv, wv, q1, q2, _⟩ := h
  exact ⟨pv, by rw [blk_cell q1]; rfl, q2⟩
theorem TkR.waitAt (h : TkR b0 gt gw W t) : ∃ wv, W.cell? ⟨gt, 18, none⟩ = some wv ∧ W.ownsRow b0 355 2 wv t.wait.length (waitC t.wait) := by
  obtain ⟨hb, h8, h4, pv, wv, q1, q2, q3⟩ := h
  exact ⟨wv, by rw [blk_cell q1]; simpa using tk_tail h8 h4 0, q3⟩
theorem TkR.frozen (h : TkR b0 gt gw W t) (j : Nat) : W.frozen? ⟨gt, j, none⟩ = false := by
  obtain ⟨hb, h8, h4, pv, wv, q1, q2, q3⟩ := h
  exact blk_frozen q1 j
theorem TkR.blk (h : TkR b0 gt gw W t) : ∃ c, W.heap[gt]? = some (.cells c 227 (0, 0)) := by
  obtain ⟨hb, h8, h4, pv, wv, q1, q2, q3⟩ := h
  exact ⟨_, q1⟩
theorem TkR.setAt (h : TkR b0 gt gw W t) (j : Nat) (v : Value) {t2 : Tk} (h8 : t2.regs.length = 8) (h4 : t2.hands.length = 4) (hd : t2.dep = t.dep) (hw : t2.wait = t.wait) (he : ∀ pv wv, (tkC gw pv wv t).set j v = tkC gw pv wv t2) : TkR b0 gt gw (W.setCell ⟨gt, j, none⟩ v) t2 := by
  obtain ⟨hb, _, _, pv, wv, q1, ⟨ps, q2⟩, q3⟩ := h
  refine ⟨hb, h8, h4, pv, wv, ?_, ⟨ps, ?_⟩, ?_⟩
  · rw [blk_set q1 j v, List.setIfInBounds_toArray, he]
  · rw [hd]; exact own_setCell q2 (p := ⟨gt, j, none⟩) (own_ne q2 q1 (by decide)) v
  · rw [hw]; exact own_setCell q3 (p := ⟨gt, j, none⟩) (own_ne q3 q1 (by decide)) v
theorem TkR.put (h : TkR b0 gt gw W t) (a : Nat) (ha : a < 8) (v : Int) : TkR b0 gt gw (W.setCell ⟨gt, 2 + a, none⟩ (.int .i64 v)) { t with regs := t.regs.set a v } :=
  h.setAt _ _ (by rw [List.length_set]; exact h.regs) h.hands rfl rfl (fun pv wv => tk_put h.regs h.hands a ha v)
theorem TkR.setPc (h : TkR b0 gt gw W t) (v : Nat) : TkR b0 gt gw (W.setCell ⟨gt, 20, none⟩ (.int .i64 (v : Int))) { t with pc := v } :=
  h.setAt _ _ h.regs h.hands rfl rfl (fun pv wv => tk_tput h.regs h.hands 2 _)
theorem TkR.setKids (h : TkR b0 gt gw W t) (v : Nat) : TkR b0 gt gw (W.setCell ⟨gt, 19, none⟩ (.int .i64 (v : Int))) { t with kids := v } :=
  h.setAt _ _ h.regs h.hands rfl rfl (fun pv wv => tk_tput h.regs h.hands 1 _)
/-- A deed that works on its task alone. -/
def DG (b0 gt gw : Nat) (w : World) (t2 : Tk) (en : Ending) (w' : World) : Prop := en = .returned (.tuple #[]) ∧ Upd gt w w' ∧ TkR b0 gt gw w' t2
theorem Upd.drew {w : World} (h : Upd gt w W) : Upd gt w W.drew := ⟨h.size, h.same, fun B h1 h2 => below_drew (h.low B h1 h2)⟩
theorem TkR.drew (h : TkR b0 gt gw W t) : TkR b0 gt gw W.drew t := h.keep (fun k _ => rfl)
theorem DG.fin {w : World} {t2 : Tk} (hU : Upd gt w W) (hT : TkR b0 gt gw W t2) : DG b0 gt gw w t2 (.returned (.tuple #[])) W.drew := ⟨rfl, Upd.drew hU, TkR.drew hT⟩
end
set_option maxRecDepth 100000 in
set_option maxHeartbeats 2000000 in
theorem tset_any {b0 gt gw : Nat} {w : World} {t : Tk} (h : TkR b0 gt gw w t) (o : Int) (a : Nat) (b : Int) (c : Int) (k : Int) (ha : a < 8) : Calls Tryz.prog 204 #[.pointer (some ⟨gt, 0, none⟩), .agg #[.int .i64 o, .int .i64 (a : Int), .int .i64 (b : Int), .int .i64 (c : Int), .int .i64 (k : Int)]] w (DG b0 gt gw w { t with regs := t.regs.set a k }) := by
  have HT : Hid (TkR b0 gt gw (w.alloc (.cells #[.int .i64 o, .int .i64 (a : Int), .int .i64 (b : Int), .int .i64 (c : Int), .int .i64 (k : Int)] 121)) t) := h.below ((Below.refl _ _).alloc (Nat.le_refl _) _)
  have HU : Hid (Upd gt w (w.alloc (.cells #[.int .i64 o, .int .i64 (a : Int), .int .i64 (b : Int), .int .i64 (c : Int), .int .i64 (k : Int)] 121))) := Upd.below ((Below.refl _ _).alloc (Nat.le_refl _) _)
  have ra := HT.out.reg a ha
  have za := HT.out.frozen (2 + a)
  have ia0 : (0 : Int) ≤ (a : Int) := by omega
  have ia1 : (a : Int) < 8 := by omega
  clear h ha
  go_enter Tryz.func204, Tryz.ntmps204
  go_wp2_with fail
  go_region
  all_goals go_wp2_with fail
  all_goals
    go_end0
    exact DG.fin (HU.out.set _ _) (HT.out.put a (by omega) k)
set_option maxRecDepth 100000 in
set_option maxHeartbeats 2000000 in
theorem tmove_any {b0 gt gw : Nat} {w : World} {t : Tk} (h : TkR b0 gt gw w t) (o : Int) (a : Nat) (b : Nat) (c : Int) (k : Int) (ha : a < 8) (hb : b < 8) : Calls Tryz.prog 205 #[.pointer (some ⟨gt, 0, none⟩), .agg #[.int .i64 o, .int .i64 (a : Int), .int .i64 (b : Int), .int .i64 (c : Int), .int .i64 (k : Int)]] w (DG b0 gt gw w { t with regs := t.regs.set a (t.regs.getD b 0) }) := by
  have HT : Hid (TkR b0 gt gw (w.alloc (.cells #[.int .i64 o, .int .i64 (a : Int), .int .i64 (b : Int), .int .i64 (c : Int), .int .i64 (k : Int)] 121)) t) := h.below ((Below.refl _ _).alloc (Nat.le_refl _) _)
  have HU : Hid (Upd gt w (w.alloc (.cells #[.int .i64 o, .int .i64 (a : Int), .int .i64 (b : Int), .int .i64 (c : Int), .int .i64 (k : Int)] 121))) := Upd.below ((Below.refl _ _).alloc (Nat.le_refl _) _)
  have ra := HT.out.reg a ha
  have za := HT.out.frozen (2 + a)
  have ia0 : (0 : Int) ≤ (a : Int) := by omega
  have ia1 : (a : Int) < 8 := by omega
  have rb := HT.out.reg b hb
  have zb := HT.out.frozen (2 + b)
  have ib0 : (0 : Int) ≤ (b : Int) := by omega
  have ib1 : (b : Int) < 8 := by omega
  obtain ⟨xb, hxb⟩ : ∃ x, t.regs.getD b 0 = x := ⟨_, rfl⟩
  rw [hxb] at rb ⊢
  clear hxb
  clear h ha hb
  go_enter Tryz.func205, Tryz.ntmps205
  go_wp2_with fail
  go_region
  all_goals go_wp2_with fail
  all_goals
    go_end0
    exact DG.fin (HU.out.set _ _) (HT.out.put a (by omega) xb)
set_option maxRecDepth 100000 in
set_option maxHeartbeats 2000000 in
theorem tadd_any {b0 gt gw : Nat} {w : World} {t : Tk} (h : TkR b0 gt gw w t) (o : Int) (a : Nat) (b : Nat) (c : Nat) (k : Int) (ha : a < 8) (hb : b < 8) (hc : c < 8) : Calls Tryz.prog 206 #[.pointer (some ⟨gt, 0, none⟩), .agg #[.int .i64 o, .int .i64 (a : Int), .int .i64 (b : Int), .int .i64 (c : Int), .int .i64 (k : Int)]] w (DG b0 gt gw w { t with regs := t.regs.set a (wr (t.regs.getD b 0 + t.regs.getD c 0)) }) := by
  have HT : Hid (TkR b0 gt gw (w.alloc (.cells #[.int .i64 o, .int .i64 (a : Int), .int .i64 (b : Int), .int .i64 (c : Int), .int .i64 (k : Int)] 121)) t) := h.below ((Below.refl _ _).alloc (Nat.le_refl _) _)
  have HU : Hid (Upd gt w (w.alloc (.cells #[.int .i64 o, .int .i64 (a : Int), .int .i64 (b : Int), .int .i64 (c : Int), .int .i64 (k : Int)] 121))) := Upd.below ((Below.refl _ _).alloc (Nat.le_refl _) _)
  have ra := HT.out.reg a ha
  have za := HT.out.frozen (2 + a)
  have ia0 : (0 : Int) ≤ (a : Int) := by omega
  have ia1 : (a : Int) < 8 := by omega
  have rb := HT.out.reg b hb
  have zb := HT.out.frozen (2 + b)
  have ib0 : (0 : Int) ≤ (b : Int) := by omega
  have ib1 : (b : Int) < 8 := by omega
  have rc := HT.out.reg c hc
  have zc := HT.out.frozen (2 + c)
  have ic0 : (0 : Int) ≤ (c : Int) := by omega
  have ic1 : (c : Int) < 8 := by omega
  obtain ⟨xb, hxb⟩ : ∃ x, t.regs.getD b 0 = x := ⟨_, rfl⟩
  rw [hxb] at rb ⊢
  clear hxb
  obtain ⟨xc, hxc⟩ : ∃ x, t.regs.getD c 0 = x := ⟨_, rfl⟩
  rw [hxc] at rc ⊢
  clear hxc
  clear h ha hb hc
  go_enter Tryz.func206, Tryz.ntmps206
  go_wp2_with fail
  go_region
  all_goals go_wp2_with fail
  all_goals
    go_end0
    exact DG.fin (HU.out.set _ _) (HT.out.put a (by omega) (wr (xb + xc)))
set_option maxRecDepth 100000 in
set_option maxHeartbeats 2000000 in
theorem tsub_any {b0 gt gw : Nat} {w : World} {t : Tk} (h : TkR b0 gt gw w t) (o : Int) (a : Nat) (b : Nat) (c : Nat) (k : Int) (ha : a < 8) (hb : b < 8) (hc : c < 8) : Calls Tryz.prog 207 #[.pointer (some ⟨gt, 0, none⟩), .agg #[.int .i64 o, .int .i64 (a : Int), .int .i64 (b : Int), .int .i64 (c : Int), .int .i64 (k : Int)]] w (DG b0 gt gw w { t with regs := t.regs.set a (wr (t.regs.getD b 0 - t.regs.getD c 0)) }) := by
  have HT : Hid (TkR b0 gt gw (w.alloc (.cells #[.int .i64 o, .int .i64 (a : Int), .int .i64 (b : Int), .int .i64 (c : Int), .int .i64 (k : Int)] 121)) t) := h.below ((Below.refl _ _).alloc (Nat.le_refl _) _)
  have HU : Hid (Upd gt w (w.alloc (.cells #[.int .i64 o, .int .i64 (a : Int), .int .i64 (b : Int), .int .i64 (c : Int), .int .i64 (k : Int)] 121))) := Upd.below ((Below.refl _ _).alloc (Nat.le_refl _) _)
  have ra := HT.out.reg a ha
  have za := HT.out.frozen (2 + a)
  have ia0 : (0 : Int) ≤ (a : Int) := by omega
  have ia1 : (a : Int) < 8 := by omega
  have rb := HT.out.reg b hb
  have zb := HT.out.frozen (2 + b)
  have ib0 : (0 : Int) ≤ (b : Int) := by omega
  have ib1 : (b : Int) < 8 := by omega
  have rc := HT.out.reg c hc
  have zc := HT.out.frozen (2 + c)
  have ic0 : (0 : Int) ≤ (c : Int) := by omega
  have ic1 : (c : Int) < 8 := by omega
  obtain ⟨xb, hxb⟩ : ∃ x, t.regs.getD b 0 = x := ⟨_, rfl⟩
  rw [hxb] at rb ⊢
  clear hxb
  obtain ⟨xc, hxc⟩ : ∃ x, t.regs.getD c 0 = x := ⟨_, rfl⟩
  rw [hxc] at rc ⊢
  clear hxc
  clear h ha hb hc
  go_enter Tryz.func207, Tryz.ntmps207
  go_wp2_with fail
  go_region
  all_goals go_wp2_with fail
  all_goals
    go_end0
    exact DG.fin (HU.out.set _ _) (HT.out.put a (by omega) (wr (xb - xc)))
set_option maxRecDepth 100000 in
set_option maxHeartbeats 2000000 in
theorem tmul_any {b0 gt gw : Nat} {w : World} {t : Tk} (h : TkR b0 gt gw w t) (o : Int) (a : Nat) (b : Nat) (c : Nat) (k : Int) (ha : a < 8) (hb : b < 8) (hc : c < 8) : Calls Tryz.prog 208 #[.pointer (some ⟨gt, 0, none⟩), .agg #[.int .i64 o, .int .i64 (a : Int), .int .i64 (b : Int), .int .i64 (c : Int), .int .i64 (k : Int)]] w (DG b0 gt gw w { t with regs := t.regs.set a (wr (t.regs.getD b 0 * t.regs.getD c 0)) }) := by
  have HT : Hid (TkR b0 gt gw (w.alloc (.cells #[.int .i64 o, .int .i64 (a : Int), .int .i64 (b : Int), .int .i64 (c : Int), .int .i64 (k : Int)] 121)) t) := h.below ((Below.refl _ _).alloc (Nat.le_refl _) _)
  have HU : Hid (Upd gt w (w.alloc (.cells #[.int .i64 o, .int .i64 (a : Int), .int .i64 (b : Int), .int .i64 (c : Int), .int .i64 (k : Int)] 121))) := Upd.below ((Below.refl _ _).alloc (Nat.le_refl _) _)
  have ra := HT.out.reg a ha
  have za := HT.out.frozen (2 + a)
  have ia0 : (0 : Int) ≤ (a : Int) := by omega
  have ia1 : (a : Int) < 8 := by omega
  have rb := HT.out.reg b hb
  have zb := HT.out.frozen (2 + b)
  have ib0 : (0 : Int) ≤ (b : Int) := by omega
  have ib1 : (b : Int) < 8 := by omega
  have rc := HT.out.reg c hc
  have zc := HT.out.frozen (2 + c)
  have ic0 : (0 : Int) ≤ (c : Int) := by omega
  have ic1 : (c : Int) < 8 := by omega
  obtain ⟨xb, hxb⟩ : ∃ x, t.regs.getD b 0 = x := ⟨_, rfl⟩
  rw [hxb] at rb ⊢
  clear hxb
  obtain ⟨xc, hxc⟩ : ∃ x, t.regs.getD c 0 = x := ⟨_, rfl⟩
  rw [hxc] at rc ⊢
  clear hxc
  clear h ha hb hc
  go_enter Tryz.func208, Tryz.ntmps208
  go_wp2_with fail
  go_region
  all_goals go_wp2_with fail
  all_goals
    go_end0
    exact DG.fin (HU.out.set _ _) (HT.out.put a (by omega) (wr (xb * xc)))
set_option maxRecDepth 100000 in
theorem truth_any (b : Bool) (w : World) : Calls Tryz.prog 248 #[.bool b] w fun e w' => e = .returned (.int .i64 (if b = true then 1 else 0)) ∧ w' = w := by
  cases b <;>
  · go_enter Tryz.func248, Tryz.ntmps248
    go_wp2_with fail
    go_ret
    exact ⟨rfl, rfl⟩
def failV (why : Int) : List PanicEntry := [{ v := .iface 144 (.agg #[.int .i64 why]), recovered := false }]
set_option maxRecDepth 100000 in
theorem fail_any (why : Int) (w : World) : Calls Tryz.prog 166 #[.int .i64 why] w fun e w' => e = .panicked (failV why) ∧ w' = w := by
  go_enter Tryz.func166, Tryz.ntmps166
  go_wp2_with fail
  exact ⟨rfl, rfl, rfl⟩
set_option maxRecDepth 100000 in
set_option maxHeartbeats 2000000 in
theorem tjump_any {b0 gt gw : Nat} {w : World} {t : Tk} (h : TkR b0 gt gw w t) (o : Int) (a : Int) (b : Int) (c : Int) (k : Nat) : Calls Tryz.prog 212 #[.pointer (some ⟨gt, 0, none⟩), .agg #[.int .i64 o, .int .i64 (a : Int), .int .i64 (b : Int), .int .i64 (c : Int), .int .i64 (k : Int)]] w (DG b0 gt gw w { t with pc := k }) := by
  have HT : Hid (TkR b0 gt gw (w.alloc (.cells #[.int .i64 o, .int .i64 (a : Int), .int .i64 (b : Int), .int .i64 (c : Int), .int .i64 (k : Int)] 121)) t) := h.below ((Below.refl _ _).alloc (Nat.le_refl _) _)
  have HU : Hid (Upd gt w (w.alloc (.cells #[.int .i64 o, .int .i64 (a : Int), .int .i64 (b : Int), .int .i64 (c : Int), .int .i64 (k : Int)] 121))) := Upd.below ((Below.refl _ _).alloc (Nat.le_refl _) _)
  have p0 := HT.out.pcAt
  have z0 := HT.out.frozen 20
  clear h
  go_enter Tryz.func212, Tryz.ntmps212
  go_wp2_with fail
  all_goals
    go_end0
    exact ⟨rfl, HU.out.set _ _, HT.out.setPc k⟩
set_option maxRecDepth 100000 in
set_option maxHeartbeats 2000000 in
theorem tless_any {b0 gt gw : Nat} {w : World} {t : Tk} (h : TkR b0 gt gw w t) (o : Int) (a : Nat) (b : Nat) (c : Nat) (k : Int) (ha : a < 8) (hb : b < 8) (hc : c < 8) : Calls Tryz.prog 210 #[.pointer (some ⟨gt, 0, none⟩), .agg #[.int .i64 o, .int .i64 (a : Int), .int .i64 (b : Int), .int .i64 (c : Int), .int .i64 (k : Int)]] w (DG b0 gt gw w { t with regs := t.regs.set a (if t.regs.getD b 0 < t.regs.getD c 0 then 1 else 0) }) := by
  have HT : Hid (TkR b0 gt gw (w.alloc (.cells #[.int .i64 o, .int .i64 (a : Int), .int .i64 (b : Int), .int .i64 (c : Int), .int .i64 (k : Int)] 121)) t) := h.below ((Below.refl _ _).alloc (Nat.le_refl _) _)
  have HU : Hid (Upd gt w (w.alloc (.cells #[.int .i64 o, .int .i64 (a : Int), .int .i64 (b : Int), .int .i64 (c : Int), .int .i64 (k : Int)] 121))) := Upd.below ((Below.refl _ _).alloc (Nat.le_refl _) _)
  have ra := HT.out.reg a ha
  have za := HT.out.frozen (2 + a)
  have ia0 : (0 : Int) ≤ (a : Int) := by omega
  have ia1 : (a : Int) < 8 := by omega
  have rb := HT.out.reg b hb
  have zb := HT.out.frozen (2 + b)
  have ib0 : (0 : Int) ≤ (b : Int) := by omega
  have ib1 : (b : Int) < 8 := by omega
  have rc := HT.out.reg c hc
  have zc := HT.out.frozen (2 + c)
  have ic0 : (0 : Int) ≤ (c : Int) := by omega
  have ic1 : (c : Int) < 8 := by omega
  obtain ⟨xb, hxb⟩ : ∃ x, t.regs.getD b 0 = x := ⟨_, rfl⟩
  rw [hxb] at rb ⊢
  clear hxb
  obtain ⟨xc, hxc⟩ : ∃ x, t.regs.getD c 0 = x := ⟨_, rfl⟩
  rw [hxc] at rc ⊢
  clear hxc
  obtain ⟨q, hq⟩ : ∃ q : Bool, decide (xb < xc) = q := ⟨_, rfl⟩
  rw [show (if xb < xc then (1 : Int) else 0) = (if q = true then 1 else 0) from by rw [← hq]; simp]
  have htr := fun W => truth_any q W
  obtain ⟨r, hr⟩ : ∃ r : Int, (if q = true then (1 : Int) else 0) = r := ⟨_, rfl⟩
  rw [hr] at htr ⊢
  have HTR := Lib.hid htr
  clear htr hr
  clear h ha hb hc
  go_enter Tryz.func210, Tryz.ntmps210
  go_wp2_with fail
  refine wp_region_still_tail 22 (by kernel_rfl) (by kernel_rfl) ?_
  change wpStill _ _ (World.drew _) _ _ _
  simp only [List.take_succ_cons, List.take_zero, List.drop_succ_cons, List.drop_zero]
  repeat still_step
  still_call (HTR.out _)
  repeat still_step
  refine wpStill_nil ?_
  change wpList _ _ _ _ _ (World.drew _)
  go_wp2_with fail
  all_goals
    go_end0
    exact DG.fin (HU.out.set _ _) (HT.out.put a (by omega) _)
set_option maxRecDepth 100000 in
set_option maxHeartbeats 2000000 in
theorem tsame_any {b0 gt gw : Nat} {w : World} {t : Tk} (h : TkR b0 gt gw w t) (o : Int) (a : Nat) (b : Nat) (c : Nat) (k : Int) (ha : a < 8) (hb : b < 8) (hc : c < 8) : Calls Tryz.prog 211 #[.pointer (some ⟨gt, 0, none⟩), .agg #[.int .i64 o, .int .i64 (a : Int), .int .i64 (b : Int), .int .i64 (c : Int), .int .i64 (k : Int)]] w (DG b0 gt gw w { t with regs := t.regs.set a (if t.regs.getD b 0 = t.regs.getD c 0 then 1 else 0) }) := by
  have HT : Hid (TkR b0 gt gw (w.alloc (.cells #[.int .i64 o, .int .i64 (a : Int), .int .i64 (b : Int), .int .i64 (c : Int), .int .i64 (k : Int)] 121)) t) := h.below ((Below.refl _ _).alloc (Nat.le_refl _) _)
  have HU : Hid (Upd gt w (w.alloc (.cells #[.int .i64 o, .int .i64 (a : Int), .int .i64 (b : Int), .int .i64 (c : Int), .int .i64 (k : Int)] 121))) := Upd.below ((Below.refl _ _).alloc (Nat.le_refl _) _)
  have ra := HT.out.reg a ha
  have za := HT.out.frozen (2 + a)
  have ia0 : (0 : Int) ≤ (a : Int) := by omega
  have ia1 : (a : Int) < 8 := by omega
  have rb := HT.out.reg b hb
  have zb := HT.out.frozen (2 + b)
  have ib0 : (0 : Int) ≤ (b : Int) := by omega
  have ib1 : (b : Int) < 8 := by omega
  have rc := HT.out.reg c hc
  have zc := HT.out.frozen (2 + c)
  have ic0 : (0 : Int) ≤ (c : Int) := by omega
  have ic1 : (c : Int) < 8 := by omega
  obtain ⟨xb, hxb⟩ : ∃ x, t.regs.getD b 0 = x := ⟨_, rfl⟩
  rw [hxb] at rb ⊢
  clear hxb
  obtain ⟨xc, hxc⟩ : ∃ x, t.regs.getD c 0 = x := ⟨_, rfl⟩
  rw [hxc] at rc ⊢
  clear hxc
  obtain ⟨q, hq⟩ : ∃ q : Bool, (xb == xc) = q := ⟨_, rfl⟩
  rw [show (if xb = xc then (1 : Int) else 0) = (if q = true then 1 else 0) from by rw [← hq]; simp]
  have htr := fun W => truth_any q W
  obtain ⟨r, hr⟩ : ∃ r : Int, (if q = true then (1 : Int) else 0) = r := ⟨_, rfl⟩
  rw [hr] at htr ⊢
  have HTR := Lib.hid htr
  clear htr hr
  clear h ha hb hc
  go_enter Tryz.func211, Tryz.ntmps211
  go_wp2_with fail
  refine wp_region_still_tail 22 (by kernel_rfl) (by kernel_rfl) ?_
  change wpStill _ _ (World.drew _) _ _ _
  simp only [List.take_succ_cons, List.take_zero, List.drop_succ_cons, List.drop_zero]
  repeat still_step
  still_call (HTR.out _)
  repeat still_step
  refine wpStill_nil ?_
  change wpList _ _ _ _ _ (World.drew _)
  go_wp2_with fail
  all_goals
    go_end0
    exact DG.fin (HU.out.set _ _) (HT.out.put a (by omega) _)
set_option maxRecDepth 100000 in
set_option maxHeartbeats 2000000 in
theorem tzero_any {b0 gt gw : Nat} {w : World} {t : Tk} (h : TkR b0 gt gw w t) (o : Int) (a : Nat) (b c : Int) (k : Nat) (ha : a < 8) : Calls Tryz.prog 213 #[.pointer (some ⟨gt, 0, none⟩), .agg #[.int .i64 o, .int .i64 (a : Int), .int .i64 b, .int .i64 c, .int .i64 (k : Int)]] w (DG b0 gt gw w (if t.regs.getD a 0 = 0 then { t with pc := k } else t)) := by
  have HT : Hid (TkR b0 gt gw (w.alloc (.cells #[.int .i64 o, .int .i64 (a : Int), .int .i64 b, .int .i64 c, .int .i64 (k : Int)] 121)) t) := h.below ((Below.refl _ _).alloc (Nat.le_refl _) _)
  have HU : Hid (Upd gt w (w.alloc (.cells #[.int .i64 o, .int .i64 (a : Int), .int .i64 b, .int .i64 c, .int .i64 (k : Int)] 121))) := Upd.below ((Below.refl _ _).alloc (Nat.le_refl _) _)
  have ra := HT.out.reg a ha
  have za := HT.out.frozen (2 + a)
  have ia0 : (0 : Int) ≤ (a : Int) := by omega
  have ia1 : (a : Int) < 8 := by omega
  obtain ⟨xa, hxa⟩ : ∃ x, t.regs.getD a 0 = x := ⟨_, rfl⟩
  rw [hxa] at ra ⊢
  clear hxa
  have p0 := HT.out.pcAt
  have zp := HT.out.frozen 20
  clear h ha
  by_cases hz : xa = 0
  · have e1 : (xa == 0) = true := by rw [hz]; rfl
    rw [if_pos hz]
    clear hz
    go_enter Tryz.func213, Tryz.ntmps213
    go_wp2_with fail
    go_region
    all_goals go_wp2_with fail
    all_goals
      go_end0
      exact DG.fin (HU.out.set _ _) (HT.out.setPc k)
  · have e1 : (xa == 0) = false := by rw [beq_eq_false_iff_ne]; exact hz
    rw [if_neg hz]
    clear hz
    go_enter Tryz.func213, Tryz.ntmps213
    go_wp2_with fail
    go_region
    all_goals go_wp2_with fail
    all_goals
      go_end0
      exact DG.fin HU.out HT.out
/-- A deed that gives up: nothing but its task was turned. -/
def DF (gt : Nat) (w : World) (why : Int) (en : Ending) (w' : World) : Prop := en = .panicked (failV why) ∧ Upd gt w w'
set_option maxRecDepth 100000 in
set_option maxHeartbeats 2000000 in
theorem tdiv_zero {b0 gt gw : Nat} {w : World} {t : Tk} (h : TkR b0 gt gw w t) (o : Int) (a b c : Nat) (k : Int) (hc : c < 8) (hz : t.regs.getD c 0 = 0) : Calls Tryz.prog 209 #[.pointer (some ⟨gt, 0, none⟩), .agg #[.int .i64 o, .int .i64 (a : Int), .int .i64 (b : Int), .int .i64 (c : Int), .int .i64 k]] w (DF gt w 1) := by
  have HT : Hid (TkR b0 gt gw (w.alloc (.cells #[.int .i64 o, .int .i64 (a : Int), .int .i64 (b : Int), .int .i64 (c : Int), .int .i64 k] 121)) t) := h.below ((Below.refl _ _).alloc (Nat.le_refl _) _)
  have HU : Hid (Upd gt w (w.alloc (.cells #[.int .i64 o, .int .i64 (a : Int), .int .i64 (b : Int), .int .i64 (c : Int), .int .i64 k] 121))) := Upd.below ((Below.refl _ _).alloc (Nat.le_refl _) _)
  have rc := HT.out.reg c hc
  have zc := HT.out.frozen (2 + c)
  have ic0 : (0 : Int) ≤ (c : Int) := by omega
  have ic1 : (c : Int) < 8 := by omega
  rw [hz] at rc
  clear h hc hz
  go_enter Tryz.func209, Tryz.ntmps209
  go_wp2_with fail
  go_region
  all_goals go_wp2_with fail
  all_goals
    refine (fail_any 1 _).mono ?_
    rintro e w' ⟨rfl, rfl⟩
    exact ⟨rfl, rfl, Upd.drew HU.out⟩
set_option maxRecDepth 100000 in
set_option maxHeartbeats 4000000 in
theorem tdiv_any {b0 gt gw : Nat} {w : World} {t : Tk} (h : TkR b0 gt gw w t) (o : Int) (a b c : Nat) (k : Int) (ha : a < 8) (hb : b < 8) (hc : c < 8) (hz : t.regs.getD c 0 ≠ 0) : Calls Tryz.prog 209 #[.pointer (some ⟨gt, 0, none⟩), .agg #[.int .i64 o, .int .i64 (a : Int), .int .i64 (b : Int), .int .i64 (c : Int), .int .i64 k]] w (DG b0 gt gw w { t with regs := t.regs.set a (wr ((t.regs.getD b 0).tdiv (t.regs.getD c 0))) }) := by
  have HT : Hid (TkR b0 gt gw (w.alloc (.cells #[.int .i64 o, .int .i64 (a : Int), .int .i64 (b : Int), .int .i64 (c : Int), .int .i64 k] 121)) t) := h.below ((Below.refl _ _).alloc (Nat.le_refl _) _)
  have HU : Hid (Upd gt w (w.alloc (.cells #[.int .i64 o, .int .i64 (a : Int), .int .i64 (b : Int), .int .i64 (c : Int), .int .i64 k] 121))) := Upd.below ((Below.refl _ _).alloc (Nat.le_refl _) _)
  have ra := HT.out.reg a ha
  have za := HT.out.frozen (2 + a)
  have ia0 : (0 : Int) ≤ (a : Int) := by omega
  have ia1 : (a : Int) < 8 := by omega
  have rb := HT.out.reg b hb
  have zb := HT.out.frozen (2 + b)
  have ib0 : (0 : Int) ≤ (b : Int) := by omega
  have ib1 : (b : Int) < 8 := by omega
  have rc := HT.out.reg c hc
  have zc := HT.out.frozen (2 + c)
  have ic0 : (0 : Int) ≤ (c : Int) := by omega
  have ic1 : (c : Int) < 8 := by omega
  obtain ⟨xb, hxb⟩ : ∃ x, t.regs.getD b 0 = x := ⟨_, rfl⟩
  rw [hxb] at rb ⊢
  clear hxb
  obtain ⟨xc, hxc⟩ : ∃ x, t.regs.getD c 0 = x := ⟨_, rfl⟩
  rw [hxc] at rc hz ⊢
  clear hxc
  have e1 : (xc == 0) = false := beq_eq_false_iff_ne.2 hz
  have hz2 : ¬ xc = 0 := hz
  clear h ha hb hc hz
  go_enter Tryz.func209, Tryz.ntmps209
  go_wp2_with fail
  go_region
  all_goals go_wp2_with fail
  all_goals go_region
  all_goals go_wp2_with fail
  all_goals
    go_end0
    exact ⟨rfl, Upd.drew (Upd.drew (HU.out.set _ _)), TkR.drew (TkR.drew (HT.out.put a (by omega) _))⟩
set_option maxRecDepth 100000 in
set_option maxHeartbeats 2000000 in
theorem ttouch_no {b0 gt gw : Nat} {w : World} {t : Tk} (h : TkR b0 gt gw w t) (o : Int) (a b : Nat) (c k : Int) (hb : b < 4) (hz : (t.hands.getD b (false, 0)).1 = false) : Calls Tryz.prog 216 #[.pointer (some ⟨gt, 0, none⟩), .agg #[.int .i64 o, .int .i64 (a : Int), .int .i64 (b : Int), .int .i64 c, .int .i64 k]] w (DF gt w 2) := by
  have HT : Hid (TkR b0 gt gw (w.alloc (.cells #[.int .i64 o, .int .i64 (a : Int), .int .i64 (b : Int), .int .i64 c, .int .i64 k] 121)) t) := h.below ((Below.refl _ _).alloc (Nat.le_refl _) _)
  have HU : Hid (Upd gt w (w.alloc (.cells #[.int .i64 o, .int .i64 (a : Int), .int .i64 (b : Int), .int .i64 c, .int .i64 k] 121))) := Upd.below ((Below.refl _ _).alloc (Nat.le_refl _) _)
  obtain ⟨q0, q1⟩ := HT.out.hand b hb
  have jb0 : (0 : Int) ≤ (b : Int) := by omega
  have jb1 : (b : Int) < 4 := by omega
  rw [hz] at q0
  clear h hb hz
  go_enter Tryz.func216, Tryz.ntmps216
  go_wp2_with fail
  go_region
  all_goals go_wp2_with fail
  all_goals
    refine (fail_any 2 _).mono ?_
    rintro e w' ⟨rfl, rfl⟩
    exact ⟨rfl, rfl, Upd.drew HU.out⟩
set_option maxRecDepth 100000 in
set_option maxHeartbeats 4000000 in
theorem ttouch_any {b0 gt gw : Nat} {w : World} {t : Tk} (h : TkR b0 gt gw w t) (o : Int) (a b : Nat) (c k : Int) (ha : a < 8) (hb : b < 4) (hz : (t.hands.getD b (false, 0)).1 = true) : Calls Tryz.prog 216 #[.pointer (some ⟨gt, 0, none⟩), .agg #[.int .i64 o, .int .i64 (a : Int), .int .i64 (b : Int), .int .i64 c, .int .i64 k]] w (DG b0 gt gw w { t with regs := t.regs.set a (t.hands.getD b (false, 0)).2 }) := by
  have HT : Hid (TkR b0 gt gw (w.alloc (.cells #[.int .i64 o, .int .i64 (a : Int), .int .i64 (b : Int), .int .i64 c, .int .i64 k] 121)) t) := h.below ((Below.refl _ _).alloc (Nat.le_refl _) _)
  have HU : Hid (Upd gt w (w.alloc (.cells #[.int .i64 o, .int .i64 (a : Int), .int .i64 (b : Int), .int .i64 c, .int .i64 k] 121))) := Upd.below ((Below.refl _ _).alloc (Nat.le_refl _) _)
  have ra := HT.out.reg a ha
  have za := HT.out.frozen (2 + a)
  have ia0 : (0 : Int) ≤ (a : Int) := by omega
  have ia1 : (a : Int) < 8 := by omega
  obtain ⟨q0, q1⟩ := HT.out.hand b hb
  have jb0 : (0 : Int) ≤ (b : Int) := by omega
  have jb1 : (b : Int) < 4 := by omega
  rw [hz] at q0
  obtain ⟨xb, hxb⟩ : ∃ x, (t.hands.getD b (false, 0)).2 = x := ⟨_, rfl⟩
  rw [hxb] at q1 ⊢
  clear h ha hb hz hxb
  go_enter Tryz.func216, Tryz.ntmps216
  go_wp2_with fail
  go_region
  all_goals go_wp2_with fail
  all_goals go_region
  all_goals go_wp2_with fail
  all_goals
    go_end0
    exact ⟨rfl, Upd.drew (Upd.drew (HU.out.set _ _)), TkR.drew (TkR.drew (HT.out.put a (by omega) _))⟩
set_option maxRecDepth 100000 in
theorem tfail_any {b0 gt gw : Nat} {w : World} {t : Tk} (h : TkR b0 gt gw w t) (o a b c k : Int) : Calls Tryz.prog 218 #[.pointer (some ⟨gt, 0, none⟩), .agg #[.int .i64 o, .int .i64 a, .int .i64 b, .int .i64 c, .int .i64 k]] w (DF gt w k) := by
  have HU : Hid (Upd gt w (w.alloc (.cells #[.int .i64 o, .int .i64 a, .int .i64 b, .int .i64 c, .int .i64 k] 121))) := Upd.below ((Below.refl _ _).alloc (Nat.le_refl _) _)
  clear h
  go_enter Tryz.func218, Tryz.ntmps218
  go_wp2_with fail
  refine (fail_any k _).mono ?_
  rintro e w' ⟨rfl, rfl⟩
  exact ⟨rfl, rfl, HU.out⟩
end Go.Proofs.YtbiajfkencamiaaGreatDoor.EV
