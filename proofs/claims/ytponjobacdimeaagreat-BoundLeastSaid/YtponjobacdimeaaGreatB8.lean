/- sched.New: what it comes to. Printed by gen_gb8.py. -/
import Derived.Test.YtponjobacdimeaaGreatB7
import Derived.Conc.SmallLaws
namespace Go.Proofs.YtponjobacdimeaaGreat.Core
open Go.RowKit Go.Proofs.YtponjobacdimeaaGreatW.PrintWords Go.Proofs.YtponjobacdimeaaGreat.PBoundLeast Go.Proofs.YtponjobacdimeaaGreat
set_option linter.unusedVariables false
set_option linter.unusedSimpArgs false
abbrev cfg (W K R m0 m1 m2 : Nat) : List Int := [W, K, R, m0, m1, m2]
abbrev machC (W K R m0 m1 m2 : Nat) (pm pv ev dv : Value) (cl : Int) (wv mv cv : Value) : Array Value := #[.int .i64 W, .int .i64 K, .int .i64 R, .int .i64 m0, .int .i64 m1, .int .i64 m2, pm, pv, ev, dv, .int .i64 cl, wv, mv, cv, .slice none 0 0, .slice none 0 0, .int .i64 0]
/-- The config while nothing is made yet. -/
structure CW (w : World) (c : List Int) (X : World) : Prop where
  below : Below w.heap.size w X
  c : X.heap[w.heap.size]? = some (.cells (ints c) 29 (0, 0))
theorem CW.drawn {w : World} {c : List Int} {X X' : World} (h : CW w c X) (hb : Below X.heap.size X X') : CW w c X' := ⟨h.below.trans (hb.mono h.below.size), blk_below h.c hb⟩
/-- The machine while it is made. -/
structure MS (w : World) (W K R m0 m1 m2 cl gm : Nat) (pm dv wv : Value) (X : World) : Prop where
  below : Below w.heap.size w X
  hg : w.heap.size ≤ gm
  c : X.heap[w.heap.size]? = some (.cells (ints (cfg W K R m0 m1 m2)) 29 (0, 0))
  m : ∃ pv ev mv cv, X.heap[gm]? = some (.cells (machC W K R m0 m1 m2 pm pv ev dv cl wv mv cv) 66 (0, 0))
section
variable {w : World} {W K R m0 m1 m2 cl gm : Nat} {pm dv wv : Value} {X X' : World}
theorem MS.keep (h : MS w W K R m0 m1 m2 cl gm pm dv wv X) {ts : List Nat} (hk : Kp ts X X') (hb : Below w.heap.size w X') (h1 : 29 ∉ ts) (h2 : 66 ∉ ts) : MS w W K R m0 m1 m2 cl gm pm dv wv X' := by
  obtain ⟨pv, ev, mv, cv, hm⟩ := h.m
  exact ⟨hb, h.hg, hk.2 _ _ _ _ h.c h1, ⟨pv, ev, mv, cv, hk.2 _ _ _ _ hm h2⟩⟩
theorem MS.drawn (h : MS w W K R m0 m1 m2 cl gm pm dv wv X) (hb : Below X.heap.size X X') : MS w W K R m0 m1 m2 cl gm pm dv wv X' :=
  h.keep (Kp.below (ts := []) hb) (h.below.trans (hb.mono h.below.size)) (by simp) (by simp)
/-- One of the machine's cells is set: what it has then. -/
theorem MS.set (h : MS w W K R m0 m1 m2 cl gm pm dv wv X) {j : Nat} {u pm' dv' wv' : Value}
    (hs : ∀ pv ev mv cv, ∃ pv' ev' mv' cv', (machC W K R m0 m1 m2 pm pv ev dv cl wv mv cv).setIfInBounds j u = machC W K R m0 m1 m2 pm' pv' ev' dv' cl wv' mv' cv') : MS w W K R m0 m1 m2 cl gm pm' dv' wv' (X.setCell ⟨gm, j, none⟩ u) ∧ Kp [66] X (X.setCell ⟨gm, j, none⟩ u) := by
  obtain ⟨pv, ev, mv, cv, hm⟩ := h.m
  obtain ⟨pv', ev', mv', cv', he⟩ := hs pv ev mv cv
  have hk : Kp [66] X (X.setCell ⟨gm, j, none⟩ u) := Kp.set hm (by simp) j _
  refine ⟨⟨h.below.setCell (p := ⟨gm, j, none⟩) h.hg _, h.hg, hk.2 _ _ _ _ h.c (by decide), ⟨pv', ev', mv', cv', ?_⟩⟩, hk⟩
  rw [blk_set hm j u, he]
theorem MS.fld (h : MS w W K R m0 m1 m2 cl gm pm dv wv X) : X.cell? ⟨gm, 6, none⟩ = some pm ∧ X.cell? ⟨gm, 9, none⟩ = some dv ∧ X.cell? ⟨gm, 10, none⟩ = some (.int .i64 (cl : Int)) ∧ X.cell? ⟨gm, 11, none⟩ = some wv ∧ (∃ u, X.cell? ⟨gm, 7, none⟩ = some u) ∧ (∃ u, X.cell? ⟨gm, 8, none⟩ = some u) ∧ ∀ j, X.frozen? ⟨gm, j, none⟩ = false := by
  obtain ⟨pv, ev, mv, cv, hm⟩ := h.m
  exact ⟨(blk_cell hm 6).trans rfl, (blk_cell hm 9).trans rfl, (blk_cell hm 10).trans rfl, (blk_cell hm 11).trans rfl, ⟨_, (blk_cell hm 7).trans rfl⟩, ⟨_, (blk_cell hm 8).trans rfl⟩, fun j => blk_frozen hm j⟩
end
/-- .. with its memory. -/
structure MZ (w : World) (W K R m0 m1 m2 cl gm B b g1 g2 n : Nat) (dv wv : Value) (X : World) : Prop where
  s : MS w W K R m0 m1 m2 cl gm (.pointer (some ⟨b, 0, none⟩)) dv wv X
  m : MemAt B b g1 g2 n X
section
variable {w : World} {W K R m0 m1 m2 cl gm B b g1 g2 n : Nat} {dv wv : Value} {X X' : World}
theorem MZ.drawn (h : MZ w W K R m0 m1 m2 cl gm B b g1 g2 n dv wv X) (hb : Below X.heap.size X X') : MZ w W K R m0 m1 m2 cl gm B b g1 g2 n dv wv X' := ⟨h.s.drawn hb, h.m.below hb⟩
theorem MZ.keep (h : MZ w W K R m0 m1 m2 cl gm B b g1 g2 n dv wv X) {ts : List Nat} (hk : Kp ts X X') (hb : Below w.heap.size w X') (h1 : 29 ∉ ts) (h2 : 66 ∉ ts) (h3 : 89 ∉ ts) (h4 : 2 ∉ ts) (h5 : 4 ∉ ts) : MZ w W K R m0 m1 m2 cl gm B b g1 g2 n dv wv X' := ⟨h.s.keep hk hb h1 h2, h.m.keep hk h3 h4 h5⟩
/-- A call that works on the memory alone. -/
theorem MZ.mem (h : MZ w W K R m0 m1 m2 cl gm B b g1 g2 n dv wv X) (hB : w.heap.size ≤ B) (hm : MemAt B b g1 g2 n X') (hk : Kp [2, 4] X X') (hb : Below B X X') : MZ w W K R m0 m1 m2 cl gm B b g1 g2 n dv wv X' :=
  ⟨h.s.keep hk (h.s.below.trans (hb.mono hB)) (by decide) (by decide), hm⟩
theorem MZ.set (h : MZ w W K R m0 m1 m2 cl gm B b g1 g2 n dv wv X) {j : Nat} {u dv' wv' : Value}
    (hs : ∀ pv ev mv cv, ∃ pv' ev' mv' cv', (machC W K R m0 m1 m2 (.pointer (some ⟨b, 0, none⟩)) pv ev dv cl wv mv cv).setIfInBounds j u = machC W K R m0 m1 m2 (.pointer (some ⟨b, 0, none⟩)) pv' ev' dv' cl wv' mv' cv') : MZ w W K R m0 m1 m2 cl gm B b g1 g2 n dv' wv' (X.setCell ⟨gm, j, none⟩ u) ∧ Kp [66] X (X.setCell ⟨gm, j, none⟩ u) := by
  obtain ⟨h1, h2⟩ := h.s.set hs
  exact ⟨⟨h1, h.m.keep h2 (by decide) (by decide) (by decide)⟩, h2⟩
end
theorem MS.start {w : World} {W K R m0 m1 m2 cl : Nat} {X : World} (h : CW w (cfg W K R m0 m1 m2) X) (A1 A2 : Option Nat) : MS w W K R m0 m1 m2 cl X.heap.size (.pointer none) (.slice none 0 0) (.slice none 0 0) (X.alloc (.cells (machC W K R m0 m1 m2 (.pointer none) (.pointer none) (.pointer none) (.slice none 0 0) cl (.slice none 0 0) (.map A1) (.chan A2)) 66)) := by
  have hb : Below X.heap.size X (X.alloc (.cells (machC W K R m0 m1 m2 (.pointer none) (.pointer none) (.pointer none) (.slice none 0 0) cl (.slice none 0 0) (.map A1) (.chan A2)) 66)) := (Below.refl _ _).alloc (Nat.le_refl _) _
  exact ⟨(h.drawn hb).below, h.below.size, (h.drawn hb).c, ⟨_, _, _, _, heap_alloc_new _ _⟩⟩
theorem info2i : ∃ i, Tryz.prog.info? 2 = some i ∧ i.bytes = 8 := by
  obtain ⟨i, hi, hz, hs, hb⟩ := info_parts info2
  exact ⟨i, hi, hb⟩
theorem run64 (X : World) : (Instr.makeChan 57 (.int .i64 64)).run Tryz.prog X = .ok (.chan (some X.heap.size)) (X.alloc (.chan 64 #[] false 0 0 false)) := by
  obtain ⟨i, hi, hb⟩ := info2i
  exact Go.Conc.run_makeChan Tryz.underlying57 hi .i64 64 (by omega) (by rw [hb]; omega)
theorem info74 : (Tryz.prog.info? 74).map (fun i => (i.zero, i.size, i.bytes)) = some (some (.agg #[.int .i64 0, .int .i64 0, .int .i64 0]), 3, 24) := by kernel_rfl
theorem info77 : (Tryz.prog.info? 77).map (fun i => (i.zero, i.size, i.bytes)) = some (some (.pointer none), 1, 8) := by kernel_rfl
theorem kp3 {W : World} {g t : Nat} {z0 z1 z2 : Int} (h : W.heap[g]? = some (.cells (ints [z0, z1, z2]) t (0, 0))) (a0 a1 a2 : Int) :
    Kp [t] W (((W.setCell ⟨g, 0, none⟩ (.int .i64 a0)).setCell ⟨g, 1, none⟩ (.int .i64 a1)).setCell ⟨g, 2, none⟩ (.int .i64 a2)) :=
  (Kp.set h (by simp) 0 _).trans ((Kp.set (blk_set h 0 _) (by simp) 1 _).trans (Kp.set (blk_set (blk_set h 0 _) 1 _) (by simp) 2 _))
@[go_sem] theorem run_store_fn {P : Program} {w : World} {a : Addr} {m : Mode} (fn : Fn) (first captured : Array Value) : (store a (.func fn first captured) m).run P w = stored P w a (.func fn first captured) m := run_store P w a _ m rfl
abbrev wkC (gm wi : Nat) : Array Value := #[.pointer (some ⟨gm, 0, none⟩), .int .i64 (wi : Int), .nilFunc, .pointer none, .pointer none, .pointer none, .int .i64 0, .slice none 0 0, .slice none 0 0, .nilFunc, .int .i64 0]
abbrev wkC2 (gm wi gx : Nat) : Array Value := #[.pointer (some ⟨gm, 0, none⟩), .int .i64 (wi : Int), .func (.func 24) #[.pointer (some ⟨gx, 0, none⟩)] #[], .pointer none, .pointer none, .pointer none, .int .i64 0, .slice none 0 0, .slice none 0 0, .nilFunc, .int .i64 0]
/-- How many words there are when ci classes are counted. -/
def sumC (own W m0 m1 m2 ci : Nat) : Nat := own + (if 1 ≤ ci then W * m0 * 2 else 0) + (if 2 ≤ ci then W * m1 * 3 else 0) + (if 3 ≤ ci then W * m2 * 5 else 0)
theorem class_at {w : World} {W K R m0 m1 m2 ci : Nat} (own : Nat) (hW : W ≤ 64) (h0 : m0 ≤ 1000) (h1 : m1 ≤ 1000) (h2 : m2 ≤ 1000) (hc : ci < 3) :
    ∃ mm sz wm : Nat, ([2, 3, 5] : List Int).getD ci 0 = (sz : Int) ∧ (W : Int) * (mm : Int) = (wm : Int) ∧ wm ≤ 64000 ∧ sz ≤ 5 ∧ sumC own W m0 m1 m2 (ci + 1) = sumC own W m0 m1 m2 ci + wm * sz ∧
      ∀ X : World, X.heap[w.heap.size]? = some (.cells (ints (cfg W K R m0 m1 m2)) 29 (0, 0)) → X.cell? ⟨w.heap.size, 3 + ci, none⟩ = some (.int .i64 (mm : Int)) := by
  have b : ∀ m, m ≤ 1000 → W * m ≤ 64000 := fun m hm => Nat.mul_le_mul hW hm
  have : ci = 0 ∨ ci = 1 ∨ ci = 2 := by omega
  rcases this with rfl | rfl | rfl
  · exact ⟨m0, 2, W * m0, rfl, by simp, b _ h0, by omega, by simp [sumC], fun X h => cell_ints h 3 _ rfl⟩
  · exact ⟨m1, 3, W * m1, rfl, by simp, b _ h1, by omega, by simp [sumC], fun X h => cell_ints h 4 _ rfl⟩
  · exact ⟨m2, 5, W * m2, rfl, by simp, b _ h2, by omega, by simp [sumC], fun X h => cell_ints h 5 _ rfl⟩
theorem sumC_le {own W m0 m1 m2 : Nat} (ci : Nat) (ho : own ≤ 200000) (hW : W ≤ 64) (h0 : m0 ≤ 1000) (h1 : m1 ≤ 1000) (h2 : m2 ≤ 1000) : sumC own W m0 m1 m2 ci ≤ 1000000 := by
  have b : ∀ m, m ≤ 1000 → W * m ≤ 64000 := fun m hm => Nat.mul_le_mul hW hm
  have b0 := b _ h0
  have b1 := b _ h1
  have b2 := b _ h2
  have e0 : (if 1 ≤ ci then W * m0 * 2 else 0) ≤ 128000 := by split <;> omega
  have e1 : (if 2 ≤ ci then W * m1 * 3 else 0) ≤ 192000 := by split <;> omega
  have e2 : (if 3 ≤ ci then W * m2 * 5 else 0) ≤ 320000 := by split <;> omega
  unfold sumC
  exact Nat.le_trans (Nat.add_le_add (Nat.add_le_add (Nat.add_le_add ho e0) e1) e2) (by decide)
theorem field_shape (W m0 m1 m2 : Int) (X : World) : (Instr.field 54 (shapeA W m0 m1 m2) 1).run Tryz.prog X = .ok (.agg #[.int .i64 2, .int .i64 3, .int .i64 5]) X := by kernel_rfl
/-- A machine or none, and an error. -/
def GivesS (w : World) (er : Int) (e : Ending) (w' : World) : Prop := ∃ p, e = .returned (.tuple #[.pointer p, .int .i64 er]) ∧ Below w.heap.size w w'
set_option maxRecDepth 100000 in
set_option maxHeartbeats 16000000 in
theorem snew_ok (W K R m0 m1 m2 : Nat) (hW : 1 ≤ W ∧ W ≤ 64) (hK : 1 ≤ K ∧ K ≤ 3) (hR : 1 ≤ R ∧ R ≤ 1000) (h0 : m0 ≤ 1000) (h1 : m1 ≤ 1000) (h2 : m2 ≤ 1000) (w : World) :
    Calls Tryz.prog 14 #[.agg #[.int .i64 (W : Int), .int .i64 (K : Int), .int .i64 (R : Int), .int .i64 (m0 : Int), .int .i64 (m1 : Int), .int .i64 (m2 : Int)]] w (GivesS w (if W * (R + 2 + m0) + W * m0 * 2 + W * m1 * 3 + W * m2 * 5 > 65536 then 3 else 0)) := by
  have hre : rightB (W : Int) (K : Int) (R : Int) (m0 : Int) (m1 : Int) (m2 : Int) = true := decide_eq_true (by omega)
  have hright := fun X => right_any (W : Int) (K : Int) (R : Int) (m0 : Int) (m1 : Int) (m2 : Int) X
  rw [hre] at hright
  have HRI := Lib.hid hright
  have hwd := fun X => words_any (R : Int) X
  rw [wordsD_nat R hR.1 hR.2] at hwd
  obtain ⟨own, hown⟩ : ∃ x : Nat, x = W * (R + 2 + m0) := ⟨_, rfl⟩
  obtain ⟨cl, hcl⟩ : ∃ x : Nat, x = W * (R + 2) := ⟨_, rfl⟩
  have hob : own ≤ 64 * 2002 := by rw [hown]; exact Nat.mul_le_mul hW.2 (by omega)
  have hoc : own = cl + W * m0 := by rw [hown, hcl, Nat.mul_add]
  have HSH := Lib.hid (fun X => shape_any (W : Int) (K : Int) (R : Int) (m0 : Int) (m1 : Int) (m2 : Int) X)
  obtain ⟨r2, hr2⟩ : ∃ x : Nat, x = R + 2 := ⟨_, rfl⟩
  obtain ⟨rf, hrf⟩ : ∃ x : Nat, x = R + 2 + m0 := ⟨_, rfl⟩
  have hcb : cl ≤ own := by rw [hoc]; exact Nat.le_add_right _ _
  have hq1 : IntKind.i64.wrap ((r2 : Int) + (m0 : Int)) = (rf : Int) := by rw [IntKind.wrap_i64]; omega
  have hq2 : IntKind.i64.wrap ((W : Int) * (rf : Int)) = (own : Int) := by
    rw [show (W : Int) * (rf : Int) = (own : Int) from by rw [hown, hrf]; simp, IntKind.wrap_i64]
    omega
  have hq3 : IntKind.i64.wrap ((W : Int) * (r2 : Int)) = (cl : Int) := by
    rw [show (W : Int) * (r2 : Int) = (cl : Int) from by rw [hcl, hr2]; simp, IntKind.wrap_i64]
    omega
  rw [← hr2] at hwd
  have HWD := Lib.hid hwd
  have HR2 := Lib.hid hr2
  have HQ1 := Lib.hid hq1
  have HQ2 := Lib.hid hq2
  have HQ3 := Lib.hid hq3
  have hsum : W * (R + 2 + m0) + W * m0 * 2 + W * m1 * 3 + W * m2 * 5 = sumC own W m0 m1 m2 3 := by rw [hown]; simp [sumC]
  have hsum2 : own + (W * m0 * 2 + W * m1 * 3 + W * m2 * 5) = sumC own W m0 m1 m2 3 := by simp [sumC]; omega
  rw [hsum]
  obtain ⟨er, her⟩ : ∃ x : Int, x = if sumC own W m0 m1 m2 3 > 65536 then 3 else 0 := ⟨_, rfl⟩
  rw [← her]
  have HER := Lib.hid her
  have HSUM := Lib.hid hsum2
  have HOC := Lib.hid hoc
  have HOB := Lib.hid hob
  have HWW := Lib.hid hW
  have HKK := Lib.hid hK
  have HRR := Lib.hid hR
  have HMM : Hid (m0 ≤ 1000 ∧ m1 ≤ 1000 ∧ m2 ≤ 1000) := ⟨h0, h1, h2⟩
  have HC0 : Hid (CW w (cfg W K R m0 m1 m2) (w.alloc (.cells (ints (cfg W K R m0 m1 m2)) 29))) := ⟨(Below.refl _ _).alloc (Nat.le_refl _) _, heap_alloc_new _ _⟩
  have HCL := Lib.hid hcl
  clear her hcb hr2 hrf hre hright hwd hown hcl hob hoc hq1 hq2 hq3 hsum hsum2 hW hK hR h0 h1 h2
  go_enter Tryz.func14, Tryz.ntmps14
  go_wp2_with fail
  refine (HRI.out _).mono ?_
  rintro _ w1 ⟨rfl, hb1⟩
  have HC1 := Lib.hid (HC0.out.drawn hb1)
  clear hb1
  go_wp2_with fail
  refine Reg.wp_region_phase (by kernel_rfl) [] (fun i => match i with | 0 => fun v => v = .pointer (some ⟨w.heap.size, 0, none⟩) | 1 => fun v => v = .int .i64 (W : Int) | 2 => fun v => v = .pointer (some ⟨w.heap.size, 2, none⟩) | 3 => fun v => v = .int .i64 (R : Int) | 4 => fun v => v = .int .i64 (r2 : Int) | 5 => fun v => v = .pointer (some ⟨w.heap.size, 3, none⟩) | 6 => fun v => v = .pointer (some ⟨w.heap.size, 3, none⟩) | 7 => fun v => v = .int .i64 (m0 : Int) | 8 => fun v => v = .int .i64 (rf : Int) | 9 => fun v => v = .int .i64 (own : Int) | 10 => fun v => v = .int .i64 (own : Int) | _ => fun _ => True) (fun k f X => CW w (cfg W K R m0 m1 m2) X) (by kernel_rfl) (by kernel_rfl) (by decide) (by decide) ?hJ ?h0 ?pure ?act ?fin
  case hJ => (intro k f f' X h hj; exact hj)
  case h0 => exact (show CW w (cfg W K R m0 m1 m2) (World.drew _) from HC1.out.drawn (pw_below_drewN (Below.refl _ _) 1))
  case pure =>
    intro i o k a w_ ho hE hk hmc hf hst hkn hj
    have hi : i < 11 := (Array.getElem?_eq_some_iff.1 ho).1
    obtain rfl | rfl | rfl | rfl | rfl | rfl | rfl | rfl | rfl | rfl | rfl : i = 0 ∨ i = 1 ∨ i = 2 ∨ i = 3 ∨ i = 4 ∨ i = 5 ∨ i = 6 ∨ i = 7 ∨ i = 8 ∨ i = 9 ∨ i = 10 := by
      simp only [List.mem_cons, List.not_mem_nil, or_false, not_or] at hE
      omega
    · skip
      obtain rfl := Reg.oper_eq ho rfl
      have e1 : a.eval (.tmp 1) = .pointer (some ⟨w.heap.size, 0, none⟩) := (hf.eval 1 (by kernel_rfl)).trans rfl
      have g1 := Reg.eval_getD e1
      exact Reg.op_value rfl rfl (by simp only [List.getElem_toArray, List.getElem_cons_zero, List.getElem_cons_succ, execOp, e1]; go_simp) ⟨_, rfl, rfl, hj⟩
    · skip
      obtain rfl := Reg.oper_eq ho rfl
      have e16 : a.eval (.tmp 16) = .pointer (some ⟨w.heap.size, 0, none⟩) := hkn.eval 0 16 (by kernel_rfl) (by kernel_rfl)
      have g16 := Reg.eval_getD e16
      have k0 := cell_ints (show CW w (cfg W K R m0 m1 m2) w_ from hj).c 0 _ rfl
      exact Reg.op_value rfl rfl (by simp only [List.getElem_toArray, List.getElem_cons_zero, List.getElem_cons_succ, execOp, e16]; go_simp) ⟨_, rfl, rfl, hj⟩
    · skip
      obtain rfl := Reg.oper_eq ho rfl
      have e1 : a.eval (.tmp 1) = .pointer (some ⟨w.heap.size, 0, none⟩) := (hf.eval 1 (by kernel_rfl)).trans rfl
      have g1 := Reg.eval_getD e1
      exact Reg.op_value rfl rfl (by simp only [List.getElem_toArray, List.getElem_cons_zero, List.getElem_cons_succ, execOp, e1]; go_simp) ⟨_, rfl, rfl, hj⟩
    · skip
      obtain rfl := Reg.oper_eq ho rfl
      have e18 : a.eval (.tmp 18) = .pointer (some ⟨w.heap.size, 2, none⟩) := hkn.eval 2 18 (by kernel_rfl) (by kernel_rfl)
      have g18 := Reg.eval_getD e18
      have k2 := cell_ints (show CW w (cfg W K R m0 m1 m2) w_ from hj).c 2 _ rfl
      exact Reg.op_value rfl rfl (by simp only [List.getElem_toArray, List.getElem_cons_zero, List.getElem_cons_succ, execOp, e18]; go_simp) ⟨_, rfl, rfl, hj⟩
    · skip
      obtain rfl := Reg.oper_eq ho rfl
      have e19 : a.eval (.tmp 19) = .int .i64 (R : Int) := hkn.eval 3 19 (by kernel_rfl) (by kernel_rfl)
      have g19 := Reg.eval_getD e19
      refine Reg.op_call (f := 18) (args := #[.int .i64 (R : Int)]) (w' := w_) rfl rfl (by simp only [List.getElem_toArray, List.getElem_cons_zero, List.getElem_cons_succ, execOp, e19]; go_simp) ((HWD.out w_).mono ?_)
      rintro e W3 ⟨rfl, hb3⟩
      exact .inl ⟨_, rfl, _, rfl, rfl, CW.drawn hj hb3⟩
    · skip
      obtain rfl := Reg.oper_eq ho rfl
      have e1 : a.eval (.tmp 1) = .pointer (some ⟨w.heap.size, 0, none⟩) := (hf.eval 1 (by kernel_rfl)).trans rfl
      have g1 := Reg.eval_getD e1
      exact Reg.op_value rfl rfl (by simp only [List.getElem_toArray, List.getElem_cons_zero, List.getElem_cons_succ, execOp, e1]; go_simp) ⟨_, rfl, rfl, hj⟩
    · skip
      obtain rfl := Reg.oper_eq ho rfl
      have e21 : a.eval (.tmp 21) = .pointer (some ⟨w.heap.size, 3, none⟩) := hkn.eval 5 21 (by kernel_rfl) (by kernel_rfl)
      have g21 := Reg.eval_getD e21
      exact Reg.op_value rfl rfl (by simp only [List.getElem_toArray, List.getElem_cons_zero, List.getElem_cons_succ, execOp, e21]; go_simp) ⟨_, rfl, rfl, hj⟩
    · skip
      obtain rfl := Reg.oper_eq ho rfl
      have e22 : a.eval (.tmp 22) = .pointer (some ⟨w.heap.size, 3, none⟩) := hkn.eval 6 22 (by kernel_rfl) (by kernel_rfl)
      have g22 := Reg.eval_getD e22
      have k3 := cell_ints (show CW w (cfg W K R m0 m1 m2) w_ from hj).c 3 _ rfl
      exact Reg.op_value rfl rfl (by simp only [List.getElem_toArray, List.getElem_cons_zero, List.getElem_cons_succ, execOp, e22]; go_simp) ⟨_, rfl, rfl, hj⟩
    · skip
      obtain rfl := Reg.oper_eq ho rfl
      have e20 : a.eval (.tmp 20) = .int .i64 (r2 : Int) := hkn.eval 4 20 (by kernel_rfl) (by kernel_rfl)
      have e23 : a.eval (.tmp 23) = .int .i64 (m0 : Int) := hkn.eval 7 23 (by kernel_rfl) (by kernel_rfl)
      have g20 := Reg.eval_getD e20
      have g23 := Reg.eval_getD e23
      have q1 := HQ1.out
      exact Reg.op_value rfl rfl (by simp only [List.getElem_toArray, List.getElem_cons_zero, List.getElem_cons_succ, execOp, e20, e23]; go_simp) ⟨_, rfl, rfl, hj⟩
    · skip
      obtain rfl := Reg.oper_eq ho rfl
      have e17 : a.eval (.tmp 17) = .int .i64 (W : Int) := hkn.eval 1 17 (by kernel_rfl) (by kernel_rfl)
      have e24 : a.eval (.tmp 24) = .int .i64 (rf : Int) := hkn.eval 8 24 (by kernel_rfl) (by kernel_rfl)
      have g17 := Reg.eval_getD e17
      have g24 := Reg.eval_getD e24
      have q2 := HQ2.out
      exact Reg.op_value rfl rfl (by simp only [List.getElem_toArray, List.getElem_cons_zero, List.getElem_cons_succ, execOp, e17, e24]; go_simp) ⟨_, rfl, rfl, hj⟩
    · skip
      obtain rfl := Reg.oper_eq ho rfl
      have e25 : a.eval (.tmp 25) = .int .i64 (own : Int) := hkn.eval 9 25 (by kernel_rfl) (by kernel_rfl)
      have g25 := Reg.eval_getD e25
      exact Reg.op_value rfl rfl (by simp only [List.getElem_toArray, List.getElem_cons_zero, List.getElem_cons_succ, execOp, e25]; go_simp) ⟨_, rfl, rfl, hj⟩
  case act =>
    intro k o a w_ hk ho hf hst hkn hj
    simp at hk
  case fin =>
    intro a w_ hf hkn hj
    have e16 : Reg.val a 16 = _ := hkn 0 16 (by show _ < _; decide) (by kernel_rfl)
    have e17 : Reg.val a 17 = _ := hkn 1 17 (by show _ < _; decide) (by kernel_rfl)
    have e18 : Reg.val a 18 = _ := hkn 2 18 (by show _ < _; decide) (by kernel_rfl)
    have e19 : Reg.val a 19 = _ := hkn 3 19 (by show _ < _; decide) (by kernel_rfl)
    have e20 : Reg.val a 20 = _ := hkn 4 20 (by show _ < _; decide) (by kernel_rfl)
    have e21 : Reg.val a 21 = _ := hkn 5 21 (by show _ < _; decide) (by kernel_rfl)
    have e22 : Reg.val a 22 = _ := hkn 6 22 (by show _ < _; decide) (by kernel_rfl)
    have e23 : Reg.val a 23 = _ := hkn 7 23 (by show _ < _; decide) (by kernel_rfl)
    have e24 : Reg.val a 24 = _ := hkn 8 24 (by show _ < _; decide) (by kernel_rfl)
    have e25 : Reg.val a 25 = _ := hkn 9 25 (by show _ < _; decide) (by kernel_rfl)
    have e4 : Reg.val a 4 = _ := hkn 10 4 (by show _ < _; decide) (by kernel_rfl)
    rw [Reg.frm_fold hf [16, 17, 18, 19, 20, 21, 22, 23, 24, 25, 4] (by kernel_rfl) (by kernel_rfl)]
    simp only [List.foldl_cons, List.foldl_nil, Act.put, List.setIfInBounds_toArray, List.set_cons_zero, List.set_cons_succ, e16, e17, e18, e19, e20, e21, e22, e23, e24, e25, e4]
    clear hkn hf e16 e17 e18 e19 e20 e21 e22 e23 e24 e25 e4
    have HC2 : Hid (CW w (cfg W K R m0 m1 m2) w_) := hj
    clear hj
    have k0 := cell_ints HC2.out.c 0 _ rfl
    have k1 := cell_ints HC2.out.c 1 _ rfl
    have k2 := cell_ints HC2.out.c 2 _ rfl
    have k3 := cell_ints HC2.out.c 3 _ rfl
    have k4 := cell_ints HC2.out.c 4 _ rfl
    have k5 := cell_ints HC2.out.c 5 _ rfl
    go_wp2_with fail
    refine (HSH.out _).mono ?_
    rintro _ w3 ⟨rfl, hb3⟩
    have HC3 := Lib.hid (HC2.out.drawn hb3)
    clear hb3 k0 k1 k2 k3 k4 k5
    have fx := fun X => field_shape (W : Int) (m0 : Int) (m1 : Int) (m2 : Int) X
    go_wp2_with fail
    clear fx
    go_loopg [30, 5] 3 (fun d c p X => ∃ ci s0 : Nat, ci + d = 3 ∧ c = .int .i64 ci ∧ p = .int .i64 s0 ∧ Hid (s0 = sumC own W m0 m1 m2 ci ∧ CW w (cfg W K R m0 m1 m2) X))
    case atStart => exact ⟨0, own, by omega, rfl, rfl, by simp [sumC], HC3.out⟩
    case round =>
      obtain ⟨ci, s0, hcd, rfl, rfl, hE⟩ := hrel
      by_cases hq : ci < 3
      · have hq1 : (ci : Int) < 3 := by omega
        have hq0 : (0 : Int) ≤ (ci : Int) := by omega
        have hq2 : decide ((ci : Int) < 3) = true := decide_eq_true hq1
        have hqw : wrap64 ((ci : Int) + 1) = ((ci + 1 : Nat) : Int) := by unfold wrap64; omega
        obtain ⟨mm, sz, wm, hz, hwm, hwb, hsb, hss, hmc⟩ := class_at (w := w) (K := K) (R := R) own HWW.out.2 HMM.out.1 HMM.out.2.1 HMM.out.2.2 hq
        have ix := fun X => idx27 2 3 5 ci hq X
        simp only [hz] at ix
        have hle := sumC_le (own := own) (W := W) (m0 := m0) (m1 := m1) (m2 := m2) (ci + 1) (Nat.le_trans HOB.out (by decide)) HWW.out.2 HMM.out.1 HMM.out.2.1 HMM.out.2.2
        obtain ⟨s1, hs1⟩ : ∃ x : Nat, x = sumC own W m0 m1 m2 (ci + 1) := ⟨_, rfl⟩
        obtain ⟨ws, hws⟩ : ∃ x : Nat, x = wm * sz := ⟨_, rfl⟩
        have hs0 := hE.out.1
        rw [← hs1] at hle
        rw [← hs1, ← hs0, ← hws] at hss
        have c0 : IntKind.i64.wrap ((W : Int) * (mm : Int)) = (wm : Int) := by rw [hwm, IntKind.wrap_i64]; omega
        have c1 : IntKind.i64.wrap ((wm : Int) * (sz : Int)) = (ws : Int) := by
          rw [show (wm : Int) * (sz : Int) = (ws : Int) from by rw [hws]; simp, IntKind.wrap_i64]
          omega
        have c2 : IntKind.i64.wrap ((s0 : Int) + (ws : Int)) = (s1 : Int) := by rw [IntKind.wrap_i64]; omega
        have km := hmc _ hE.out.2.c
        have k0 := cell_ints hE.out.2.c 0 _ rfl
        have HCI := Lib.hid hq
        have HCD := Lib.hid hcd
        have HS1 := Lib.hid hs1
        have HCC := Lib.hid hE.out.2
        clear hcd hz hwm hwb hsb hss hmc hle hs1 hws hs0 hE hq
        go_wp2_with fail
        go_quiet (fail)
        all_goals go_wp2_with fail
        go_roundg (3 - (ci + 1))
        case measure => exact step_lt HCD.out HCI.out
        case rel => exact ⟨ci + 1, s1, step_eq HCI.out, by go_num, rfl, HS1.out, HCC.out.drawn (pw_below_drewN (Below.refl _ _) _)⟩
      · have hq1 : ¬ (ci : Int) < 3 := by omega
        have hq2 : decide ((ci : Int) < 3) = false := decide_eq_false hq1
        obtain rfl : ci = 3 := by omega
        have hs0 := hE.out.1
        have HC2 := Lib.hid hE.out.2
        have her := HER.out
        rw [← hs0] at her
        by_cases hbig : s0 > 65536
        · have hb1 : decide ((s0 : Int) > 65536) = true := decide_eq_true (by omega)
          rw [if_pos hbig] at her
          subst her
          go_wp2_with fail
          go_ret2
          exact ⟨_, rfl, HC2.out.below⟩
        have hb1 : decide ((s0 : Int) > 65536) = false := decide_eq_false (by omega)
        rw [if_neg hbig] at her
        subst her
        have HS0 : Hid (s0 = sumC own W m0 m1 m2 3 ∧ s0 ≤ 65536) := ⟨hs0, by omega⟩
        clear hs0 hbig hE hcd
        go_wp2_with fail
        refine Reg.wp_region_phase (by kernel_rfl) [10, 11] (fun i => match i with | 0 => fun v => v = .agg #[.int .i64 (W : Int), .int .i64 (K : Int), .int .i64 (R : Int), .int .i64 (m0 : Int), .int .i64 (m1 : Int), .int .i64 (m2 : Int)] | 1 => fun v => ∃ A, v = .map A | 2 => fun v => ∃ A, v = .chan A | 3 => fun v => v = .pointer (some ⟨w.heap.size, 0, none⟩) | 4 => fun v => v = .int .i64 (W : Int) | 5 => fun v => v = .pointer (some ⟨w.heap.size, 2, none⟩) | 6 => fun v => v = .int .i64 (R : Int) | 7 => fun v => v = .int .i64 (r2 : Int) | 8 => fun v => v = .int .i64 (cl : Int) | 9 => fun v => ∃ A1 A2, v = .agg (machC W K R m0 m1 m2 (.pointer none) (.pointer none) (.pointer none) (.slice none 0 0) (cl : Int) (.slice none 0 0) (.map A1) (.chan A2)) | _ => fun _ => True) (fun k f X => match k with | 0 => CW w (cfg W K R m0 m1 m2) X | 1 => ∃ gm, f 58 = .pointer (some ⟨gm, 0, none⟩) ∧ MS w W K R m0 m1 m2 cl gm (.pointer none) (.slice none 0 0) (.slice none 0 0) X | _ => ∃ gm, f 8 = .pointer (some ⟨gm, 0, none⟩) ∧ MS w W K R m0 m1 m2 cl gm (.pointer none) (.slice none 0 0) (.slice none 0 0) X) (by kernel_rfl) (by kernel_rfl) (by decide) (by decide) ?hJ ?h0 ?pure ?act ?fin
        case hJ => (intro k f f' X h hj; match k, hj with
    | 0, hj => exact hj
    | 1, hj => (obtain ⟨gm, h1, h2⟩ := hj; exact ⟨gm, (h 0 (by omega) (by decide) 58 (by kernel_rfl)).symm.trans h1, h2⟩)
    | k + 2, hj => (obtain ⟨gm, h1, h2⟩ := hj; exact ⟨gm, (h 1 (by omega) (by decide) 8 (by kernel_rfl)).symm.trans h1, h2⟩))
        case h0 => exact (show CW w (cfg W K R m0 m1 m2) (World.drew _) from HC2.out.drawn (pw_below_drewN (Below.refl _ _) 1))
        case pure =>
          intro i o k a w_ ho hE hk hmc hf hst hkn hj
          have hi : i < 12 := (Array.getElem?_eq_some_iff.1 ho).1
          obtain rfl | rfl | rfl | rfl | rfl | rfl | rfl | rfl | rfl | rfl : i = 0 ∨ i = 1 ∨ i = 2 ∨ i = 3 ∨ i = 4 ∨ i = 5 ∨ i = 6 ∨ i = 7 ∨ i = 8 ∨ i = 9 := by
            simp only [List.mem_cons, List.not_mem_nil, or_false, not_or] at hE
            omega
          · skip
            obtain rfl := Reg.oper_eq ho rfl
            have e1 : a.eval (.tmp 1) = .pointer (some ⟨w.heap.size, 0, none⟩) := (hf.eval 1 (by kernel_rfl)).trans rfl
            have g1 := Reg.eval_getD e1
            have hk2 : k = 0 ∨ k = 1 ∨ k = 2 := by (simp only [List.length_cons, List.length_nil] at hk; omega)
            obtain rfl : k = 0 := by
              rcases hk2 with rfl | rfl | rfl
              · rfl
              · exact Bool.noConfusion (hmc.symm.trans (show Reg.mayComeB _ _ _ _ = false from by kernel_rfl))
              · exact Bool.noConfusion (hmc.symm.trans (show Reg.mayComeB _ _ _ _ = false from by kernel_rfl))
            clear hk2
            have k0 := cell_ints (show CW w (cfg W K R m0 m1 m2) w_ from hj).c 0 _ rfl
            have k1 := cell_ints (show CW w (cfg W K R m0 m1 m2) w_ from hj).c 1 _ rfl
            have k2 := cell_ints (show CW w (cfg W K R m0 m1 m2) w_ from hj).c 2 _ rfl
            have k3 := cell_ints (show CW w (cfg W K R m0 m1 m2) w_ from hj).c 3 _ rfl
            have k4 := cell_ints (show CW w (cfg W K R m0 m1 m2) w_ from hj).c 4 _ rfl
            have k5 := cell_ints (show CW w (cfg W K R m0 m1 m2) w_ from hj).c 5 _ rfl
            exact Reg.op_value rfl rfl (by simp only [List.getElem_toArray, List.getElem_cons_zero, List.getElem_cons_succ, execOp, e1]; go_simp) ⟨_, rfl, rfl, hj⟩
          · skip
            obtain rfl := Reg.oper_eq ho rfl
            have hk2 : k = 0 ∨ k = 1 ∨ k = 2 := by (simp only [List.length_cons, List.length_nil] at hk; omega)
            obtain rfl : k = 0 := by
              rcases hk2 with rfl | rfl | rfl
              · rfl
              · exact Bool.noConfusion (hmc.symm.trans (show Reg.mayComeB _ _ _ _ = false from by kernel_rfl))
              · exact Bool.noConfusion (hmc.symm.trans (show Reg.mayComeB _ _ _ _ = false from by kernel_rfl))
            clear hk2
            refine Reg.op_value (v := .map (some w_.heap.size)) (w' := w_.alloc (.map #[] 0)) rfl rfl rfl ⟨_, rfl, ⟨_, rfl⟩, CW.drawn hj ((Below.refl _ _).alloc (Nat.le_refl _) _)⟩
          · skip
            obtain rfl := Reg.oper_eq ho rfl
            have hk2 : k = 0 ∨ k = 1 ∨ k = 2 := by (simp only [List.length_cons, List.length_nil] at hk; omega)
            obtain rfl : k = 0 := by
              rcases hk2 with rfl | rfl | rfl
              · rfl
              · exact Bool.noConfusion (hmc.symm.trans (show Reg.mayComeB _ _ _ _ = false from by kernel_rfl))
              · exact Bool.noConfusion (hmc.symm.trans (show Reg.mayComeB _ _ _ _ = false from by kernel_rfl))
            clear hk2
            refine Reg.op_value (v := .chan (some w_.heap.size)) (w' := w_.alloc (.chan 64 #[] false 0 0 false)) rfl rfl (by simp only [List.getElem_toArray, List.getElem_cons_zero, List.getElem_cons_succ, execOp]; have hr6 := run64 w_; go_simp) ⟨_, rfl, ⟨_, rfl⟩, CW.drawn hj ((Below.refl _ _).alloc (Nat.le_refl _) _)⟩
          · skip
            obtain rfl := Reg.oper_eq ho rfl
            have e1 : a.eval (.tmp 1) = .pointer (some ⟨w.heap.size, 0, none⟩) := (hf.eval 1 (by kernel_rfl)).trans rfl
            have g1 := Reg.eval_getD e1
            exact Reg.op_value rfl rfl (by simp only [List.getElem_toArray, List.getElem_cons_zero, List.getElem_cons_succ, execOp, e1]; go_simp) ⟨_, rfl, rfl, hj⟩
          · skip
            obtain rfl := Reg.oper_eq ho rfl
            have e51 : a.eval (.tmp 51) = .pointer (some ⟨w.heap.size, 0, none⟩) := hkn.eval 3 51 (by kernel_rfl) (by kernel_rfl)
            have g51 := Reg.eval_getD e51
            have hk2 : k = 0 ∨ k = 1 ∨ k = 2 := by (simp only [List.length_cons, List.length_nil] at hk; omega)
            obtain rfl : k = 0 := by
              rcases hk2 with rfl | rfl | rfl
              · rfl
              · exact Bool.noConfusion (hmc.symm.trans (show Reg.mayComeB _ _ _ _ = false from by kernel_rfl))
              · exact Bool.noConfusion (hmc.symm.trans (show Reg.mayComeB _ _ _ _ = false from by kernel_rfl))
            clear hk2
            have k0 := cell_ints (show CW w (cfg W K R m0 m1 m2) w_ from hj).c 0 _ rfl
            exact Reg.op_value rfl rfl (by simp only [List.getElem_toArray, List.getElem_cons_zero, List.getElem_cons_succ, execOp, e51]; go_simp) ⟨_, rfl, rfl, hj⟩
          · skip
            obtain rfl := Reg.oper_eq ho rfl
            have e1 : a.eval (.tmp 1) = .pointer (some ⟨w.heap.size, 0, none⟩) := (hf.eval 1 (by kernel_rfl)).trans rfl
            have g1 := Reg.eval_getD e1
            exact Reg.op_value rfl rfl (by simp only [List.getElem_toArray, List.getElem_cons_zero, List.getElem_cons_succ, execOp, e1]; go_simp) ⟨_, rfl, rfl, hj⟩
          · skip
            obtain rfl := Reg.oper_eq ho rfl
            have e53 : a.eval (.tmp 53) = .pointer (some ⟨w.heap.size, 2, none⟩) := hkn.eval 5 53 (by kernel_rfl) (by kernel_rfl)
            have g53 := Reg.eval_getD e53
            have hk2 : k = 0 ∨ k = 1 ∨ k = 2 := by (simp only [List.length_cons, List.length_nil] at hk; omega)
            obtain rfl : k = 0 := by
              rcases hk2 with rfl | rfl | rfl
              · rfl
              · exact Bool.noConfusion (hmc.symm.trans (show Reg.mayComeB _ _ _ _ = false from by kernel_rfl))
              · exact Bool.noConfusion (hmc.symm.trans (show Reg.mayComeB _ _ _ _ = false from by kernel_rfl))
            clear hk2
            have k2 := cell_ints (show CW w (cfg W K R m0 m1 m2) w_ from hj).c 2 _ rfl
            exact Reg.op_value rfl rfl (by simp only [List.getElem_toArray, List.getElem_cons_zero, List.getElem_cons_succ, execOp, e53]; go_simp) ⟨_, rfl, rfl, hj⟩
          · skip
            obtain rfl := Reg.oper_eq ho rfl
            have e54 : a.eval (.tmp 54) = .int .i64 (R : Int) := hkn.eval 6 54 (by kernel_rfl) (by kernel_rfl)
            have g54 := Reg.eval_getD e54
            have hk2 : k = 0 ∨ k = 1 ∨ k = 2 := by (simp only [List.length_cons, List.length_nil] at hk; omega)
            obtain rfl : k = 0 := by
              rcases hk2 with rfl | rfl | rfl
              · rfl
              · exact Bool.noConfusion (hmc.symm.trans (show Reg.mayComeB _ _ _ _ = false from by kernel_rfl))
              · exact Bool.noConfusion (hmc.symm.trans (show Reg.mayComeB _ _ _ _ = false from by kernel_rfl))
            clear hk2
            refine Reg.op_call (f := 18) (args := #[.int .i64 (R : Int)]) (w' := w_) rfl rfl (by simp only [List.getElem_toArray, List.getElem_cons_zero, List.getElem_cons_succ, execOp, e54]; go_simp) ((HWD.out w_).mono ?_)
            rintro e W3 ⟨rfl, hb3⟩
            exact .inl ⟨_, rfl, _, rfl, rfl, CW.drawn hj hb3⟩
          · skip
            obtain rfl := Reg.oper_eq ho rfl
            have e52 : a.eval (.tmp 52) = .int .i64 (W : Int) := hkn.eval 4 52 (by kernel_rfl) (by kernel_rfl)
            have e55 : a.eval (.tmp 55) = .int .i64 (r2 : Int) := hkn.eval 7 55 (by kernel_rfl) (by kernel_rfl)
            have g52 := Reg.eval_getD e52
            have g55 := Reg.eval_getD e55
            have q3 := HQ3.out
            exact Reg.op_value rfl rfl (by simp only [List.getElem_toArray, List.getElem_cons_zero, List.getElem_cons_succ, execOp, e52, e55]; go_simp) ⟨_, rfl, rfl, hj⟩
          · skip
            obtain rfl := Reg.oper_eq ho rfl
            have e48 : a.eval (.tmp 48) = .agg #[.int .i64 (W : Int), .int .i64 (K : Int), .int .i64 (R : Int), .int .i64 (m0 : Int), .int .i64 (m1 : Int), .int .i64 (m2 : Int)] := hkn.eval 0 48 (by kernel_rfl) (by kernel_rfl)
            have e49 := hkn.eval 1 49 (by kernel_rfl) (by kernel_rfl)
            have e50 := hkn.eval 2 50 (by kernel_rfl) (by kernel_rfl)
            have e56 : a.eval (.tmp 56) = .int .i64 (cl : Int) := hkn.eval 8 56 (by kernel_rfl) (by kernel_rfl)
            have g48 := Reg.eval_getD e48
            have g56 := Reg.eval_getD e56
            obtain ⟨A1, e49⟩ := e49
            obtain ⟨A2, e50⟩ := e50
            have g49 := Reg.eval_getD e49
            have g50 := Reg.eval_getD e50
            exact Reg.op_value (v := .agg (machC W K R m0 m1 m2 (.pointer none) (.pointer none) (.pointer none) (.slice none 0 0) (cl : Int) (.slice none 0 0) (.map A1) (.chan A2))) (w' := w_) rfl rfl (by simp only [List.getElem_toArray, List.getElem_cons_zero, List.getElem_cons_succ, execOp, e48, e49, e50, e56, e49, e50]; go_simp) ⟨_, rfl, ⟨_, _, rfl⟩, hj⟩
        case act =>
          intro k o a w_ hk ho hf hst hkn hj
          obtain rfl | rfl : k = 0 ∨ k = 1 := by simp only [List.length_cons, List.length_nil] at hk; omega
          · skip
            obtain rfl := Reg.oper_eq ho rfl
            have e57 := hkn.eval 9 57 (by kernel_rfl) (by kernel_rfl)
            obtain ⟨A1, A2, e57⟩ := e57
            have g57 := Reg.eval_getD e57
            exact Reg.op_value (v := .pointer (some ⟨w_.heap.size, 0, none⟩)) (w' := w_.alloc (.cells (machC W K R m0 m1 m2 (.pointer none) (.pointer none) (.pointer none) (.slice none 0 0) (cl : Int) (.slice none 0 0) (.map A1) (.chan A2)) 66)) rfl rfl (by simp only [List.getElem_toArray, List.getElem_cons_zero, List.getElem_cons_succ, execOp, e57]; go_simp) ⟨_, rfl, trivial, _, Reg.val_put_in hf (by kernel_rfl), MS.start hj A1 A2⟩
          · skip
            obtain rfl := Reg.oper_eq ho rfl
            obtain ⟨gm, e58, hM⟩ := hj
            have e58' : a.eval (.tmp 58) = .pointer (some ⟨gm, 0, none⟩) := (Reg.eval_val a 58).trans e58
            have g58 := Reg.eval_getD e58'
            exact Reg.op_value (v := .pointer (some ⟨gm, 0, none⟩)) (w' := w_) rfl rfl (by simp only [List.getElem_toArray, List.getElem_cons_zero, List.getElem_cons_succ, execOp, e58']; go_simp) ⟨_, rfl, trivial, gm, Reg.val_put_in hf (by kernel_rfl), hM⟩
        case fin =>
          intro a w_ hf hkn hj
          have e48 : Reg.val a 48 = _ := hkn 0 48 (by show _ < _; decide) (by kernel_rfl)
          have e51 : Reg.val a 51 = _ := hkn 3 51 (by show _ < _; decide) (by kernel_rfl)
          have e52 : Reg.val a 52 = _ := hkn 4 52 (by show _ < _; decide) (by kernel_rfl)
          have e53 : Reg.val a 53 = _ := hkn 5 53 (by show _ < _; decide) (by kernel_rfl)
          have e54 : Reg.val a 54 = _ := hkn 6 54 (by show _ < _; decide) (by kernel_rfl)
          have e55 : Reg.val a 55 = _ := hkn 7 55 (by show _ < _; decide) (by kernel_rfl)
          have e56 : Reg.val a 56 = _ := hkn 8 56 (by show _ < _; decide) (by kernel_rfl)
          rw [Reg.frm_fold hf [48, 49, 50, 51, 52, 53, 54, 55, 56, 57, 58, 8] (by kernel_rfl) (by kernel_rfl)]
          simp only [List.foldl_cons, List.foldl_nil, Act.put, List.setIfInBounds_toArray, List.set_cons_zero, List.set_cons_succ, e48, e51, e52, e53, e54, e55, e56]
          generalize Reg.val a 49 = v49_ at *
          generalize Reg.val a 50 = v50_ at *
          generalize Reg.val a 57 = v57_ at *
          generalize Reg.val a 58 = v58_ at *
          generalize Reg.val a 8 = v8_ at *
          clear hkn hf e48 e51 e52 e53 e54 e55 e56
          obtain ⟨gm, rfl, hM⟩ := hj
          have HM0 := Lib.hid hM
          clear hM
          go_wp2_with fail
          refine (mnew_any s0 HS0.out.2 _).mono ?_
          rintro _ w4 ⟨b, mw, ml, rfl, hm4, hb4⟩
          have HM1 := Lib.hid (HM0.out.drawn hb4)
          obtain ⟨B, hBv⟩ : ∃ x : Nat, x = w_.heap.size := ⟨_, rfl⟩
          have HB : Hid (w.heap.size ≤ B) := by show w.heap.size ≤ B; rw [hBv]; exact HM0.out.below.size
          rw [← hBv] at hm4
          have HM4 := Lib.hid hm4
          clear hb4 hm4 hBv HM0
          have kf := HM1.out.fld.1
          have qf := HM1.out.fld.2.2.2.2.2.2 6
          go_wp2_with fail
          have HZ : Hid (MZ w W K R m0 m1 m2 cl gm B b mw ml s0 (.slice none 0 0) (.slice none 0 0) (w4.setCell ⟨gm, 6, none⟩ (.pointer (some ⟨b, 0, none⟩)))) := by
            obtain ⟨h1, h2⟩ := HM1.out.set (j := 6) (u := .pointer (some ⟨b, 0, none⟩)) (pm' := .pointer (some ⟨b, 0, none⟩)) (dv' := .slice none 0 0) (wv' := .slice none 0 0) (fun pv ev mv cv => ⟨_, _, _, _, rfl⟩)
            exact ⟨h1, HM4.out.keep h2 (by decide) (by decide) (by decide)⟩
          clear kf qf
          refine Reg.wp_region_phase (by kernel_rfl) [] (fun i => match i with | 0 => fun v => v = .pointer (some ⟨gm, 0, none⟩) | 1 => fun v => v = .pointer (some ⟨gm, 0, none⟩) | 2 => fun v => v = .pointer (some ⟨gm, 0, none⟩) | 3 => fun v => v = .pointer (some ⟨gm, 6, none⟩) | 4 => fun v => v = .pointer (some ⟨b, 0, none⟩) | 5 => fun v => v = .int .i64 (own : Int) | 6 => fun v => v = .agg #[.int .i64 (W : Int), .int .i64 (K : Int), .int .i64 (R : Int), .int .i64 (m0 : Int), .int .i64 (m1 : Int), .int .i64 (m2 : Int)] | 7 => fun v => v = .agg #[.int .i64 (W : Int), .int .i64 2, .int .i64 3, .int .i64 5, .int .i64 (m0 : Int), .int .i64 (m1 : Int), .int .i64 (m2 : Int)] | 8 => fun v => ∃ b9 : Nat, v = .tuple #[.pointer (some ⟨b9, 0, none⟩), .int .i64 0] | 9 => fun v => ∃ b9 : Nat, v = .tuple #[.pointer (some ⟨b9, 0, none⟩), .int .i64 0] | 10 => fun v => ∃ b9 : Nat, v = .pointer (some ⟨b9, 0, none⟩) | 11 => fun v => v = .int .i64 0 | 12 => fun v => v = .pointer (some ⟨gm, 0, none⟩) | 13 => fun v => v = .pointer (some ⟨gm, 7, none⟩) | _ => fun _ => True) (fun k f X => MZ w W K R m0 m1 m2 cl gm B b mw ml s0 (.slice none 0 0) (.slice none 0 0) X) (by kernel_rfl) (by kernel_rfl) (by decide) (by decide) ?hJ ?h0 ?pure ?act ?fin
          case hJ => (intro k f f' X h hj; exact hj)
          case h0 => exact (show MZ w W K R m0 m1 m2 cl gm B b mw ml s0 (.slice none 0 0) (.slice none 0 0) (World.drew _) from HZ.out.drawn (pw_below_drewN (Below.refl _ _) 1))
          case pure =>
            intro i o k a w_ ho hE hk hmc hf hst hkn hj
            have hi : i < 15 := (Array.getElem?_eq_some_iff.1 ho).1
            obtain rfl | rfl | rfl | rfl | rfl | rfl | rfl | rfl | rfl | rfl | rfl | rfl | rfl | rfl | rfl : i = 0 ∨ i = 1 ∨ i = 2 ∨ i = 3 ∨ i = 4 ∨ i = 5 ∨ i = 6 ∨ i = 7 ∨ i = 8 ∨ i = 9 ∨ i = 10 ∨ i = 11 ∨ i = 12 ∨ i = 13 ∨ i = 14 := by
              simp only [List.mem_cons, List.not_mem_nil, or_false, not_or] at hE
              omega
            · skip
              obtain rfl := Reg.oper_eq ho rfl
              have e8 : a.eval (.tmp 8) = .pointer (some ⟨gm, 0, none⟩) := (hf.eval 8 (by kernel_rfl)).trans rfl
              have g8 := Reg.eval_getD e8
              exact Reg.op_value rfl rfl (by simp only [List.getElem_toArray, List.getElem_cons_zero, List.getElem_cons_succ, execOp, e8]; go_simp) ⟨_, rfl, rfl, hj⟩
            · skip
              obtain rfl := Reg.oper_eq ho rfl
              have e8 : a.eval (.tmp 8) = .pointer (some ⟨gm, 0, none⟩) := (hf.eval 8 (by kernel_rfl)).trans rfl
              have g8 := Reg.eval_getD e8
              exact Reg.op_value rfl rfl (by simp only [List.getElem_toArray, List.getElem_cons_zero, List.getElem_cons_succ, execOp, e8]; go_simp) ⟨_, rfl, rfl, hj⟩
            · skip
              obtain rfl := Reg.oper_eq ho rfl
              have e69 : a.eval (.tmp 69) = .pointer (some ⟨gm, 0, none⟩) := hkn.eval 1 69 (by kernel_rfl) (by kernel_rfl)
              have g69 := Reg.eval_getD e69
              exact Reg.op_value rfl rfl (by simp only [List.getElem_toArray, List.getElem_cons_zero, List.getElem_cons_succ, execOp, e69]; go_simp) ⟨_, rfl, rfl, hj⟩
            · skip
              obtain rfl := Reg.oper_eq ho rfl
              have e70 : a.eval (.tmp 70) = .pointer (some ⟨gm, 0, none⟩) := hkn.eval 2 70 (by kernel_rfl) (by kernel_rfl)
              have g70 := Reg.eval_getD e70
              exact Reg.op_value rfl rfl (by simp only [List.getElem_toArray, List.getElem_cons_zero, List.getElem_cons_succ, execOp, e70]; go_simp) ⟨_, rfl, rfl, hj⟩
            · skip
              obtain rfl := Reg.oper_eq ho rfl
              have e71 : a.eval (.tmp 71) = .pointer (some ⟨gm, 6, none⟩) := hkn.eval 3 71 (by kernel_rfl) (by kernel_rfl)
              have g71 := Reg.eval_getD e71
              have kf := (show MZ w W K R m0 m1 m2 cl gm B b mw ml s0 (.slice none 0 0) (.slice none 0 0) w_ from hj).s.fld.1
              exact Reg.op_value rfl rfl (by simp only [List.getElem_toArray, List.getElem_cons_zero, List.getElem_cons_succ, execOp, e71]; go_simp) ⟨_, rfl, rfl, hj⟩
            · skip
              obtain rfl := Reg.oper_eq ho rfl
              have e4 : a.eval (.tmp 4) = .int .i64 (own : Int) := (hf.eval 4 (by kernel_rfl)).trans rfl
              have g4 := Reg.eval_getD e4
              exact Reg.op_value rfl rfl (by simp only [List.getElem_toArray, List.getElem_cons_zero, List.getElem_cons_succ, execOp, e4]; go_simp) ⟨_, rfl, rfl, hj⟩
            · skip
              obtain rfl := Reg.oper_eq ho rfl
              have e1 : a.eval (.tmp 1) = .pointer (some ⟨w.heap.size, 0, none⟩) := (hf.eval 1 (by kernel_rfl)).trans rfl
              have g1 := Reg.eval_getD e1
              have k0 := cell_ints (show MZ w W K R m0 m1 m2 cl gm B b mw ml s0 (.slice none 0 0) (.slice none 0 0) w_ from hj).s.c 0 _ rfl
              have k1 := cell_ints (show MZ w W K R m0 m1 m2 cl gm B b mw ml s0 (.slice none 0 0) (.slice none 0 0) w_ from hj).s.c 1 _ rfl
              have k2 := cell_ints (show MZ w W K R m0 m1 m2 cl gm B b mw ml s0 (.slice none 0 0) (.slice none 0 0) w_ from hj).s.c 2 _ rfl
              have k3 := cell_ints (show MZ w W K R m0 m1 m2 cl gm B b mw ml s0 (.slice none 0 0) (.slice none 0 0) w_ from hj).s.c 3 _ rfl
              have k4 := cell_ints (show MZ w W K R m0 m1 m2 cl gm B b mw ml s0 (.slice none 0 0) (.slice none 0 0) w_ from hj).s.c 4 _ rfl
              have k5 := cell_ints (show MZ w W K R m0 m1 m2 cl gm B b mw ml s0 (.slice none 0 0) (.slice none 0 0) w_ from hj).s.c 5 _ rfl
              exact Reg.op_value rfl rfl (by simp only [List.getElem_toArray, List.getElem_cons_zero, List.getElem_cons_succ, execOp, e1]; go_simp) ⟨_, rfl, rfl, hj⟩
            · skip
              obtain rfl := Reg.oper_eq ho rfl
              have e74 : a.eval (.tmp 74) = .agg #[.int .i64 (W : Int), .int .i64 (K : Int), .int .i64 (R : Int), .int .i64 (m0 : Int), .int .i64 (m1 : Int), .int .i64 (m2 : Int)] := hkn.eval 6 74 (by kernel_rfl) (by kernel_rfl)
              have g74 := Reg.eval_getD e74
              refine Reg.op_call (f := 19) (args := #[.agg #[.int .i64 (W : Int), .int .i64 (K : Int), .int .i64 (R : Int), .int .i64 (m0 : Int), .int .i64 (m1 : Int), .int .i64 (m2 : Int)]]) (w' := w_) rfl rfl (by simp only [List.getElem_toArray, List.getElem_cons_zero, List.getElem_cons_succ, execOp, e74]; go_simp) ((HSH.out w_).mono ?_)
              rintro e W3 ⟨rfl, hb3⟩
              exact .inl ⟨_, rfl, _, rfl, rfl, MZ.drawn hj hb3⟩
            · skip
              obtain rfl := Reg.oper_eq ho rfl
              have e72 : a.eval (.tmp 72) = .pointer (some ⟨b, 0, none⟩) := hkn.eval 4 72 (by kernel_rfl) (by kernel_rfl)
              have e73 : a.eval (.tmp 73) = .int .i64 (own : Int) := hkn.eval 5 73 (by kernel_rfl) (by kernel_rfl)
              have e75 : a.eval (.tmp 75) = .agg #[.int .i64 (W : Int), .int .i64 2, .int .i64 3, .int .i64 5, .int .i64 (m0 : Int), .int .i64 (m1 : Int), .int .i64 (m2 : Int)] := hkn.eval 7 75 (by kernel_rfl) (by kernel_rfl)
              have g72 := Reg.eval_getD e72
              have g73 := Reg.eval_getD e73
              have g75 := Reg.eval_getD e75
              refine Reg.op_call (f := 21) (args := #[.pointer (some ⟨b, 0, none⟩), .int .i64 (own : Int), .agg #[.int .i64 (W : Int), .int .i64 2, .int .i64 3, .int .i64 5, .int .i64 (m0 : Int), .int .i64 (m1 : Int), .int .i64 (m2 : Int)]]) (w' := w_) rfl rfl (by simp only [List.getElem_toArray, List.getElem_cons_zero, List.getElem_cons_succ, execOp, e72, e73, e75]; go_simp) ((pnew_any HS0.out.2 own W m0 m1 m2 HWW.out.1 HWW.out.2 HMM.out.1 HMM.out.2.1 HMM.out.2.2 (Nat.le_of_eq (HSUM.out.trans HS0.out.1.symm)) w_ (MZ.m hj)).mono ?_)
              rintro e W3 ⟨b9, rfl, hb3⟩
              exact .inl ⟨_, rfl, _, rfl, ⟨_, rfl⟩, MZ.drawn hj hb3⟩
            · skip
              obtain rfl := Reg.oper_eq ho rfl
              have e76 := hkn.eval 8 76 (by kernel_rfl) (by kernel_rfl)
              obtain ⟨b9, e76⟩ := e76
              have g76 := Reg.eval_getD e76
              exact Reg.op_value (v := .tuple #[.pointer (some ⟨b9, 0, none⟩), .int .i64 0]) rfl rfl (by simp only [List.getElem_toArray, List.getElem_cons_zero, List.getElem_cons_succ, execOp, e76]; go_simp) ⟨_, rfl, ⟨_, rfl⟩, hj⟩
            · skip
              obtain rfl := Reg.oper_eq ho rfl
              have e67 := hkn.eval 9 67 (by kernel_rfl) (by kernel_rfl)
              obtain ⟨b9, e67⟩ := e67
              have g67 := Reg.eval_getD e67
              exact Reg.op_value (v := .pointer (some ⟨b9, 0, none⟩)) rfl rfl (by simp only [List.getElem_toArray, List.getElem_cons_zero, List.getElem_cons_succ, execOp, e67]; go_simp) ⟨_, rfl, ⟨_, rfl⟩, hj⟩
            · skip
              obtain rfl := Reg.oper_eq ho rfl
              have e67 := hkn.eval 9 67 (by kernel_rfl) (by kernel_rfl)
              obtain ⟨b9, e67⟩ := e67
              have g67 := Reg.eval_getD e67
              exact Reg.op_value (v := .int .i64 0) rfl rfl (by simp only [List.getElem_toArray, List.getElem_cons_zero, List.getElem_cons_succ, execOp, e67]; go_simp) ⟨_, rfl, rfl, hj⟩
            · skip
              obtain rfl := Reg.oper_eq ho rfl
              have e68 : a.eval (.tmp 68) = .pointer (some ⟨gm, 0, none⟩) := hkn.eval 0 68 (by kernel_rfl) (by kernel_rfl)
              have g68 := Reg.eval_getD e68
              exact Reg.op_value rfl rfl (by simp only [List.getElem_toArray, List.getElem_cons_zero, List.getElem_cons_succ, execOp, e68]; go_simp) ⟨_, rfl, rfl, hj⟩
            · skip
              obtain rfl := Reg.oper_eq ho rfl
              have e79 : a.eval (.tmp 79) = .pointer (some ⟨gm, 0, none⟩) := hkn.eval 12 79 (by kernel_rfl) (by kernel_rfl)
              have g79 := Reg.eval_getD e79
              exact Reg.op_value rfl rfl (by simp only [List.getElem_toArray, List.getElem_cons_zero, List.getElem_cons_succ, execOp, e79]; go_simp) ⟨_, rfl, rfl, hj⟩
            · skip
              obtain rfl := Reg.oper_eq ho rfl
              have e80 : a.eval (.tmp 80) = .pointer (some ⟨gm, 7, none⟩) := hkn.eval 13 80 (by kernel_rfl) (by kernel_rfl)
              have e77 := hkn.eval 10 77 (by kernel_rfl) (by kernel_rfl)
              have g80 := Reg.eval_getD e80
              obtain ⟨b9, e77⟩ := e77
              have g77 := Reg.eval_getD e77
              have hz := (show MZ w W K R m0 m1 m2 cl gm B b mw ml s0 (.slice none 0 0) (.slice none 0 0) w_ from hj)
              obtain ⟨u9, kf⟩ := hz.s.fld.2.2.2.2.1
              have qf := hz.s.fld.2.2.2.2.2.2 7
              exact Reg.op_unit (w' := w_.setCell ⟨gm, 7, none⟩ (.pointer (some ⟨b9, 0, none⟩))) rfl rfl (by simp only [List.getElem_toArray, List.getElem_cons_zero, List.getElem_cons_succ, execOp, e77, e80, e77]; go_simp) ⟨_, rfl, trivial, (hz.set (fun pv ev mv cv => ⟨_, _, _, _, rfl⟩)).1⟩
          case act =>
            intro k o a w_ hk ho hf hst hkn hj
            simp at hk
          case fin =>
            intro a w_ hf hkn hj
            have e68 : Reg.val a 68 = _ := hkn 0 68 (by show _ < _; decide) (by kernel_rfl)
            have e69 : Reg.val a 69 = _ := hkn 1 69 (by show _ < _; decide) (by kernel_rfl)
            have e70 : Reg.val a 70 = _ := hkn 2 70 (by show _ < _; decide) (by kernel_rfl)
            have e71 : Reg.val a 71 = _ := hkn 3 71 (by show _ < _; decide) (by kernel_rfl)
            have e72 : Reg.val a 72 = _ := hkn 4 72 (by show _ < _; decide) (by kernel_rfl)
            have e73 : Reg.val a 73 = _ := hkn 5 73 (by show _ < _; decide) (by kernel_rfl)
            have e74 : Reg.val a 74 = _ := hkn 6 74 (by show _ < _; decide) (by kernel_rfl)
            have e75 : Reg.val a 75 = _ := hkn 7 75 (by show _ < _; decide) (by kernel_rfl)
            have e78 : Reg.val a 78 = _ := hkn 11 78 (by show _ < _; decide) (by kernel_rfl)
            have e79 : Reg.val a 79 = _ := hkn 12 79 (by show _ < _; decide) (by kernel_rfl)
            have e80 : Reg.val a 80 = _ := hkn 13 80 (by show _ < _; decide) (by kernel_rfl)
            rw [Reg.frm_fold hf [68, 69, 70, 71, 72, 73, 74, 75, 76, 67, 77, 78, 79, 80] (by kernel_rfl) (by kernel_rfl)]
            simp only [List.foldl_cons, List.foldl_nil, Act.put, List.setIfInBounds_toArray, List.set_cons_zero, List.set_cons_succ, e68, e69, e70, e71, e72, e73, e74, e75, e78, e79, e80]
            generalize Reg.val a 76 = v76_ at *
            generalize Reg.val a 67 = v67_ at *
            generalize Reg.val a 77 = v77_ at *
            clear hkn hf e68 e69 e70 e71 e72 e73 e74 e75 e78 e79 e80
            have HZ1 : Hid (MZ w W K R m0 m1 m2 cl gm B b mw ml s0 (.slice none 0 0) (.slice none 0 0) w_) := hj
            clear hj
            have k0 := cell_ints HZ1.out.s.c 0 _ rfl
            go_wp2_with fail
            refine (enew_any W HWW.out.1 HWW.out.2 _).mono ?_
            rintro _ w5 ⟨b5, rfl, hb5⟩
            have HZ2 := Lib.hid (HZ1.out.drawn hb5)
            clear k0 hb5
            obtain ⟨u8, kf⟩ := HZ2.out.s.fld.2.2.2.2.2.1
            have qf := HZ2.out.s.fld.2.2.2.2.2.2 8
            have HZ3 := Lib.hid (HZ2.out.set (j := 8) (u := .pointer (some ⟨b5, 0, none⟩)) (dv' := .slice none 0 0) (wv' := .slice none 0 0) (fun pv ev mv cv => ⟨_, _, _, _, rfl⟩)).1
            have k0 := cell_ints HZ3.out.s.c 0 _ rfl
            go_wp2_with fail
            clear k0 kf qf
            go_loopg [92] W (fun d c X => ∃ (wi : Nat) (dv wv : Value), wi + d = W ∧ c = .int .i64 wi ∧ Hid (MZ w W K R m0 m1 m2 cl gm B b mw ml s0 dv wv X ∧ Rr 74 3 w.heap.size X dv wi ∧ Rr 77 1 w.heap.size X wv wi))
            case atStart => exact ⟨0, _, _, by omega, rfl, HZ3.out, Rr.nil _ _ _ _, Rr.nil _ _ _ _⟩
            case round =>
              clear HZ HZ1 HZ2 HZ3
              obtain ⟨wi, dv, wv, hcd, rfl, HZ⟩ := hrel
              by_cases hq : wi < W
              · have hw1 : (wi : Int) < (W : Int) := by omega
                have hw2 : decide ((wi : Int) < (W : Int)) = true := decide_eq_true hw1
                have hww : wrap64 ((wi : Int) + 1) = ((wi + 1 : Nat) : Int) := by have := HWW.out; unfold wrap64; omega
                obtain ⟨pp, hpp⟩ : ∃ x : Nat, x = wi * r2 := ⟨_, rfl⟩
                have hpb : pp + (R + 2) ≤ s0 := by
                  have h1 : (wi + 1) * r2 ≤ W * r2 := Nat.mul_le_mul_right _ hq
                  have h2 := HSUM.out
                  have h3 := HS0.out.1
                  have h4 := HOC.out
                  have h5 := HCL.out
                  have h6 := HR2.out
                  rw [← h6] at h5
                  rw [Nat.add_mul, Nat.one_mul, ← hpp, ← h5, h6] at h1
                  omega
                have HPN := Lib.hid hpb
                have HPP : Hid (IntKind.i64.wrap ((wi : Int) * (r2 : Int)) = (pp : Int)) := by
                  show IntKind.i64.wrap ((wi : Int) * (r2 : Int)) = (pp : Int)
                  have := HS0.out.2
                  rw [show (wi : Int) * (r2 : Int) = (pp : Int) from by rw [hpp]; simp, IntKind.wrap_i64]
                  omega
                have HWI := Lib.hid hq
                have HWD2 := Lib.hid hcd
                have HCN : Hid (wi ≤ 64) := by have := HWW.out; show wi ≤ 64; omega
                clear hcd hq hpp hpb
                go_wp2_with fail
                refine Reg.wp_region_phase (by kernel_rfl) [17, 18] (fun i => match i with | 0 => fun v => v = .pointer (some ⟨gm, 0, none⟩) | 1 => fun v => v = .pointer (some ⟨gm, 0, none⟩) | 2 => fun v => v = .pointer (some ⟨gm, 6, none⟩) | 3 => fun v => v = .pointer (some ⟨b, 0, none⟩) | 4 => fun v => v = .pointer (some ⟨w.heap.size, 1, none⟩) | 5 => fun v => v = .int .i64 (K : Int) | 6 => fun v => v = .int .i64 (wi : Int) | 7 => fun v => v = .pointer (some ⟨w.heap.size, 2, none⟩) | 8 => fun v => v = .int .i64 (R : Int) | 9 => fun v => v = .int .i64 (r2 : Int) | 10 => fun v => v = .int .i64 (pp : Int) | 11 => fun v => v = .pointer (some ⟨w.heap.size, 2, none⟩) | 12 => fun v => v = .int .i64 (R : Int) | 13 => fun v => ∃ x y z er : Int, v = .tuple #[.agg #[.int .i64 x, .int .i64 y, .int .i64 z], .int .i64 er] | 14 => fun v => ∃ x y z er : Int, v = .tuple #[.agg #[.int .i64 x, .int .i64 y, .int .i64 z], .int .i64 er] | 15 => fun v => ∃ x y z : Int, v = .agg #[.int .i64 x, .int .i64 y, .int .i64 z] | 16 => fun v => ∃ er : Int, v = .int .i64 er | _ => fun _ => True) (fun k f X => match k with | 0 => MZ w W K R m0 m1 m2 cl gm B b mw ml s0 dv wv X ∧ Rr 74 3 w.heap.size X dv wi ∧ Rr 77 1 w.heap.size X wv wi | 1 => (∃ (gd : Nat) (X0 : World), f 10 = .pointer (some ⟨gd, 0, none⟩) ∧ (MZ w W K R m0 m1 m2 cl gm B b mw ml s0 dv wv X0 ∧ Rr 74 3 w.heap.size X0 dv wi ∧ Rr 77 1 w.heap.size X0 wv wi) ∧ X0.heap.size ≤ gd ∧ Kp [2, 4] X0 X ∧ X.heap[gd]? = some (.cells (ints [0, 0, 0]) 74 (0, 0)) ∧ MZ w W K R m0 m1 m2 cl gm B b mw ml s0 dv wv X) | _ => (∃ (gd : Nat) (x y z : Int), f 10 = .pointer (some ⟨gd, 0, none⟩) ∧ X.heap[gd]? = some (.cells (ints [x, y, z]) 74 (0, 0)) ∧ MZ w W K R m0 m1 m2 cl gm B b mw ml s0 dv wv X ∧ Rr 74 3 w.heap.size X dv wi ∧ Rr 77 1 w.heap.size X wv wi)) (by kernel_rfl) (by kernel_rfl) (by decide) (by decide) ?hJ ?h0 ?pure ?act ?fin
                case hJ => (intro k f f' X h hj; match k, hj with
    | 0, hj => exact hj
    | 1, hj => (obtain ⟨gd, X0, h1, h2⟩ := hj; exact ⟨gd, X0, (h 0 (by omega) (by decide) 10 (by kernel_rfl)).symm.trans h1, h2⟩)
    | k + 2, hj => (obtain ⟨gd, x, y, z, h1, h2⟩ := hj; exact ⟨gd, x, y, z, (h 0 (by omega) (by decide) 10 (by kernel_rfl)).symm.trans h1, h2⟩))
                case h0 => exact (show MZ w W K R m0 m1 m2 cl gm B b mw ml s0 dv wv (World.drew _) ∧ Rr 74 3 w.heap.size (World.drew _) dv wi ∧ Rr 77 1 w.heap.size (World.drew _) wv wi from ⟨HZ.out.1.drawn (pw_below_drewN (Below.refl _ _) 1), HZ.out.2.1.below (pw_below_drewN (Below.refl _ _) 1), HZ.out.2.2.below (pw_below_drewN (Below.refl _ _) 1)⟩)
                case pure =>
                  intro i o k a w_ ho hE hk hmc hf hst hkn hj
                  have hi : i < 20 := (Array.getElem?_eq_some_iff.1 ho).1
                  obtain rfl | rfl | rfl | rfl | rfl | rfl | rfl | rfl | rfl | rfl | rfl | rfl | rfl | rfl | rfl | rfl | rfl | rfl : i = 0 ∨ i = 1 ∨ i = 2 ∨ i = 3 ∨ i = 4 ∨ i = 5 ∨ i = 6 ∨ i = 7 ∨ i = 8 ∨ i = 9 ∨ i = 10 ∨ i = 11 ∨ i = 12 ∨ i = 13 ∨ i = 14 ∨ i = 15 ∨ i = 16 ∨ i = 19 := by
                    simp only [List.mem_cons, List.not_mem_nil, or_false, not_or] at hE
                    omega
                  · skip
                    obtain rfl := Reg.oper_eq ho rfl
                    have e8 : a.eval (.tmp 8) = .pointer (some ⟨gm, 0, none⟩) := (hf.eval 8 (by kernel_rfl)).trans rfl
                    have g8 := Reg.eval_getD e8
                    exact Reg.op_value rfl rfl (by simp only [List.getElem_toArray, List.getElem_cons_zero, List.getElem_cons_succ, execOp, e8]; go_simp) ⟨_, rfl, rfl, hj⟩
                  · skip
                    obtain rfl := Reg.oper_eq ho rfl
                    have e96 : a.eval (.tmp 96) = .pointer (some ⟨gm, 0, none⟩) := hkn.eval 0 96 (by kernel_rfl) (by kernel_rfl)
                    have g96 := Reg.eval_getD e96
                    exact Reg.op_value rfl rfl (by simp only [List.getElem_toArray, List.getElem_cons_zero, List.getElem_cons_succ, execOp, e96]; go_simp) ⟨_, rfl, rfl, hj⟩
                  · skip
                    obtain rfl := Reg.oper_eq ho rfl
                    have e97 : a.eval (.tmp 97) = .pointer (some ⟨gm, 0, none⟩) := hkn.eval 1 97 (by kernel_rfl) (by kernel_rfl)
                    have g97 := Reg.eval_getD e97
                    exact Reg.op_value rfl rfl (by simp only [List.getElem_toArray, List.getElem_cons_zero, List.getElem_cons_succ, execOp, e97]; go_simp) ⟨_, rfl, rfl, hj⟩
                  · skip
                    obtain rfl := Reg.oper_eq ho rfl
                    have e98 : a.eval (.tmp 98) = .pointer (some ⟨gm, 6, none⟩) := hkn.eval 2 98 (by kernel_rfl) (by kernel_rfl)
                    have g98 := Reg.eval_getD e98
                    have hk2 : k = 0 ∨ k = 1 ∨ k = 2 := by (simp only [List.length_cons, List.length_nil] at hk; omega)
                    have hz : MZ w W K R m0 m1 m2 cl gm B b mw ml s0 dv wv w_ := by
                      rcases hk2 with rfl | rfl | rfl
                      · exact hj.1
                      · obtain ⟨_, _, _, _, _, _, _, h⟩ := hj
                        exact h
                      · obtain ⟨_, _, _, _, _, _, h, _⟩ := hj
                        exact h
                    clear hk2
                    have kf := hz.s.fld.1
                    exact Reg.op_value rfl rfl (by simp only [List.getElem_toArray, List.getElem_cons_zero, List.getElem_cons_succ, execOp, e98]; go_simp) ⟨_, rfl, rfl, hj⟩
                  · skip
                    obtain rfl := Reg.oper_eq ho rfl
                    have e1 : a.eval (.tmp 1) = .pointer (some ⟨w.heap.size, 0, none⟩) := (hf.eval 1 (by kernel_rfl)).trans rfl
                    have g1 := Reg.eval_getD e1
                    exact Reg.op_value rfl rfl (by simp only [List.getElem_toArray, List.getElem_cons_zero, List.getElem_cons_succ, execOp, e1]; go_simp) ⟨_, rfl, rfl, hj⟩
                  · skip
                    obtain rfl := Reg.oper_eq ho rfl
                    have e100 : a.eval (.tmp 100) = .pointer (some ⟨w.heap.size, 1, none⟩) := hkn.eval 4 100 (by kernel_rfl) (by kernel_rfl)
                    have g100 := Reg.eval_getD e100
                    have hk2 : k = 0 ∨ k = 1 ∨ k = 2 := by (simp only [List.length_cons, List.length_nil] at hk; omega)
                    have hz : MZ w W K R m0 m1 m2 cl gm B b mw ml s0 dv wv w_ := by
                      rcases hk2 with rfl | rfl | rfl
                      · exact hj.1
                      · obtain ⟨_, _, _, _, _, _, _, h⟩ := hj
                        exact h
                      · obtain ⟨_, _, _, _, _, _, h, _⟩ := hj
                        exact h
                    clear hk2
                    have k1 := cell_ints hz.s.c 1 _ rfl
                    exact Reg.op_value rfl rfl (by simp only [List.getElem_toArray, List.getElem_cons_zero, List.getElem_cons_succ, execOp, e100]; go_simp) ⟨_, rfl, rfl, hj⟩
                  · skip
                    obtain rfl := Reg.oper_eq ho rfl
                    have e9 : a.eval (.tmp 9) = .int .i64 (wi : Int) := (hf.eval 9 (by kernel_rfl)).trans rfl
                    have g9 := Reg.eval_getD e9
                    exact Reg.op_value rfl rfl (by simp only [List.getElem_toArray, List.getElem_cons_zero, List.getElem_cons_succ, execOp, e9]; go_simp) ⟨_, rfl, rfl, hj⟩
                  · skip
                    obtain rfl := Reg.oper_eq ho rfl
                    have e1 : a.eval (.tmp 1) = .pointer (some ⟨w.heap.size, 0, none⟩) := (hf.eval 1 (by kernel_rfl)).trans rfl
                    have g1 := Reg.eval_getD e1
                    exact Reg.op_value rfl rfl (by simp only [List.getElem_toArray, List.getElem_cons_zero, List.getElem_cons_succ, execOp, e1]; go_simp) ⟨_, rfl, rfl, hj⟩
                  · skip
                    obtain rfl := Reg.oper_eq ho rfl
                    have e103 : a.eval (.tmp 103) = .pointer (some ⟨w.heap.size, 2, none⟩) := hkn.eval 7 103 (by kernel_rfl) (by kernel_rfl)
                    have g103 := Reg.eval_getD e103
                    have hk2 : k = 0 ∨ k = 1 ∨ k = 2 := by (simp only [List.length_cons, List.length_nil] at hk; omega)
                    have hz : MZ w W K R m0 m1 m2 cl gm B b mw ml s0 dv wv w_ := by
                      rcases hk2 with rfl | rfl | rfl
                      · exact hj.1
                      · obtain ⟨_, _, _, _, _, _, _, h⟩ := hj
                        exact h
                      · obtain ⟨_, _, _, _, _, _, h, _⟩ := hj
                        exact h
                    clear hk2
                    have k2 := cell_ints hz.s.c 2 _ rfl
                    exact Reg.op_value rfl rfl (by simp only [List.getElem_toArray, List.getElem_cons_zero, List.getElem_cons_succ, execOp, e103]; go_simp) ⟨_, rfl, rfl, hj⟩
                  · skip
                    obtain rfl := Reg.oper_eq ho rfl
                    have e104 : a.eval (.tmp 104) = .int .i64 (R : Int) := hkn.eval 8 104 (by kernel_rfl) (by kernel_rfl)
                    have g104 := Reg.eval_getD e104
                    refine Reg.op_call (f := 18) (args := #[.int .i64 (R : Int)]) (w' := w_) rfl rfl (by simp only [List.getElem_toArray, List.getElem_cons_zero, List.getElem_cons_succ, execOp, e104]; go_simp) ((HWD.out w_).mono ?_)
                    rintro e W3 ⟨rfl, hb3⟩
                    have hk2 : k = 0 ∨ k = 1 ∨ k = 2 := by (simp only [List.length_cons, List.length_nil] at hk; omega)
                    rcases hk2 with rfl | rfl | rfl
                    · exact .inl ⟨_, rfl, _, rfl, rfl, hj.1.drawn hb3, hj.2.1.below hb3, hj.2.2.below hb3⟩
                    · obtain ⟨gd, X0, f10, h0, hlt, hkp, hg, hm⟩ := hj
                      exact .inl ⟨_, rfl, _, rfl, rfl, gd, X0, f10, h0, hlt, hkp.trans (Kp.below hb3), blk_below hg hb3, hm.drawn hb3⟩
                    · exact Bool.noConfusion (hmc.symm.trans (show Reg.mayComeB _ _ _ _ = false from by kernel_rfl))
                  · skip
                    obtain rfl := Reg.oper_eq ho rfl
                    have e102 : a.eval (.tmp 102) = .int .i64 (wi : Int) := hkn.eval 6 102 (by kernel_rfl) (by kernel_rfl)
                    have e105 : a.eval (.tmp 105) = .int .i64 (r2 : Int) := hkn.eval 9 105 (by kernel_rfl) (by kernel_rfl)
                    have g102 := Reg.eval_getD e102
                    have g105 := Reg.eval_getD e105
                    have q1 := HPP.out
                    exact Reg.op_value rfl rfl (by simp only [List.getElem_toArray, List.getElem_cons_zero, List.getElem_cons_succ, execOp, e102, e105]; go_simp) ⟨_, rfl, rfl, hj⟩
                  · skip
                    obtain rfl := Reg.oper_eq ho rfl
                    have e1 : a.eval (.tmp 1) = .pointer (some ⟨w.heap.size, 0, none⟩) := (hf.eval 1 (by kernel_rfl)).trans rfl
                    have g1 := Reg.eval_getD e1
                    exact Reg.op_value rfl rfl (by simp only [List.getElem_toArray, List.getElem_cons_zero, List.getElem_cons_succ, execOp, e1]; go_simp) ⟨_, rfl, rfl, hj⟩
                  · skip
                    obtain rfl := Reg.oper_eq ho rfl
                    have e107 : a.eval (.tmp 107) = .pointer (some ⟨w.heap.size, 2, none⟩) := hkn.eval 11 107 (by kernel_rfl) (by kernel_rfl)
                    have g107 := Reg.eval_getD e107
                    have hk2 : k = 0 ∨ k = 1 ∨ k = 2 := by (simp only [List.length_cons, List.length_nil] at hk; omega)
                    have hz : MZ w W K R m0 m1 m2 cl gm B b mw ml s0 dv wv w_ := by
                      rcases hk2 with rfl | rfl | rfl
                      · exact hj.1
                      · obtain ⟨_, _, _, _, _, _, _, h⟩ := hj
                        exact h
                      · obtain ⟨_, _, _, _, _, _, h, _⟩ := hj
                        exact h
                    clear hk2
                    have k2 := cell_ints hz.s.c 2 _ rfl
                    exact Reg.op_value rfl rfl (by simp only [List.getElem_toArray, List.getElem_cons_zero, List.getElem_cons_succ, execOp, e107]; go_simp) ⟨_, rfl, rfl, hj⟩
                  · skip
                    obtain rfl := Reg.oper_eq ho rfl
                    have e99 : a.eval (.tmp 99) = .pointer (some ⟨b, 0, none⟩) := hkn.eval 3 99 (by kernel_rfl) (by kernel_rfl)
                    have e101 : a.eval (.tmp 101) = .int .i64 (K : Int) := hkn.eval 5 101 (by kernel_rfl) (by kernel_rfl)
                    have e106 : a.eval (.tmp 106) = .int .i64 (pp : Int) := hkn.eval 10 106 (by kernel_rfl) (by kernel_rfl)
                    have e108 : a.eval (.tmp 108) = .int .i64 (R : Int) := hkn.eval 12 108 (by kernel_rfl) (by kernel_rfl)
                    have g99 := Reg.eval_getD e99
                    have g101 := Reg.eval_getD e101
                    have g106 := Reg.eval_getD e106
                    have g108 := Reg.eval_getD e108
                    have hk2 : k = 0 ∨ k = 1 ∨ k = 2 := by (simp only [List.length_cons, List.length_nil] at hk; omega)
                    have hz : MZ w W K R m0 m1 m2 cl gm B b mw ml s0 dv wv w_ := by
                      rcases hk2 with rfl | rfl | rfl
                      · exact hj.1
                      · obtain ⟨_, _, _, _, _, _, _, h⟩ := hj
                        exact h
                      · obtain ⟨_, _, _, _, _, _, h, _⟩ := hj
                        exact h
                    clear hk2
                    refine Reg.op_call (f := 23) (args := #[.pointer (some ⟨b, 0, none⟩), .int .i64 (K : Int), .int .i64 (pp : Int), .int .i64 (R : Int)]) (w' := w_) rfl rfl (by simp only [List.getElem_toArray, List.getElem_cons_zero, List.getElem_cons_succ, execOp, e99, e101, e106, e108]; go_simp) ((dnew_any HS0.out.2 (K : Int) (by have := HKK.out; omega) (by have := HKK.out; omega) pp R HRR.out.1 HRR.out.2 HPN.out w_ hz.m (Nat.le_trans (by have := hz.m.hB; have := blk_lt hz.m.blk; omega) (Nat.le_refl _))).mono ?_)
                    rintro e W3 ⟨x, y, z, er, rfl, hm3, hk3, hb3⟩
                    have hk2 : k = 0 ∨ k = 1 ∨ k = 2 := by (simp only [List.length_cons, List.length_nil] at hk; omega)
                    rcases hk2 with rfl | rfl | rfl
                    · exact .inl ⟨_, rfl, _, rfl, ⟨_, _, _, _, rfl⟩, hj.1.mem HB.out hm3 hk3 hb3, hj.2.1.keep hk3 (by decide), hj.2.2.keep hk3 (by decide)⟩
                    · obtain ⟨gd, X0, f10, h0, hlt, hkp, hg, hm⟩ := hj
                      exact .inl ⟨_, rfl, _, rfl, ⟨_, _, _, _, rfl⟩, gd, X0, f10, h0, hlt, hkp.trans hk3, hk3.2 _ _ _ _ hg (by decide), hm.mem HB.out hm3 hk3 hb3⟩
                    · exact Bool.noConfusion (hmc.symm.trans (show Reg.mayComeB _ _ _ _ = false from by kernel_rfl))
                  · skip
                    obtain rfl := Reg.oper_eq ho rfl
                    have e109 := hkn.eval 13 109 (by kernel_rfl) (by kernel_rfl)
                    obtain ⟨x, y, z, er, e109⟩ := e109
                    have g109 := Reg.eval_getD e109
                    exact Reg.op_value (v := .tuple #[.agg #[.int .i64 x, .int .i64 y, .int .i64 z], .int .i64 er]) rfl rfl (by simp only [List.getElem_toArray, List.getElem_cons_zero, List.getElem_cons_succ, execOp, e109]; go_simp) ⟨_, rfl, ⟨_, _, _, _, rfl⟩, hj⟩
                  · skip
                    obtain rfl := Reg.oper_eq ho rfl
                    have e95 := hkn.eval 14 95 (by kernel_rfl) (by kernel_rfl)
                    obtain ⟨x, y, z, er, e95⟩ := e95
                    have g95 := Reg.eval_getD e95
                    exact Reg.op_value (v := .agg #[.int .i64 x, .int .i64 y, .int .i64 z]) rfl rfl (by simp only [List.getElem_toArray, List.getElem_cons_zero, List.getElem_cons_succ, execOp, e95]; go_simp) ⟨_, rfl, ⟨_, _, _, rfl⟩, hj⟩
                  · skip
                    obtain rfl := Reg.oper_eq ho rfl
                    have e95 := hkn.eval 14 95 (by kernel_rfl) (by kernel_rfl)
                    obtain ⟨x, y, z, er, e95⟩ := e95
                    have g95 := Reg.eval_getD e95
                    exact Reg.op_value (v := .int .i64 er) rfl rfl (by simp only [List.getElem_toArray, List.getElem_cons_zero, List.getElem_cons_succ, execOp, e95]; go_simp) ⟨_, rfl, ⟨_, rfl⟩, hj⟩
                  · skip
                    obtain rfl := Reg.oper_eq ho rfl
                    have e111 := hkn.eval 16 111 (by kernel_rfl) (by kernel_rfl)
                    obtain ⟨er, e111⟩ := e111
                    have g111 := Reg.eval_getD e111
                    exact Reg.op_value (v := .int .i64 er) rfl rfl (by simp only [List.getElem_toArray, List.getElem_cons_zero, List.getElem_cons_succ, execOp, e111]; go_simp) ⟨_, rfl, trivial, hj⟩
                case act =>
                  intro k o a w_ hk ho hf hst hkn hj
                  obtain rfl | rfl : k = 0 ∨ k = 1 := by simp only [List.length_cons, List.length_nil] at hk; omega
                  · skip
                    obtain rfl := Reg.oper_eq ho rfl
                    exact Reg.op_value (v := .pointer (some ⟨w_.heap.size, 0, none⟩)) (w' := w_.alloc (.cells #[.int .i64 0, .int .i64 0, .int .i64 0] 74)) rfl rfl (by simp only [List.getElem_toArray, List.getElem_cons_zero, List.getElem_cons_succ, execOp]; go_simp) ⟨_, rfl, trivial, w_.heap.size, w_, Reg.val_put_in hf (by kernel_rfl), hj, Nat.le_refl _, Kp.below ((Below.refl _ _).alloc (Nat.le_refl _) _), heap_alloc_new _ _, hj.1.drawn ((Below.refl _ _).alloc (Nat.le_refl _) _)⟩
                  · skip
                    obtain rfl := Reg.oper_eq ho rfl
                    have e110 := hkn.eval 15 110 (by kernel_rfl) (by kernel_rfl)
                    obtain ⟨gd, X0, e10, h0, hlt, hkp, hg, hm⟩ := hj
                    obtain ⟨x, y, z, e110⟩ := e110
                    have g110 := Reg.eval_getD e110
                    have e10' : a.eval (.tmp 10) = .pointer (some ⟨gd, 0, none⟩) := (Reg.eval_val a 10).trans e10
                    have g10 := Reg.eval_getD e10'
                    have kd0 := cell_ints hg 0 _ rfl
                    have kd1 := cell_ints hg 1 _ rfl
                    have kd2 := cell_ints hg 2 _ rfl
                    have qd0 := blk_frozen hg 0
                    have qd1 := blk_frozen hg 1
                    have qd2 := blk_frozen hg 2
                    have hxb := hm.s.below
                    have hx0 := h0.1.s.below.size
                    have hset := set3 hg x y z
                    have hlow := below3 (Nat.le_trans hx0 hlt) hxb (.int .i64 x) (.int .i64 y) (.int .i64 z)
                    have hfk := ((hkp.fresh gd hlt 0 (.int .i64 x)).fresh gd hlt 1 (.int .i64 y)).fresh gd hlt 2 (.int .i64 z)
                    refine Reg.op_unit (w' := ((w_.setCell ⟨gd, 0, none⟩ (.int .i64 x)).setCell ⟨gd, 1, none⟩ (.int .i64 y)).setCell ⟨gd, 2, none⟩ (.int .i64 z)) rfl rfl (by simp only [List.getElem_toArray, List.getElem_cons_zero, List.getElem_cons_succ, execOp, e10', e110]; go_simp) ⟨_, rfl, trivial, gd, x, y, z, e10, hset, ?_, h0.2.1.keep hfk (by decide), h0.2.2.keep hfk (by decide)⟩
                    have hw3 : Kp [74] w_ (((w_.setCell ⟨gd, 0, none⟩ (.int .i64 x)).setCell ⟨gd, 1, none⟩ (.int .i64 y)).setCell ⟨gd, 2, none⟩ (.int .i64 z)) := kp3 hg x y z
                    exact hm.keep hw3 hlow (by decide) (by decide) (by decide) (by decide) (by decide)
                case fin =>
                  intro a w_ hf hkn hj
                  have e96 : Reg.val a 96 = _ := hkn 0 96 (by show _ < _; decide) (by kernel_rfl)
                  have e97 : Reg.val a 97 = _ := hkn 1 97 (by show _ < _; decide) (by kernel_rfl)
                  have e98 : Reg.val a 98 = _ := hkn 2 98 (by show _ < _; decide) (by kernel_rfl)
                  have e99 : Reg.val a 99 = _ := hkn 3 99 (by show _ < _; decide) (by kernel_rfl)
                  have e100 : Reg.val a 100 = _ := hkn 4 100 (by show _ < _; decide) (by kernel_rfl)
                  have e101 : Reg.val a 101 = _ := hkn 5 101 (by show _ < _; decide) (by kernel_rfl)
                  have e102 : Reg.val a 102 = _ := hkn 6 102 (by show _ < _; decide) (by kernel_rfl)
                  have e103 : Reg.val a 103 = _ := hkn 7 103 (by show _ < _; decide) (by kernel_rfl)
                  have e104 : Reg.val a 104 = _ := hkn 8 104 (by show _ < _; decide) (by kernel_rfl)
                  have e105 : Reg.val a 105 = _ := hkn 9 105 (by show _ < _; decide) (by kernel_rfl)
                  have e106 : Reg.val a 106 = _ := hkn 10 106 (by show _ < _; decide) (by kernel_rfl)
                  have e107 : Reg.val a 107 = _ := hkn 11 107 (by show _ < _; decide) (by kernel_rfl)
                  have e108 : Reg.val a 108 = _ := hkn 12 108 (by show _ < _; decide) (by kernel_rfl)
                  rw [Reg.frm_fold hf [96, 97, 98, 99, 100, 101, 102, 103, 104, 105, 106, 107, 108, 109, 95, 110, 111, 10, 11] (by kernel_rfl) (by kernel_rfl)]
                  simp only [List.foldl_cons, List.foldl_nil, Act.put, List.setIfInBounds_toArray, List.set_cons_zero, List.set_cons_succ, e96, e97, e98, e99, e100, e101, e102, e103, e104, e105, e106, e107, e108]
                  generalize Reg.val a 109 = v109_ at *
                  generalize Reg.val a 95 = v95_ at *
                  generalize Reg.val a 110 = v110_ at *
                  generalize Reg.val a 111 = v111_ at *
                  generalize Reg.val a 10 = v10_ at *
                  generalize Reg.val a 11 = v11_ at *
                  clear hkn hf e96 e97 e98 e99 e100 e101 e102 e103 e104 e105 e106 e107 e108
                  obtain ⟨gd, x, y, z, rfl, hgd, hz, hr1, hr2⟩ := hj
                  have HGD := Lib.hid hgd
                  obtain ⟨DA, dc, rfl, _⟩ := hr1.slice
                  have HZ := Lib.hid (And.intro hz (And.intro hr1 hr2))
                  clear hgd hz hr1 hr2
                  go_wp2_with fail
                  refine Reg.wp_region_phase (by kernel_rfl) [6, 7, 10] (fun i => match i with | 0 => fun v => v = .pointer (some ⟨gm, 0, none⟩) | 1 => fun v => v = .pointer (some ⟨gm, 0, none⟩) | 2 => fun v => v = .pointer (some ⟨gm, 0, none⟩) | 3 => fun v => v = .pointer (some ⟨gm, 9, none⟩) | 4 => fun v => v = .slice DA wi dc | 5 => fun v => v = .agg #[.int .i64 x, .int .i64 y, .int .i64 z] | 8 => fun v => v = .pointer (some ⟨gm, 0, none⟩) | 9 => fun v => v = .pointer (some ⟨gm, 9, none⟩) | _ => fun _ => True) (fun k f X => match k with | 0 => MZ w W K R m0 m1 m2 cl gm B b mw ml s0 (.slice DA wi dc) wv X ∧ Rr 74 3 w.heap.size X (.slice DA wi dc) wi ∧ Rr 77 1 w.heap.size X wv wi ∧ X.heap[gd]? = some (.cells (ints [x, y, z]) 74 (0, 0)) | 1 => ∃ W9, X = W9.alloc (.cells ([.int .i64 x, .int .i64 y, .int .i64 z] : List Value).toArray 74) ∧ f 118 = .slice (some ⟨W9.heap.size, 0, none⟩) 1 1 ∧ MZ w W K R m0 m1 m2 cl gm B b mw ml s0 (.slice DA wi dc) wv W9 ∧ Rr 74 3 w.heap.size W9 (.slice DA wi dc) wi ∧ Rr 77 1 w.heap.size W9 wv wi | 2 => ∃ A1 c1, f 119 = .slice A1 (wi + 1) c1 ∧ MZ w W K R m0 m1 m2 cl gm B b mw ml s0 (.slice DA wi dc) wv X ∧ Rr 74 3 w.heap.size X (.slice A1 (wi + 1) c1) (wi + 1) ∧ Rr 77 1 w.heap.size X wv wi | _ => ∃ A1 c1, MZ w W K R m0 m1 m2 cl gm B b mw ml s0 (.slice A1 (wi + 1) c1) wv X ∧ Rr 74 3 w.heap.size X (.slice A1 (wi + 1) c1) (wi + 1) ∧ Rr 77 1 w.heap.size X wv wi) (by kernel_rfl) (by kernel_rfl) (by decide) (by decide) ?hJ ?h0 ?pure ?act ?fin
                  case hJ => (intro k f f' X h hj; match k, hj with
    | 0, hj => exact hj
    | 1, hj => (obtain ⟨W9, h1, h2, h3⟩ := hj; exact ⟨W9, h1, (h 0 (by omega) (by decide) 118 (by kernel_rfl)).symm.trans h2, h3⟩)
    | 2, hj => (obtain ⟨A1, c1, h2, h3⟩ := hj; exact ⟨A1, c1, (h 1 (by omega) (by decide) 119 (by kernel_rfl)).symm.trans h2, h3⟩)
    | k + 3, hj => exact hj)
                  case h0 => exact ⟨HZ.out.1.drawn (pw_below_drewN (Below.refl _ _) 1), HZ.out.2.1.below (pw_below_drewN (Below.refl _ _) 1), HZ.out.2.2.below (pw_below_drewN (Below.refl _ _) 1), blk_below HGD.out (pw_below_drewN (Below.refl _ _) 1)⟩
                  case pure =>
                    intro i o k a w_ ho hE hk hmc hf hst hkn hj
                    have hi : i < 11 := (Array.getElem?_eq_some_iff.1 ho).1
                    obtain rfl | rfl | rfl | rfl | rfl | rfl | rfl | rfl : i = 0 ∨ i = 1 ∨ i = 2 ∨ i = 3 ∨ i = 4 ∨ i = 5 ∨ i = 8 ∨ i = 9 := by
                      simp only [List.mem_cons, List.not_mem_nil, or_false, not_or] at hE
                      omega
                    · skip
                      obtain rfl := Reg.oper_eq ho rfl
                      have e8 : a.eval (.tmp 8) = .pointer (some ⟨gm, 0, none⟩) := (hf.eval 8 (by kernel_rfl)).trans rfl
                      have g8 := Reg.eval_getD e8
                      exact Reg.op_value rfl rfl (by simp only [List.getElem_toArray, List.getElem_cons_zero, List.getElem_cons_succ, execOp, e8]; go_simp) ⟨_, rfl, rfl, hj⟩
                    · skip
                      obtain rfl := Reg.oper_eq ho rfl
                      have e8 : a.eval (.tmp 8) = .pointer (some ⟨gm, 0, none⟩) := (hf.eval 8 (by kernel_rfl)).trans rfl
                      have g8 := Reg.eval_getD e8
                      exact Reg.op_value rfl rfl (by simp only [List.getElem_toArray, List.getElem_cons_zero, List.getElem_cons_succ, execOp, e8]; go_simp) ⟨_, rfl, rfl, hj⟩
                    · skip
                      obtain rfl := Reg.oper_eq ho rfl
                      have e113 : a.eval (.tmp 113) = .pointer (some ⟨gm, 0, none⟩) := hkn.eval 1 113 (by kernel_rfl) (by kernel_rfl)
                      have g113 := Reg.eval_getD e113
                      exact Reg.op_value rfl rfl (by simp only [List.getElem_toArray, List.getElem_cons_zero, List.getElem_cons_succ, execOp, e113]; go_simp) ⟨_, rfl, rfl, hj⟩
                    · skip
                      obtain rfl := Reg.oper_eq ho rfl
                      have e114 : a.eval (.tmp 114) = .pointer (some ⟨gm, 0, none⟩) := hkn.eval 2 114 (by kernel_rfl) (by kernel_rfl)
                      have g114 := Reg.eval_getD e114
                      exact Reg.op_value rfl rfl (by simp only [List.getElem_toArray, List.getElem_cons_zero, List.getElem_cons_succ, execOp, e114]; go_simp) ⟨_, rfl, rfl, hj⟩
                    · skip
                      obtain rfl := Reg.oper_eq ho rfl
                      have e115 : a.eval (.tmp 115) = .pointer (some ⟨gm, 9, none⟩) := hkn.eval 3 115 (by kernel_rfl) (by kernel_rfl)
                      have g115 := Reg.eval_getD e115
                      have hk2 : k = 0 ∨ k = 1 ∨ k = 2 ∨ k = 3 := by (simp only [List.length_cons, List.length_nil] at hk; omega)
                      have hz : MZ w W K R m0 m1 m2 cl gm B b mw ml s0 (.slice DA wi dc) wv w_ := by
                        rcases hk2 with rfl | rfl | rfl | rfl
                        · exact hj.1
                        · obtain ⟨W9, rfl, _, h, _⟩ := hj
                          exact h.drawn ((Below.refl _ _).alloc (Nat.le_refl _) _)
                        · exact Bool.noConfusion (hmc.symm.trans (show Reg.mayComeB _ _ _ _ = false from by kernel_rfl))
                        · exact Bool.noConfusion (hmc.symm.trans (show Reg.mayComeB _ _ _ _ = false from by kernel_rfl))
                      have kf := hz.s.fld.2.1
                      exact Reg.op_value rfl rfl (by simp only [List.getElem_toArray, List.getElem_cons_zero, List.getElem_cons_succ, execOp, e115]; go_simp) ⟨_, rfl, rfl, hj⟩
                    · skip
                      obtain rfl := Reg.oper_eq ho rfl
                      have e10 : a.eval (.tmp 10) = .pointer (some ⟨gd, 0, none⟩) := (hf.eval 10 (by kernel_rfl)).trans rfl
                      have g10 := Reg.eval_getD e10
                      have hk2 : k = 0 ∨ k = 1 ∨ k = 2 ∨ k = 3 := by (simp only [List.length_cons, List.length_nil] at hk; omega)
                      obtain rfl : k = 0 := by
                        rcases hk2 with rfl | rfl | rfl | rfl
                        · rfl
                        · exact Bool.noConfusion (hmc.symm.trans (show Reg.mayComeB _ _ _ _ = false from by kernel_rfl))
                        · exact Bool.noConfusion (hmc.symm.trans (show Reg.mayComeB _ _ _ _ = false from by kernel_rfl))
                        · exact Bool.noConfusion (hmc.symm.trans (show Reg.mayComeB _ _ _ _ = false from by kernel_rfl))
                      clear hk2
                      have kd0 := cell_ints (show w_.heap[gd]? = some (.cells (ints [x, y, z]) 74 (0, 0)) from hj.2.2.2) 0 _ rfl
                      have kd1 := cell_ints (show w_.heap[gd]? = some (.cells (ints [x, y, z]) 74 (0, 0)) from hj.2.2.2) 1 _ rfl
                      have kd2 := cell_ints (show w_.heap[gd]? = some (.cells (ints [x, y, z]) 74 (0, 0)) from hj.2.2.2) 2 _ rfl
                      exact Reg.op_value rfl rfl (by simp only [List.getElem_toArray, List.getElem_cons_zero, List.getElem_cons_succ, execOp, e10]; go_simp) ⟨_, rfl, rfl, hj⟩
                    · skip
                      obtain rfl := Reg.oper_eq ho rfl
                      have e112 : a.eval (.tmp 112) = .pointer (some ⟨gm, 0, none⟩) := hkn.eval 0 112 (by kernel_rfl) (by kernel_rfl)
                      have g112 := Reg.eval_getD e112
                      exact Reg.op_value rfl rfl (by simp only [List.getElem_toArray, List.getElem_cons_zero, List.getElem_cons_succ, execOp, e112]; go_simp) ⟨_, rfl, rfl, hj⟩
                    · skip
                      obtain rfl := Reg.oper_eq ho rfl
                      have e120 : a.eval (.tmp 120) = .pointer (some ⟨gm, 0, none⟩) := hkn.eval 8 120 (by kernel_rfl) (by kernel_rfl)
                      have g120 := Reg.eval_getD e120
                      exact Reg.op_value rfl rfl (by simp only [List.getElem_toArray, List.getElem_cons_zero, List.getElem_cons_succ, execOp, e120]; go_simp) ⟨_, rfl, rfl, hj⟩
                  case act =>
                    intro k o a w_ hk ho hf hst hkn hj
                    obtain rfl | rfl | rfl : k = 0 ∨ k = 1 ∨ k = 2 := by simp only [List.length_cons, List.length_nil] at hk; omega
                    · skip
                      obtain rfl := Reg.oper_eq ho rfl
                      have e117 : a.eval (.tmp 117) = .agg #[.int .i64 x, .int .i64 y, .int .i64 z] := hkn.eval 5 117 (by kernel_rfl) (by kernel_rfl)
                      have g117 := Reg.eval_getD e117
                      refine Reg.op_value (v := .slice (some ⟨w_.heap.size, 0, none⟩) 1 1) (w' := w_.alloc (.cells ([.int .i64 x, .int .i64 y, .int .i64 z] : List Value).toArray 74)) rfl rfl (by simp only [List.getElem_toArray, List.getElem_cons_zero, List.getElem_cons_succ, execOp, e117]; go_simp) ⟨_, rfl, trivial, w_, rfl, Reg.val_put_in hf (by kernel_rfl), hj.1, hj.2.1, hj.2.2.1⟩
                    · skip
                      obtain rfl := Reg.oper_eq ho rfl
                      have e116 : a.eval (.tmp 116) = .slice DA wi dc := hkn.eval 4 116 (by kernel_rfl) (by kernel_rfl)
                      have g116 := Reg.eval_getD e116
                      obtain ⟨W9, rfl, eb, hP9, hR9, hO9⟩ := hj
                      refine Reg.op_wp rfl rfl ?_
                      refine Rr.append_step 3 (w0 := w) w.heap.size rfl (.tmp 116) (.tmp 118) 61 74 (.agg #[.int .i64 0, .int .i64 0, .int .i64 0]) 24 rfl Tryz.underlying61 info74 rfl (by decide) (by decide) (.slice DA wi dc) wi [.int .i64 x, .int .i64 y, .int .i64 z] e116 ((Reg.eval_val a 118).trans eb) rfl (by intro u hu; simp at hu; rcases hu with rfl | rfl | rfl <;> rfl) hR9 hP9.s.below hP9.s.below.size (by have := HCN.out; omega) ?_
                      intro v1 w1 hR hB hK hat hg
                      obtain ⟨A1, c1, rfl, hc1⟩ := hR.slice
                      refine ⟨_, rfl, trivial, A1, c1, Reg.val_put_in hf (by kernel_rfl), hP9.keep hK hB (by decide) (by decide) (by decide) (by decide) (by decide), hR, hO9.keep hK (by decide)⟩
                    · skip
                      obtain rfl := Reg.oper_eq ho rfl
                      have e121 : a.eval (.tmp 121) = .pointer (some ⟨gm, 9, none⟩) := hkn.eval 9 121 (by kernel_rfl) (by kernel_rfl)
                      have g121 := Reg.eval_getD e121
                      obtain ⟨A1, c1, ea, hP, hR, hO⟩ := hj
                      have ea' : a.eval (.tmp 119) = .slice A1 (wi + 1) c1 := (Reg.eval_val a 119).trans ea
                      have ga := Reg.eval_getD ea'
                      have kf := hP.s.fld.2.1
                      have qf := hP.s.fld.2.2.2.2.2.2 9
                      obtain ⟨h1, h2⟩ := hP.set (j := 9) (u := .slice A1 (wi + 1) c1) (dv' := (.slice A1 (wi + 1) c1)) (wv' := wv) (fun pv ev mv cv => ⟨_, _, _, _, rfl⟩)
                      refine Reg.op_unit (w' := w_.setCell ⟨gm, 9, none⟩ (.slice A1 (wi + 1) c1)) rfl rfl (by simp only [List.getElem_toArray, List.getElem_cons_zero, List.getElem_cons_succ, execOp, ea', e121]; go_simp) ⟨_, rfl, trivial, A1, c1, h1, hR.keep h2 (by decide), hO.keep h2 (by decide)⟩
                  case fin =>
                    intro a w_ hf hkn hj
                    have e112 : Reg.val a 112 = _ := hkn 0 112 (by show _ < _; decide) (by kernel_rfl)
                    have e113 : Reg.val a 113 = _ := hkn 1 113 (by show _ < _; decide) (by kernel_rfl)
                    have e114 : Reg.val a 114 = _ := hkn 2 114 (by show _ < _; decide) (by kernel_rfl)
                    have e115 : Reg.val a 115 = _ := hkn 3 115 (by show _ < _; decide) (by kernel_rfl)
                    have e116 : Reg.val a 116 = _ := hkn 4 116 (by show _ < _; decide) (by kernel_rfl)
                    have e117 : Reg.val a 117 = _ := hkn 5 117 (by show _ < _; decide) (by kernel_rfl)
                    have e120 : Reg.val a 120 = _ := hkn 8 120 (by show _ < _; decide) (by kernel_rfl)
                    have e121 : Reg.val a 121 = _ := hkn 9 121 (by show _ < _; decide) (by kernel_rfl)
                    rw [Reg.frm_fold hf [112, 113, 114, 115, 116, 117, 118, 119, 120, 121] (by kernel_rfl) (by kernel_rfl)]
                    simp only [List.foldl_cons, List.foldl_nil, Act.put, List.setIfInBounds_toArray, List.set_cons_zero, List.set_cons_succ, e112, e113, e114, e115, e116, e117, e120, e121]
                    generalize Reg.val a 118 = v118_ at *
                    generalize Reg.val a 119 = v119_ at *
                    clear hkn hf e112 e113 e114 e115 e116 e117 e120 e121
                    obtain ⟨A1, c1, hz, hr1, hr2⟩ := hj
                    obtain ⟨dv, hdv⟩ : ∃ x : Value, x = .slice A1 (wi + 1) c1 := ⟨_, rfl⟩
                    rw [← hdv] at hz hr1
                    obtain ⟨WA, wc, rfl, _⟩ := hr2.slice
                    have HZ5 := Lib.hid (And.intro hz (And.intro hr1 hr2))
                    clear hz hr1 hr2 hdv
                    obtain ⟨W1, hW1⟩ : ∃ X : World, X = w_.alloc (.cells (wkC2 gm wi w_.heap.size) 84) := ⟨_, rfl⟩
                    have hb6 : Below w_.heap.size w_ W1 := by rw [hW1]; exact (Below.refl _ _).alloc (Nat.le_refl _) _
                    have HZ := Lib.hid (And.intro (HZ5.out.1.drawn hb6) (And.intro (HZ5.out.2.1.below hb6) (HZ5.out.2.2.below hb6)))
                    clear hb6
                    rw [hW1] at HZ
                    clear hW1 W1
                    have kf := HZ.out.1.s.fld.2.2.2.1
                    have qf := HZ.out.1.s.fld.2.2.2.2.2.2 11
                    go_wp2_with ((with_reducible refine gate_builtin (b := .append) (xs := #[.tmp 135, .tmp 137]) rfl ?_); at_builtin; refine Rr.append 1 (w0 := w) w.heap.size rfl (.tmp 135) (.tmp 137) 62 77 (.pointer none) 8 rfl Tryz.underlying62 info77 rfl (by decide) (by decide) (.slice WA wi wc) wi [.pointer (some ⟨w_.heap.size, 0, none⟩)] rfl (by rw [World.size_alloc]; rfl) rfl (by intro u hu; simp at hu; subst hu; rfl) HZ.out.2.2 HZ.out.1.s.below HZ.out.1.s.below.size (by have := HCN.out; omega) ?_; intro v1 w1 hR hB hK hat hg; obtain ⟨A1, c1, rfl, hc1⟩ := hR.slice; have HP := Lib.hid (HZ.out.1.keep hK hB (by decide) (by decide) (by decide) (by decide) (by decide)); have HR := Lib.hid hR; have HO := Lib.hid (HZ.out.2.1.keep hK (by decide)); clear hR hB hK hat hg kf qf hc1; have k1 : w1.cell? ⟨gm, 11, none⟩ = some (.slice WA wi wc) := HP.out.s.fld.2.2.2.1; have y1 : w1.frozen? ⟨gm, 11, none⟩ = false := HP.out.s.fld.2.2.2.2.2.2 11; obtain ⟨q1, q2⟩ := HP.out.set (j := 11) (u := .slice A1 (wi + 1) c1) (dv' := dv) (wv' := .slice A1 (wi + 1) c1) (fun pv ev mv cv => ⟨_, _, _, _, rfl⟩); have HZ7 := Lib.hid (And.intro q1 (And.intro (HO.out.keep q2 (by decide)) (HR.out.keep q2 (by decide)))); clear q1 q2)
                    go_roundg (W - (wi + 1))
                    case measure => exact step_lt HWD2.out HWI.out
                    case rel => exact ⟨wi + 1, dv, _, step_eq HWI.out, by go_num, HZ7.out⟩
              · have hw1 : ¬ (wi : Int) < (W : Int) := by omega
                have hw2 : decide ((wi : Int) < (W : Int)) = false := decide_eq_false hw1
                have HZ := Lib.hid HZ.out.1
                obtain ⟨wm, hwm⟩ : ∃ x : Nat, x = W * m0 := ⟨_, rfl⟩
                have HWM : Hid (IntKind.i64.wrap ((W : Int) * (m0 : Int)) = (wm : Int)) := by
                  show IntKind.i64.wrap ((W : Int) * (m0 : Int)) = (wm : Int)
                  have h1 := HOC.out
                  have h2 := HOB.out
                  rw [← hwm] at h1
                  rw [show (W : Int) * (m0 : Int) = (wm : Int) from by rw [hwm]; simp, IntKind.wrap_i64]
                  omega
                have HLV : Hid (cl + wm ≤ s0) := by
                  have h1 := HOC.out
                  have h2 := HSUM.out
                  have h3 := HS0.out.1
                  rw [← hwm] at h1
                  show cl + wm ≤ s0
                  omega
                clear hcd hq hwm
                go_wp2_with fail
                refine Reg.wp_region_phase (by kernel_rfl) [] (fun i => match i with | 0 => fun v => v = .pointer (some ⟨gm, 0, none⟩) | 1 => fun v => v = .pointer (some ⟨gm, 0, none⟩) | 2 => fun v => v = .pointer (some ⟨gm, 6, none⟩) | 3 => fun v => v = .pointer (some ⟨b, 0, none⟩) | 4 => fun v => v = .pointer (some ⟨gm, 0, none⟩) | 5 => fun v => v = .pointer (some ⟨gm, 0, none⟩) | 6 => fun v => v = .pointer (some ⟨gm, 10, none⟩) | 7 => fun v => v = .int .i64 (cl : Int) | 8 => fun v => v = .pointer (some ⟨w.heap.size, 0, none⟩) | 9 => fun v => v = .int .i64 (W : Int) | 10 => fun v => v = .pointer (some ⟨w.heap.size, 3, none⟩) | 11 => fun v => v = .pointer (some ⟨w.heap.size, 3, none⟩) | 12 => fun v => v = .int .i64 (m0 : Int) | 13 => fun v => v = .int .i64 (wm : Int) | _ => fun _ => True) (fun k f X => MZ w W K R m0 m1 m2 cl gm B b mw ml s0 dv wv X) (by kernel_rfl) (by kernel_rfl) (by decide) (by decide) ?hJQ ?h0Q ?pureQ ?actQ ?finQ
                case hJQ => (intro k f f' X h hj; exact hj)
                case h0Q => exact (show MZ w W K R m0 m1 m2 cl gm B b mw ml s0 dv wv (World.drew _) from HZ.out.drawn (pw_below_drewN (Below.refl _ _) 1))
                case pureQ =>
                  intro i o k a w_ ho hE hk hmc hf hst hkn hj
                  have hi : i < 15 := (Array.getElem?_eq_some_iff.1 ho).1
                  obtain rfl | rfl | rfl | rfl | rfl | rfl | rfl | rfl | rfl | rfl | rfl | rfl | rfl | rfl | rfl : i = 0 ∨ i = 1 ∨ i = 2 ∨ i = 3 ∨ i = 4 ∨ i = 5 ∨ i = 6 ∨ i = 7 ∨ i = 8 ∨ i = 9 ∨ i = 10 ∨ i = 11 ∨ i = 12 ∨ i = 13 ∨ i = 14 := by
                    simp only [List.mem_cons, List.not_mem_nil, or_false, not_or] at hE
                    omega
                  · skip
                    obtain rfl := Reg.oper_eq ho rfl
                    have e8 : a.eval (.tmp 8) = .pointer (some ⟨gm, 0, none⟩) := (hf.eval 8 (by kernel_rfl)).trans rfl
                    have g8 := Reg.eval_getD e8
                    exact Reg.op_value rfl rfl (by simp only [List.getElem_toArray, List.getElem_cons_zero, List.getElem_cons_succ, execOp, e8]; go_simp) ⟨_, rfl, rfl, hj⟩
                  · skip
                    obtain rfl := Reg.oper_eq ho rfl
                    have e142 : a.eval (.tmp 142) = .pointer (some ⟨gm, 0, none⟩) := hkn.eval 0 142 (by kernel_rfl) (by kernel_rfl)
                    have g142 := Reg.eval_getD e142
                    exact Reg.op_value rfl rfl (by simp only [List.getElem_toArray, List.getElem_cons_zero, List.getElem_cons_succ, execOp, e142]; go_simp) ⟨_, rfl, rfl, hj⟩
                  · skip
                    obtain rfl := Reg.oper_eq ho rfl
                    have e143 : a.eval (.tmp 143) = .pointer (some ⟨gm, 0, none⟩) := hkn.eval 1 143 (by kernel_rfl) (by kernel_rfl)
                    have g143 := Reg.eval_getD e143
                    exact Reg.op_value rfl rfl (by simp only [List.getElem_toArray, List.getElem_cons_zero, List.getElem_cons_succ, execOp, e143]; go_simp) ⟨_, rfl, rfl, hj⟩
                  · skip
                    obtain rfl := Reg.oper_eq ho rfl
                    have e144 : a.eval (.tmp 144) = .pointer (some ⟨gm, 6, none⟩) := hkn.eval 2 144 (by kernel_rfl) (by kernel_rfl)
                    have g144 := Reg.eval_getD e144
                    have kf := (show MZ w W K R m0 m1 m2 cl gm B b mw ml s0 dv wv w_ from hj).s.fld.1
                    exact Reg.op_value rfl rfl (by simp only [List.getElem_toArray, List.getElem_cons_zero, List.getElem_cons_succ, execOp, e144]; go_simp) ⟨_, rfl, rfl, hj⟩
                  · skip
                    obtain rfl := Reg.oper_eq ho rfl
                    have e8 : a.eval (.tmp 8) = .pointer (some ⟨gm, 0, none⟩) := (hf.eval 8 (by kernel_rfl)).trans rfl
                    have g8 := Reg.eval_getD e8
                    exact Reg.op_value rfl rfl (by simp only [List.getElem_toArray, List.getElem_cons_zero, List.getElem_cons_succ, execOp, e8]; go_simp) ⟨_, rfl, rfl, hj⟩
                  · skip
                    obtain rfl := Reg.oper_eq ho rfl
                    have e146 : a.eval (.tmp 146) = .pointer (some ⟨gm, 0, none⟩) := hkn.eval 4 146 (by kernel_rfl) (by kernel_rfl)
                    have g146 := Reg.eval_getD e146
                    exact Reg.op_value rfl rfl (by simp only [List.getElem_toArray, List.getElem_cons_zero, List.getElem_cons_succ, execOp, e146]; go_simp) ⟨_, rfl, rfl, hj⟩
                  · skip
                    obtain rfl := Reg.oper_eq ho rfl
                    have e147 : a.eval (.tmp 147) = .pointer (some ⟨gm, 0, none⟩) := hkn.eval 5 147 (by kernel_rfl) (by kernel_rfl)
                    have g147 := Reg.eval_getD e147
                    exact Reg.op_value rfl rfl (by simp only [List.getElem_toArray, List.getElem_cons_zero, List.getElem_cons_succ, execOp, e147]; go_simp) ⟨_, rfl, rfl, hj⟩
                  · skip
                    obtain rfl := Reg.oper_eq ho rfl
                    have e148 : a.eval (.tmp 148) = .pointer (some ⟨gm, 10, none⟩) := hkn.eval 6 148 (by kernel_rfl) (by kernel_rfl)
                    have g148 := Reg.eval_getD e148
                    have kf := (show MZ w W K R m0 m1 m2 cl gm B b mw ml s0 dv wv w_ from hj).s.fld.2.2.1
                    exact Reg.op_value rfl rfl (by simp only [List.getElem_toArray, List.getElem_cons_zero, List.getElem_cons_succ, execOp, e148]; go_simp) ⟨_, rfl, rfl, hj⟩
                  · skip
                    obtain rfl := Reg.oper_eq ho rfl
                    have e1 : a.eval (.tmp 1) = .pointer (some ⟨w.heap.size, 0, none⟩) := (hf.eval 1 (by kernel_rfl)).trans rfl
                    have g1 := Reg.eval_getD e1
                    exact Reg.op_value rfl rfl (by simp only [List.getElem_toArray, List.getElem_cons_zero, List.getElem_cons_succ, execOp, e1]; go_simp) ⟨_, rfl, rfl, hj⟩
                  · skip
                    obtain rfl := Reg.oper_eq ho rfl
                    have e150 : a.eval (.tmp 150) = .pointer (some ⟨w.heap.size, 0, none⟩) := hkn.eval 8 150 (by kernel_rfl) (by kernel_rfl)
                    have g150 := Reg.eval_getD e150
                    have k0 := cell_ints (show MZ w W K R m0 m1 m2 cl gm B b mw ml s0 dv wv w_ from hj).s.c 0 _ rfl
                    exact Reg.op_value rfl rfl (by simp only [List.getElem_toArray, List.getElem_cons_zero, List.getElem_cons_succ, execOp, e150]; go_simp) ⟨_, rfl, rfl, hj⟩
                  · skip
                    obtain rfl := Reg.oper_eq ho rfl
                    have e1 : a.eval (.tmp 1) = .pointer (some ⟨w.heap.size, 0, none⟩) := (hf.eval 1 (by kernel_rfl)).trans rfl
                    have g1 := Reg.eval_getD e1
                    exact Reg.op_value rfl rfl (by simp only [List.getElem_toArray, List.getElem_cons_zero, List.getElem_cons_succ, execOp, e1]; go_simp) ⟨_, rfl, rfl, hj⟩
                  · skip
                    obtain rfl := Reg.oper_eq ho rfl
                    have e152 : a.eval (.tmp 152) = .pointer (some ⟨w.heap.size, 3, none⟩) := hkn.eval 10 152 (by kernel_rfl) (by kernel_rfl)
                    have g152 := Reg.eval_getD e152
                    exact Reg.op_value rfl rfl (by simp only [List.getElem_toArray, List.getElem_cons_zero, List.getElem_cons_succ, execOp, e152]; go_simp) ⟨_, rfl, rfl, hj⟩
                  · skip
                    obtain rfl := Reg.oper_eq ho rfl
                    have e153 : a.eval (.tmp 153) = .pointer (some ⟨w.heap.size, 3, none⟩) := hkn.eval 11 153 (by kernel_rfl) (by kernel_rfl)
                    have g153 := Reg.eval_getD e153
                    have k3 := cell_ints (show MZ w W K R m0 m1 m2 cl gm B b mw ml s0 dv wv w_ from hj).s.c 3 _ rfl
                    exact Reg.op_value rfl rfl (by simp only [List.getElem_toArray, List.getElem_cons_zero, List.getElem_cons_succ, execOp, e153]; go_simp) ⟨_, rfl, rfl, hj⟩
                  · skip
                    obtain rfl := Reg.oper_eq ho rfl
                    have e151 : a.eval (.tmp 151) = .int .i64 (W : Int) := hkn.eval 9 151 (by kernel_rfl) (by kernel_rfl)
                    have e154 : a.eval (.tmp 154) = .int .i64 (m0 : Int) := hkn.eval 12 154 (by kernel_rfl) (by kernel_rfl)
                    have g151 := Reg.eval_getD e151
                    have g154 := Reg.eval_getD e154
                    have q1 := HWM.out
                    exact Reg.op_value rfl rfl (by simp only [List.getElem_toArray, List.getElem_cons_zero, List.getElem_cons_succ, execOp, e151, e154]; go_simp) ⟨_, rfl, rfl, hj⟩
                  · skip
                    obtain rfl := Reg.oper_eq ho rfl
                    have e145 : a.eval (.tmp 145) = .pointer (some ⟨b, 0, none⟩) := hkn.eval 3 145 (by kernel_rfl) (by kernel_rfl)
                    have e149 : a.eval (.tmp 149) = .int .i64 (cl : Int) := hkn.eval 7 149 (by kernel_rfl) (by kernel_rfl)
                    have e155 : a.eval (.tmp 155) = .int .i64 (wm : Int) := hkn.eval 13 155 (by kernel_rfl) (by kernel_rfl)
                    have g145 := Reg.eval_getD e145
                    have g149 := Reg.eval_getD e149
                    have g155 := Reg.eval_getD e155
                    refine Reg.op_call (f := 25) (args := #[.pointer (some ⟨b, 0, none⟩), .int .i64 (cl : Int), .int .i64 (wm : Int)]) (w' := w_) rfl rfl (by simp only [List.getElem_toArray, List.getElem_cons_zero, List.getElem_cons_succ, execOp, e145, e149, e155]; go_simp) ((live_any HS0.out.2 cl wm HLV.out w_ (MZ.m hj) (by have := (MZ.m hj).hB; have := blk_lt (MZ.m hj).blk; omega)).mono ?_)
                    rintro e W3 ⟨er, rfl, hm3, hk3, hb3⟩
                    exact .inl ⟨_, rfl, _, rfl, trivial, MZ.mem hj HB.out hm3 hk3 hb3⟩
                case actQ =>
                  intro k o a w_ hk ho hf hst hkn hj
                  simp at hk
                case finQ =>
                  intro a w_ hf hkn hj
                  have e142 : Reg.val a 142 = _ := hkn 0 142 (by show _ < _; decide) (by kernel_rfl)
                  have e143 : Reg.val a 143 = _ := hkn 1 143 (by show _ < _; decide) (by kernel_rfl)
                  have e144 : Reg.val a 144 = _ := hkn 2 144 (by show _ < _; decide) (by kernel_rfl)
                  have e145 : Reg.val a 145 = _ := hkn 3 145 (by show _ < _; decide) (by kernel_rfl)
                  have e146 : Reg.val a 146 = _ := hkn 4 146 (by show _ < _; decide) (by kernel_rfl)
                  have e147 : Reg.val a 147 = _ := hkn 5 147 (by show _ < _; decide) (by kernel_rfl)
                  have e148 : Reg.val a 148 = _ := hkn 6 148 (by show _ < _; decide) (by kernel_rfl)
                  have e149 : Reg.val a 149 = _ := hkn 7 149 (by show _ < _; decide) (by kernel_rfl)
                  have e150 : Reg.val a 150 = _ := hkn 8 150 (by show _ < _; decide) (by kernel_rfl)
                  have e151 : Reg.val a 151 = _ := hkn 9 151 (by show _ < _; decide) (by kernel_rfl)
                  have e152 : Reg.val a 152 = _ := hkn 10 152 (by show _ < _; decide) (by kernel_rfl)
                  have e153 : Reg.val a 153 = _ := hkn 11 153 (by show _ < _; decide) (by kernel_rfl)
                  have e154 : Reg.val a 154 = _ := hkn 12 154 (by show _ < _; decide) (by kernel_rfl)
                  have e155 : Reg.val a 155 = _ := hkn 13 155 (by show _ < _; decide) (by kernel_rfl)
                  rw [Reg.frm_fold hf [142, 143, 144, 145, 146, 147, 148, 149, 150, 151, 152, 153, 154, 155, 156] (by kernel_rfl) (by kernel_rfl)]
                  simp only [List.foldl_cons, List.foldl_nil, Act.put, List.setIfInBounds_toArray, List.set_cons_zero, List.set_cons_succ, e142, e143, e144, e145, e146, e147, e148, e149, e150, e151, e152, e153, e154, e155]
                  generalize Reg.val a 156 = v156_ at *
                  clear hkn hf e142 e143 e144 e145 e146 e147 e148 e149 e150 e151 e152 e153 e154 e155
                  have HZ8 := Lib.hid hj
                  clear hj
                  go_wp2_with fail
                  go_ret2
                  exact ⟨_, rfl, HZ8.out.s.below⟩
end Go.Proofs.YtponjobacdimeaaGreat.Core
