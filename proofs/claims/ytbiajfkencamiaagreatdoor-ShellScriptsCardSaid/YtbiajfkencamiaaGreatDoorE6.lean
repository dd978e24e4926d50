/- eval: a kid is begun (over a contract for its run). Printed by gen_se6.py. -/
import Derived.Test.YtbiajfkencamiaaGreatDoorE5
import Derived.Deep.AppendLies
/-! E6 -/
namespace Go.Proofs.YtbiajfkencamiaaGreatDoor.EV
open Go.Proofs.YtbiajfkencamiaaGreatDoorW.PrintMore Go.Proofs.YtbiajfkencamiaaGreatDoor Go.Proofs.YtbiajfkencamiaaGreatDoor.Core Go.RowKit Go.Proofs.YtbiajfkencamiaaGreatDoorW.PrintWords
set_option linter.unusedVariables false
set_option linter.unusedSimpArgs false
theorem info3' : ∃ i, Tryz.prog.info? 3 = some i ∧ i.zero = some (.int .i64 0) ∧ i.size = 1 ∧ i.bytes = 8 := by
  have h : (Tryz.prog.info? 3).map (fun i => (i.zero, i.size, i.bytes)) = some (some (.int .i64 0), 1, 8) := by kernel_rfl
  obtain ⟨i, h1, h2, h3, h4⟩ := info_parts h
  exact ⟨i, h1, h2, h3, h4⟩
theorem info2' : ∃ i, Tryz.prog.info? 2 = some i ∧ i.zero = some (.int .i64 0) ∧ i.size = 1 ∧ i.bytes = 8 := by
  obtain ⟨i, h1, h2, h3, h4⟩ := info_parts info2
  exact ⟨i, h1, h2, h3, h4⟩
theorem sizeOf3 (w : World) : (Go.sizeOf 3).run Tryz.prog w = .ok 1 w := Tryz.sizeOf3 w
theorem sizeOf2 (w : World) : (Go.sizeOf 2).run Tryz.prog w = .ok 1 w := Tryz.sizeOf2 w
/-- A path's clone. -/
theorem cpath_any {W : World} {v : Value} {n : Nat} (ps : List Int) (h : W.ownsRow 0 3 1 v n (nums .i64 ps)) (hn : n ≤ 1000000) : Calls Tryz.prog 124 #[v] W fun e w' => ∃ v', e = .returned v' ∧ w'.ownsRow W.heap.size 3 1 v' n (nums .i64 ps) ∧ Below W.heap.size W w' := by
  have h' := h
  rcases h.2 with ⟨rfl, rfl⟩ | ⟨g, cap, cur, rfl, _⟩
  · refine (Tryz.slices_Clone_nil_f124 0 0 W).mono ?_
    rintro e w' ⟨rfl, rfl⟩
    have h0 : nums .i64 ps = [] := List.eq_nil_of_length_eq_zero (by simpa using h.1)
    exact ⟨_, rfl, by rw [h0]; exact own_nil _ _ _ _, Below.refl _ _⟩
  · obtain ⟨i, h1, h2, h3, h4⟩ := info3'
    refine (Tryz.slices_Clone_f124 i (.int .i64 0) 1 8 h1 h2 h3 h4 rfl (by decide) sizeOf3 g 0 n cap (nums .i64 ps) W h.1 (by simp only [maxLen]; omega) (by omega) ?_ ?_).mono ?_
    · intro j u hj
      have hlt : j < n * 1 := by rw [← h.1]; exact (List.getElem?_eq_some_iff.1 hj).1
      rw [Nat.zero_add]
      exact (World.ownsRow.cellAt h' j hlt).trans hj
    · intro u hu
      obtain ⟨x, _, rfl⟩ := List.mem_map.1 hu
      rfl
    · rintro e w' ⟨v', rfl, ho, _, hb⟩
      exact ⟨v', rfl, ho, hb⟩
/-- A row of numbers' clone, out of a task's registers. -/
theorem cargs_any {W : World} (gt off n cap : Nat) (xs : List Int) (hn : xs.length = n) (hn8 : n ≤ 1000) (hc : ∀ j u, (xs.map (Value.int .i64))[j]? = some u → W.cell? ⟨gt, off + j, none⟩ = some u) : Calls Tryz.prog 123 #[.slice (some ⟨gt, off, none⟩) n cap] W fun e w' => ∃ v', e = .returned v' ∧ ArgsR w' v' xs ∧ Below W.heap.size W w' := by
  obtain ⟨i, h1, h2, h3, h4⟩ := info2'
  refine (Tryz.slices_Clone_f123 i (.int .i64 0) 1 8 h1 h2 h3 h4 rfl (by decide) sizeOf2 gt off n cap (xs.map (.int .i64)) W (by rw [List.length_map, hn]; omega) (by simp only [maxLen]; omega) (by omega) hc ?_).mono ?_
  · intro u hu
    obtain ⟨x, _, rfl⟩ := List.mem_map.1 hu
    rfl
  · rintro e w' ⟨v', rfl, ho, hne, hb⟩
    refine ⟨v', rfl, ?_, hb⟩
    rcases ho.2 with ⟨rfl, _⟩ | ⟨g, cp, cur, rfl, _⟩
    · exact absurd rfl hne
    · refine ⟨some ⟨g, 0, none⟩, cp, by rw [hn], fun h0 => ⟨⟨g, 0, none⟩, rfl, fun j u hj => ?_⟩⟩
      have hlt : j < n * 1 := by
        have := (List.getElem?_eq_some_iff.1 hj).1
        rw [List.length_map, hn] at this
        omega
      have hadd : (⟨g, 0, none⟩ : Addr).add j = ⟨g, j, none⟩ := by unfold Addr.add; split <;> simp_all
      rw [hadd]
      exact (World.ownsRow.cellAt ho j hlt).trans hj
theorem alen224 : Tryz.prog.arrayLen 224 = 8 := by kernel_rfl
theorem elem224 : Tryz.prog.elem 224 = 2 := by kernel_rfl
theorem cut_regs (gt rb ar : Nat) (h1 : rb < 8) (h2 : rb + ar ≤ 8) (W : World) : (Instr.sliceAt 224 (.pointer (some ⟨gt, 2, none⟩)) (some (.int .i64 (rb : Int))) (some (.int .i64 ((rb + ar : Nat) : Int))) none).run Tryz.prog W = .ok (.slice (some ⟨gt, 2 + rb, none⟩) ar (8 - rb)) W := by
  have h0 := Go.run_sliceAt_array_lh (P := Tryz.prog) (t := 224) (w := W) ⟨gt, 2, none⟩ (by rw [alen224, elem224]; exact Tryz.underlying224) .i64 .i64 (rb : Int) ((rb + ar : Nat) : Int) (by omega) (by omega) (by rw [alen224]; omega)
  rw [alen224, elem224] at h0
  have hs : (sizeOf 2).run Tryz.prog W = .ok 1 W := Tryz.sizeOf2 W
  rw [h0, hs]
  have hne : ¬ (8 = rb) := by omega
  have hadd : (⟨gt, 2, none⟩ : Addr).add rb = ⟨gt, 2 + rb, none⟩ := by
    unfold Addr.add
    split
    · simp_all
    · rfl
  simp [Result.andThen, slicedAt, hne, hadd]
  omega
/-- A path while it grows: nothing that was there is turned; the element may lie aside. -/
structure KF (W1 X : World) (b : Bool) (fl : Value) (x : Int) : Prop where
  bel : Below W1.heap.size W1 X
  flo : b = true → ∃ g, fl = .slice (some ⟨g, 0, none⟩) 1 1 ∧ X.heap[g]? = some (.cells #[.int .i64 x] 3 (0, 0))
theorem KF.below {W1 X X' : World} {b : Bool} {fl : Value} {x : Int} (h : KF W1 X b fl x) (hb : Below X.heap.size X X') : KF W1 X' b fl x :=
  ⟨h.bel.trans (hb.mono h.bel.size), fun e => by obtain ⟨g, h1, h2⟩ := h.flo e; exact ⟨g, h1, blk_below h2 hb⟩⟩
theorem KF.free {W1 X : World} {b : Bool} {fl fl' : Value} {x : Int} (h : KF W1 X b fl x) (he : b = true → fl = fl') : KF W1 X b fl' x :=
  ⟨h.bel, fun e => by rw [← he e]; exact h.flo e⟩
theorem tk_cell {b0 gt gw : Nat} {W X : World} {t : Tk} (h : TkR b0 gt gw W t) (hb : Below W.heap.size W X) (j : Nat) : X.cell? ⟨gt, j, none⟩ = W.cell? ⟨gt, j, none⟩ := by
  obtain ⟨c, hc⟩ := h.blk
  exact hb.cell (p := ⟨gt, j, none⟩) (blk_lt hc)
set_option maxRecDepth 100000 in
set_option maxHeartbeats 8000000 in
theorem kid_any {c : Cx} (hc : c.Ok) (n : Nat) (HR : RunSpec c n) {b0 gt : Nat} {W : World} {t : Tk} {e : Ev} (o oa : Int) (rb f ar : Nat) (k0 : Int) (h : TkR b0 gt c.gw W t) (hE : c.ev W e) (heo : EvS e) (hl : e.left < n) (hkl : t.kids ≤ 1000000) (hdl : (t.dep : Int) ≤ c.D) (hf : f < c.p.length) (hb : rb < 8) (har : arityOf c.p f = (ar : Int)) (hra : rb + ar ≤ 8) (hB : Below c.base c.w00 W) (hb0 : c.base ≤ b0) (hd : ¬ (t.dep : Int) = c.D) :
    Calls Tryz.prog 249 #[.pointer (some ⟨gt, 0, none⟩), .agg #[.int .i64 o, .int .i64 oa, .int .i64 (rb : Int), .int .i64 (f : Int), .int .i64 k0]] W (fun en w' => ∃ W5, Upd gt W W5 ∧ TkR b0 gt c.gw W5 { t with kids := t.kids + 1 } ∧ Below c.base c.w00 W5 ∧ W5.cell? ⟨gt, 18, none⟩ = W.cell? ⟨gt, 18, none⟩ ∧ RP c W5 (runF c.p c.B c.D n { e with log := e.log ++ [0] } (tk0 (t.dep + 1) ((t.regs.drop rb).take ar) t.hands e.log.length) f) en w') := by
  have ha0 : Below W.heap.size W (W.alloc (.cells #[.int .i64 o, .int .i64 oa, .int .i64 (rb : Int), .int .i64 (f : Int), .int .i64 k0] 121)) := (Below.refl _ _).alloc (Nat.le_refl _) _
  obtain ⟨pv, hpv, ps, hps⟩ := h.path
  obtain ⟨PA, pc, hpe⟩ := own_slice hps
  subst hpe
  have hD : ((t.dep : Int) == c.D) = false := beq_eq_false_iff_ne.2 hd
  have hgD : W.cell? ⟨c.gw, 2, none⟩ = some (.int .i64 c.D) := by
    obtain ⟨_, tv, lv, lx, q1, _⟩ := hE
    exact (blk_cell q1 2).trans rfl
  have hglt : c.gw < W.heap.size := by
    obtain ⟨_, tv, lv, lx, q1, _⟩ := hE
    exact blk_lt q1
  have hH : Hid (TkR b0 gt c.gw W t) := h
  have c0 : (W.alloc (.cells #[.int .i64 o, .int .i64 oa, .int .i64 (rb : Int), .int .i64 (f : Int), .int .i64 k0] 121)).cell? ⟨gt, 0, none⟩ = some (.pointer (some ⟨c.gw, 0, none⟩)) := (tk_cell h ha0 0).trans h.own
  have c1 : (W.alloc (.cells #[.int .i64 o, .int .i64 oa, .int .i64 (rb : Int), .int .i64 (f : Int), .int .i64 k0] 121)).cell? ⟨gt, 1, none⟩ = some (.slice PA t.dep pc) := (tk_cell h ha0 1).trans hpv
  have cD : (W.alloc (.cells #[.int .i64 o, .int .i64 oa, .int .i64 (rb : Int), .int .i64 (f : Int), .int .i64 k0] 121)).cell? ⟨c.gw, 2, none⟩ = some (.int .i64 c.D) := (ha0.cell (p := ⟨c.gw, 2, none⟩) hglt).trans hgD
  obtain ⟨x, hx⟩ : ∃ x : Int, x = (t.kids : Int) := ⟨_, rfl⟩
  have HA0 := Lib.hid ha0
  have HPV0 := Lib.hid hpv
  have HPS0 := Lib.hid hps
  have HDL : Hid (t.dep ≤ 1000000) := by show t.dep ≤ 1000000; have := hc.dmax; omega
  have HX := Lib.hid hx
  have HE := Lib.hid hE
  have HEO := Lib.hid heo
  have HL := Lib.hid hl
  have HF := Lib.hid (And.intro hf (And.intro hb (And.intro har hra)))
  have HBB := Lib.hid (And.intro hB hb0)
  have HC := Lib.hid hc
  have HKL := Lib.hid hkl
  have HDD : Hid (((t.dep + 1 : Nat) : Int) ≤ c.D) := by show ((t.dep + 1 : Nat) : Int) ≤ c.D; omega
  have HRR := Lib.hid HR
  clear HR ha0 hpv hps hgD hglt h hE heo hl hkl hdl hf hb har hra hB hb0 hd hx hc
  obtain ⟨⟨y0, u0⟩, ⟨y1, u1⟩, ⟨y2, u2⟩, ⟨y3, u3⟩, h4⟩ := hand4 hH.out.hands
  have HH4 := Lib.hid h4
  obtain ⟨oo, hoo⟩ : ∃ oo, runF c.p c.B c.D n { e with log := e.log ++ [0] } (tk0 (t.dep + 1) ((t.regs.drop rb).take ar) t.hands e.log.length) f = oo := ⟨_, rfl⟩
  rw [hoo]
  have HOO := Lib.hid hoo
  clear h4 hoo
  go_enter Tryz.func249, Tryz.ntmps249
  go_wp2_with fail
  go_quiet (fail)
  obtain ⟨W1, hW1⟩ : ∃ X : World, X = (W.alloc (.cells #[.int .i64 o, .int .i64 oa, .int .i64 (rb : Int), .int .i64 (f : Int), .int .i64 k0] 121)).drewN nq := ⟨_, rfl⟩
  have HBW1 : Hid (Below W.heap.size W W1) := by rw [hW1]; exact pw_below_drewN HA0.out nq
  have HPV : Hid (W1.cell? ⟨gt, 1, none⟩ = some (.slice PA t.dep pc)) := (tk_cell hH.out HBW1.out 1).trans HPV0.out
  have HKV : Hid (W1.cell? ⟨gt, 19, none⟩ = some (.int .i64 x)) := by rw [HX.out]; exact (tk_cell hH.out HBW1.out 19).trans hH.out.kidsAt
  have HT : Hid (TkR b0 gt c.gw W1 t) := hH.out.below HBW1.out
  have HPS : Hid (W1.ownsRow 0 3 1 (.slice PA t.dep pc) t.dep (nums .i64 ps)) := pw_own_below HPS0.out HBW1.out
  have HXX : Hid (W1.heap[W.heap.size]? = some (.cells #[.int .i64 o, .int .i64 oa, .int .i64 (rb : Int), .int .i64 (f : Int), .int .i64 k0] 121 (0, 0))) := by rw [hW1]; exact heap_alloc_new _ _
  rw [← hW1]
  clear hW1 c0 c1 cD
  go_wp2_with fail
  refine Reg.wp_region_float (by kernel_rfl) [4, 10, 11] 9 (fun i => match i with | 0 => fun v => v = .pointer (some ⟨gt, 0, none⟩) | 1 => fun v => v = .pointer (some ⟨gt, 0, none⟩) | 2 => fun v => v = .pointer (some ⟨gt, 1, none⟩) | 3 => fun v => v = .slice PA t.dep pc | 5 => fun v => v = .pointer (some ⟨gt, 0, none⟩) | 6 => fun v => v = .pointer (some ⟨gt, 0, none⟩) | 7 => fun v => v = .pointer (some ⟨gt, 19, none⟩) | 8 => fun v => v = .int .i64 x | _ => fun _ => True) (fun k b f X => match k with | 0 => KF W1 X b (f 31) x | 1 => KF W1 X b (f 31) x ∧ ∃ v1, f 26 = v1 ∧ X.ownsRow W1.heap.size 3 1 v1 t.dep (nums .i64 ps) | 2 => Below W1.heap.size W1 X ∧ ∃ A2 c2, f 32 = .slice A2 (t.dep + 1) c2 ∧ X.ownsRow W1.heap.size 3 1 (.slice A2 (t.dep + 1) c2) (t.dep + 1) (nums .i64 (ps ++ [x])) | _ => Below W1.heap.size W1 X ∧ ∃ A2 c2, f 5 = .slice A2 (t.dep + 1) c2 ∧ X.ownsRow W1.heap.size 3 1 (.slice A2 (t.dep + 1) c2) (t.dep + 1) (nums .i64 (ps ++ [x]))) (by kernel_rfl) (by kernel_rfl) (by decide) (by decide) (by decide) (by decide) ?hJ ?h0 ?pure ?flo ?act ?fin
  case hJ => (intro k b f f' X h hb hj; match k, hj with
    | 0, hj => exact KF.free hj (fun e => hb e 31 (by kernel_rfl))
    | 1, hj => (obtain ⟨h1, v1, h2, h3⟩ := hj; exact ⟨h1.free (fun e => hb e 31 (by kernel_rfl)), v1, (h 0 (by omega) (by decide) 26 (by kernel_rfl)).symm.trans h2, h3⟩)
    | 2, hj => (obtain ⟨h1, A2, c2, h2, h3⟩ := hj; exact ⟨h1, A2, c2, (h 1 (by omega) (by decide) 32 (by kernel_rfl)).symm.trans h2, h3⟩)
    | k + 3, hj => (obtain ⟨h1, A2, c2, h2, h3⟩ := hj; exact ⟨h1, A2, c2, (h 2 (by omega) (by decide) 5 (by kernel_rfl)).symm.trans h2, h3⟩))
  case h0 => exact ⟨pw_below_drewN (Below.refl _ _) 1, fun h => by cases h⟩
  case pure =>
    intro i o k bq a w_ ho hE hne hk hmc hf hst hkn hj
    have hi : i < 12 := (Array.getElem?_eq_some_iff.1 ho).1
    obtain rfl | rfl | rfl | rfl | rfl | rfl | rfl | rfl : i = 0 ∨ i = 1 ∨ i = 2 ∨ i = 3 ∨ i = 5 ∨ i = 6 ∨ i = 7 ∨ i = 8 := by
      simp only [List.mem_cons, List.not_mem_nil, or_false, not_or] at hE
      omega
    · skip
      obtain rfl := Reg.oper_eq ho rfl
      have e0 : a.eval (.tmp 0) = .pointer (some ⟨gt, 0, none⟩) := (hf.eval 0 (by kernel_rfl)).trans rfl
      have g0 := Reg.eval_getD e0
      exact Reg.op_value rfl rfl (by simp only [List.getElem_toArray, List.getElem_cons_zero, List.getElem_cons_succ, execOp, e0]; go_simp) ⟨_, rfl, rfl, hj⟩
    · skip
      obtain rfl := Reg.oper_eq ho rfl
      have e22 : a.eval (.tmp 22) = .pointer (some ⟨gt, 0, none⟩) := hkn.eval 0 22 (by kernel_rfl) (by kernel_rfl)
      have g22 := Reg.eval_getD e22
      exact Reg.op_value rfl rfl (by simp only [List.getElem_toArray, List.getElem_cons_zero, List.getElem_cons_succ, execOp, e22]; go_simp) ⟨_, rfl, rfl, hj⟩
    · skip
      obtain rfl := Reg.oper_eq ho rfl
      have e23 : a.eval (.tmp 23) = .pointer (some ⟨gt, 0, none⟩) := hkn.eval 1 23 (by kernel_rfl) (by kernel_rfl)
      have g23 := Reg.eval_getD e23
      exact Reg.op_value rfl rfl (by simp only [List.getElem_toArray, List.getElem_cons_zero, List.getElem_cons_succ, execOp, e23]; go_simp) ⟨_, rfl, rfl, hj⟩
    · skip
      obtain rfl := Reg.oper_eq ho rfl
      have e24 : a.eval (.tmp 24) = .pointer (some ⟨gt, 1, none⟩) := hkn.eval 2 24 (by kernel_rfl) (by kernel_rfl)
      have g24 := Reg.eval_getD e24
      have hbw : Below W1.heap.size W1 w_ := by
        match k, hj with
        | 0, hj => exact KF.bel hj
        | 1, hj => exact KF.bel hj.1
        | 2, hj => exact hj.1
        | k + 3, hj => exact hj.1
      have kf := (tk_cell HT.out hbw 1).trans HPV.out
      exact Reg.op_value rfl rfl (by simp only [List.getElem_toArray, List.getElem_cons_zero, List.getElem_cons_succ, execOp, e24]; go_simp) ⟨_, rfl, rfl, hj⟩
    · skip
      obtain rfl := Reg.oper_eq ho rfl
      have e0 : a.eval (.tmp 0) = .pointer (some ⟨gt, 0, none⟩) := (hf.eval 0 (by kernel_rfl)).trans rfl
      have g0 := Reg.eval_getD e0
      exact Reg.op_value rfl rfl (by simp only [List.getElem_toArray, List.getElem_cons_zero, List.getElem_cons_succ, execOp, e0]; go_simp) ⟨_, rfl, rfl, hj⟩
    · skip
      obtain rfl := Reg.oper_eq ho rfl
      have e27 : a.eval (.tmp 27) = .pointer (some ⟨gt, 0, none⟩) := hkn.eval 5 27 (by kernel_rfl) (by kernel_rfl)
      have g27 := Reg.eval_getD e27
      exact Reg.op_value rfl rfl (by simp only [List.getElem_toArray, List.getElem_cons_zero, List.getElem_cons_succ, execOp, e27]; go_simp) ⟨_, rfl, rfl, hj⟩
    · skip
      obtain rfl := Reg.oper_eq ho rfl
      have e28 : a.eval (.tmp 28) = .pointer (some ⟨gt, 0, none⟩) := hkn.eval 6 28 (by kernel_rfl) (by kernel_rfl)
      have g28 := Reg.eval_getD e28
      exact Reg.op_value rfl rfl (by simp only [List.getElem_toArray, List.getElem_cons_zero, List.getElem_cons_succ, execOp, e28]; go_simp) ⟨_, rfl, rfl, hj⟩
    · skip
      obtain rfl := Reg.oper_eq ho rfl
      have e29 : a.eval (.tmp 29) = .pointer (some ⟨gt, 19, none⟩) := hkn.eval 7 29 (by kernel_rfl) (by kernel_rfl)
      have g29 := Reg.eval_getD e29
      have hbw : Below W1.heap.size W1 w_ := by
        match k, hj with
        | 0, hj => exact KF.bel hj
        | 1, hj => exact KF.bel hj.1
        | 2, hj => exact hj.1
        | k + 3, hj => exact hj.1
      have kf := (tk_cell HT.out hbw 19).trans HKV.out
      exact Reg.op_value rfl rfl (by simp only [List.getElem_toArray, List.getElem_cons_zero, List.getElem_cons_succ, execOp, e29]; go_simp) ⟨_, rfl, rfl, hj⟩
  case flo =>
    intro o k a w_ ho hk hmc hf hst hkn hj
    · skip
      obtain rfl := Reg.oper_eq ho rfl
      have e30 : a.eval (.tmp 30) = .int .i64 x := hkn.eval 8 30 (by kernel_rfl) (by kernel_rfl)
      have g30 := Reg.eval_getD e30
      refine Reg.op_value (v := .slice (some ⟨w_.heap.size, 0, none⟩) 1 1) (w' := w_.alloc (.cells #[.int .i64 x] 3)) rfl rfl (by simp only [List.getElem_toArray, List.getElem_cons_zero, List.getElem_cons_succ, execOp, e30]; go_simp) ⟨_, rfl, trivial, ?_⟩
      have hal : Below w_.heap.size w_ (w_.alloc (.cells #[.int .i64 x] 3)) := (Below.refl _ _).alloc (Nat.le_refl _) _
      have hv31 : Reg.val (a.put (some 31) (.slice (some ⟨w_.heap.size, 0, none⟩) 1 1)) 31 = .slice (some ⟨w_.heap.size, 0, none⟩) 1 1 := Reg.val_put_in hf (by kernel_rfl)
      have hk3 : k = 0 ∨ k = 1 ∨ k = 2 ∨ k = 3 := by (simp only [List.length_cons, List.length_nil] at hk; omega)
      rcases hk3 with rfl | rfl | rfl | rfl
      · exact ⟨(KF.below hj hal).bel, fun _ => ⟨_, hv31, heap_alloc_new _ _⟩⟩
      · obtain ⟨h1, v1, h2, h3⟩ := hj
        exact ⟨⟨(h1.below hal).bel, fun _ => ⟨_, hv31, heap_alloc_new _ _⟩⟩, v1, (Reg.val_put_ne a (some 31) _ 26 (by decide)).trans h2, own_alloc h3 _⟩
      · exact Bool.noConfusion (hmc.symm.trans (show Reg.mayComeB _ _ _ _ = false from by kernel_rfl))
      · exact Bool.noConfusion (hmc.symm.trans (show Reg.mayComeB _ _ _ _ = false from by kernel_rfl))
  case act =>
    intro k bq o a w_ hk ho hbf hf hst hkn hj
    obtain rfl | rfl | rfl : k = 0 ∨ k = 1 ∨ k = 2 := by simp only [List.length_cons, List.length_nil] at hk; omega
    · skip
      obtain rfl := Reg.oper_eq ho rfl
      have e25 : a.eval (.tmp 25) = .slice PA t.dep pc := hkn.eval 3 25 (by kernel_rfl) (by kernel_rfl)
      have g25 := Reg.eval_getD e25
      refine Reg.op_call (f := 124) (args := #[.slice PA t.dep pc]) (w' := w_) rfl rfl (by simp only [List.getElem_toArray, List.getElem_cons_zero, List.getElem_cons_succ, execOp, e25]; go_simp) ((cpath_any ps (pw_own_below HPS.out (KF.bel hj)) HDL.out).mono ?_)
      rintro e2 w2 ⟨v1, rfl, ho, hb2⟩
      exact .inl ⟨_, rfl, _, rfl, trivial, (KF.below hj hb2).free (fun _ => (Reg.val_put_ne a (some 26) _ 31 (by decide)).symm), v1, Reg.val_put_in hf (by kernel_rfl), own_weaken ho (KF.bel hj).size⟩
    · skip
      obtain rfl := Reg.oper_eq ho rfl
      obtain ⟨h1, v1, h26, h3⟩ := hj
      have hbq := hbf (by kernel_rfl)
      obtain ⟨g, h31, hg⟩ := h1.flo hbq
      obtain ⟨i, i1, i2, i3, i4⟩ := info3'
      refine Reg.op_wp rfl rfl ?_
      refine step_append_lies w_ rfl (.tmp 26) (.tmp 31) 73 rfl W1.heap.size 3 i (.int .i64 0) 1 8 Tryz.underlying73 i1 i2 i3 i4 rfl (by decide) v1 t.dep (nums .i64 ps) ((Reg.eval_val a 26).trans h26) h3 ⟨g, 0, none⟩ 1 1 [.int .i64 x] ((Reg.eval_val a 31).trans h31) rfl (World.news_of_block hg) (by intro u hu; simp at hu; subst hu; rfl) (by decide) (by have := HDL.out; simp only [maxLen]; omega) (by have := HDL.out; omega) h1.bel.size _ rfl ?_
      intro g2 cap w2 ho hgr hgo hlt
      have hb2 : Below W1.heap.size W1 w2 := h1.bel.grown hgr h1.bel.size (fun k e => own_base h3 k e)
      exact ⟨_, rfl, trivial, hb2, _, _, Reg.val_put_in hf (by kernel_rfl), by rw [show nums .i64 (ps ++ [x]) = nums .i64 ps ++ [.int .i64 x] from by simp [nums]]; exact ho⟩
    · skip
      obtain rfl := Reg.oper_eq ho rfl
      obtain ⟨hb1, A2, c2, h32, h33⟩ := hj
      have e32' : a.eval (.tmp 32) = .slice A2 (t.dep + 1) c2 := (Reg.eval_val a 32).trans h32
      have g32 := Reg.eval_getD e32'
      exact Reg.op_value (v := .slice A2 (t.dep + 1) c2) (w' := w_) rfl rfl (by simp only [List.getElem_toArray, List.getElem_cons_zero, List.getElem_cons_succ, execOp, e32']; go_simp) ⟨_, rfl, trivial, hb1, A2, c2, Reg.val_put_in hf (by kernel_rfl), h33⟩
  case fin =>
    intro a w_ hf hkn hj
    have e22 : Reg.val a 22 = _ := hkn 0 22 (by show _ < _; decide) (by kernel_rfl)
    have e23 : Reg.val a 23 = _ := hkn 1 23 (by show _ < _; decide) (by kernel_rfl)
    have e24 : Reg.val a 24 = _ := hkn 2 24 (by show _ < _; decide) (by kernel_rfl)
    have e25 : Reg.val a 25 = _ := hkn 3 25 (by show _ < _; decide) (by kernel_rfl)
    have e27 : Reg.val a 27 = _ := hkn 5 27 (by show _ < _; decide) (by kernel_rfl)
    have e28 : Reg.val a 28 = _ := hkn 6 28 (by show _ < _; decide) (by kernel_rfl)
    have e29 : Reg.val a 29 = _ := hkn 7 29 (by show _ < _; decide) (by kernel_rfl)
    have e30 : Reg.val a 30 = _ := hkn 8 30 (by show _ < _; decide) (by kernel_rfl)
    rw [Reg.frm_fold hf [22, 23, 24, 25, 26, 27, 28, 29, 30, 31, 32, 5] (by kernel_rfl) (by kernel_rfl)]
    simp only [List.foldl_cons, List.foldl_nil, Act.put, List.setIfInBounds_toArray, List.set_cons_zero, List.set_cons_succ, e22, e23, e24, e25, e27, e28, e29, e30]
    generalize Reg.val a 26 = v26_ at *
    generalize Reg.val a 31 = v31_ at *
    generalize Reg.val a 32 = v32_ at *
    generalize Reg.val a 5 = v5_ at *
    clear hkn hf e22 e23 e24 e25 e27 e28 e29 e30
    obtain ⟨hb1, A2, c2, rfl, ho2⟩ := hj
    have HB2 := Lib.hid hb1
    have HO2 := Lib.hid ho2
    clear hb1 ho2
    have HBW : Hid (Below W.heap.size W w_) := HBW1.out.trans (HB2.out.mono HBW1.out.size)
    have HTW : Hid (TkR b0 gt c.gw w_ t) := HT.out.below HB2.out
    have k19 : w_.cell? ⟨gt, 19, none⟩ = some (.int .i64 x) := by rw [HX.out]; exact HTW.out.kidsAt
    have z19 := HTW.out.frozen 19
    obtain ⟨kx, hkx⟩ : ∃ kx : Int, kx = ((t.kids + 1 : Nat) : Int) := ⟨_, rfl⟩
    have hw19 : wrap64 (x + 1) = kx := by have := HX.out; have := HKL.out; unfold wrap64; omega
    obtain ⟨W5, hW5⟩ : ∃ X : World, X = w_.setCell ⟨gt, 19, none⟩ (.int .i64 kx) := ⟨_, rfl⟩
    have HT5 : Hid (TkR b0 gt c.gw W5 { t with kids := t.kids + 1 }) := by rw [hW5, hkx]; exact HTW.out.setKids (t.kids + 1)
    have HK5 : Hid (Kq [227] w_ W5) := by
      obtain ⟨cb, hcb⟩ := HTW.out.blk
      rw [hW5]
      exact Kq.set hcb (by simp) 19 _
    have HU5 : Hid (Upd gt W W5) := by rw [hW5]; exact (Upd.below HBW.out).set _ _
    have HB5 : Hid (Below c.base c.w00 W5) := by
      rw [hW5]
      exact (HBB.out.1.trans (HBW.out.mono HBB.out.1.size)).setCell (p := ⟨gt, 19, none⟩) (Nat.le_trans HBB.out.2 HTW.out.hb) _
    have HE5 : Hid (c.ev W5 e) := (HE.out.below HBW.out).keep HK5.out (by decide) (by decide) (by decide)
    have HO5 : Hid (PathR W5 (.slice A2 (t.dep + 1) c2) (t.dep + 1)) := ⟨ps ++ [x], HK5.out.own (own_weaken HO2.out (Nat.zero_le _)) (by decide)⟩
    have HX5 : Hid (W5.heap[W.heap.size]? = some (.cells #[.int .i64 o, .int .i64 oa, .int .i64 (rb : Int), .int .i64 (f : Int), .int .i64 k0] 121 (0, 0))) := HK5.out.get (blk_below HXX.out HB2.out) (by decide)
    have HC5 : Hid (W5.cell? ⟨gt, 18, none⟩ = W.cell? ⟨gt, 18, none⟩) := by
      show W5.cell? ⟨gt, 18, none⟩ = W.cell? ⟨gt, 18, none⟩
      obtain ⟨cb, hcb⟩ := HTW.out.blk
      rw [← tk_cell hH.out HBW.out 18, hW5, blk_cell (blk_set hcb 19 _) 18, blk_cell hcb 18]
      exact Array.getElem?_setIfInBounds_ne (by decide)
    have HW5 := Lib.hid hW5
    have HKX := Lib.hid hkx
    clear hW5 hkx
    go_wp2_with fail
    rw [← HW5.out]
    clear k19 z19 hw19
    have c0 := HT5.out.own
    obtain ⟨ad, A1, c1, hA, f0, f1, fl, fC⟩ := Cx.fn_at HC.out f HF.out.1 HB5.out
    have cg : W5.cell? ⟨c.gw, 0, none⟩ = some (.slice (some ad) c.p.length c.cp) := by
      obtain ⟨_, tv, lv, lx, q1, _⟩ := HE5.out
      rw [← hA]
      exact (blk_cell q1 0).trans rfl
    have x2 := (blk_cell HX5.out 2).trans rfl
    have x3 := (blk_cell HX5.out 3).trans rfl
    rw [HF.out.2.2.1] at f0
    have i0 : (0 : Int) ≤ (f : Int) := by omega
    have i1 : (f : Int) < (c.p.length : Int) := by have := HF.out.1; omega
    have j0 : (0 : Int) ≤ (rb : Int) := by omega
    have hra := HF.out.2.2.2
    obtain ⟨q, hq⟩ : ∃ q : Nat, q = rb + ar := ⟨_, rfl⟩
    have j1 : IntKind.i64.wrap ((rb : Int) + (ar : Int)) = (q : Int) := by rw [hq, IntKind.wrap_i64]; omega
    have j2 := fun X => cut_regs gt rb ar HF.out.2.1 hra X
    rw [← hq] at j2
    clear hq
    clear fl fC hA f1 hra
    go_quiet (fail)
    obtain ⟨W6, hW6⟩ : ∃ X : World, X = W5.drewN nq := ⟨_, rfl⟩
    have hb56 : Below W5.heap.size W5 W6 := by rw [hW6]; exact pw_below_drewN (Below.refl _ _) nq
    have HT6 : Hid (TkR b0 gt c.gw W6 { t with kids := t.kids + 1 }) := HT5.out.below hb56
    have HU6 : Hid (Upd gt W W6) := HU5.out.trans (Upd.below hb56)
    have HB6 : Hid (Below c.base c.w00 W6) := HB5.out.trans (hb56.mono HB5.out.size)
    have HE6 : Hid (c.ev W6 e) := HE5.out.below hb56
    have HO6 : Hid (PathR W6 (.slice A2 (t.dep + 1) c2) (t.dep + 1)) := HO5.out.below hb56
    have HC6 : Hid (W6.cell? ⟨gt, 18, none⟩ = W.cell? ⟨gt, 18, none⟩) := (tk_cell HT5.out hb56 18).trans HC5.out
    have HX6 : Hid (W6.heap[W.heap.size]? = some (.cells #[.int .i64 o, .int .i64 oa, .int .i64 (rb : Int), .int .i64 (f : Int), .int .i64 k0] 121 (0, 0))) := blk_below HX5.out hb56
    have h10 := (HT6.out.hand 0 (by decide)).1.trans (congrArg (fun l : List (Bool × Int) => some (Value.bool (l.getD 0 (false, 0)).1)) HH4.out)
    have h11 := (HT6.out.hand 0 (by decide)).2.trans (congrArg (fun l : List (Bool × Int) => some (Value.int .i64 (l.getD 0 (false, 0)).2)) HH4.out)
    have h12 := (HT6.out.hand 1 (by decide)).1.trans (congrArg (fun l : List (Bool × Int) => some (Value.bool (l.getD 1 (false, 0)).1)) HH4.out)
    have h13 := (HT6.out.hand 1 (by decide)).2.trans (congrArg (fun l : List (Bool × Int) => some (Value.int .i64 (l.getD 1 (false, 0)).2)) HH4.out)
    have h14 := (HT6.out.hand 2 (by decide)).1.trans (congrArg (fun l : List (Bool × Int) => some (Value.bool (l.getD 2 (false, 0)).1)) HH4.out)
    have h15 := (HT6.out.hand 2 (by decide)).2.trans (congrArg (fun l : List (Bool × Int) => some (Value.int .i64 (l.getD 2 (false, 0)).2)) HH4.out)
    have h16 := (HT6.out.hand 3 (by decide)).1.trans (congrArg (fun l : List (Bool × Int) => some (Value.bool (l.getD 3 (false, 0)).1)) HH4.out)
    have h17 := (HT6.out.hand 3 (by decide)).2.trans (congrArg (fun l : List (Bool × Int) => some (Value.int .i64 (l.getD 3 (false, 0)).2)) HH4.out)
    have HQ : Hid (W6.cell? ⟨gt, 10, none⟩ = some (.bool y0) ∧ W6.cell? ⟨gt, 11, none⟩ = some (.int .i64 u0) ∧ W6.cell? ⟨gt, 12, none⟩ = some (.bool y1) ∧ W6.cell? ⟨gt, 13, none⟩ = some (.int .i64 u1) ∧ W6.cell? ⟨gt, 14, none⟩ = some (.bool y2) ∧ W6.cell? ⟨gt, 15, none⟩ = some (.int .i64 u2) ∧ W6.cell? ⟨gt, 16, none⟩ = some (.bool y3) ∧ W6.cell? ⟨gt, 17, none⟩ = some (.int .i64 u3)) := ⟨h10, h11, h12, h13, h14, h15, h16, h17⟩
    have HXS : Hid (((t.regs.drop rb).take ar).length = ar ∧ ∀ j u, (((t.regs.drop rb).take ar).map (Value.int .i64))[j]? = some u → W6.cell? ⟨gt, 2 + rb + j, none⟩ = some u) := by
      have h8 : t.regs.length = 8 := HT6.out.regs
      have hr := HF.out.2.2.2
      refine ⟨by rw [List.length_take, List.length_drop, h8]; omega, fun j u hj => ?_⟩
      have hlt : j < ar := by
        have := (List.getElem?_eq_some_iff.1 hj).1
        rw [List.length_map, List.length_take, List.length_drop, h8] at this
        omega
      rw [List.getElem?_map, List.getElem?_take_of_lt hlt, List.getElem?_drop, List.getElem?_eq_getElem (by omega)] at hj
      have := HT6.out.reg (rb + j) (by omega)
      rw [show 2 + rb + j = 2 + (rb + j) by omega, this]
      rw [← hj]
      show some (Value.int .i64 (t.regs.getD (rb + j) 0)) = _
      rw [List.getD_eq_getElem?_getD, List.getElem?_eq_getElem (by omega)]
      rfl
    have HBG : Hid (∀ (X : World) (v : Value), Below W6.heap.size W6 X → ArgsR X v ((t.regs.drop rb).take ar) → Calls Tryz.prog 81 #[.pointer (some ⟨c.gw, 0, none⟩), .int .i64 (f : Int), .slice A2 (t.dep + 1) c2, v, .agg #[.bool y0, .int .i64 u0, .bool y1, .int .i64 u1, .bool y2, .int .i64 u2, .bool y3, .int .i64 u3]] X (RP c W6 oo)) := fun X v hX hv => by
      have hb := begin_any HC.out n HRR.out X e f (t.dep + 1) (.slice A2 (t.dep + 1) c2) v ((t.regs.drop rb).take ar) [(y0, u0), (y1, u1), (y2, u2), (y3, u3)] HF.out.1 (HE6.out.below hX) (kid_ev HEO.out) HL.out (HO6.out.below hX) hv (by rw [HXS.out.1]; have := HF.out.2.2.2; omega) rfl (HB6.out.trans (hX.mono HB6.out.size)) HDD.out
      rw [← HH4.out, HOO.out] at hb
      have hb' : Calls Tryz.prog 81 #[.pointer (some ⟨c.gw, 0, none⟩), .int .i64 (f : Int), .slice A2 (t.dep + 1) c2, v, .agg #[.bool y0, .int .i64 u0, .bool y1, .int .i64 u1, .bool y2, .int .i64 u2, .bool y3, .int .i64 u3]] X (RP c X oo) := by
        rw [HH4.out] at hb
        exact hb
      refine hb'.mono ?_
      rintro en w' ⟨g1, g2, g3⟩
      exact ⟨(Kq.below hX).trans g1, g2, g3⟩
    rw [← hW6]
    clear hW6 hb56 h10 h11 h12 h13 h14 h15 h16 h17 c0 cg x2 x3 f0 i0 i1 j0 j1 j2
    go_wp2_with fail
    refine Reg.wp_region_phase (by kernel_rfl) [8, 13, 14] (fun i => match i with | 0 => fun v => v = .pointer (some ⟨gt, 0, none⟩) | 1 => fun v => v = .pointer (some ⟨gt, 0, none⟩) | 2 => fun v => v = .pointer (some ⟨gt, 0, none⟩) | 3 => fun v => v = .pointer (some ⟨c.gw, 0, none⟩) | 4 => fun v => v = .pointer (some ⟨W.heap.size, 3, none⟩) | 5 => fun v => v = .int .i64 (f : Int) | 6 => fun v => v = .slice A2 (t.dep + 1) c2 | 7 => fun v => v = .slice (some ⟨gt, 2 + rb, none⟩) ar (8 - rb) | 9 => fun v => v = .pointer (some ⟨gt, 0, none⟩) | 10 => fun v => v = .pointer (some ⟨gt, 0, none⟩) | 11 => fun v => v = .pointer (some ⟨gt, 10, none⟩) | 12 => fun v => v = .agg #[.bool y0, .int .i64 u0, .bool y1, .int .i64 u1, .bool y2, .int .i64 u2, .bool y3, .int .i64 u3] | _ => fun _ => True) (fun k f9 X => match k with | 0 => Below W6.heap.size W6 X | 1 => Below W6.heap.size W6 X ∧ ∃ v, f9 69 = v ∧ ArgsR X v ((t.regs.drop rb).take ar) | 2 => ∃ v, f9 74 = .int .i64 v ∧ RP c W6 oo (.returned (.int .i64 v)) X | _ => ∃ v, f9 4 = .int .i64 v ∧ RP c W6 oo (.returned (.int .i64 v)) X) (by kernel_rfl) (by kernel_rfl) (by decide) (by decide) ?hJ ?h0 ?pure ?act ?fin
    case hJ => (intro k f9 f' X h hj; match k, hj with
      | 0, hj => exact hj
      | 1, hj => (obtain ⟨h1, v, h2, h3⟩ := hj; exact ⟨h1, v, (h 0 (by omega) (by decide) 69 (by kernel_rfl)).symm.trans h2, h3⟩)
      | 2, hj => (obtain ⟨v, h2, h3⟩ := hj; exact ⟨v, (h 1 (by omega) (by decide) 74 (by kernel_rfl)).symm.trans h2, h3⟩)
      | k + 3, hj => (obtain ⟨v, h2, h3⟩ := hj; exact ⟨v, (h 2 (by omega) (by decide) 4 (by kernel_rfl)).symm.trans h2, h3⟩))
    case h0 => exact pw_below_drewN (Below.refl _ _) 1
    case pure =>
      intro i o k a w_ ho hE hk hmc hf hst hkn hj
      have hi : i < 15 := (Array.getElem?_eq_some_iff.1 ho).1
      obtain rfl | rfl | rfl | rfl | rfl | rfl | rfl | rfl | rfl | rfl | rfl | rfl : i = 0 ∨ i = 1 ∨ i = 2 ∨ i = 3 ∨ i = 4 ∨ i = 5 ∨ i = 6 ∨ i = 7 ∨ i = 9 ∨ i = 10 ∨ i = 11 ∨ i = 12 := by
        simp only [List.mem_cons, List.not_mem_nil, or_false, not_or] at hE
        omega
      · skip
        obtain rfl := Reg.oper_eq ho rfl
        have e0 : a.eval (.tmp 0) = .pointer (some ⟨gt, 0, none⟩) := (hf.eval 0 (by kernel_rfl)).trans rfl
        have g0 := Reg.eval_getD e0
        exact Reg.op_value rfl rfl (by simp only [List.getElem_toArray, List.getElem_cons_zero, List.getElem_cons_succ, execOp, e0]; go_simp) ⟨_, rfl, rfl, hj⟩
      · skip
        obtain rfl := Reg.oper_eq ho rfl
        have e61 : a.eval (.tmp 61) = .pointer (some ⟨gt, 0, none⟩) := hkn.eval 0 61 (by kernel_rfl) (by kernel_rfl)
        have g61 := Reg.eval_getD e61
        exact Reg.op_value rfl rfl (by simp only [List.getElem_toArray, List.getElem_cons_zero, List.getElem_cons_succ, execOp, e61]; go_simp) ⟨_, rfl, rfl, hj⟩
      · skip
        obtain rfl := Reg.oper_eq ho rfl
        have e62 : a.eval (.tmp 62) = .pointer (some ⟨gt, 0, none⟩) := hkn.eval 1 62 (by kernel_rfl) (by kernel_rfl)
        have g62 := Reg.eval_getD e62
        exact Reg.op_value rfl rfl (by simp only [List.getElem_toArray, List.getElem_cons_zero, List.getElem_cons_succ, execOp, e62]; go_simp) ⟨_, rfl, rfl, hj⟩
      · skip
        obtain rfl := Reg.oper_eq ho rfl
        have e63 : a.eval (.tmp 63) = .pointer (some ⟨gt, 0, none⟩) := hkn.eval 2 63 (by kernel_rfl) (by kernel_rfl)
        have g63 := Reg.eval_getD e63
        have hbw : Below W6.heap.size W6 w_ := by
          have hk3 : k = 0 ∨ k = 1 ∨ k = 2 ∨ k = 3 := by (simp only [List.length_cons, List.length_nil] at hk; omega)
          rcases hk3 with rfl | rfl | rfl | rfl
          · exact hj
          · exact hj.1
          · exact Bool.noConfusion (hmc.symm.trans (show Reg.mayComeB _ _ _ _ = false from by kernel_rfl))
          · exact Bool.noConfusion (hmc.symm.trans (show Reg.mayComeB _ _ _ _ = false from by kernel_rfl))
        have kf := (tk_cell HT6.out hbw 0).trans HT6.out.own
        exact Reg.op_value rfl rfl (by simp only [List.getElem_toArray, List.getElem_cons_zero, List.getElem_cons_succ, execOp, e63]; go_simp) ⟨_, rfl, rfl, hj⟩
      · skip
        obtain rfl := Reg.oper_eq ho rfl
        have e3 : a.eval (.tmp 3) = .pointer (some ⟨W.heap.size, 0, none⟩) := (hf.eval 3 (by kernel_rfl)).trans rfl
        have g3 := Reg.eval_getD e3
        exact Reg.op_value rfl rfl (by simp only [List.getElem_toArray, List.getElem_cons_zero, List.getElem_cons_succ, execOp, e3]; go_simp) ⟨_, rfl, rfl, hj⟩
      · skip
        obtain rfl := Reg.oper_eq ho rfl
        have e65 : a.eval (.tmp 65) = .pointer (some ⟨W.heap.size, 3, none⟩) := hkn.eval 4 65 (by kernel_rfl) (by kernel_rfl)
        have g65 := Reg.eval_getD e65
        have hbw : Below W6.heap.size W6 w_ := by
          have hk3 : k = 0 ∨ k = 1 ∨ k = 2 ∨ k = 3 := by (simp only [List.length_cons, List.length_nil] at hk; omega)
          rcases hk3 with rfl | rfl | rfl | rfl
          · exact hj
          · exact hj.1
          · exact Bool.noConfusion (hmc.symm.trans (show Reg.mayComeB _ _ _ _ = false from by kernel_rfl))
          · exact Bool.noConfusion (hmc.symm.trans (show Reg.mayComeB _ _ _ _ = false from by kernel_rfl))
        have kf := (blk_cell (blk_below HX6.out hbw) 3).trans rfl
        exact Reg.op_value rfl rfl (by simp only [List.getElem_toArray, List.getElem_cons_zero, List.getElem_cons_succ, execOp, e65]; go_simp) ⟨_, rfl, rfl, hj⟩
      · skip
        obtain rfl := Reg.oper_eq ho rfl
        have e5 : a.eval (.tmp 5) = .slice A2 (t.dep + 1) c2 := (hf.eval 5 (by kernel_rfl)).trans rfl
        have g5 := Reg.eval_getD e5
        exact Reg.op_value rfl rfl (by simp only [List.getElem_toArray, List.getElem_cons_zero, List.getElem_cons_succ, execOp, e5]; go_simp) ⟨_, rfl, rfl, hj⟩
      · skip
        obtain rfl := Reg.oper_eq ho rfl
        have e6 : a.eval (.tmp 6) = .slice (some ⟨gt, 2 + rb, none⟩) ar (8 - rb) := (hf.eval 6 (by kernel_rfl)).trans rfl
        have g6 := Reg.eval_getD e6
        exact Reg.op_value rfl rfl (by simp only [List.getElem_toArray, List.getElem_cons_zero, List.getElem_cons_succ, execOp, e6]; go_simp) ⟨_, rfl, rfl, hj⟩
      · skip
        obtain rfl := Reg.oper_eq ho rfl
        have e0 : a.eval (.tmp 0) = .pointer (some ⟨gt, 0, none⟩) := (hf.eval 0 (by kernel_rfl)).trans rfl
        have g0 := Reg.eval_getD e0
        exact Reg.op_value rfl rfl (by simp only [List.getElem_toArray, List.getElem_cons_zero, List.getElem_cons_succ, execOp, e0]; go_simp) ⟨_, rfl, rfl, hj⟩
      · skip
        obtain rfl := Reg.oper_eq ho rfl
        have e70 : a.eval (.tmp 70) = .pointer (some ⟨gt, 0, none⟩) := hkn.eval 9 70 (by kernel_rfl) (by kernel_rfl)
        have g70 := Reg.eval_getD e70
        exact Reg.op_value rfl rfl (by simp only [List.getElem_toArray, List.getElem_cons_zero, List.getElem_cons_succ, execOp, e70]; go_simp) ⟨_, rfl, rfl, hj⟩
      · skip
        obtain rfl := Reg.oper_eq ho rfl
        have e71 : a.eval (.tmp 71) = .pointer (some ⟨gt, 0, none⟩) := hkn.eval 10 71 (by kernel_rfl) (by kernel_rfl)
        have g71 := Reg.eval_getD e71
        exact Reg.op_value rfl rfl (by simp only [List.getElem_toArray, List.getElem_cons_zero, List.getElem_cons_succ, execOp, e71]; go_simp) ⟨_, rfl, rfl, hj⟩
      · skip
        obtain rfl := Reg.oper_eq ho rfl
        have e72 : a.eval (.tmp 72) = .pointer (some ⟨gt, 10, none⟩) := hkn.eval 11 72 (by kernel_rfl) (by kernel_rfl)
        have g72 := Reg.eval_getD e72
        have hbw : Below W6.heap.size W6 w_ := by
          have hk3 : k = 0 ∨ k = 1 ∨ k = 2 ∨ k = 3 := by (simp only [List.length_cons, List.length_nil] at hk; omega)
          rcases hk3 with rfl | rfl | rfl | rfl
          · exact hj
          · exact hj.1
          · exact Bool.noConfusion (hmc.symm.trans (show Reg.mayComeB _ _ _ _ = false from by kernel_rfl))
          · exact Bool.noConfusion (hmc.symm.trans (show Reg.mayComeB _ _ _ _ = false from by kernel_rfl))
        have q10 := (tk_cell HT6.out hbw 10).trans HQ.out.1
        have q11 := (tk_cell HT6.out hbw 11).trans HQ.out.2.1
        have q12 := (tk_cell HT6.out hbw 12).trans HQ.out.2.2.1
        have q13 := (tk_cell HT6.out hbw 13).trans HQ.out.2.2.2.1
        have q14 := (tk_cell HT6.out hbw 14).trans HQ.out.2.2.2.2.1
        have q15 := (tk_cell HT6.out hbw 15).trans HQ.out.2.2.2.2.2.1
        have q16 := (tk_cell HT6.out hbw 16).trans HQ.out.2.2.2.2.2.2.1
        have q17 := (tk_cell HT6.out hbw 17).trans HQ.out.2.2.2.2.2.2.2
        exact Reg.op_value rfl rfl (by simp only [List.getElem_toArray, List.getElem_cons_zero, List.getElem_cons_succ, execOp, e72]; go_simp) ⟨_, rfl, rfl, hj⟩
    case act =>
      intro k o a w_ hk ho hf hst hkn hj
      obtain rfl | rfl | rfl : k = 0 ∨ k = 1 ∨ k = 2 := by simp only [List.length_cons, List.length_nil] at hk; omega
      · skip
        obtain rfl := Reg.oper_eq ho rfl
        have e68 : a.eval (.tmp 68) = .slice (some ⟨gt, 2 + rb, none⟩) ar (8 - rb) := hkn.eval 7 68 (by kernel_rfl) (by kernel_rfl)
        have g68 := Reg.eval_getD e68
        refine Reg.op_call (f := 123) (args := #[.slice (some ⟨gt, 2 + rb, none⟩) ar (8 - rb)]) (w' := w_) rfl rfl (by simp only [List.getElem_toArray, List.getElem_cons_zero, List.getElem_cons_succ, execOp, e68]; go_simp) ((cargs_any gt (2 + rb) ar (8 - rb) ((t.regs.drop rb).take ar) HXS.out.1 (by have := HF.out.2.2.2; omega) (fun j u hj2 => (tk_cell HT6.out hj (2 + rb + j)).trans (HXS.out.2 j u hj2))).mono ?_)
        rintro e2 w2 ⟨v1, rfl, ha2, hb2⟩
        exact .inl ⟨_, rfl, _, rfl, trivial, Below.trans hj (hb2.mono (Below.size hj)), v1, Reg.val_put_in hf (by kernel_rfl), ha2⟩
      · skip
        obtain rfl := Reg.oper_eq ho rfl
        have e64 : a.eval (.tmp 64) = .pointer (some ⟨c.gw, 0, none⟩) := hkn.eval 3 64 (by kernel_rfl) (by kernel_rfl)
        have e66 : a.eval (.tmp 66) = .int .i64 (f : Int) := hkn.eval 5 66 (by kernel_rfl) (by kernel_rfl)
        have e67 : a.eval (.tmp 67) = .slice A2 (t.dep + 1) c2 := hkn.eval 6 67 (by kernel_rfl) (by kernel_rfl)
        have e73 : a.eval (.tmp 73) = .agg #[.bool y0, .int .i64 u0, .bool y1, .int .i64 u1, .bool y2, .int .i64 u2, .bool y3, .int .i64 u3] := hkn.eval 12 73 (by kernel_rfl) (by kernel_rfl)
        have g64 := Reg.eval_getD e64
        have g66 := Reg.eval_getD e66
        have g67 := Reg.eval_getD e67
        have g73 := Reg.eval_getD e73
        obtain ⟨h1, v1, h69, h3⟩ := hj
        have e69' : a.eval (.tmp 69) = v1 := (Reg.eval_val a 69).trans h69
        have g69 := Reg.eval_getD e69'
        refine Reg.op_call (f := 81) (args := #[.pointer (some ⟨c.gw, 0, none⟩), .int .i64 (f : Int), .slice A2 (t.dep + 1) c2, v1, .agg #[.bool y0, .int .i64 u0, .bool y1, .int .i64 u1, .bool y2, .int .i64 u2, .bool y3, .int .i64 u3]]) (w' := w_) rfl rfl (by simp only [List.getElem_toArray, List.getElem_cons_zero, List.getElem_cons_succ, execOp, e69', e64, e66, e67, e73]; go_simp) ((HBG.out w_ v1 h1 h3).mono ?_)
        rintro e2 w2 hrp
        cases oo with
        | ok e9 v =>
          obtain ⟨g1, g2, rfl, g4⟩ := hrp
          exact .inl ⟨_, rfl, _, rfl, trivial, v, Reg.val_put_in hf (by kernel_rfl), g1, g2, rfl, g4⟩
        | fail e9 why =>
          obtain ⟨g1, g2, rfl, g4⟩ := hrp
          exact .inr ⟨_, rfl, hf.defers, W6, HU6.out, HT6.out, HB6.out, HC6.out, g1, g2, rfl, g4⟩
        | long e9 =>
          obtain ⟨g1, g2, rfl, g4⟩ := hrp
          exact .inr ⟨_, rfl, hf.defers, W6, HU6.out, HT6.out, HB6.out, HC6.out, g1, g2, rfl, g4⟩
      · skip
        obtain rfl := Reg.oper_eq ho rfl
        obtain ⟨v, h74, h75⟩ := hj
        have e74' : a.eval (.tmp 74) = .int .i64 v := (Reg.eval_val a 74).trans h74
        have g74 := Reg.eval_getD e74'
        exact Reg.op_value (v := .int .i64 v) (w' := w_) rfl rfl (by simp only [List.getElem_toArray, List.getElem_cons_zero, List.getElem_cons_succ, execOp, e74']; go_simp) ⟨_, rfl, trivial, v, Reg.val_put_in hf (by kernel_rfl), h75⟩
    case fin =>
      intro a w_ hf hkn hj
      have e61 : Reg.val a 61 = _ := hkn 0 61 (by show _ < _; decide) (by kernel_rfl)
      have e62 : Reg.val a 62 = _ := hkn 1 62 (by show _ < _; decide) (by kernel_rfl)
      have e63 : Reg.val a 63 = _ := hkn 2 63 (by show _ < _; decide) (by kernel_rfl)
      have e64 : Reg.val a 64 = _ := hkn 3 64 (by show _ < _; decide) (by kernel_rfl)
      have e65 : Reg.val a 65 = _ := hkn 4 65 (by show _ < _; decide) (by kernel_rfl)
      have e66 : Reg.val a 66 = _ := hkn 5 66 (by show _ < _; decide) (by kernel_rfl)
      have e67 : Reg.val a 67 = _ := hkn 6 67 (by show _ < _; decide) (by kernel_rfl)
      have e68 : Reg.val a 68 = _ := hkn 7 68 (by show _ < _; decide) (by kernel_rfl)
      have e70 : Reg.val a 70 = _ := hkn 9 70 (by show _ < _; decide) (by kernel_rfl)
      have e71 : Reg.val a 71 = _ := hkn 10 71 (by show _ < _; decide) (by kernel_rfl)
      have e72 : Reg.val a 72 = _ := hkn 11 72 (by show _ < _; decide) (by kernel_rfl)
      have e73 : Reg.val a 73 = _ := hkn 12 73 (by show _ < _; decide) (by kernel_rfl)
      rw [Reg.frm_fold hf [61, 62, 63, 64, 65, 66, 67, 68, 69, 70, 71, 72, 73, 74, 4] (by kernel_rfl) (by kernel_rfl)]
      simp only [List.foldl_cons, List.foldl_nil, Act.put, List.setIfInBounds_toArray, List.set_cons_zero, List.set_cons_succ, e61, e62, e63, e64, e65, e66, e67, e68, e70, e71, e72, e73]
      generalize Reg.val a 69 = v69_ at *
      generalize Reg.val a 74 = v74_ at *
      generalize Reg.val a 4 = v4_ at *
      clear hkn hf e61 e62 e63 e64 e65 e66 e67 e68 e70 e71 e72 e73
      obtain ⟨v, rfl, hrp⟩ := hj
      have HRP := Lib.hid hrp
      clear hrp
      go_wp2_with fail
      go_ret
      exact ⟨W6, HU6.out, HT6.out, HB6.out, HC6.out, HRP.out⟩
set_option maxRecDepth 100000 in
set_option maxHeartbeats 4000000 in
theorem kid_deep {c : Cx} {b0 gt : Nat} {W : World} {t : Tk} {e : Ev} (o oa : Int) (rb f k0 : Int) (h : TkR b0 gt c.gw W t) (hE : c.ev W e) (hd : (t.dep : Int) = c.D) :
    Calls Tryz.prog 249 #[.pointer (some ⟨gt, 0, none⟩), .agg #[.int .i64 o, .int .i64 oa, .int .i64 rb, .int .i64 f, .int .i64 k0]] W (DF gt W 4) := by
  have ha0 : Below W.heap.size W (W.alloc (.cells #[.int .i64 o, .int .i64 oa, .int .i64 rb, .int .i64 f, .int .i64 k0] 121)) := (Below.refl _ _).alloc (Nat.le_refl _) _
  obtain ⟨pv, hpv, ps, hps⟩ := h.path
  obtain ⟨PA, pc, hpe⟩ := own_slice hps
  subst hpe
  have hD : ((t.dep : Int) == c.D) = true := by rw [hd]; simp
  have hgD : W.cell? ⟨c.gw, 2, none⟩ = some (.int .i64 c.D) := by
    obtain ⟨_, tv, lv, lx, q1, _⟩ := hE
    exact (blk_cell q1 2).trans rfl
  have hglt : c.gw < W.heap.size := by
    obtain ⟨_, tv, lv, lx, q1, _⟩ := hE
    exact blk_lt q1
  have c0 : (W.alloc (.cells #[.int .i64 o, .int .i64 oa, .int .i64 rb, .int .i64 f, .int .i64 k0] 121)).cell? ⟨gt, 0, none⟩ = some (.pointer (some ⟨c.gw, 0, none⟩)) := (tk_cell h ha0 0).trans h.own
  have c1 : (W.alloc (.cells #[.int .i64 o, .int .i64 oa, .int .i64 rb, .int .i64 f, .int .i64 k0] 121)).cell? ⟨gt, 1, none⟩ = some (.slice PA t.dep pc) := (tk_cell h ha0 1).trans hpv
  have cD : (W.alloc (.cells #[.int .i64 o, .int .i64 oa, .int .i64 rb, .int .i64 f, .int .i64 k0] 121)).cell? ⟨c.gw, 2, none⟩ = some (.int .i64 c.D) := (ha0.cell (p := ⟨c.gw, 2, none⟩) hglt).trans hgD
  have HA0 := Lib.hid ha0
  clear ha0 hpv hps hgD hglt h hE hd
  go_enter Tryz.func249, Tryz.ntmps249
  go_wp2_with fail
  go_quiet (fail)
  go_wp2_with fail
  refine (fail_any 4 _).mono ?_
  rintro e w' ⟨rfl, rfl⟩
  exact ⟨rfl, rfl, Upd.below (pw_below_drewN HA0.out _)⟩
end Go.Proofs.YtbiajfkencamiaaGreatDoor.EV
