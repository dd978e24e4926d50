/- The document's reading of a line: its walk at an instruction. -/
import Derived.Test.YtcchoeomeklgmaaDoorB5
namespace Go.Proofs.YtcchoeomeklgmaaDoor.Core.RT
open Go.RowKit Go.Shelf Go.Proofs.YtcchoeomeklgmaaDoorW.PrintWords Go.Proofs.YtcchoeomeklgmaaDoorW.PrintMore Go.Proofs.YtcchoeomeklgmaaDoor.P2 Go.Proofs.YtcchoeomeklgmaaDoor
open Go.Proofs.YtcchoeomeklgmaaDoor.PAsmParses (S69 k69 z69 S67 k67 z67 k67_openM k67_mkM k69_openM k69_mkM)
set_option linter.unusedVariables false
set_option linter.unusedSimpArgs false
set_option maxRecDepth 100000 in
set_option maxHeartbeats 4000000 in
theorem rtake_instr_no (t : List UInt8) (ht : t.length ≤ 90000) (x : List UInt8) (rest : List (List UInt8)) (hw : wordsL t = x :: rest) (hx : x ≠ funcW) (w : World) (p : List Fn) (v : Value) (base : Nat) (hS : PrgP w base v p) (hbase : base ≤ w.heap.size)
    (hno : instrL (x :: rest) = none ∨ p = []) :
    Calls Tryd.prog 14 #[v, .string ⟨t.toArray⟩] w (GivesP base w (.error 4)) := by
  have HWD := Lib.hid (fun W => rwords_any t (by omega) W)
  have hlen := wl_few t []
  rw [show wl [] t = x :: rest from hw] at hlen
  have hn : rest.length ≤ 100000 := by simp at hlen; omega
  rw [hw] at HWD
  obtain ⟨A0, c0, rfl, hpc⟩ := hS.slice
  have hxb : (x == [102, 117, 110, 99]) = false := by
    rw [beq_eq_false_iff_ne]
    exact hx
  have HIL := Lib.hid (fun i (h : instrL (x :: rest) = some i) => instrL_len h)
  have HB := Lib.hid hbase
  have HNO := Lib.hid hno
  have HN := Lib.hid hn
  clear hw hS hbase hx hno ht hlen hn
  go_enter Tryd.func14, Tryd.ntmps14
  go_wp2_with fail
  refine (HWD.out _).mono ?_
  rintro _ w1 ⟨v1, rfl, hR1, hb1⟩
  obtain ⟨A1, c1, rfl⟩ := Kd.R_slice hR1
  have hC := (Kd.R_reads' hR1).2.2
  have HI := Lib.hid (fun W (h : Below w1.heap.size w1 W) => rinstr_any x rest A1 c1 W (Kd.R_reads' (Kd.R_below hR1 h)).2.2 HN.out)
  obtain ⟨ad, hA, hc0⟩ := head_str ⟨x.toArray⟩ (wB rest) A1 w1 hC
  subst hA
  obtain ⟨n, hnn⟩ : ∃ n, n = (wB (x :: rest)).length := ⟨_, rfl⟩
  rw [← hnn] at HI hR1 ⊢
  have hn0 : (0 : Int) < (n : Int) := by simp at hnn; omega
  have hnz : (((n : Int)) == 0) = false := by rw [beq_eq_false_iff_ne]; omega
  have HB1 := Lib.hid hb1
  have HI1 := Lib.hid (HI.out w1 (Below.refl _ _))
  generalize instrL (x :: rest) = iv at HI HI1 HIL HNO
  clear hR1 hb1 hnn HWD hC HI
  go_wp2_with fail
  refine HI1.out.mono ?_
  intro e w2 hg
  cases iv with
  | none =>
    obtain ⟨b0, b1, b2, b3, b4, rfl, hb⟩ := hg
    have HBW : Hid (Below w.heap.size w w2) := HB1.out.trans (hb.mono HB1.out.size)
    clear hb hc0 HI1 HIL HNO
    go_wp2_with fail
    refine bodyPost_ret (results_tt rfl _ _ _ _ rfl rfl) rfl ?_
    exact ⟨rfl, Turned.below HB.out (HBW.out.alloc HBW.out.size _)⟩
  | some i =>
    obtain ⟨rfl, hb⟩ := hg
    obtain ⟨o, l⟩ := i
    have hl4 : l.length = 4 := HIL.out _ rfl
    match l, hl4 with
    | [b1, b2, b3, b4], _ =>
    have hp0 : p = [] := HNO.out.resolve_left (by simp)
    subst hp0
    have HBW : Hid (Below w.heap.size w w2) := HB1.out.trans (hb.mono HB1.out.size)
    clear hb hc0 HI1 HIL HNO
    go_wp2_with fail
    refine bodyPost_ret (results_tt rfl _ _ _ _ rfl rfl) rfl ?_
    exact ⟨rfl, Turned.below HB.out (HBW.out.alloc HBW.out.size _)⟩
set_option maxRecDepth 100000 in
set_option maxHeartbeats 4000000 in
theorem rtake_instr_yes (t : List UInt8) (ht : t.length ≤ 90000) (x : List UInt8) (rest : List (List UInt8)) (hw : wordsL t = x :: rest) (hx : x ≠ funcW) (w : World) (p : List Fn) (v : Value) (base : Nat) (hS : PrgP w base v p) (hF : Few p) (hbase : base ≤ w.heap.size)
    (o0 b1 b2 b3 b4 : Int) (hi : instrL (x :: rest) = some (o0, [b1, b2, b3, b4])) (f : Fn) (hgl : p.getLast? = some f) :
    Calls Tryd.prog 14 #[v, .string ⟨t.toArray⟩] w (GivesP base w (if f.2.length < 255 then .ok (p.set (p.length - 1) (f.1, f.2 ++ [(o0, [b1, b2, b3, b4])])) else .error 3)) := by
  have HWD := Lib.hid (fun W => rwords_any t (by omega) W)
  have hlen := wl_few t []
  rw [show wl [] t = x :: rest from hw] at hlen
  have hn : rest.length ≤ 100000 := by simp at hlen; omega
  rw [hw] at HWD
  have hxb : (x == [102, 117, 110, 99]) = false := by
    rw [beq_eq_false_iff_ne]
    exact hx
  obtain ⟨g, cap, oki, vl, rfl, hbg, hgs, hcv, hfv, hL⟩ := prg_last hS hgl
  obtain ⟨q, hq⟩ : ∃ q, p.length = q + 1 := ⟨p.length - 1, by
    cases p with
    | nil => cases hgl
    | cons a t => simp⟩
  obtain ⟨Al, cl, rfl⟩ := Kd.R_slice hL.1
  have hm := (hF.2 f (List.mem_of_getLast? hgl)).1
  rw [List.length_map] at hcv hL
  have HQ := Lib.hid hq
  have HL := Lib.hid hL
  have HS := Lib.hid hS
  have HF := Lib.hid hF
  have HB := Lib.hid hbase
  have HN := Lib.hid hn
  have HIE := Lib.hid hi
  have HG : Hid (base ≤ g ∧ g < w.heap.size) := ⟨hbg, hgs⟩
  rw [hq, Nat.add_sub_cancel] at hcv hfv
  rw [hq]
  have hq1 : q < 255 := by have := hF.1; omega
  obtain ⟨sp, hsp⟩ : ∃ sp, sp = (if f.2.length < 255 then (.ok (p.set (q + 1 - 1) (f.1, f.2 ++ [(o0, [b1, b2, b3, b4])])) : Except Int (List Fn)) else .error 3) := ⟨_, rfl⟩
  rw [← hsp]
  have HSP := Lib.hid hsp
  have HCV := Lib.hid hcv
  have HFV := Lib.hid hfv
  clear hsp hS hF hbase hn ht hx hi hL hq hcv hfv hbg hgs hgl hw hlen
  go_enter Tryd.func14, Tryd.ntmps14
  go_wp2_with fail
  refine (HWD.out _).mono ?_
  rintro _ w0 ⟨v1, rfl, hR1, hb0⟩
  obtain ⟨A1, c1, rfl⟩ := Kd.R_slice hR1
  have hC := (Kd.R_reads' hR1).2.2
  have HI := Lib.hid (rinstr_any x rest A1 c1 w0 hC HN.out)
  rw [HIE.out] at HI
  obtain ⟨ad, hA, hc0⟩ := head_str ⟨x.toArray⟩ (wB rest) A1 w0 hC
  subst hA
  obtain ⟨n, hnn⟩ : ∃ n, n = (wB (x :: rest)).length := ⟨_, rfl⟩
  rw [← hnn] at HI hR1 ⊢
  have hn0 : (0 : Int) < (n : Int) := by simp at hnn; omega
  have hnz : (((n : Int)) == 0) = false := by rw [beq_eq_false_iff_ne]; omega
  have HB0 := Lib.hid hb0
  clear hR1 hb0 hnn HWD hC
  go_wp2_with fail
  refine HI.out.mono ?_
  rintro _ w1 ⟨rfl, hb⟩
  have HBW : Hid (Below w.heap.size w (w1.alloc (.cells #[.int .i64 o0, .int .i64 b1, .int .i64 b2, .int .i64 b3, .int .i64 b4] 69))) := (HB0.out.trans (hb.mono HB0.out.size)).alloc (HB0.out.trans (hb.mono HB0.out.size)).size _
  have HCI : Hid ((w1.alloc (.cells #[.int .i64 o0, .int .i64 b1, .int .i64 b2, .int .i64 b3, .int .i64 b4] 69)).heap[w1.heap.size]? = some (.cells #[.int .i64 o0, .int .i64 b1, .int .i64 b2, .int .i64 b3, .int .i64 b4] 69 (0, 0))) := heap_alloc_new _ _
  clear hb hc0
  have hpz : (((q : Int) + 1) == 0) = false := by rw [beq_eq_false_iff_ne]; omega
  have hpz2 : ((((q + 1 : Nat)) : Int) == 0) = false := by rw [beq_eq_false_iff_ne]; omega
  have hqw : wrap64 ((q : Int) + 1 - 1) = (q : Int) := by unfold wrap64; omega
  have hqa : (q : Int) < (q : Int) + 1 := by omega
  have hqb : (0 : Int) ≤ (q : Int) := by omega
  have hcv := (HBW.out.cell (World.block_lt_of_cell? w _ HCV.out)).trans HCV.out
  have hfv := (HBW.out.frozen (p := ⟨g, q * 2 + 1, none⟩) HG.out.2).trans HFV.out
  by_cases hlt : f.2.length < 255
  · have HU : Hid (sp = .ok (p.set (q + 1 - 1) (f.1, f.2 ++ [(o0, [b1, b2, b3, b4])]))) := by show _ = _; rw [HSP.out, if_pos hlt]
    have hlt3 : ((f.2.length : Int) == 255) = false := by rw [beq_eq_false_iff_ne]; omega
    go_wp2_with fail
    obtain ⟨W, hW⟩ : ∃ W, w1.alloc (.cells #[.int .i64 o0, .int .i64 b1, .int .i64 b2, .int .i64 b3, .int .i64 b4] 69) = W := ⟨_, rfl⟩
    rw [hW] at hcv hfv HBW HCI ⊢
    clear hW
    obtain ⟨W1, hW1⟩ : ∃ X, W.drew = X := ⟨_, rfl⟩
    have HB1 : Hid (Below w.heap.size w W1) := by rw [← hW1]; exact below_drew HBW.out
    have HL1 : Hid (LastP W1 base g cap p f oki (.slice Al f.2.length cl)) := HL.out.below HB1.out
    have HZ1 : Hid (base ≤ W1.heap.size ∧ g < W1.heap.size ∧ base ≤ g) := ⟨Nat.le_trans HB.out HB1.out.size, Nat.lt_of_lt_of_le HG.out.2 HB1.out.size, HG.out.1⟩
    have hcv1 : W1.cell? ⟨g, q * 2 + 1, none⟩ = some (.slice Al f.2.length cl) := (HB1.out.cell (World.block_lt_of_cell? w _ HCV.out)).trans HCV.out
    have hfv1 : W1.frozen? ⟨g, q * 2 + 1, none⟩ = false := (HB1.out.frozen (p := ⟨g, q * 2 + 1, none⟩) HG.out.2).trans HFV.out
    have HCI1 : Hid (W1.heap[w1.heap.size]? = some (.cells #[.int .i64 o0, .int .i64 b1, .int .i64 b2, .int .i64 b3, .int .i64 b4] 69 (0, 0))) := by rw [← hW1]; exact HCI.out
    have HW1 := Lib.hid hW1
    clear hW1 hcv hfv
    generalize w1.heap.size = bi at *
    refine Reg.wp_region_phase (by kernel_rfl) [8, 9, 12] (fun i => match i with | 0 => fun v => v = .slice (some ⟨g, 0, none⟩) (q + 1) cap | 1 => fun v => v = .int .i64 (q : Int) | 2 => fun v => v = .slice (some ⟨g, 0, none⟩) (q + 1) cap | 3 => fun v => v = .int .i64 (q : Int) | 4 => fun v => v = .pointer (some ⟨g, q * 2, none⟩) | 5 => fun v => v = .pointer (some ⟨g, q * 2 + 1, none⟩) | 6 => fun v => v = .slice Al f.2.length cl | 7 => fun v => v = .agg #[.int .i64 o0, .int .i64 b1, .int .i64 b2, .int .i64 b3, .int .i64 b4] | 8 => fun v => v = .slice (some ⟨W1.heap.size, 0, none⟩) 1 1 | 10 => fun v => v = .pointer (some ⟨g, q * 2, none⟩) | 11 => fun v => v = .pointer (some ⟨g, q * 2 + 1, none⟩) | _ => fun _ => True) (fun k fv Wx => match k with | 0 => Wx = W1 | 1 => Wx = W1.alloc (.cells #[.int .i64 o0, .int .i64 b1, .int .i64 b2, .int .i64 b3, .int .i64 b4] 69) | 2 => k69.R 69 Wx base (fun k => oki k ∨ True ∧ W1.heap.size ≤ k) (fv 77) (f.2.map toI ++ [toI (o0, [b1, b2, b3, b4])]) ∧ Below base W1 Wx ∧ W1.grownBy Wx (.slice Al f.2.length cl : Value).ownBlock | _ => PrgP Wx base (.slice (some ⟨g, 0, none⟩) p.length cap) (p.set (p.length - 1) (f.1, f.2 ++ [(o0, [b1, b2, b3, b4])])) ∧ Turned base W1 Wx) (by kernel_rfl) (by kernel_rfl) (by decide) (by decide) ?hJ ?h0 ?pure ?act ?fin
    case hJ => intro k f f' W h hj; match k, hj with | 0, hj => exact hj | 1, hj => exact hj | 2, hj => (rw [← h 1 (by omega) (by decide) 77 (by kernel_rfl)]; exact hj) | k + 3, hj => exact hj
    case h0 => exact HW1.out
    case pure =>
      intro i o k a w_ ho hE hk hmc hf hst hkn hj
      have hi : i < 13 := (Array.getElem?_eq_some_iff.1 ho).1
      obtain rfl | rfl | rfl | rfl | rfl | rfl | rfl | rfl | rfl | rfl : i = 0 ∨ i = 1 ∨ i = 2 ∨ i = 3 ∨ i = 4 ∨ i = 5 ∨ i = 6 ∨ i = 7 ∨ i = 10 ∨ i = 11 := by
        simp only [List.mem_cons, List.not_mem_nil, or_false, not_or] at hE
        omega
      · skip
        obtain rfl := Reg.oper_eq ho rfl
        have e0 : a.eval (.tmp 0) = .slice (some ⟨g, 0, none⟩) (q + 1) cap := (hf.eval 0 (by kernel_rfl)).trans rfl
        have g0 := Reg.eval_getD e0
        exact Reg.op_value rfl rfl (by simp only [List.getElem_toArray, List.getElem_cons_zero, List.getElem_cons_succ, execOp, e0]; go_simp) ⟨_, rfl, rfl, hj⟩
      · skip
        obtain rfl := Reg.oper_eq ho rfl
        have e11 : a.eval (.tmp 11) = .int .i64 (q : Int) := (hf.eval 11 (by kernel_rfl)).trans rfl
        have g11 := Reg.eval_getD e11
        exact Reg.op_value rfl rfl (by simp only [List.getElem_toArray, List.getElem_cons_zero, List.getElem_cons_succ, execOp, e11]; go_simp) ⟨_, rfl, rfl, hj⟩
      · skip
        obtain rfl := Reg.oper_eq ho rfl
        have e0 : a.eval (.tmp 0) = .slice (some ⟨g, 0, none⟩) (q + 1) cap := (hf.eval 0 (by kernel_rfl)).trans rfl
        have g0 := Reg.eval_getD e0
        exact Reg.op_value rfl rfl (by simp only [List.getElem_toArray, List.getElem_cons_zero, List.getElem_cons_succ, execOp, e0]; go_simp) ⟨_, rfl, rfl, hj⟩
      · skip
        obtain rfl := Reg.oper_eq ho rfl
        have e11 : a.eval (.tmp 11) = .int .i64 (q : Int) := (hf.eval 11 (by kernel_rfl)).trans rfl
        have g11 := Reg.eval_getD e11
        exact Reg.op_value rfl rfl (by simp only [List.getElem_toArray, List.getElem_cons_zero, List.getElem_cons_succ, execOp, e11]; go_simp) ⟨_, rfl, rfl, hj⟩
      · skip
        obtain rfl := Reg.oper_eq ho rfl
        have e70 : a.eval (.tmp 70) = .slice (some ⟨g, 0, none⟩) (q + 1) cap := hkn.eval 2 70 (by kernel_rfl) (by kernel_rfl)
        have e71 : a.eval (.tmp 71) = .int .i64 (q : Int) := hkn.eval 3 71 (by kernel_rfl) (by kernel_rfl)
        have g70 := Reg.eval_getD e70
        have g71 := Reg.eval_getD e71
        have hqa : (q : Int) < ((q + 1 : Nat) : Int) := by omega
        have hqb : (0 : Int) ≤ (q : Int) := by omega
        exact Reg.op_value rfl rfl (by simp only [List.getElem_toArray, List.getElem_cons_zero, List.getElem_cons_succ, execOp, e70, e71]; go_simp) ⟨_, rfl, rfl, hj⟩
      · skip
        obtain rfl := Reg.oper_eq ho rfl
        have e72 : a.eval (.tmp 72) = .pointer (some ⟨g, q * 2, none⟩) := hkn.eval 4 72 (by kernel_rfl) (by kernel_rfl)
        have g72 := Reg.eval_getD e72
        exact Reg.op_value rfl rfl (by simp only [List.getElem_toArray, List.getElem_cons_zero, List.getElem_cons_succ, execOp, e72]; go_simp) ⟨_, rfl, rfl, hj⟩
      · skip
        obtain rfl := Reg.oper_eq ho rfl
        have e73 : a.eval (.tmp 73) = .pointer (some ⟨g, q * 2 + 1, none⟩) := hkn.eval 5 73 (by kernel_rfl) (by kernel_rfl)
        have g73 := Reg.eval_getD e73
        have hcw : w_.cell? ⟨g, q * 2 + 1, none⟩ = some (.slice Al f.2.length cl) := by
          have hk4 : k = 0 ∨ k = 1 ∨ k = 2 ∨ k = 3 := by simp only [List.length_cons, List.length_nil] at hk; omega
          rcases hk4 with rfl | rfl | rfl | rfl
          · rw [show w_ = W1 from hj]; exact hcv1
          · rw [show w_ = W1.alloc _ from hj]; exact (World.cell?_alloc_past _ _ _ HZ1.out.2.1).trans hcv1
          · exact Bool.noConfusion (hmc.symm.trans (show Reg.mayComeB _ _ _ _ = false from by kernel_rfl))
          · exact Bool.noConfusion (hmc.symm.trans (show Reg.mayComeB _ _ _ _ = false from by kernel_rfl))
        exact Reg.op_value rfl rfl (by simp only [List.getElem_toArray, List.getElem_cons_zero, List.getElem_cons_succ, execOp, e73]; go_simp) ⟨_, rfl, rfl, hj⟩
      · skip
        obtain rfl := Reg.oper_eq ho rfl
        have e9 : a.eval (.tmp 9) = .pointer (some ⟨bi, 0, none⟩) := (hf.eval 9 (by kernel_rfl)).trans rfl
        have g9 := Reg.eval_getD e9
        have hw0 : w_ = W1 := by
          have hk4 : k = 0 ∨ k = 1 ∨ k = 2 ∨ k = 3 := by simp only [List.length_cons, List.length_nil] at hk; omega
          rcases hk4 with rfl | rfl | rfl | rfl
          · exact hj
          · exact Bool.noConfusion (hmc.symm.trans (show Reg.mayComeB _ _ _ _ = false from by kernel_rfl))
          · exact Bool.noConfusion (hmc.symm.trans (show Reg.mayComeB _ _ _ _ = false from by kernel_rfl))
          · exact Bool.noConfusion (hmc.symm.trans (show Reg.mayComeB _ _ _ _ = false from by kernel_rfl))
        have k0 := blk_cell HCI1.out 0
        have k1 := blk_cell HCI1.out 1
        have k2 := blk_cell HCI1.out 2
        have k3 := blk_cell HCI1.out 3
        have k4 := blk_cell HCI1.out 4
        simp only [List.getElem?_toArray, List.getElem?_cons_zero, List.getElem?_cons_succ] at k0 k1 k2 k3 k4
        exact Reg.op_value rfl rfl (by rw [hw0]; simp only [List.getElem_toArray, List.getElem_cons_zero, List.getElem_cons_succ, execOp, e9]; go_simp) ⟨_, rfl, rfl, hj⟩
      · skip
        obtain rfl := Reg.oper_eq ho rfl
        have e68 : a.eval (.tmp 68) = .slice (some ⟨g, 0, none⟩) (q + 1) cap := hkn.eval 0 68 (by kernel_rfl) (by kernel_rfl)
        have e69 : a.eval (.tmp 69) = .int .i64 (q : Int) := hkn.eval 1 69 (by kernel_rfl) (by kernel_rfl)
        have g68 := Reg.eval_getD e68
        have g69 := Reg.eval_getD e69
        have hqa : (q : Int) < ((q + 1 : Nat) : Int) := by omega
        have hqb : (0 : Int) ≤ (q : Int) := by omega
        exact Reg.op_value rfl rfl (by simp only [List.getElem_toArray, List.getElem_cons_zero, List.getElem_cons_succ, execOp, e68, e69]; go_simp) ⟨_, rfl, rfl, hj⟩
      · skip
        obtain rfl := Reg.oper_eq ho rfl
        have e78 : a.eval (.tmp 78) = .pointer (some ⟨g, q * 2, none⟩) := hkn.eval 10 78 (by kernel_rfl) (by kernel_rfl)
        have g78 := Reg.eval_getD e78
        exact Reg.op_value rfl rfl (by simp only [List.getElem_toArray, List.getElem_cons_zero, List.getElem_cons_succ, execOp, e78]; go_simp) ⟨_, rfl, rfl, hj⟩
    case act =>
      intro k o a w_ hk ho hf hst hkn hj
      obtain rfl | rfl | rfl : k = 0 ∨ k = 1 ∨ k = 2 := by simp only [List.length_cons, List.length_nil] at hk; omega
      · skip
        obtain rfl := Reg.oper_eq ho rfl
        have e75 : a.eval (.tmp 75) = .agg #[.int .i64 o0, .int .i64 b1, .int .i64 b2, .int .i64 b3, .int .i64 b4] := hkn.eval 7 75 (by kernel_rfl) (by kernel_rfl)
        have g75 := Reg.eval_getD e75
        rw [show w_ = W1 from hj]
        refine Reg.op_value (v := .slice (some ⟨W1.heap.size, 0, none⟩) 1 1) (w' := W1.alloc (.cells #[.int .i64 o0, .int .i64 b1, .int .i64 b2, .int .i64 b3, .int .i64 b4] 69)) rfl rfl (by simp only [List.getElem_toArray, List.getElem_cons_zero, List.getElem_cons_succ, execOp, e75]; go_simp) ⟨_, rfl, rfl, rfl⟩
      · skip
        obtain rfl := Reg.oper_eq ho rfl
        have e74 : a.eval (.tmp 74) = .slice Al f.2.length cl := hkn.eval 6 74 (by kernel_rfl) (by kernel_rfl)
        have e76 : a.eval (.tmp 76) = .slice (some ⟨W1.heap.size, 0, none⟩) 1 1 := hkn.eval 8 76 (by kernel_rfl) (by kernel_rfl)
        have g74 := Reg.eval_getD e74
        have g76 := Reg.eval_getD e76
        rw [show w_ = W1.alloc _ from hj]
        refine Reg.op_wp rfl rfl ?_
        refine Kd.R_append_step k69 (w0 := W1) base rfl (.tmp 74) (.tmp 76) 65 69 (.agg #[(.int .i64 0), (.int .i64 0), (.int .i64 0), (.int .i64 0), (.int .i64 0)]) 40 rfl Tryd.underlying65 info69 rfl (by decide) (by omega) (.slice Al f.2.length cl) (f.2.map toI) (toI (o0, [b1, b2, b3, b4])) [.int .i64 o0, .int .i64 b1, .int .i64 b2, .int .i64 b3, .int .i64 b4] (fun k => oki k ∨ True ∧ W1.heap.size ≤ k) (fun _ => False) e74 e76 (k69_mkM _ base _ (toI (o0, [b1, b2, b3, b4]))) (fun _ hk => hk.elim) (fun k hk => .inr ⟨trivial, hk⟩) (Kd.R_mono HL1.out.1 (fun _ hk => .inl hk)) (Below.refl _ _) HZ1.out.1 (by rw [List.length_map]; omega) ?_
        intro v5 W5 hr5 hb5 hg5 _
        refine ⟨v5, rfl, trivial, ?_⟩
        show k69.R 69 W5 base _ (Reg.val (a.put (some 77) v5) 77) _ ∧ _
        rw [Reg.val_put_in hf (by kernel_rfl)]
        exact ⟨hr5, hb5, hg5⟩
      · skip
        obtain rfl := Reg.oper_eq ho rfl
        have e79 : a.eval (.tmp 79) = .pointer (some ⟨g, q * 2 + 1, none⟩) := hkn.eval 11 79 (by kernel_rfl) (by kernel_rfl)
        have g79 := Reg.eval_getD e79
        obtain ⟨hr5, hb5, hg5⟩ : k69.R 69 w_ base (fun k => oki k ∨ True ∧ W1.heap.size ≤ k) (Reg.val a 77) (f.2.map toI ++ [toI (o0, [b1, b2, b3, b4])]) ∧ Below base W1 w_ ∧ W1.grownBy w_ (.slice Al f.2.length cl : Value).ownBlock := hj
        have e77 : a.eval (.tmp 77) = Reg.val a 77 := Reg.eval_val a 77
        have hne : some g ≠ (.slice Al f.2.length cl : Value).ownBlock := fun he => HL1.out.2.1 g (HL1.out.1.1 g he.symm) rfl
        obtain ⟨hc5, hf5⟩ := grown_cell (q * 2 + 1) hg5 HZ1.out.2.1 hne
        rw [hcv1] at hc5
        rw [hfv1] at hf5
        have hP := prg_grown HL1.out (by have := HQ.out; omega) hr5 hg5
        have hTk : KeepsT W1 w_ := KeepsT.grown hg5 (fun j ej => by
          obtain ⟨cells, hc⟩ := Kd.R_typed HL1.out.1 j ej
          exact ⟨cells, .inr hc⟩)
        obtain ⟨cg, hcg⟩ : ∃ c, w_.heap[g]? = some (.cells c 67 (0, 0)) := by
          obtain ⟨c, hc⟩ := HL1.out.2.2.1
          exact ⟨c, (hg5.block g HZ1.out.2.1 hne).trans hc⟩
        have HCG := Lib.hid hcg
        obtain ⟨A5, c5, hv5⟩ := Kd.R_slice hr5
        rw [hv5] at e77 hP
        rw [show p.length - 1 = q by have := HQ.out; omega] at hP
        have hq9 : p.set q (f.1, f.2 ++ [(o0, [b1, b2, b3, b4])]) = p.set (p.length - 1) (f.1, f.2 ++ [(o0, [b1, b2, b3, b4])]) := by rw [show p.length - 1 = q by have := HQ.out; omega]
        rw [hq9] at hP
        have HPP := Lib.hid hP
        have HTK := Lib.hid hTk
        have HBB := Lib.hid hb5
        clear hr5 hb5 hg5 hne hv5 hP hTk hq9 hcg
        generalize (f.2.map toI ++ [toI (o0, [b1, b2, b3, b4])]).length = n5 at *
        have g77 := Reg.eval_getD e77
        refine Reg.op_unit (w' := w_.setCell ⟨g, q * 2 + 1, none⟩ (.slice A5 n5 c5)) rfl rfl (by simp only [List.getElem_toArray, List.getElem_cons_zero, List.getElem_cons_succ, execOp, e79, e77]; go_simp) ⟨_, rfl, trivial, ?_⟩
        exact ⟨HPP.out, Turned.trans (show Turned base W1 w_ from ⟨HBB.out, HTK.out⟩) (Turned.set _ HZ1.out.2.2 _ HCG.out)⟩
    case fin =>
      intro a w_ hf hkn hj
      have e68 : Reg.val a 68 = _ := hkn 0 68 (by show _ < _; decide) (by kernel_rfl)
      have e69 : Reg.val a 69 = _ := hkn 1 69 (by show _ < _; decide) (by kernel_rfl)
      have e70 : Reg.val a 70 = _ := hkn 2 70 (by show _ < _; decide) (by kernel_rfl)
      have e71 : Reg.val a 71 = _ := hkn 3 71 (by show _ < _; decide) (by kernel_rfl)
      have e72 : Reg.val a 72 = _ := hkn 4 72 (by show _ < _; decide) (by kernel_rfl)
      have e73 : Reg.val a 73 = _ := hkn 5 73 (by show _ < _; decide) (by kernel_rfl)
      have e74 : Reg.val a 74 = _ := hkn 6 74 (by show _ < _; decide) (by kernel_rfl)
      have e75 : Reg.val a 75 = _ := hkn 7 75 (by show _ < _; decide) (by kernel_rfl)
      have e76 : Reg.val a 76 = _ := hkn 8 76 (by show _ < _; decide) (by kernel_rfl)
      have e78 : Reg.val a 78 = _ := hkn 10 78 (by show _ < _; decide) (by kernel_rfl)
      have e79 : Reg.val a 79 = _ := hkn 11 79 (by show _ < _; decide) (by kernel_rfl)
      rw [Reg.frm_fold hf [68, 69, 70, 71, 72, 73, 74, 75, 76, 77, 78, 79] (by kernel_rfl) (by kernel_rfl)]
      simp only [List.foldl_cons, List.foldl_nil, Act.put, List.setIfInBounds_toArray, List.set_cons_zero, List.set_cons_succ, e68, e69, e70, e71, e72, e73, e74, e75, e76, e78, e79]
      generalize Reg.val a 77 = v77_ at *
      clear hkn hf e68 e69 e70 e71 e72 e73 e74 e75 e76 e78 e79
      obtain ⟨hP, hT⟩ : PrgP w_ base (.slice (some ⟨g, 0, none⟩) p.length cap) (p.set (p.length - 1) (f.1, f.2 ++ [(o0, [b1, b2, b3, b4])])) ∧ Turned base W1 w_ := hj
      have HPP := Lib.hid hP
      have HT : Hid (Turned base w w_) := Turned.trans (Turned.below HB.out HB1.out) hT
      clear hP hT hcv1 hfv1
      go_wp2_with fail
      refine bodyPost_ret (results_tt rfl _ _ _ _ rfl rfl) rfl ?_
      rw [HU.out]
      refine ⟨_, rfl, ?_, HT.out⟩
      have h9 := HPP.out
      rw [HQ.out] at h9
      exact h9
  · have HU : Hid (sp = .error 3) := by show _ = _; rw [HSP.out, if_neg hlt]
    have hl255 : f.2.length = 255 := by omega
    have hlt3 : ((f.2.length : Int) == 255) = true := by rw [beq_iff_eq]; omega
    clear hlt
    go_wp2_with fail
    refine bodyPost_ret (results_tt rfl _ _ _ _ rfl rfl) rfl ?_
    rw [HU.out]
    exact ⟨rfl, Turned.below HB.out HBW.out⟩
theorem rtake_any (t : List UInt8) (ht : t.length ≤ 90000) (w : World) (p : List Fn) (v : Value) (base : Nat) (hS : PrgP w base v p) (hF : Few p) (hbase : base ≤ w.heap.size) :
    Calls Tryd.prog 14 #[v, .string ⟨t.toArray⟩] w (GivesP base w (takeL p (wordsL t))) := by
  cases hw : wordsL t with
  | nil => exact rtake_nil t (by omega) hw w p v base hS hbase
  | cons x rest =>
    by_cases hx : x = funcW
    · subst hx
      by_cases h1 : rest.length = 1
      · obtain ⟨y, rfl⟩ : ∃ y, rest = [y] := List.length_eq_one_iff.1 h1
        exact rtake_func_yes t (by omega) y hw w p v base hS hF hbase
      · have e : takeL p (funcW :: rest) = .error 4 := by
          match rest, h1 with
          | [], _ => rfl
          | [y], h => exact absurd rfl h
          | y :: z :: t, _ => rfl
        rw [e]
        exact rtake_func_no t (by omega) rest hw h1 w v base hbase
    · rw [takeL_instr p x rest hx]
      cases hi : instrL (x :: rest) with
      | none => exact rtake_instr_no t ht x rest hw hx w p v base hS hbase (.inl hi)
      | some i =>
        cases hgl : p.getLast? with
        | none => exact rtake_instr_no t ht x rest hw hx w p v base hS hbase (.inr (List.getLast?_eq_none_iff.1 hgl))
        | some f =>
          obtain ⟨o, l⟩ := i
          have hl4 : l.length = 4 := instrL_len hi
          match l, hl4 with
          | [b1, b2, b3, b4], _ => exact rtake_instr_yes t ht x rest hw hx w p v base hS hF hbase o b1 b2 b3 b4 hi f hgl
end Go.Proofs.YtcchoeomeklgmaaDoor.Core.RT
