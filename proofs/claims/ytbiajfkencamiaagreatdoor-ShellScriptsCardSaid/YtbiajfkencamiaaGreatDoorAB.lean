/- asm.take: its walk at an instruction. asm.guarded: a line, taken; what gives up is caught. asm.Parse: the walk of its range. asm.Parse at any text; what the chapter's example says. Lines and words, as plain lists: notes, lines of clean words, numbers. -/
import Derived.Test.YtbiajfkencamiaaGreatDoorAA
import Derived.Outline
import Derived.HandedShaped
import Derived.BigRegionIn
import Derived.Test.YtbiajfkencamiaaGreatDoorRC
/-! AB -/
/-! asm.take: its walk at an instruction. -/
namespace Go.Proofs.YtbiajfkencamiaaGreatDoor.Core
open Go.RowKit Go.Shelf Go.Proofs.YtbiajfkencamiaaGreatDoorW.PrintWords Go.Proofs.YtbiajfkencamiaaGreatDoorW.PrintMore Go.Proofs.YtbiajfkencamiaaGreatDoor.P1 Go.Proofs.YtbiajfkencamiaaGreatDoor
open Go.Proofs.YtbiajfkencamiaaGreatDoor.PK (S121 k121 z121 S124 k124 z124 k124_openM k124_mkM k121_openM k121_mkM info124 info121)
set_option linter.unusedVariables false
set_option linter.unusedSimpArgs false
theorem fieldsL_len : ∀ (ms : List UInt8) (ws : List (List UInt8)) (r : List Int × List (List UInt8)), fieldsL ms ws = some r → r.1.length = ms.length
  | [], ws, r, h => by simp [fieldsL] at h; rw [← h]; rfl
  | m :: ms, ws, r, h => by
    by_cases h45 : m = 45
    · subst h45
      rw [fieldsL_minus] at h
      obtain ⟨r2, h2, rfl⟩ := Option.map_eq_some_iff.1 h
      simp [fieldsL_len ms ws r2 h2]
    · cases ws with
      | nil => rw [fieldsL_none m ms h45] at h; cases h
      | cons x ws =>
        rw [fieldsL_some m ms x ws h45] at h
        obtain ⟨v, _, h2⟩ := Option.bind_eq_some_iff.1 h
        obtain ⟨r2, h3, rfl⟩ := Option.map_eq_some_iff.1 h2
        simp [fieldsL_len ms ws r2 h3]
theorem marksL_len (n : Int) : (marksL n).length = 4 := by
  unfold marksL
  split
  · rename_i x hx
    have hm := List.mem_of_find?_eq_some hx
    simp only [entriesM, List.mem_cons, List.not_mem_nil, or_false] at hm
    rcases hm with h | h | h | h | h | h | h | h | h | h | h <;> rw [h] <;> rfl
  · rfl
theorem instrL_len {ws : List (List UInt8)} {i : Int × List Int} (h : instrL ws = some i) : i.2.length = 4 := by
  cases ws with
  | nil => cases h
  | cons x ws =>
    have h : (if 0 < namedL x then (fieldsL (marksL (namedL x)) ws).bind fun r => if r.2 = [] then some (namedL x, r.1) else none else none) = some i := h
    by_cases h0 : 0 < namedL x
    · rw [if_pos h0] at h
      obtain ⟨r, h1, h2⟩ := Option.bind_eq_some_iff.1 h
      by_cases h3 : r.2 = []
      · rw [if_pos h3] at h2
        injection h2 with h2
        rw [← h2]
        exact (fieldsL_len _ _ _ h1).trans (marksL_len _)
      · rw [if_neg h3] at h2
        cases h2
    · rw [if_neg h0] at h
      cases h
theorem LastP.below {w w' : World} {base g cap : Nat} {p : List Fn} {f : Fn} {oki : Nat → Prop} {vl : Value} (h : LastP w base g cap p f oki vl) (hb : Below w.heap.size w w') : LastP w' base g cap p f oki vl :=
  ⟨Kd.R_below h.1 hb, h.2.1, by obtain ⟨c, hc⟩ := h.2.2.1; exact ⟨c, blk_below hc hb⟩, Kd.H_below h.2.2.2 hb⟩
theorem takeL_instr (p : List Fn) (x : List UInt8) (rest : List (List UInt8)) (hx : x ≠ funcW) : takeL p (x :: rest) = (match instrL (x :: rest) with
      | none => .error 4
      | some i => (match p.getLast? with
         | none => .error 4
         | some f => if f.2.length < 255 then .ok (p.set (p.length - 1) (f.1, f.2 ++ [i])) else .error 3)) := (if_neg hx : (if x = funcW then _ else _) = _)
set_option maxRecDepth 100000 in
set_option maxHeartbeats 4000000 in
theorem take_instr_no (x : List UInt8) (rest : List (List UInt8)) (hx : x ≠ funcW) (A : Option Addr) (c : Nat) (w : World) (p : List Fn) (v : Value) (base : Nat) (ht : Tab2 w) (hC : Kd.string.C w A (wB (x :: rest)).length (wB (x :: rest))) (hc : (wB (x :: rest)).length ≤ c) (hn : rest.length ≤ 100000) (hS : PrgP w base v p) (hbase : base ≤ w.heap.size)
    (hno : instrL (x :: rest) = none ∨ p = []) :
    Calls Tryz.prog 153 #[v, .slice A (wB (x :: rest)).length c] w (GivesP base w (.error 4)) := by
  obtain ⟨ad, hA, hc0⟩ := head_str ⟨x.toArray⟩ (wB rest) A w hC
  have HI := Lib.hid (instr_any x rest A c w ht hC hc hn)
  have HIL := Lib.hid (fun i (h : instrL (x :: rest) = some i) => instrL_len h)
  subst hA
  obtain ⟨n, hnn⟩ : ∃ n, n = (wB (x :: rest)).length := ⟨_, rfl⟩
  rw [← hnn] at HI ⊢
  have hn0 : (0 : Int) < (n : Int) := by simp at hnn; omega
  generalize instrL (x :: rest) = iv at HI HIL hno
  have hxb : (x == [102, 117, 110, 99]) = false := by
    rw [beq_eq_false_iff_ne]
    exact hx
  have HB := Lib.hid hbase
  obtain ⟨A0, c0, rfl, hpc⟩ := hS.slice
  have HNO := Lib.hid hno
  clear hC hS hbase hnn hc hn ht hx hno
  go_enter Tryz.func153, Tryz.ntmps153
  go_wp2_with fail
  refine HI.out.mono ?_
  intro e w1 hg
  cases iv with
  | none =>
    obtain ⟨rfl, hb⟩ := hg
    exact ⟨rfl, rfl, Turned.below HB.out hb⟩
  | some i =>
    obtain ⟨rfl, hb⟩ := hg
    obtain ⟨o, l⟩ := i
    have hl4 : l.length = 4 := HIL.out _ rfl
    match l, hl4 with
    | [b1, b2, b3, b4], _ =>
    have hp0 : p = [] := HNO.out.resolve_left (by simp)
    subst hp0
    have HBW := Lib.hid hb
    clear hb hc0 HI HIL HNO
    go_wp2_with fail
    refine (need_no 4 _).mono ?_
    rintro _ W' ⟨rfl, hw'⟩
    rw [hw']
    exact ⟨rfl, rfl, Turned.below HB.out (HBW.out.alloc HBW.out.size _)⟩
set_option maxRecDepth 100000 in
set_option maxHeartbeats 4000000 in
theorem take_instr_yes (x : List UInt8) (rest : List (List UInt8)) (hx : x ≠ funcW) (A : Option Addr) (c : Nat) (w : World) (p : List Fn) (v : Value) (base : Nat) (ht : Tab2 w) (hC : Kd.string.C w A (wB (x :: rest)).length (wB (x :: rest))) (hc : (wB (x :: rest)).length ≤ c) (hn : rest.length ≤ 100000) (hS : PrgP w base v p) (hF : Few p) (hbase : base ≤ w.heap.size)
    (o0 b1 b2 b3 b4 : Int) (hi : instrL (x :: rest) = some (o0, [b1, b2, b3, b4])) (f : Fn) (hgl : p.getLast? = some f) :
    Calls Tryz.prog 153 #[v, .slice A (wB (x :: rest)).length c] w (GivesP base w (if f.2.length < 255 then .ok (p.set (p.length - 1) (f.1, f.2 ++ [(o0, [b1, b2, b3, b4])])) else .error 3)) := by
  obtain ⟨ad, hA, hc0⟩ := head_str ⟨x.toArray⟩ (wB rest) A w hC
  have HI := Lib.hid (instr_any x rest A c w ht hC hc hn)
  rw [hi] at HI
  subst hA
  obtain ⟨n, hnn⟩ : ∃ n, n = (wB (x :: rest)).length := ⟨_, rfl⟩
  rw [← hnn] at HI ⊢
  have hn0 : (0 : Int) < (n : Int) := by simp at hnn; omega
  have hxb : (x == [102, 117, 110, 99]) = false := by
    rw [beq_eq_false_iff_ne]
    exact hx
  obtain ⟨g, cap, oki, vl, rfl, hbg, hgs, hcv, hfv, hL⟩ := prg_last hS hgl
  obtain ⟨q, hq⟩ : ∃ q, p.length = q + 1 := ⟨p.length - 1, by
    cases p with
    | nil => cases hgl
    | cons a t => simp⟩
  obtain ⟨Al, cl, rfl⟩ := Kd.R_slice hL.1
  have hm := (hF.2 f (List.mem_of_getLast? hgl)).1
  rw [List.length_map] at hcv hL
  have HQ := Lib.hid hq
  have HL := Lib.hid hL
  have HS := Lib.hid hS
  have HF := Lib.hid hF
  have HB := Lib.hid hbase
  have HG : Hid (base ≤ g ∧ g < w.heap.size) := ⟨hbg, hgs⟩
  rw [hq, Nat.add_sub_cancel] at hcv hfv
  rw [hq]
  have hq1 : q < 255 := by have := hF.1; omega
  obtain ⟨sp, hsp⟩ : ∃ sp, sp = (if f.2.length < 255 then (.ok (p.set (q + 1 - 1) (f.1, f.2 ++ [(o0, [b1, b2, b3, b4])])) : Except Int (List Fn)) else .error 3) := ⟨_, rfl⟩
  rw [← hsp]
  have HSP := Lib.hid hsp
  have HCV := Lib.hid hcv
  have HFV := Lib.hid hfv
  clear hC hsp hS hF hbase hnn hc hn ht hx hi hL hq hcv hfv hbg hgs hgl
  go_enter Tryz.func153, Tryz.ntmps153
  go_wp2_with fail
  refine HI.out.mono ?_
  rintro _ w1 ⟨rfl, hb⟩
  have HBW : Hid (Below w.heap.size w (w1.alloc (.cells #[.int .i64 o0, .int .i64 b1, .int .i64 b2, .int .i64 b3, .int .i64 b4] 121))) := hb.alloc hb.size _
  have HCI : Hid ((w1.alloc (.cells #[.int .i64 o0, .int .i64 b1, .int .i64 b2, .int .i64 b3, .int .i64 b4] 121)).heap[w1.heap.size]? = some (.cells #[.int .i64 o0, .int .i64 b1, .int .i64 b2, .int .i64 b3, .int .i64 b4] 121 (0, 0))) := heap_alloc_new _ _
  clear hb hc0
  have hgt : (0 : Int) < (q : Int) + 1 := by omega
  have hgt2 : decide ((q : Int) + 1 > 0) = true := decide_eq_true hgt
  go_wp2_with fail
  refine (need_ok 4 _).mono ?_
  rintro _ W' ⟨rfl, hw'⟩
  rw [hw']
  clear hw' W'
  have hcv := (HBW.out.cell (World.block_lt_of_cell? w _ HCV.out)).trans HCV.out
  have hfv := (HBW.out.frozen (p := ⟨g, q * 2 + 1, none⟩) HG.out.2).trans HFV.out
  obtain ⟨W, hW⟩ : ∃ W, w1.alloc (.cells #[.int .i64 o0, .int .i64 b1, .int .i64 b2, .int .i64 b3, .int .i64 b4] 121) = W := ⟨_, rfl⟩
  rw [hW] at hcv hfv HBW HCI ⊢
  clear hW
  by_cases hlt : f.2.length < 255
  · have HU : Hid (sp = .ok (p.set (q + 1 - 1) (f.1, f.2 ++ [(o0, [b1, b2, b3, b4])]))) := by show _ = _; rw [HSP.out, if_pos hlt]
    have hlt2 : decide (f.2.length < 255) = true := decide_eq_true hlt
    have hlt3 : decide ((f.2.length : Int) < 255) = true := decide_eq_true (by omega)
    go_wp2_with fail
    refine (need_ok 3 _).mono ?_
    rintro _ W' ⟨rfl, hw'⟩
    rw [hw']
    clear hw' W'
    go_wp2_with fail
    obtain ⟨W1, hW1⟩ : ∃ X, W.drew = X := ⟨_, rfl⟩
    have HB1 : Hid (Below w.heap.size w W1) := by rw [← hW1]; exact below_drew HBW.out
    have HL1 : Hid (LastP W1 base g cap p f oki (.slice Al f.2.length cl)) := HL.out.below HB1.out
    have HZ1 : Hid (base ≤ W1.heap.size ∧ g < W1.heap.size ∧ base ≤ g) := ⟨Nat.le_trans HB.out HB1.out.size, Nat.lt_of_lt_of_le HG.out.2 HB1.out.size, HG.out.1⟩
    have hcv1 : W1.cell? ⟨g, q * 2 + 1, none⟩ = some (.slice Al f.2.length cl) := (HB1.out.cell (World.block_lt_of_cell? w _ HCV.out)).trans HCV.out
    have hfv1 : W1.frozen? ⟨g, q * 2 + 1, none⟩ = false := (HB1.out.frozen (p := ⟨g, q * 2 + 1, none⟩) HG.out.2).trans HFV.out
    have HCI1 : Hid (W1.heap[w1.heap.size]? = some (.cells #[.int .i64 o0, .int .i64 b1, .int .i64 b2, .int .i64 b3, .int .i64 b4] 121 (0, 0))) := by rw [← hW1]; exact HCI.out
    have HW1 := Lib.hid hW1
    clear hW1 hcv hfv
    generalize w1.heap.size = bi at *
    refine Reg.wp_region_phase (by kernel_rfl) [6, 7, 10] (fun i => match i with | 0 => fun v => v = .pointer (some ⟨g, q * 2, none⟩) | 1 => fun v => v = .pointer (some ⟨g, q * 2, none⟩) | 2 => fun v => v = .pointer (some ⟨g, q * 2, none⟩) | 3 => fun v => v = .pointer (some ⟨g, q * 2 + 1, none⟩) | 4 => fun v => v = .slice Al f.2.length cl | 5 => fun v => v = .agg #[.int .i64 o0, .int .i64 b1, .int .i64 b2, .int .i64 b3, .int .i64 b4] | 6 => fun v => v = .slice (some ⟨W1.heap.size, 0, none⟩) 1 1 | 8 => fun v => v = .pointer (some ⟨g, q * 2, none⟩) | 9 => fun v => v = .pointer (some ⟨g, q * 2 + 1, none⟩) | _ => fun _ => True) (fun k fv Wx => match k with | 0 => Wx = W1 | 1 => Wx = W1.alloc (.cells #[.int .i64 o0, .int .i64 b1, .int .i64 b2, .int .i64 b3, .int .i64 b4] 121) | 2 => k121.R 121 Wx base (fun k => oki k ∨ True ∧ W1.heap.size ≤ k) (fv 57) (f.2.map toI ++ [toI (o0, [b1, b2, b3, b4])]) ∧ Below base W1 Wx ∧ W1.grownBy Wx (.slice Al f.2.length cl : Value).ownBlock | _ => PrgP Wx base (.slice (some ⟨g, 0, none⟩) p.length cap) (p.set (p.length - 1) (f.1, f.2 ++ [(o0, [b1, b2, b3, b4])])) ∧ Turned base W1 Wx) (by kernel_rfl) (by kernel_rfl) (by decide) (by decide) ?hJ ?h0 ?pure ?act ?fin
    case hJ => intro k f f' W h hj; match k, hj with | 0, hj => exact hj | 1, hj => exact hj | 2, hj => (rw [← h 1 (by omega) (by decide) 57 (by kernel_rfl)]; exact hj) | k + 3, hj => exact hj
    case h0 => exact HW1.out
    case pure =>
      intro i o k a w_ ho hE hk hmc hf hst hkn hj
      have hi : i < 11 := (Array.getElem?_eq_some_iff.1 ho).1
      obtain rfl | rfl | rfl | rfl | rfl | rfl | rfl | rfl : i = 0 ∨ i = 1 ∨ i = 2 ∨ i = 3 ∨ i = 4 ∨ i = 5 ∨ i = 8 ∨ i = 9 := by
        simp only [List.mem_cons, List.not_mem_nil, or_false, not_or] at hE
        omega
      · skip
        obtain rfl := Reg.oper_eq ho rfl
        have e7 : a.eval (.tmp 7) = .pointer (some ⟨g, q * 2, none⟩) := (hf.eval 7 (by kernel_rfl)).trans rfl
        have g7 := Reg.eval_getD e7
        exact Reg.op_value rfl rfl (by simp only [List.getElem_toArray, List.getElem_cons_zero, List.getElem_cons_succ, execOp, e7]; go_simp) ⟨_, rfl, rfl, hj⟩
      · skip
        obtain rfl := Reg.oper_eq ho rfl
        have e7 : a.eval (.tmp 7) = .pointer (some ⟨g, q * 2, none⟩) := (hf.eval 7 (by kernel_rfl)).trans rfl
        have g7 := Reg.eval_getD e7
        exact Reg.op_value rfl rfl (by simp only [List.getElem_toArray, List.getElem_cons_zero, List.getElem_cons_succ, execOp, e7]; go_simp) ⟨_, rfl, rfl, hj⟩
      · skip
        obtain rfl := Reg.oper_eq ho rfl
        have e51 : a.eval (.tmp 51) = .pointer (some ⟨g, q * 2, none⟩) := hkn.eval 1 51 (by kernel_rfl) (by kernel_rfl)
        have g51 := Reg.eval_getD e51
        exact Reg.op_value rfl rfl (by simp only [List.getElem_toArray, List.getElem_cons_zero, List.getElem_cons_succ, execOp, e51]; go_simp) ⟨_, rfl, rfl, hj⟩
      · skip
        obtain rfl := Reg.oper_eq ho rfl
        have e52 : a.eval (.tmp 52) = .pointer (some ⟨g, q * 2, none⟩) := hkn.eval 2 52 (by kernel_rfl) (by kernel_rfl)
        have g52 := Reg.eval_getD e52
        exact Reg.op_value rfl rfl (by simp only [List.getElem_toArray, List.getElem_cons_zero, List.getElem_cons_succ, execOp, e52]; go_simp) ⟨_, rfl, rfl, hj⟩
      · skip
        obtain rfl := Reg.oper_eq ho rfl
        have e53 : a.eval (.tmp 53) = .pointer (some ⟨g, q * 2 + 1, none⟩) := hkn.eval 3 53 (by kernel_rfl) (by kernel_rfl)
        have g53 := Reg.eval_getD e53
        have hcw : w_.cell? ⟨g, q * 2 + 1, none⟩ = some (.slice Al f.2.length cl) := by
          have hk4 : k = 0 ∨ k = 1 ∨ k = 2 ∨ k = 3 := by simp only [List.length_cons, List.length_nil] at hk; omega
          rcases hk4 with rfl | rfl | rfl | rfl
          · rw [show w_ = W1 from hj]; exact hcv1
          · rw [show w_ = W1.alloc _ from hj]; exact (World.cell?_alloc_past _ _ _ HZ1.out.2.1).trans hcv1
          · exact Bool.noConfusion (hmc.symm.trans (show Reg.mayComeB _ _ _ _ = false from by kernel_rfl))
          · exact Bool.noConfusion (hmc.symm.trans (show Reg.mayComeB _ _ _ _ = false from by kernel_rfl))
        exact Reg.op_value rfl rfl (by simp only [List.getElem_toArray, List.getElem_cons_zero, List.getElem_cons_succ, execOp, e53]; go_simp) ⟨_, rfl, rfl, hj⟩
      · skip
        obtain rfl := Reg.oper_eq ho rfl
        have e6 : a.eval (.tmp 6) = .pointer (some ⟨bi, 0, none⟩) := (hf.eval 6 (by kernel_rfl)).trans rfl
        have g6 := Reg.eval_getD e6
        have hw0 : w_ = W1 := by
          have hk4 : k = 0 ∨ k = 1 ∨ k = 2 ∨ k = 3 := by simp only [List.length_cons, List.length_nil] at hk; omega
          rcases hk4 with rfl | rfl | rfl | rfl
          · exact hj
          · exact Bool.noConfusion (hmc.symm.trans (show Reg.mayComeB _ _ _ _ = false from by kernel_rfl))
          · exact Bool.noConfusion (hmc.symm.trans (show Reg.mayComeB _ _ _ _ = false from by kernel_rfl))
          · exact Bool.noConfusion (hmc.symm.trans (show Reg.mayComeB _ _ _ _ = false from by kernel_rfl))
        have k0 := blk_cell HCI1.out 0
        have k1 := blk_cell HCI1.out 1
        have k2 := blk_cell HCI1.out 2
        have k3 := blk_cell HCI1.out 3
        have k4 := blk_cell HCI1.out 4
        simp only [List.getElem?_toArray, List.getElem?_cons_zero, List.getElem?_cons_succ] at k0 k1 k2 k3 k4
        exact Reg.op_value rfl rfl (by rw [hw0]; simp only [List.getElem_toArray, List.getElem_cons_zero, List.getElem_cons_succ, execOp, e6]; go_simp) ⟨_, rfl, rfl, hj⟩
      · skip
        obtain rfl := Reg.oper_eq ho rfl
        have e50 : a.eval (.tmp 50) = .pointer (some ⟨g, q * 2, none⟩) := hkn.eval 0 50 (by kernel_rfl) (by kernel_rfl)
        have g50 := Reg.eval_getD e50
        exact Reg.op_value rfl rfl (by simp only [List.getElem_toArray, List.getElem_cons_zero, List.getElem_cons_succ, execOp, e50]; go_simp) ⟨_, rfl, rfl, hj⟩
      · skip
        obtain rfl := Reg.oper_eq ho rfl
        have e58 : a.eval (.tmp 58) = .pointer (some ⟨g, q * 2, none⟩) := hkn.eval 8 58 (by kernel_rfl) (by kernel_rfl)
        have g58 := Reg.eval_getD e58
        exact Reg.op_value rfl rfl (by simp only [List.getElem_toArray, List.getElem_cons_zero, List.getElem_cons_succ, execOp, e58]; go_simp) ⟨_, rfl, rfl, hj⟩
    case act =>
      intro k o a w_ hk ho hf hst hkn hj
      obtain rfl | rfl | rfl : k = 0 ∨ k = 1 ∨ k = 2 := by simp only [List.length_cons, List.length_nil] at hk; omega
      · skip
        obtain rfl := Reg.oper_eq ho rfl
        have e55 : a.eval (.tmp 55) = .agg #[.int .i64 o0, .int .i64 b1, .int .i64 b2, .int .i64 b3, .int .i64 b4] := hkn.eval 5 55 (by kernel_rfl) (by kernel_rfl)
        have g55 := Reg.eval_getD e55
        rw [show w_ = W1 from hj]
        refine Reg.op_value (v := .slice (some ⟨W1.heap.size, 0, none⟩) 1 1) (w' := W1.alloc (.cells #[.int .i64 o0, .int .i64 b1, .int .i64 b2, .int .i64 b3, .int .i64 b4] 121)) rfl rfl (by simp only [List.getElem_toArray, List.getElem_cons_zero, List.getElem_cons_succ, execOp, e55]; go_simp) ⟨_, rfl, rfl, rfl⟩
      · skip
        obtain rfl := Reg.oper_eq ho rfl
        have e54 : a.eval (.tmp 54) = .slice Al f.2.length cl := hkn.eval 4 54 (by kernel_rfl) (by kernel_rfl)
        have e56 : a.eval (.tmp 56) = .slice (some ⟨W1.heap.size, 0, none⟩) 1 1 := hkn.eval 6 56 (by kernel_rfl) (by kernel_rfl)
        have g54 := Reg.eval_getD e54
        have g56 := Reg.eval_getD e56
        rw [show w_ = W1.alloc _ from hj]
        refine Reg.op_wp rfl rfl ?_
        refine Kd.R_append_step k121 (w0 := W1) base rfl (.tmp 54) (.tmp 56) 122 121 (.agg #[(.int .i64 0), (.int .i64 0), (.int .i64 0), (.int .i64 0), (.int .i64 0)]) 40 rfl Tryz.underlying122 info121 rfl (by decide) (by omega) (.slice Al f.2.length cl) (f.2.map toI) (toI (o0, [b1, b2, b3, b4])) [.int .i64 o0, .int .i64 b1, .int .i64 b2, .int .i64 b3, .int .i64 b4] (fun k => oki k ∨ True ∧ W1.heap.size ≤ k) (fun _ => False) e54 e56 (k121_mkM _ base _ (toI (o0, [b1, b2, b3, b4]))) (fun _ hk => hk.elim) (fun k hk => .inr ⟨trivial, hk⟩) (Kd.R_mono HL1.out.1 (fun _ hk => .inl hk)) (Below.refl _ _) HZ1.out.1 (by rw [List.length_map]; omega) ?_
        intro v5 W5 hr5 hb5 hg5 _
        refine ⟨v5, rfl, trivial, ?_⟩
        show k121.R 121 W5 base _ (Reg.val (a.put (some 57) v5) 57) _ ∧ _
        rw [Reg.val_put_in hf (by kernel_rfl)]
        exact ⟨hr5, hb5, hg5⟩
      · skip
        obtain rfl := Reg.oper_eq ho rfl
        have e59 : a.eval (.tmp 59) = .pointer (some ⟨g, q * 2 + 1, none⟩) := hkn.eval 9 59 (by kernel_rfl) (by kernel_rfl)
        have g59 := Reg.eval_getD e59
        obtain ⟨hr5, hb5, hg5⟩ : k121.R 121 w_ base (fun k => oki k ∨ True ∧ W1.heap.size ≤ k) (Reg.val a 57) (f.2.map toI ++ [toI (o0, [b1, b2, b3, b4])]) ∧ Below base W1 w_ ∧ W1.grownBy w_ (.slice Al f.2.length cl : Value).ownBlock := hj
        have e57 : a.eval (.tmp 57) = Reg.val a 57 := Reg.eval_val a 57
        have hne : some g ≠ (.slice Al f.2.length cl : Value).ownBlock := fun he => HL1.out.2.1 g (HL1.out.1.1 g he.symm) rfl
        obtain ⟨hc5, hf5⟩ := grown_cell (q * 2 + 1) hg5 HZ1.out.2.1 hne
        rw [hcv1] at hc5
        rw [hfv1] at hf5
        have hP := prg_grown HL1.out (by have := HQ.out; omega) hr5 hg5
        have hTk : KeepsT W1 w_ := KeepsT.grown hg5 (fun j ej => by
          obtain ⟨cells, hc⟩ := Kd.R_typed HL1.out.1 j ej
          exact ⟨cells, .inr hc⟩)
        obtain ⟨cg, hcg⟩ : ∃ c, w_.heap[g]? = some (.cells c 124 (0, 0)) := by
          obtain ⟨c, hc⟩ := HL1.out.2.2.1
          exact ⟨c, (hg5.block g HZ1.out.2.1 hne).trans hc⟩
        have HCG := Lib.hid hcg
        obtain ⟨A5, c5, hv5⟩ := Kd.R_slice hr5
        rw [hv5] at e57 hP
        rw [show p.length - 1 = q by have := HQ.out; omega] at hP
        have hq9 : p.set q (f.1, f.2 ++ [(o0, [b1, b2, b3, b4])]) = p.set (p.length - 1) (f.1, f.2 ++ [(o0, [b1, b2, b3, b4])]) := by rw [show p.length - 1 = q by have := HQ.out; omega]
        rw [hq9] at hP
        have HPP := Lib.hid hP
        have HTK := Lib.hid hTk
        have HBB := Lib.hid hb5
        clear hr5 hb5 hg5 hne hv5 hP hTk hq9 hcg
        generalize (f.2.map toI ++ [toI (o0, [b1, b2, b3, b4])]).length = n5 at *
        have g57 := Reg.eval_getD e57
        refine Reg.op_unit (w' := w_.setCell ⟨g, q * 2 + 1, none⟩ (.slice A5 n5 c5)) rfl rfl (by simp only [List.getElem_toArray, List.getElem_cons_zero, List.getElem_cons_succ, execOp, e59, e57]; go_simp) ⟨_, rfl, trivial, ?_⟩
        exact ⟨HPP.out, Turned.trans (show Turned base W1 w_ from ⟨HBB.out, HTK.out⟩) (Turned.set _ HZ1.out.2.2 _ HCG.out)⟩
    case fin =>
      intro a w_ hf hkn hj
      have e50 : Reg.val a 50 = _ := hkn 0 50 (by show _ < _; decide) (by kernel_rfl)
      have e51 : Reg.val a 51 = _ := hkn 1 51 (by show _ < _; decide) (by kernel_rfl)
      have e52 : Reg.val a 52 = _ := hkn 2 52 (by show _ < _; decide) (by kernel_rfl)
      have e53 : Reg.val a 53 = _ := hkn 3 53 (by show _ < _; decide) (by kernel_rfl)
      have e54 : Reg.val a 54 = _ := hkn 4 54 (by show _ < _; decide) (by kernel_rfl)
      have e55 : Reg.val a 55 = _ := hkn 5 55 (by show _ < _; decide) (by kernel_rfl)
      have e56 : Reg.val a 56 = _ := hkn 6 56 (by show _ < _; decide) (by kernel_rfl)
      have e58 : Reg.val a 58 = _ := hkn 8 58 (by show _ < _; decide) (by kernel_rfl)
      have e59 : Reg.val a 59 = _ := hkn 9 59 (by show _ < _; decide) (by kernel_rfl)
      rw [Reg.frm_fold hf [50, 51, 52, 53, 54, 55, 56, 57, 58, 59] (by kernel_rfl) (by kernel_rfl)]
      simp only [List.foldl_cons, List.foldl_nil, Act.put, List.setIfInBounds_toArray, List.set_cons_zero, List.set_cons_succ, e50, e51, e52, e53, e54, e55, e56, e58, e59]
      generalize Reg.val a 57 = v57_ at *
      clear hkn hf e50 e51 e52 e53 e54 e55 e56 e58 e59
      obtain ⟨hP, hT⟩ : PrgP w_ base (.slice (some ⟨g, 0, none⟩) p.length cap) (p.set (p.length - 1) (f.1, f.2 ++ [(o0, [b1, b2, b3, b4])])) ∧ Turned base W1 w_ := hj
      have HPP := Lib.hid hP
      have HT : Hid (Turned base w w_) := Turned.trans (Turned.below HB.out HB1.out) hT
      clear hP hT hcv1 hfv1
      go_wp2_with fail
      go_ret
      rw [HU.out]
      refine ⟨_, rfl, ?_, HT.out⟩
      have h9 := HPP.out
      rw [HQ.out] at h9
      exact h9
  · have HU : Hid (sp = .error 3) := by show _ = _; rw [HSP.out, if_neg hlt]
    have hlt2 : decide (f.2.length < 255) = false := decide_eq_false hlt
    have hlt3 : decide ((f.2.length : Int) < 255) = false := decide_eq_false (by omega)
    go_wp2_with fail
    refine (need_no 3 _).mono ?_
    rintro _ W' ⟨rfl, hw'⟩
    rw [hw', HU.out]
    exact ⟨rfl, rfl, Turned.below HB.out HBW.out⟩
end Go.Proofs.YtbiajfkencamiaaGreatDoor.Core
/-! asm.guarded: a line, taken; what gives up is caught. -/
namespace Go.Proofs.YtbiajfkencamiaaGreatDoor.Core
open Go.RowKit Go.Shelf Go.Proofs.YtbiajfkencamiaaGreatDoorW.PrintWords Go.Proofs.YtbiajfkencamiaaGreatDoorW.PrintMore Go.Proofs.YtbiajfkencamiaaGreatDoor.P1 Go.Proofs.YtbiajfkencamiaaGreatDoor
open Go.Proofs.YtbiajfkencamiaaGreatDoor.PK (S121 k121 z121 S124 k124 z124 k124_openM k124_mkM k121_openM k121_mkM info124 info121)
set_option linter.unusedVariables false
set_option linter.unusedSimpArgs false
/-- asm.take, at words. -/
theorem take_any (x : List UInt8) (rest : List (List UInt8)) (A : Option Addr) (c : Nat) (w : World) (p : List Fn) (v : Value) (base : Nat) (ht : Tab2 w) (hC : Kd.string.C w A (wB (x :: rest)).length (wB (x :: rest))) (hc : (wB (x :: rest)).length ≤ c) (hn : rest.length ≤ 100000) (hS : PrgP w base v p) (hF : Few p) (hbase : base ≤ w.heap.size) :
    Calls Tryz.prog 153 #[v, .slice A (wB (x :: rest)).length c] w (GivesP base w (takeL p (x :: rest))) := by
  by_cases hx : x = funcW
  · subst hx
    by_cases h1 : rest.length = 1
    · obtain ⟨y, rfl⟩ : ∃ y, rest = [y] := List.length_eq_one_iff.1 h1
      exact take_func_yes y A c w p v base hC hS hF hbase
    · have e : takeL p (funcW :: rest) = .error 4 := by
        match rest, h1 with
        | [], _ => rfl
        | [y], h => exact absurd rfl h
        | y :: z :: t, _ => rfl
      rw [e]
      exact take_func_no rest h1 A c w v base hC
  · rw [takeL_instr p x rest hx]
    cases hi : instrL (x :: rest) with
    | none => exact take_instr_no x rest hx A c w p v base ht hC hc hn hS hbase (.inl hi)
    | some i =>
      cases hgl : p.getLast? with
      | none => exact take_instr_no x rest hx A c w p v base ht hC hc hn hS hbase (.inr (List.getLast?_eq_none_iff.1 hgl))
      | some f =>
        obtain ⟨o, l⟩ := i
        have hl4 : l.length = 4 := instrL_len hi
        match l, hl4 with
        | [b1, b2, b3, b4], _ => exact take_instr_yes x rest hx A c w p v base ht hC hc hn hS hF hbase o b1 b2 b3 b4 hi f hgl
/-- What the library's own variables hold. -/
def TabA (w : World) : Prop := Tab2 w ∧ ∃ m, w.cell? ⟨0, 0, none⟩ = some (.int .i64 m)
theorem TabA.below {w w' : World} (h : TabA w) (hb : Below w.heap.size w w') : TabA w' := by
  obtain ⟨h1, m, hm⟩ := h
  exact ⟨h1.below hb, m, (hb.cell (World.block_lt_of_cell? w _ hm)).trans hm⟩
theorem wl_few : ∀ (s cur : List UInt8), (wl cur s).length ≤ s.length + 1
  | [], cur => by unfold wl; split <;> simp
  | c :: t, cur => by
    unfold wl
    have h1 := wl_few t []
    have h2 := wl_few t (cur ++ [c])
    split
    · split <;> simp
    · split
      · split
        · simp; omega
        · simp; omega
      · simp; omega
/-- A program with a line more, or an error's number. -/
def GivesG (base : Nat) (w : World) : Except Int (List Fn) → Ending → World → Prop
  | .ok q, e, w' => ∃ v', e = .returned (.tuple #[v', .int .i64 0]) ∧ PrgP w' base v' q ∧ Turned base w w'
  | .error c, e, w' => e = .returned (.tuple #[.slice none 0 0, .int .i64 c]) ∧ Turned base w w'
theorem results_t1 {fn : Func} {p p' : Tmp} {ty' : TypeId} {P : Program} (h : fn.results = #[.tmp p, .cell p' ty']) (tmps : Array Value) (w : World) (A' : Addr) (u u' : Value)
    (hp : tmps.getD p undef = u) (hp' : tmps.getD p' undef = .pointer (some A')) (hl' : (loadVar ty' A').run P w = .ok u' w) :
    (results fn tmps).run P w = .ok (.tuple #[u, u']) w := by
  have h1 : tmps[p]?.getD undef = u := by simpa using hp
  have h2 : tmps[p']?.getD undef = .pointer (some A') := by simpa using hp'
  simp [results, h, h1, h2, asAddr, hl']
/-- A cell that is new since w is written. -/
theorem Turned.setNew {base b o : Nat} {w W : World} (h : Turned base w W) (hb : base ≤ b) (hn : w.heap.size ≤ b) (v : Value) : Turned base w (W.setCell ⟨b, o, none⟩ v) :=
  ⟨h.1.setCell (p := ⟨b, o, none⟩) hb _, Nat.le_trans h.2.size (KeepsOthers.setCell W _ v).size, fun k x hk hx => by
    have hlt : k < w.heap.size := (Array.getElem?_eq_some_iff.1 hk).1
    exact (Below.heap_setCell W _ v k (by show k ≠ b; omega)).trans (h.2.same k x hk hx)⟩
set_option maxRecDepth 100000 in
set_option maxHeartbeats 4000000 in
theorem guarded_any (t : List UInt8) (hs : t.length ≤ 80000) (w : World) (p : List Fn) (v : Value) (base : Nat) (ht : TabA w) (hS : PrgP w base v p) (hF : Few p) (hbase : base ≤ w.heap.size) :
    Calls Tryz.prog 109 #[v, .string ⟨t.toArray⟩] w (GivesG base w (takeL p (wordsL t))) := by
  have hmf : ∀ (fn : Go.Fn) (first cap : Array Value) (w : World), (Instr.makeFunc fn first cap).run Tryz.prog w = .ok (.func fn first cap) w := fun _ _ _ _ => rfl
  have hb1 : Below w.heap.size w (w.alloc (.cells #[.int .i64 0] 29)) := (Below.refl _ _).alloc (Nat.le_refl _) _
  obtain ⟨mm, hm⟩ := (ht.below hb1).2
  have hcut := Tryz.strings_Cut ⟨t.toArray⟩ ⟨#[35]⟩ mm (w.alloc (.cells #[.int .i64 0] 29)) (by simp [ByteArray.size]; omega) hm
  obtain ⟨T, hT⟩ : ∃ T : ByteArray, T = ⟨t.toArray⟩ := ⟨_, rfl⟩
  rw [← hT] at hcut ⊢
  obtain ⟨C1, hC1⟩ : ∃ C : ByteArray, C = ⟨(Lib.cut T.data.toList (⟨#[35]⟩ : ByteArray).data.toList).1.toArray⟩ := ⟨_, rfl⟩
  rw [← hC1] at hcut
  generalize (⟨(Lib.cut T.data.toList (⟨#[35]⟩ : ByteArray).data.toList).2.1.toArray⟩ : ByteArray) = C2 at hcut
  generalize (Lib.cut T.data.toList (⟨#[35]⟩ : ByteArray).data.toList).2.2 = C3 at hcut
  have hCw : Lib.goFieldsP blankR C1 = wB (wordsL t) := by
    have := words_eq t
    unfold wordsB at this
    rw [hC1, hT]
    simpa using this
  have hCs : C1.size ≤ 4294967296 := by
    have h := cut_len t
    rw [hC1, hT]
    simp [ByteArray.size]
    omega
  have HFF := Lib.hid (fun W => Tryz.strings_FieldsFunc_runes 152 #[] (enters_of Tryz.func152 (by kernel_rfl) rfl) blankR C1 W hCs (blank_at _))
  rw [hCw] at HFF
  have hfew := wl_few t []
  change (wordsL t).length ≤ t.length + 1 at hfew
  have hwl : (wB (wordsL t)).length = (wordsL t).length := by simp
  have HCUT := Lib.hid hcut
  generalize wordsL t = L at *
  have HT := Lib.hid ht
  have HS := Lib.hid hS
  have HF := Lib.hid hF
  have HB := Lib.hid hbase
  obtain ⟨A0, c0, rfl, hpc⟩ := hS.slice
  clear hcut hT hC1 hCw hCs hS hF hbase ht hm
  go_enter_defers Tryz.func109, Tryz.ntmps109
  go_wp2_with fail
  refine HCUT.out.mono ?_
  rintro _ W1 ⟨rfl, nq, hw1⟩
  rw [hw1]
  obtain ⟨WA, hWA⟩ : ∃ X, (w.alloc (.cells #[.int .i64 0] 29)).drewN nq = X := ⟨_, rfl⟩
  have HBA : Hid (Below w.heap.size w WA) := by rw [← hWA]; exact pw_below_drewN hb1 _
  have HEA : Hid (WA.heap[w.heap.size]? = some (.cells #[.int .i64 0] 29 (0, 0))) := by rw [← hWA]; exact heap_alloc_new w _
  rw [hWA]
  clear hWA hw1 hb1 HCUT
  go_wp2_with fail
  refine (HFF.out _).mono ?_
  rintro _ W2 ⟨A1, rfl, hA1, hrow, hb2⟩
  have hR : Kd.string.R 9 W2 WA.heap.size (fun _ => True) (.slice (some ⟨A1, 0, none⟩) (wB L).length (wB L).length) (wB L) := Kd.R_of_own hrow (fun _ _ => trivial)
  have HC2 := Lib.hid (Kd.R_reads' hR).2.2
  have HB2 : Hid (Below w.heap.size w W2) := HBA.out.trans (hb2.mono HBA.out.size)
  have HE2 : Hid (W2.heap[w.heap.size]? = some (.cells #[.int .i64 0] 29 (0, 0))) := blk_below HEA.out hb2
  have HS2 : Hid (PrgP W2 base (.slice A0 p.length c0) p) := HS.out.below HB2.out
  have HT2 : Hid (Turned base w W2) := Turned.below HB.out HB2.out
  have HZ2 : Hid (base ≤ W2.heap.size ∧ w.heap.size < W2.heap.size) := ⟨Nat.le_trans HB.out HB2.out.size, blk_lt HE2.out⟩
  have HTB := Lib.hid (HT.out.below HB2.out).1
  have he := blk_cell HE2.out 0
  have hfz := blk_frozen HE2.out 0
  simp only [List.getElem?_toArray, List.getElem?_cons_zero] at he
  clear hrow hb2 hR hA1 HFF HEA HBA HS
  cases L with
  | nil =>
    have hsp : takeL p [] = .ok p := rfl
    rw [hsp]
    clear hwl hfew HC2
    go_wp2_with fail
    refine leaves_cons (f := 151) (args := #[.pointer (some ⟨w.heap.size, 0, none⟩)]) (by simp) (by simp [go_sem]) ?_
    refine (catch_idle ⟨w.heap.size, 0, none⟩ _).mono ?_
    rintro e u' w'' ⟨rfl, rfl, rfl⟩
    have hbx : Boxed (W2.setCell ⟨w.heap.size, 0, none⟩ (.int .i64 0)) w.heap.size 29 (.int .i64 0) := Boxed.set _ HE2.out
    refine ⟨_, results_t1 rfl _ _ ⟨w.heap.size, 0, none⟩ _ _ rfl rfl (load29 _ _ _ hbx), _, rfl, HS2.out.set HE2.out (by decide) (by decide) 0 _, ?_⟩
    exact HT2.out.setNew HB.out (Nat.le_refl _) _
  | cons x rest =>
    have HK := Lib.hid (fun c hc => take_any x rest (some ⟨A1, 0, none⟩) c W2 p (.slice A0 p.length c0) base HTB.out HC2.out hc (by simp at hfew; omega) HS2.out HF.out HZ2.out.1)
    obtain ⟨n, hn⟩ : ∃ n, n = (wB (x :: rest)).length := ⟨_, rfl⟩
    rw [← hn] at HK ⊢
    have hn0 : ((n : Int) == 0) = false := by rw [beq_eq_false_iff_ne]; simp at hn; omega
    have hn1 : (n == 0) = false := by rw [beq_eq_false_iff_ne]; simp at hn; omega
    obtain ⟨sp, hsp⟩ : ∃ sp, sp = takeL p (x :: rest) := ⟨_, rfl⟩
    rw [← hsp] at HK
    have HSP := Lib.hid hsp.symm
    clear hsp hn hwl hfew HC2 he hfz
    go_wp2_with fail
    refine (HK.out _ (Nat.le_refl _)).mono ?_
    intro e w3 hg
    cases sp with
    | ok q =>
      obtain ⟨v', rfl, hp', ht'⟩ := hg
      have HE3 : Hid (w3.heap[w.heap.size]? = some (.cells #[.int .i64 0] 29 (0, 0))) := ht'.2.block HE2.out (by decide) (by decide)
      have HP3 := Lib.hid hp'
      have HT3 := Lib.hid (HT2.out.trans ht')
      obtain ⟨A3, c3, rfl, _⟩ := hp'.slice
      have he := blk_cell HE3.out 0
      have hfz := blk_frozen HE3.out 0
      simp only [List.getElem?_toArray, List.getElem?_cons_zero] at he
      clear hp' ht'
      go_wp2_with fail
      rw [HSP.out]
      refine leaves_cons (f := 151) (args := #[.pointer (some ⟨w.heap.size, 0, none⟩)]) (by simp) (by simp [go_sem]) ?_
      refine (catch_idle ⟨w.heap.size, 0, none⟩ _).mono ?_
      rintro e u' w'' ⟨rfl, rfl, rfl⟩
      have hbx : Boxed (w3.setCell ⟨w.heap.size, 0, none⟩ (.int .i64 0)) w.heap.size 29 (.int .i64 0) := Boxed.set _ HE3.out
      refine ⟨_, results_t1 rfl _ _ ⟨w.heap.size, 0, none⟩ _ _ rfl rfl (load29 _ _ _ hbx), _, rfl, HP3.out.set HE3.out (by decide) (by decide) 0 _, ?_⟩
      exact HT3.out.setNew HB.out (Nat.le_refl _) _
    | error er =>
      obtain ⟨rfl, ht'⟩ := hg
      have HE3 : Hid (w3.heap[w.heap.size]? = some (.cells #[.int .i64 0] 29 (0, 0))) := ht'.2.block HE2.out (by decide) (by decide)
      have HT3 := Lib.hid (HT2.out.trans ht')
      clear ht'
      rw [HSP.out]
      refine leaves_cons (f := 151) (args := #[.pointer (some ⟨w.heap.size, 0, none⟩)]) (by simp) (by simp [go_sem]) ?_
      refine (catch_panicking w.heap.size 0 er [] w3 HE3.out).mono ?_
      rintro e u' w'' ⟨rfl, rfl, rfl⟩
      have hal : (w3.alloc (.cells #[.int .i64 er] 277)).heap[w.heap.size]? = some (.cells #[.int .i64 0] 29 (0, 0)) := (Below.heap_alloc _ _ _ (blk_lt HE3.out)).trans HE3.out
      have hbx : Boxed ((w3.alloc (.cells #[.int .i64 er] 277)).setCell ⟨w.heap.size, 0, none⟩ (.int .i64 er)) w.heap.size 29 (.int .i64 er) := Boxed.set _ hal
      refine ⟨_, results_t1 rfl _ _ ⟨w.heap.size, 0, none⟩ _ _ rfl rfl (load29 _ _ _ hbx), rfl, ?_⟩
      exact Turned.setNew (HT3.out.trans (Turned.below (Nat.le_trans HB.out HT3.out.2.size) ((Below.refl _ _).alloc (Nat.le_refl _) _))) HB.out (Nat.le_refl _) _
end Go.Proofs.YtbiajfkencamiaaGreatDoor.Core
/-! asm.Parse: the walk of its range. -/
namespace Go.Proofs.YtbiajfkencamiaaGreatDoor.Core
open Go.RowKit Go.Shelf Go.Proofs.YtbiajfkencamiaaGreatDoorW.PrintWords Go.Proofs.YtbiajfkencamiaaGreatDoorW.PrintMore Go.Proofs.YtbiajfkencamiaaGreatDoor.P1 Go.Proofs.YtbiajfkencamiaaGreatDoor.Rf Go.Proofs.YtbiajfkencamiaaGreatDoor
open Go.Proofs.YtbiajfkencamiaaGreatDoor.PK (S121 k121 z121 S124 k124 z124 k124_openM k124_mkM k121_openM k121_mkM info124 info121)
set_option linter.unusedVariables false
set_option linter.unusedSimpArgs false
attribute [local go_sem] Oper.semAt_some
/-- The program of lines that are right; the fault of lines that are not. -/
def progOf (ls : List (List UInt8)) : List Fn := match parseL [] 0 ls with | .ok q => q | .error _ => []
def faultOf (ls : List (List UInt8)) : Nat × Int := match parseL [] 0 ls with | .ok _ => (0, 0) | .error x => x
def goodL (ls : List (List UInt8)) : Prop := parseL [] 0 ls = .ok (progOf ls)
def badL (ls : List (List UInt8)) : Prop := parseL [] 0 ls = .error (faultOf ls)
theorem parse_few : ∀ (ls : List (List UInt8)) (p q : List Fn) (n : Nat), Few p → parseL p n ls = .ok q → Few q
  | [], p, q, n, h, hp => by injection hp with hp; rw [← hp]; exact h
  | l :: t, p, q, n, h, hp => by
    unfold parseL at hp
    cases ht : takeL p (wordsL l) with
    | ok p2 => rw [ht] at hp; exact parse_few t p2 q (n + 1) (take_few h ht) hp
    | error e => rw [ht] at hp; cases hp
theorem few_nil : Few [] := ⟨by simp, fun f hf => by simp at hf⟩
theorem good_snoc {pre : List (List UInt8)} (x : List UInt8) (h : goodL pre) : (∀ q, takeL (progOf pre) (wordsL x) = .ok q → goodL (pre ++ [x]) ∧ progOf (pre ++ [x]) = q) ∧ (∀ e, takeL (progOf pre) (wordsL x) = .error e → badL (pre ++ [x]) ∧ faultOf (pre ++ [x]) = (pre.length + 1, e)) := by
  have ha := parseL_append [x] pre [] 0
  rw [show parseL [] 0 pre = .ok (progOf pre) from h] at ha
  simp only [Nat.zero_add] at ha
  refine ⟨fun q hq => ?_, fun e he => ?_⟩
  · have h2 : parseL [] 0 (pre ++ [x]) = .ok q := by
      rw [ha, parseL, hq]
      rfl
    have h3 : progOf (pre ++ [x]) = q := by unfold progOf; rw [h2]
    exact ⟨by unfold goodL; rw [h3, h2], h3⟩
  · have h2 : parseL [] 0 (pre ++ [x]) = .error (pre.length + 1, e) := by
      rw [ha, parseL, he]
    have h3 : faultOf (pre ++ [x]) = (pre.length + 1, e) := by unfold faultOf; rw [h2]
    exact ⟨by unfold badL; rw [h3, h2], h3⟩
theorem bad_append {pre : List (List UInt8)} (l2 : List (List UInt8)) (h : badL pre) : parseL [] 0 (pre ++ l2) = .error (faultOf pre) := by
  rw [parseL_append, show parseL [] 0 pre = .error (faultOf pre) from h]
theorem ownC_prg {β : Type} {bc B n₀ b : Nat} {t : TypeId} (f : β → List Fn) (hbc : bc < n₀) (hbb : b ≠ bc) : OwnC bc B (fun s W => ∃ u, Boxed W b t u ∧ PrgP W n₀ u (f s)) := by
  rintro s X Y row ⟨u, hv, hr⟩ hg hrow
  refine ⟨u, hv.kept hg (fun e' => ?_), ?_⟩
  · rcases hrow b e'.symm with h | ⟨_, o, ho, hc⟩
    · exact hbb h
    · rw [show X.heap[b]? = _ from hv] at ho; cases ho; cases hc
  · refine Kd.S_mono (Kd.S_grown (Kd.S_bound hr) hg (fun k hk he => ?_)) (fun _ _ => trivial)
    obtain ⟨_, h1, _, q, _, cells, hc⟩ := hk
    rcases hrow k he.symm with h | ⟨_, o, ho, hco⟩
    · omega
    · rw [hc] at ho; cases ho; cases hco
theorem PrgP.putObj {w : World} {base : Nat} {v : Value} {p : List Fn} (h : PrgP w base v p) {l : Nat} {o : Obj} (o' : Obj) (hl : w.heap[l]? = some o) (ho : o.isCells = false) : PrgP (w.putObj l o') base v p := by
  refine Kd.S_mono (Kd.S_grown (Kd.S_bound h) (grownBy_putObj' w l o') (fun k hk he => ?_)) (fun _ _ => trivial)
  obtain ⟨_, h1, _, q, _, cells, hc⟩ := hk
  injection he with he
  subst he
  rw [hc] at hl
  cases hl
  cases ho
theorem take_err {p : List Fn} {ws : List (List UInt8)} {e : Int} (h : takeL p ws = .error e) : e = 3 ∨ e = 4 := by
  cases ws with
  | nil => cases h
  | cons x rest =>
    by_cases hx : x = funcW
    · subst hx
      match rest, h with
      | [], h => injection h with h; exact .inr h.symm
      | [y], h =>
        have h : (match plainL y with
          | some n => if n ≤ 255 then (if p.length < 255 then (.ok (p ++ [(n, [])]) : Except Int (List Fn)) else (.error 3 : Except Int (List Fn))) else (.error 4 : Except Int (List Fn))
          | none => (.error 4 : Except Int (List Fn))) = .error e := h
        split at h
        · split at h
          · split at h
            · cases h
            · injection h with h; exact .inl h.symm
          · injection h with h; exact .inr h.symm
        · injection h with h; exact .inr h.symm
      | y :: z :: t, h => injection h with h; exact .inr h.symm
    · rw [takeL_instr p x rest hx] at h
      split at h
      · injection h with h; exact .inr h.symm
      · split at h
        · injection h with h; exact .inr h.symm
        · split at h
          · cases h
          · injection h with h; exact .inl h.symm
/-- The three results' cells. -/
structure St3 (m : Nat) (X : World) (u n e : Value) : Prop where
  c0 : X.heap[m]? = some (.cells #[u] 85 (0, 0))
  c1 : X.heap[m + 1]? = some (.cells #[n] 3 (0, 0))
  c2 : X.heap[m + 2]? = some (.cells #[e] 29 (0, 0))
theorem St3.s0 {m : Nat} {X : World} {u n e : Value} (h : St3 m X u n e) (v : Value) : St3 m (X.setCell ⟨m, 0, none⟩ v) v n e :=
  ⟨by simpa using blk_set h.c0 0 v, blk_far h.c1 (by show m + 1 ≠ m; omega) _, blk_far h.c2 (by show m + 2 ≠ m; omega) _⟩
theorem St3.s1 {m : Nat} {X : World} {u n e : Value} (h : St3 m X u n e) (v : Value) : St3 m (X.setCell ⟨m + 1, 0, none⟩ v) u v e :=
  ⟨blk_far h.c0 (by show m ≠ m + 1; omega) _, by simpa using blk_set h.c1 0 v, blk_far h.c2 (by show m + 2 ≠ m + 1; omega) _⟩
theorem St3.s2 {m : Nat} {X : World} {u n e : Value} (h : St3 m X u n e) (v : Value) : St3 m (X.setCell ⟨m + 2, 0, none⟩ v) u n v :=
  ⟨blk_far h.c0 (by show m ≠ m + 2; omega) _, blk_far h.c1 (by show m + 1 ≠ m + 2; omega) _, by simpa using blk_set h.c2 0 v⟩
theorem St3.all {m : Nat} {X : World} {u n e : Value} (h : St3 m X u n e) : X.heap[m]? = some (.cells #[u] 85 (0, 0)) ∧ X.heap[m + 1]? = some (.cells #[n] 3 (0, 0)) ∧ X.heap[m + 2]? = some (.cells #[e] 29 (0, 0)) := ⟨h.c0, h.c1, h.c2⟩
theorem St3.drew {m : Nat} {X : World} {u n e : Value} (h : St3 m X u n e) : St3 m X.drew u n e := ⟨h.c0, h.c1, h.c2⟩
theorem load85 (w : World) (b : Nat) (u : Value) (h : Boxed w b 85 u) : (loadVar 85 ⟨b, 0, none⟩).run Tryz.prog w = .ok u w := by
  have h1 := h.cell
  have h2 := Tryz.underlying85
  simp [loadVar, loadCells, run_underlying h2, h1, Result.andThen]
theorem load3 (w : World) (b : Nat) (u : Value) (h : Boxed w b 3 u) : (loadVar 3 ⟨b, 0, none⟩).run Tryz.prog w = .ok u w := by
  have h1 := h.cell
  have h2 := Tryz.underlying3
  simp [loadVar, loadCells, run_underlying h2, h1, Result.andThen]
theorem results_111 {fn : Func} {p p' p'' : Tmp} {ty ty' ty'' : TypeId} {P : Program} (h : fn.results = #[.cell p ty, .cell p' ty', .cell p'' ty'']) (tmps : Array Value) (w : World) (A A' A'' : Addr) (u u' u'' : Value)
    (hp : tmps.getD p undef = .pointer (some A)) (hp' : tmps.getD p' undef = .pointer (some A')) (hp'' : tmps.getD p'' undef = .pointer (some A'')) (hl : (loadVar ty A).run P w = .ok u w) (hl' : (loadVar ty' A').run P w = .ok u' w) (hl'' : (loadVar ty'' A'').run P w = .ok u'' w) :
    (results fn tmps).run P w = .ok (.tuple #[u, u', u'']) w := by
  have h1 : tmps[p]?.getD undef = .pointer (some A) := by simpa using hp
  have h2 : tmps[p']?.getD undef = .pointer (some A') := by simpa using hp'
  have h3 : tmps[p'']?.getD undef = .pointer (some A'') := by simpa using hp''
  simp [results, h, h1, h2, h3, asAddr, hl, hl', hl'']
theorem St3.put {m D : Nat} {X : World} {u n e : Value} (h : St3 m X u n e) (o : Obj) (hD : m + 6 ≤ D) : St3 m (X.putObj D o) u n e :=
  ⟨(World.putObj_heap_other (by omega)).trans h.c0, (World.putObj_heap_other (by omega)).trans h.c1, (World.putObj_heap_other (by omega)).trans h.c2⟩
theorem below_put {m D : Nat} {w X : World} (h : Below m w X) (o : Obj) (hm : m ≤ X.heap.size) (hD : m ≤ D) : Below m w (X.putObj D o) := h.grown (grownBy_putObj' _ D _) hm (fun k e => by cases e; omega)
theorem others_set {W X : World} (h : KeepsOthers W X) (a : Addr) (v : Value) : KeepsOthers W (X.setCell a v) := h.trans (KeepsOthers.setCell _ _ _)
theorem others_drew {W X : World} (h : KeepsOthers W X) : KeepsOthers W X.drew := h.trans (KeepsOthers.drew _)
/-- The world in which the range begins. -/
def WP (w : World) (t : List UInt8) : World := splitW (((w.alloc (.cells #[.slice none 0 0] 85)).alloc (.cells #[.int .i64 0] 3)).alloc (.cells #[.int .i64 0] 29)) ⟨t.toArray⟩ ⟨#[10]⟩
theorem TabA.mono {b : Nat} {w w' : World} (h : TabA w) (hb : Below b w w') (h1 : w.heap.size ≤ b) : TabA w' := h.below (hb.mono h1)
set_option maxRecDepth 100000 in
set_option maxHeartbeats 4000000 in
theorem parse_range (t : List UInt8) (ht : t.length ≤ 65536) (w : World) (hT : TabA w) : Calls Tryz.prog 73 #[.string ⟨t.toArray⟩] w fun e w' =>
    (goodL (splitB 10 t) ∧ ∃ u, e = .returned (.tuple #[u, .int .i64 0, .int .i64 0]) ∧ PrgP w' w.heap.size u (progOf (splitB 10 t)) ∧ Below w.heap.size w w') ∨
    (badL (splitB 10 t) ∧ e = .returned (.tuple #[.slice none 0 0, .int .i64 (faultOf (splitB 10 t)).1, .int .i64 (faultOf (splitB 10 t)).2]) ∧ Below w.heap.size w w') := by
  have hl1 : ¬ (65536 < (t.length : Int)) := by omega
  have hl2 : decide ((t.length : Int) > 65536) = false := decide_eq_false hl1
  have HT := Lib.hid hT
  clear hT
  refine (callsIn_wide (n := 5)).1 ?_
  refine callsIn_of_wp_marks Tryz.func73 rfl trivial ?_ rfl
  simp only [Tryz.ntmps73, List.size_toArray, List.length_cons, List.length_nil, Nat.reduceAdd, Nat.reduceSub, Array.replicate_succ, Array.replicate_zero, List.push_toArray, List.append_toArray, List.nil_append, List.cons_append]
  gi_wp2_with (refine ⟨trivial, ?_⟩; gi_at_call 15; refine (callsIn_wide.2 (split_any _ _ _)).mono ?_; rintro e w' ⟨rfl, rfl⟩)
  obtain ⟨m, hm⟩ : ∃ m, m = w.heap.size := ⟨_, rfl⟩
  obtain ⟨Wr, hWr⟩ : ∃ W, WP w t = W := ⟨_, rfl⟩
  have hz : Wr.heap.size = m + 6 := by rw [← hWr, hm]; simp [WP, splitW]
  have hb : Below m w Wr := by
    rw [← hWr, hm]
    exact (((((((Below.refl _ _).alloc (Nat.le_refl _) _).alloc (by simp <;> omega) _).alloc (by simp <;> omega) _).alloc (by simp <;> omega) _).alloc (by simp <;> omega) _).alloc (by simp <;> omega) _)
  have b2 : Boxed Wr m 85 (.slice none 0 0) := by rw [← hWr, hm]; exact (((((Boxed.new w 85 (.slice none 0 0)).alloc _).alloc _).alloc _).alloc _).alloc _
  have b3 : Boxed Wr (m + 1) 3 (.int .i64 0) := by
    rw [← hWr, hm]
    have h := Boxed.new (w.alloc (.cells #[.slice none 0 0] 85)) 3 (.int .i64 0)
    rw [World.size_alloc] at h
    exact (((h.alloc _).alloc _).alloc _).alloc _
  have b4 : Boxed Wr (m + 2) 29 (.int .i64 0) := by
    rw [← hWr, hm]
    have h := Boxed.new ((w.alloc (.cells #[.slice none 0 0] 85)).alloc (.cells #[.int .i64 0] 3)) 29 (.int .i64 0)
    rw [World.size_alloc, World.size_alloc] at h
    exact ((h.alloc _).alloc _).alloc _
  have hbox : Box3 (m + 3) 10 Wr t := by
    rw [← hWr, hm]
    refine ⟨?_, ?_, ?_⟩
    · have h := Boxed.new (((w.alloc (.cells #[.slice none 0 0] 85)).alloc (.cells #[.int .i64 0] 3)).alloc (.cells #[.int .i64 0] 29)) 9 (.string ⟨t.toArray⟩)
      rw [World.size_alloc, World.size_alloc, World.size_alloc] at h
      exact (h.alloc _).alloc _
    · have h := Boxed.new ((((w.alloc (.cells #[.slice none 0 0] 85)).alloc (.cells #[.int .i64 0] 3)).alloc (.cells #[.int .i64 0] 29)).alloc (.cells #[.string ⟨t.toArray⟩] 9)) 9 (.string ⟨#[10]⟩)
      rw [World.size_alloc, World.size_alloc, World.size_alloc, World.size_alloc] at h
      exact h.alloc _
    · have h := Boxed.new (((((w.alloc (.cells #[.slice none 0 0] 85)).alloc (.cells #[.int .i64 0] 3)).alloc (.cells #[.int .i64 0] 29)).alloc (.cells #[.string ⟨t.toArray⟩] 9)).alloc (.cells #[.string ⟨#[10]⟩] 9)) 3 (.int .i64 0)
      rw [World.size_alloc, World.size_alloc, World.size_alloc, World.size_alloc, World.size_alloc] at h
      exact h
  have HW := Lib.hid hWr
  have HTR : Hid (TabA Wr) := HT.out.mono hb (by omega)
  clear hWr
  change Code.wpIn _ _ _ _ _ _ (WP w t)
  rw [HW.out]
  simp only [splitV, World.size_alloc, ← hm]
  refine rangeCell (F := Fence.wide) (n := 5) rfl (by omega) (gf := 56) (lb := #[.pointer (some ⟨m + 4, 0, none⟩), .pointer (some ⟨m + 3, 0, none⟩), .pointer (some ⟨m + 5, 0, none⟩)]) rfl trivial (enters_of Tryz.func56 (by kernel_rfl) rfl)
    (encs := fun x : List UInt8 => #[.string ⟨x.toArray⟩]) (bc := m + 3) (by omega) (split_iter (5 - 1) (by omega) (m + 3) 10 t (by omega) Wr hbox) (fun h k => Kp3.trans h k) (fun W l o o' hl _ => Kp3.put _ (by omega)) (Below.refl _ _) (fun _ => rfl)
    (fun pre W => ((∃ u, Boxed W m 85 u ∧ PrgP W (m + 6) u (progOf pre)) ∧ W.heap[m + 1]? = some (.cells #[.int .i64 (pre.length : Nat)] 3 (0, 0)) ∧ W.heap[m + 2]? = some (.cells #[.int .i64 0] 29 (0, 0))) ∧ Below m Wr W ∧ goodL pre)
    (fun c pre W => (W.heap[m]? = some (.cells #[.slice none 0 0] 85 (0, 0)) ∧ W.heap[m + 1]? = some (.cells #[.int .i64 (faultOf pre).1] 3 (0, 0)) ∧ W.heap[m + 2]? = some (.cells #[.int .i64 (faultOf pre).2] 29 (0, 0))) ∧ Below m Wr W ∧ c = .ret ∧ badL pre)
    (((ownC_prg progOf (by omega) (by omega)).and ((ownC_block (fun pre : List (List UInt8) => .cells #[.int .i64 (pre.length : Nat)] 3 (0, 0)) (fun _ => rfl) (by omega)).and (ownC_block (fun _ => .cells #[.int .i64 0] 29 (0, 0)) (fun _ => rfl) (by omega)))).and ((ownC_below (by omega) (by omega) (by omega)).and (ownC_pure _ _ _)))
    (fun c => ((ownC_block (fun _ => .cells #[.slice none 0 0] 85 (0, 0)) (fun _ => rfl) (by omega)).and ((ownC_block (fun pre => .cells #[.int .i64 (faultOf pre).1] 3 (0, 0)) (fun _ => rfl) (by omega)).and (ownC_block (fun pre => .cells #[.int .i64 (faultOf pre).2] 29 (0, 0)) (fun _ => rfl) (by omega)))).and ((ownC_below (by omega) (by omega) (by omega)).and (ownC_pure _ _ _)))
    ⟨⟨⟨_, b2, PrgP.nil _ _⟩, b3, b4⟩, Below.refl _ _, rfl⟩
    (fun x => { tmps := #[.string ⟨t.toArray⟩, undef, .pointer (some ⟨m, 0, none⟩), .pointer (some ⟨m + 1, 0, none⟩), .pointer (some ⟨m + 2, 0, none⟩), .string ⟨x.toArray⟩, .string ⟨t.toArray⟩, .int .i64 (t.length : Nat), .bool false, .string ⟨t.toArray⟩, splitV (m + 3), .string ⟨x.toArray⟩, undef, undef, undef, undef, undef, undef, undef, undef, undef, undef, undef, undef, undef], defers := [] }) ?assign ?body ?done ?stop
  all_goals have HM := Lib.hid hm
  all_goals clear hm
  case assign =>
    intro l x W K hK
    gi_wp2
    exact hK
  case body =>
    rintro l pre x W ⟨⟨⟨u, hv, hp⟩, h3, h4⟩, hB, hG⟩ hlt hspx
    have hxm : x ∈ splitB 10 t := hspx.subset (by simp)
    have hxl : x.length ≤ 80000 := by have := splitB_part 10 t x hxm; omega
    have hF : Few (progOf pre) := parse_few pre [] _ 0 few_nil hG
    have hbw : Below w.heap.size w W := by rw [← HM.out]; exact hb.trans hB
    have hpl : pre.length ≤ 70000 := by have := splitB_len 10 t; omega
    obtain ⟨A0, c0, rfl, _⟩ := hp.slice
    have HSZ : Hid (m + 6 ≤ W.heap.size) := by have := hB.size; show _ ≤ _; omega
    have HGD := Lib.hid (fun W1 (h1 : PrgP W1 (m + 6) (.slice A0 (progOf pre).length c0) (progOf pre)) (h2 : TabA W1) (h3 : m + 6 ≤ W1.heap.size) => guarded_any x hxl W1 (progOf pre) (.slice A0 (progOf pre).length c0) (m + 6) h2 h1 hF h3)
    have HP1 : Hid (∀ v, PrgP (W.setCell ⟨m + 1, 0, none⟩ v) (m + 6) (.slice A0 (progOf pre).length c0) (progOf pre)) := fun v => hp.set h3 (by decide) (by decide) 0 v
    have HT1 : Hid (∀ v, TabA (W.setCell ⟨m + 1, 0, none⟩ v)) := fun v => HT.out.below (hbw.setCell (p := ⟨m + 1, 0, none⟩) (by show _ ≤ m + 1; rw [HM.out]; omega) v)
    have HZ1 : Hid (∀ v, m + 6 ≤ (W.setCell ⟨m + 1, 0, none⟩ v).heap.size) := fun v => Nat.le_trans HSZ.out (KeepsOthers.setCell W _ v).size
    have HGS := Lib.hid (good_snoc x hG)
    obtain ⟨sp, hsp⟩ : ∃ sp, sp = takeL (progOf pre) (wordsL x) := ⟨_, rfl⟩
    have HER := Lib.hid (fun e (h : takeL (progOf pre) (wordsL x) = .error e) => take_err h)
    rw [← hsp] at HGD HGS HER
    have e2 := hv.cell
    have f2 := hv.frozen
    have e3 := blk_cell h3 0
    have f3 := blk_frozen h3 0
    have e4 := blk_cell h4 0
    have f4 := blk_frozen h4 0
    simp only [List.getElem?_toArray, List.getElem?_cons_zero] at e3 e4
    have HB1 := Lib.hid hB
    have HV := Lib.hid hv
    have H3 := Lib.hid h3
    have H4 := Lib.hid h4
    generalize (progOf pre).length = np at *
    clear hxm hF hbw hp hB hv h3 h4 hG hspx hsp hlt
    gi_wp2_with fail
    refine ⟨trivial, ?_⟩
    refine (CallsIn.inRound l (callsIn_wide.2 (HGD.out _ (HP1.out _) (HT1.out _) (HZ1.out _)))).mono ?_
    intro e w5 hg
    cases sp with
    | ok q =>
      obtain ⟨v', rfl, hp', ht'⟩ := hg
      obtain ⟨A3, c3, rfl, _⟩ := hp'.slice
      have k2 := (ht'.1.block m (by omega)).trans (blk_far HV.out (p := ⟨m + 1, 0, none⟩) (by show m ≠ m + 1; omega) _)
      have k3 := (ht'.1.block (m + 1) (by omega)).trans (blk_set H3.out 0 _)
      have k4 := (ht'.1.block (m + 2) (by omega)).trans (blk_far H4.out (p := ⟨m + 1, 0, none⟩) (by show m + 2 ≠ m + 1; omega) _)
      simp only [List.setIfInBounds_toArray, List.set_cons_zero] at k3
      have e2 := blk_cell k2 0
      have f2 := blk_frozen k2 0
      have e4 := blk_cell k4 0
      have f4 := blk_frozen k4 0
      simp only [List.getElem?_toArray, List.getElem?_cons_zero] at e2 e4
      have HK2 := Lib.hid k2
      have HK3 := Lib.hid k3
      have HK4 := Lib.hid k4
      have HP' := Lib.hid hp'
      have HT' := Lib.hid ht'
      obtain ⟨g1, g2⟩ := HGS.out.1 q rfl
      have HG1 := Lib.hid g1
      have HG2 := Lib.hid g2
      generalize hql : q.length = nq at *
      clear k2 k3 k4 hp' ht' g1 g2 hql HGD HER
      gi_wp2_with fail
      have x2 : (w5.setCell ⟨m, 0, none⟩ (.slice A3 nq c3)).heap[m + 2]? = some (.cells #[.int .i64 0] 29 (0, 0)) := blk_far HK4.out (p := ⟨m, 0, none⟩) (by show m + 2 ≠ m; omega) _
      have x3 : (w5.setCell ⟨m, 0, none⟩ (.slice A3 nq c3)).heap[m]? = some (.cells #[.slice A3 nq c3] 85 (0, 0)) := by simpa using blk_set HK2.out 0 (.slice A3 nq c3)
      have hbs := HSZ.out
      refine ⟨?_, ?_, ⟨⟨.slice A3 nq c3, ?_, ?_⟩, ?_, ?_⟩, ?_, HG1.out⟩
      · refine ((KeepsOthers.setCell W _ _).trans HT'.out.2.others |>.trans (KeepsOthers.setCell _ _ _) |>.trans (KeepsOthers.setCell _ _ _)).from _
      · intro z z1 z2
        refine (Below.heap_setCell _ _ _ z (by show z ≠ m + 2; omega)).trans ((Below.heap_setCell _ _ _ z (by show z ≠ m; omega)).trans ((HT'.out.1.block z (by omega)).trans (Below.heap_setCell _ _ _ z (by show z ≠ m + 1; omega))))
      · exact blk_far x3 (p := ⟨m + 2, 0, none⟩) (by show m ≠ m + 2; omega) _
      · rw [HG2.out]
        exact (HP'.out.set HK2.out (by decide) (by decide) 0 _).set x2 (by decide) (by decide) 0 _
      · rw [List.length_append]
        exact blk_far (blk_far HK3.out (p := ⟨m, 0, none⟩) (by show m + 1 ≠ m; omega) _) (p := ⟨m + 2, 0, none⟩) (by show m + 1 ≠ m + 2; omega) _
      · simpa using blk_set x2 0 (.int .i64 0)
      · exact (((HB1.out.setCell (p := ⟨m + 1, 0, none⟩) (by show m ≤ m + 1; omega) _).trans (HT'.out.1.mono (by omega))).setCell (p := ⟨m, 0, none⟩) (Nat.le_refl _) _).setCell (p := ⟨m + 2, 0, none⟩) (by show m ≤ m + 2; omega) _
    | error c =>
      obtain ⟨rfl, ht'⟩ := hg
      have k2 := (ht'.1.block m (by omega)).trans (blk_far HV.out (p := ⟨m + 1, 0, none⟩) (by show m ≠ m + 1; omega) _)
      have k3 := (ht'.1.block (m + 1) (by omega)).trans (blk_set H3.out 0 _)
      have k4 := (ht'.1.block (m + 2) (by omega)).trans (blk_far H4.out (p := ⟨m + 1, 0, none⟩) (by show m + 2 ≠ m + 1; omega) _)
      simp only [List.setIfInBounds_toArray, List.set_cons_zero] at k3
      have e2 := blk_cell k2 0
      have f2 := blk_frozen k2 0
      have e3 := blk_cell k3 0
      have f3 := blk_frozen k3 0
      have e4 := blk_cell k4 0
      have f4 := blk_frozen k4 0
      simp only [List.getElem?_toArray, List.getElem?_cons_zero] at e2 e3 e4
      have HK2 := Lib.hid k2
      have HK3 := Lib.hid k3
      have HK4 := Lib.hid k4
      have HT' := Lib.hid ht'
      obtain ⟨g1, g2⟩ := HGS.out.2 c rfl
      have HG1 := Lib.hid g1
      have HG2 := Lib.hid g2
      have hc := HER.out c rfl
      have hcn : ((c : Int) != 0) = true := by rcases hc with rfl | rfl <;> rfl
      clear k2 k3 k4 ht' g1 g2 HGD HER
      gi_wp2_with fail
      have HS5 : Hid (St3 m w5 (.slice A0 np c0) (.int .i64 (pre.length + 1)) (.int .i64 0)) := ⟨HK2.out, HK3.out, HK4.out⟩
      have HO5 : Hid (KeepsOthers W w5) := (KeepsOthers.setCell W _ _).trans HT'.out.2.others
      have HB5 : Hid (Below m Wr w5) := (HB1.out.setCell (p := ⟨m + 1, 0, none⟩) (by show m ≤ m + 1; omega) _).trans (HT'.out.1.mono (by omega))
      gi_region
      all_goals gi_wp2_with fail
      all_goals
        have hm1 : m ≤ m + 1 := by omega
        have hm2 : m ≤ m + 2 := by omega
        refine ⟨?_, ?_, ?_, rfl, HG1.out⟩
        · refine KeepsOthers.from ?_ _
          with_reducible (repeat (first | exact HO5.out | apply others_drew | apply others_set))
        · rw [HG2.out]
          refine St3.all (n := .int .i64 ((pre.length : Int) + 1)) ?_
          with_reducible (repeat (first | exact HS5.out | apply St3.drew | apply St3.s0 | apply St3.s1 | apply St3.s2))
        · with_reducible (repeat (first | exact HB5.out | refine below_drew ?_ | refine Below.setCell (p := ⟨m, 0, none⟩) ?_ (Nat.le_refl m) _ | refine Below.setCell (p := ⟨m + 1, 0, none⟩) ?_ hm1 _ | refine Below.setCell (p := ⟨m + 2, 0, none⟩) ?_ hm2 _))
  case done =>
    rintro D xs W hD rfl ⟨⟨⟨u, hv, hp⟩, h3, h4⟩, hB, hG⟩ hK
    obtain ⟨A0, c0, rfl, _⟩ := hp.slice
    have hmw := HM.out
    have hbw : Below m w W := hb.trans hB
    have hS : St3 m W (.slice A0 (progOf (splitB 10 t)).length c0) (.int .i64 ((splitB 10 t).length : Nat)) (.int .i64 0) := ⟨hv, h3, h4⟩
    have hS2 := ((hS.s0 (.slice A0 (progOf (splitB 10 t)).length c0)).s1 (.int .i64 0)).s2 (.int .i64 0)
    have hp2 := ((hp.set hS.c0 (by decide) (by decide) 0 (.slice A0 (progOf (splitB 10 t)).length c0)).set (hS.s0 _).c1 (by decide) (by decide) 0 (.int .i64 0)).set ((hS.s0 _).s1 _).c2 (by decide) (by decide) 0 (.int .i64 0)
    have hbw2 : Below m w (((W.setCell ⟨m, 0, none⟩ (.slice A0 (progOf (splitB 10 t)).length c0)).setCell ⟨m + 1, 0, none⟩ (.int .i64 0)).setCell ⟨m + 2, 0, none⟩ (.int .i64 0)) := ((hbw.setCell (p := ⟨m, 0, none⟩) (Nat.le_refl m) _).setCell (p := ⟨m + 1, 0, none⟩) (by show m ≤ m + 1; omega) _).setCell (p := ⟨m + 2, 0, none⟩) (by show m ≤ m + 2; omega) _
    have hK2 : (((W.setCell ⟨m, 0, none⟩ (.slice A0 (progOf (splitB 10 t)).length c0)).setCell ⟨m + 1, 0, none⟩ (.int .i64 0)).setCell ⟨m + 2, 0, none⟩ (.int .i64 0)).heap[D]? = some (.deferred (some [])) := (Below.heap_setCell _ _ _ D (by show D ≠ m + 2; omega)).trans ((Below.heap_setCell _ _ _ D (by show D ≠ m + 1; omega)).trans ((Below.heap_setCell _ _ _ D (by show D ≠ m; omega)).trans hK))
    have hS3 := hS2.put (D := D) (.deferred none) (by omega)
    have hp3 := hp2.putObj (.deferred none) hK2 rfl
    have hbw3 := below_put (D := D) hbw2 (.deferred none) (by have := blk_lt hS2.c0; omega) (by omega)
    have HS3 := Lib.hid hS3
    have HP3 := Lib.hid hp3
    have HB3 := Lib.hid hbw3
    have HK2 := Lib.hid hK2
    have HG := Lib.hid hG
    have e2 := hv.cell
    have f2 := hv.frozen
    have f3 := blk_frozen h3 0
    have e3 := blk_cell h3 0
    have e4 := blk_cell h4 0
    have f4 := blk_frozen h4 0
    simp only [List.getElem?_toArray, List.getElem?_cons_zero] at e3 e4
    generalize hnp : (progOf (splitB 10 t)).length = np at *
    clear hv hp h3 h4 hB hG hK hS hS2 hp2 hbw2 hK2 hS3 hp3 hbw3 hbw hmw hnp
    gi_wp2
    refine ⟨by simp, .inl ⟨_, _, rfl, run_takeDeferred HK2.out, ?_⟩⟩
    refine ⟨_, results_111 rfl _ _ _ _ _ _ _ _ rfl rfl rfl (load85 _ _ _ HS3.out.c0) (load3 _ _ _ HS3.out.c1) (load29 _ _ _ HS3.out.c2), .inl ⟨HG.out, _, rfl, ?_, ?_⟩⟩
    · rw [← HM.out]
      have h6 := HP3.out
      unfold PrgP at h6 ⊢
      exact Kd.S_lower h6 (by omega)
    · rw [← HM.out]
      exact HB3.out
  case stop =>
    rintro D c pre W hD hSp ⟨⟨h2, h3, h4⟩, hB, rfl, hbad⟩ hK
    have hmw := HM.out
    have hbw : Below m w W := hb.trans hB
    have hS : St3 m W (.slice none 0 0) (.int .i64 (faultOf pre).1) (.int .i64 (faultOf pre).2) := ⟨h2, h3, h4⟩
    have hS3 := hS.put (D := D) (.deferred none) (by omega)
    have hbw3 := below_put (D := D) hbw (.deferred none) (by have := blk_lt hS.c0; omega) (by omega)
    obtain ⟨l2, hl2⟩ := hSp
    have hba := bad_append l2 hbad
    rw [hl2] at hba
    have hfo : faultOf (splitB 10 t) = faultOf pre := by
      unfold faultOf at hba ⊢
      rw [hba]
    have hbd : badL (splitB 10 t) := by unfold badL; rw [hba, hfo]
    have HBD := Lib.hid hbd
    have HFO := Lib.hid hfo
    have HS3 := Lib.hid hS3
    have HB3 := Lib.hid hbw3
    have HKX := Lib.hid hK
    clear hbw hS hS3 hbw3 hbd hfo hba hl2 hbad h2 h3 h4 hB hK hmw
    gi_wp2
    refine ⟨by simp, .inl ⟨_, _, rfl, run_takeDeferred HKX.out, ?_⟩⟩
    refine ⟨_, results_111 rfl _ _ _ _ _ _ _ _ rfl rfl rfl (load85 _ _ _ HS3.out.c0) (load3 _ _ _ HS3.out.c1) (load29 _ _ _ HS3.out.c2), .inr ⟨HBD.out, ?_, ?_⟩⟩
    · rw [HFO.out]
    · rw [← HM.out]
      exact HB3.out
end Go.Proofs.YtbiajfkencamiaaGreatDoor.Core
/-! asm.Parse at any text; what the chapter's example says. -/
namespace Go.Proofs.YtbiajfkencamiaaGreatDoor.Core
open Go.RowKit Go.Shelf Go.Proofs.YtbiajfkencamiaaGreatDoorW.PrintWords Go.Proofs.YtbiajfkencamiaaGreatDoorW.PrintMore Go.Proofs.YtbiajfkencamiaaGreatDoor.P1 Go.Proofs.YtbiajfkencamiaaGreatDoor.Rf Go.Proofs.YtbiajfkencamiaaGreatDoor
open Go.Proofs.YtbiajfkencamiaaGreatDoor.PK (S121 k121 z121 S124 k124 z124 k124_openM k124_mkM k121_openM k121_mkM info124 info121 at_T124 at_T121 rd_T124 rd_T121)
set_option linter.unusedVariables false
set_option linter.unusedSimpArgs false
/-- What asm.Parse answers. -/
def GivesT (w : World) : Except (Nat × Int) (List Fn) → Ending → World → Prop
  | .ok q, e, w' => ∃ u, e = .returned (.tuple #[u, .int .i64 0, .int .i64 0]) ∧ PrgP w' w.heap.size u q ∧ Below w.heap.size w w'
  | .error x, e, w' => e = .returned (.tuple #[.slice none 0 0, .int .i64 (x.1 : Nat), .int .i64 x.2]) ∧ Below w.heap.size w w'
theorem parse_any (t : List UInt8) (ht : t.length ≤ 65536) (w : World) (hT : TabA w) : Calls Tryz.prog 73 #[.string ⟨t.toArray⟩] w (GivesT w (parseL [] 0 (splitB 10 t))) := by
  refine (parse_range t ht w hT).mono ?_
  rintro e w' (⟨hg, u, rfl, hp, hb⟩ | ⟨hg, rfl, hb⟩)
  · rw [show parseL [] 0 (splitB 10 t) = .ok (progOf (splitB 10 t)) from hg]
    exact ⟨u, rfl, hp, hb⟩
  · rw [show parseL [] 0 (splitB 10 t) = .error (faultOf (splitB 10 t)) from hg]
    exact ⟨rfl, hb⟩
end Go.Proofs.YtbiajfkencamiaaGreatDoor.Core
/-! Lines and words, as plain lists: notes, lines of clean words, numbers. -/
namespace Go.Proofs.YtbiajfkencamiaaGreatDoor.Core
open Go.RowKit Go.Shelf Go.Proofs.YtbiajfkencamiaaGreatDoorW.PrintWords Go.Proofs.YtbiajfkencamiaaGreatDoorW.PrintMore Go.Proofs.YtbiajfkencamiaaGreatDoor.P1 Go.Proofs.YtbiajfkencamiaaGreatDoor
set_option linter.unusedVariables false
set_option linter.unusedSimpArgs false
end Go.Proofs.YtbiajfkencamiaaGreatDoor.Core
