/- script.write, the acts whose statements draw their order: a pick, a submission. Written by gen_script_c3.py. -/
import Derived.Test.YthnefjkpjhfkgaaC2
import Derived.Test.YthnefjkpjhfkgaaRegion
namespace Go.Proofs.Ythnefjkpjhfkgaa.Core
open Go.RowKit Go.Proofs.YthnefjkpjhfkgaaW.PrintWords Go.Proofs.YthnefjkpjhfkgaaW.PrintMore Go.Proofs.Ythnefjkpjhfkgaa.PScriptWrites
set_option linter.unusedVariables false
set_option linter.unusedSimpArgs false
theorem le_wrap (n : Int) : le 8 (IntKind.u64.wrap n) = le 8 n := by
  have e : IntKind.u64.wrap n = n % 18446744073709551616 := by simp [IntKind.wrap, IntKind.signed, IntKind.bits]
  rw [e]
  simp only [le, List.cons.injEq, and_true]
  omega
theorem fm_len (l : List Int) : (l.flatMap (le 8)).length = 8 * l.length := by
  induction l with
  | nil => rfl
  | cons x l ih => rw [List.flatMap_cons, List.length_append, ih, le_len, List.length_cons]; omega
theorem fm_succ (l : List Int) (j : Nat) (h : j < l.length) : (l.take (j + 1)).flatMap (le 8) = (l.take j).flatMap (le 8) ++ le 8 l[j] := by
  rw [List.take_succ_eq_append_getElem h, List.flatMap_append]
  simp

set_option maxHeartbeats 4000000 in
set_option maxRecDepth 100000 in
theorem write_1_no1 {P0 : Nat → Prop} {w0 w : World} {u : Value} {l : List Int} {x : S47} {A4 A5 : Option Addr} {c4 c5 k : Nat} (G : Gv P0 w0 w u l x A4 A5 c4 c5) (hk : x.f0 = 1) (hb : script_Act_bare.f k x.f0 x.f1 x.f2 x.f3 x.f4 x.f5 = some true) (hm : x.f1 < 0 ∨ 256 ≤ x.f1) (hw : -9223372036854775808 ≤ x.f1) :
    Calls Try.prog 19 #[u, .agg (actV x A4 A5 c4 c5)] w (Gave P0 w0 w) := by
  have S0 := Lib.hid (St.start G.below G.row (actV x A4 A5 c4 c5))
  have HG := Lib.hid G
  have HB := Lib.hid hb
  clear G hb
  obtain ⟨f0, f1, f2, f3, f4, f5⟩ := x
  obtain rfl : f0 = 1 := hk
  unfold actV at *
  dsimp only at *
  go_enter Try.func19, Try.ntmps19
  have d0 := S0.out.cell 0 rfl; have d1 := S0.out.cell 1 rfl; have d2 := S0.out.cell 2 rfl; have d3 := S0.out.cell 3 rfl; have d4 := S0.out.cell 4 rfl; have d5 := S0.out.cell 5 rfl
  go_wp2_with fail
  generalize w.alloc (.cells #[.int .i64 1, .int .i64 f1, .int .i64 f2, .int .i64 f3, .slice A4 f4.length c4, .slice A5 f5.length c5] 47) = W1 at *
  clear d0 d1 d2 d3 d4 d5
  refine (script_Act_bare.calls _ 1 f1 f2 f3 A4 c4 f4 A5 c5 f5 true _ (Kd.C_below HG.out.r4 S0.out.below) HG.out.h4 (Kd.C_below HG.out.r5 S0.out.below) HG.out.h5 HB.out).mono ?_
  rintro e W2 ⟨rfl, hb⟩
  have S1 := Lib.hid (S0.out.below_ hb)
  clear hb S0 HB
  have d0 := S1.out.cell 0 rfl
  go_wp2_with fail
  refine (need_ok _ _).mono ?_
  rintro e W3 ⟨rfl, rfl⟩
  have hs2 := S1.out.size
  have hb2 := S1.out.base
  have hl2 := HG.out.len
  go_wp2_with ((with_reducible refine gate_builtin (b := .append) (xs := #[.tmp 20, .tmp 24]) rfl ?_); at_builtin; refine Kd.R_append (Kd.int .u8) (w0 := w0) w0.heap.size rfl (.tmp 20) (.tmp 24) 24 5 (.int .u8 0) 1 rfl Try.underlying24 info5 rfl (by decide) (by omega) u l 1 [.int .u8 1] (fun k => P0 k ∧ k < w.heap.size ∨ w.heap.size + 1 ≤ k) (fun _ => False) rfl rfl ?aP (fun _ hk => hk.elim) ?aF ?aO ?aB ?aS ?aL ?_; (case aP => exact rfl); (case aF => exact (fun k hk => .inr (by omega))); (case aO => exact S1.out.row); (case aB => exact S1.out.below); (case aS => omega); (case aL => omega); intro v3 W3 ho hb hg hat; have S2 := Lib.hid (S1.out.grown ho hb hg); clear ho hb hg hat S1 d0; have d0 := S2.out.cell 0 rfl; have d1 := S2.out.cell 1 rfl; have d2 := S2.out.cell 2 rfl; have d3 := S2.out.cell 3 rfl; have d4 := S2.out.cell 4 rfl; have d5 := S2.out.cell 5 rfl; clear hs2; have hs3 := S2.out.size)
  refine Reg.wp_region_phase (by kernel_rfl) [3, 6, 7] (fun i => match i with | 0 => fun v => v = v3 | 1 => fun v => v = .pointer (some ⟨w.heap.size, 1, none⟩) | 2 => fun v => v = .int .i64 f1 | 4 => fun v => v = .pointer (some ⟨w.heap.size, 2, none⟩) | 5 => fun v => v = .int .i64 f2 | _ => fun _ => True) (fun k f W => match k with | 0 => St P0 w0 w W (actV ⟨1, f1, f2, f3, f4, f5⟩ A4 A5 c4 c5) v3 (l ++ [1]) | _ => False) (by kernel_rfl) (by kernel_rfl) (by decide) (by decide) ?hJ ?h0 ?pure ?act ?fin
  case hJ => intro k f f' W h hj; match k, hj with | 0, hj => exact hj
  case h0 => exact S2.out.drew_
  case pure =>
    intro i o k a w_ ho hE hk hmc hf hst hkn hj
    have hi : i < 8 := (Array.getElem?_eq_some_iff.1 ho).1
    obtain rfl | rfl | rfl | rfl | rfl : i = 0 ∨ i = 1 ∨ i = 2 ∨ i = 4 ∨ i = 5 := by
      simp only [List.mem_cons, List.not_mem_nil, or_false, not_or] at hE
      omega
    · obtain rfl := Reg.oper_eq ho rfl
      have e0 : a.eval (.tmp 0) = v3 := (hf.eval 0 (by kernel_rfl)).trans rfl
      have g0 := Reg.eval_getD e0
      exact Reg.op_value rfl rfl (by simp only [List.getElem_toArray, List.getElem_cons_zero, List.getElem_cons_succ, execOp, e0]; go_simp) ⟨_, rfl, rfl, hj⟩
    · obtain rfl := Reg.oper_eq ho rfl
      have e3 : a.eval (.tmp 3) = .pointer (some ⟨w.heap.size, 0, none⟩) := (hf.eval 3 (by kernel_rfl)).trans rfl
      have g3 := Reg.eval_getD e3
      exact Reg.op_value rfl rfl (by simp only [List.getElem_toArray, List.getElem_cons_zero, List.getElem_cons_succ, execOp, e3]; go_simp) ⟨_, rfl, rfl, hj⟩
    · obtain rfl := Reg.oper_eq ho rfl
      have e31 : a.eval (.tmp 31) = .pointer (some ⟨w.heap.size, 1, none⟩) := hkn.eval 1 31 (by kernel_rfl) (by kernel_rfl)
      have g31 := Reg.eval_getD e31
      have hc : ∀ j u, (actV ⟨1, f1, f2, f3, f4, f5⟩ A4 A5 c4 c5)[j]? = some u → w_.cell? ⟨w.heap.size, j, none⟩ = some u := by
        intro j u hu; match k, hj with | 0, hj => exact St.cell hj j hu
      have c1 : w_.cell? ⟨w.heap.size, 1, none⟩ = some (.int .i64 f1) := hc 1 _ rfl; have c2 : w_.cell? ⟨w.heap.size, 2, none⟩ = some (.int .i64 f2) := hc 2 _ rfl
      exact Reg.op_value rfl rfl (by simp only [List.getElem_toArray, List.getElem_cons_zero, List.getElem_cons_succ, execOp, e31]; go_simp) ⟨_, rfl, rfl, hj⟩
    · obtain rfl := Reg.oper_eq ho rfl
      have e3 : a.eval (.tmp 3) = .pointer (some ⟨w.heap.size, 0, none⟩) := (hf.eval 3 (by kernel_rfl)).trans rfl
      have g3 := Reg.eval_getD e3
      exact Reg.op_value rfl rfl (by simp only [List.getElem_toArray, List.getElem_cons_zero, List.getElem_cons_succ, execOp, e3]; go_simp) ⟨_, rfl, rfl, hj⟩
    · obtain rfl := Reg.oper_eq ho rfl
      have e34 : a.eval (.tmp 34) = .pointer (some ⟨w.heap.size, 2, none⟩) := hkn.eval 4 34 (by kernel_rfl) (by kernel_rfl)
      have g34 := Reg.eval_getD e34
      have hc : ∀ j u, (actV ⟨1, f1, f2, f3, f4, f5⟩ A4 A5 c4 c5)[j]? = some u → w_.cell? ⟨w.heap.size, j, none⟩ = some u := by
        intro j u hu; match k, hj with | 0, hj => exact St.cell hj j hu
      have c1 : w_.cell? ⟨w.heap.size, 1, none⟩ = some (.int .i64 f1) := hc 1 _ rfl; have c2 : w_.cell? ⟨w.heap.size, 2, none⟩ = some (.int .i64 f2) := hc 2 _ rfl
      exact Reg.op_value rfl rfl (by simp only [List.getElem_toArray, List.getElem_cons_zero, List.getElem_cons_succ, execOp, e34]; go_simp) ⟨_, rfl, rfl, hj⟩
  case act =>
    intro k o a w_ hk ho hf hst hkn hj
    obtain rfl | rfl | rfl : k = 0 ∨ k = 1 ∨ k = 2 := by simp only [List.length_cons, List.length_nil] at hk; omega
    · obtain rfl := Reg.oper_eq ho rfl
      have e30 : a.eval (.tmp 30) = v3 := hkn.eval 0 30 (by kernel_rfl) (by kernel_rfl)
      have e32 : a.eval (.tmp 32) = .int .i64 f1 := hkn.eval 2 32 (by kernel_rfl) (by kernel_rfl)
      have g30 := Reg.eval_getD e30
      have g32 := Reg.eval_getD e32
      have hj' : St P0 w0 w w_ (actV ⟨1, f1, f2, f3, f4, f5⟩ A4 A5 c4 c5) v3 (l ++ [1]) := hj
      refine Reg.op_call (f := 24) (args := #[v3, .int .i64 f1, .int .i64 1]) (w' := w_) rfl rfl (by simp only [List.getElem_toArray, List.getElem_cons_zero, List.getElem_cons_succ, execOp, e30, e32]; go_simp) ((small_no _ _ _ _ hw (by omega)).mono ?_)
      rintro e W4 ⟨rfl, rfl⟩
      exact .inr ⟨_, rfl, hf.defers, rfl, hj'.below, hj'.kept⟩
    · obtain rfl := Reg.oper_eq ho rfl
      have e35 : a.eval (.tmp 35) = .int .i64 f2 := hkn.eval 5 35 (by kernel_rfl) (by kernel_rfl)
      have g35 := Reg.eval_getD e35
      exact hj.elim
    · obtain rfl := Reg.oper_eq ho rfl
      exact hj.elim
  case fin =>
    intro a w_ hf hkn hj
    exact hj.elim

set_option maxHeartbeats 4000000 in
set_option maxRecDepth 100000 in
theorem write_1_no2 {P0 : Nat → Prop} {w0 w : World} {u : Value} {l : List Int} {x : S47} {A4 A5 : Option Addr} {c4 c5 k : Nat} (G : Gv P0 w0 w u l x A4 A5 c4 c5) (hk : x.f0 = 1) (hb : script_Act_bare.f k x.f0 x.f1 x.f2 x.f3 x.f4 x.f5 = some true) (hm : 0 ≤ x.f1 ∧ x.f1 < 256) (hm2 : x.f2 < 0 ∨ 256 ≤ x.f2) (hw : -9223372036854775808 ≤ x.f2) :
    Calls Try.prog 19 #[u, .agg (actV x A4 A5 c4 c5)] w (Gave P0 w0 w) := by
  have S0 := Lib.hid (St.start G.below G.row (actV x A4 A5 c4 c5))
  have HG := Lib.hid G
  have HB := Lib.hid hb
  clear G hb
  obtain ⟨f0, f1, f2, f3, f4, f5⟩ := x
  obtain rfl : f0 = 1 := hk
  unfold actV at *
  dsimp only at *
  go_enter Try.func19, Try.ntmps19
  have d0 := S0.out.cell 0 rfl; have d1 := S0.out.cell 1 rfl; have d2 := S0.out.cell 2 rfl; have d3 := S0.out.cell 3 rfl; have d4 := S0.out.cell 4 rfl; have d5 := S0.out.cell 5 rfl
  go_wp2_with fail
  generalize w.alloc (.cells #[.int .i64 1, .int .i64 f1, .int .i64 f2, .int .i64 f3, .slice A4 f4.length c4, .slice A5 f5.length c5] 47) = W1 at *
  clear d0 d1 d2 d3 d4 d5
  refine (script_Act_bare.calls _ 1 f1 f2 f3 A4 c4 f4 A5 c5 f5 true _ (Kd.C_below HG.out.r4 S0.out.below) HG.out.h4 (Kd.C_below HG.out.r5 S0.out.below) HG.out.h5 HB.out).mono ?_
  rintro e W2 ⟨rfl, hb⟩
  have S1 := Lib.hid (S0.out.below_ hb)
  clear hb S0 HB
  have d0 := S1.out.cell 0 rfl
  go_wp2_with fail
  refine (need_ok _ _).mono ?_
  rintro e W3 ⟨rfl, rfl⟩
  have hs2 := S1.out.size
  have hb2 := S1.out.base
  have hl2 := HG.out.len
  go_wp2_with ((with_reducible refine gate_builtin (b := .append) (xs := #[.tmp 20, .tmp 24]) rfl ?_); at_builtin; refine Kd.R_append (Kd.int .u8) (w0 := w0) w0.heap.size rfl (.tmp 20) (.tmp 24) 24 5 (.int .u8 0) 1 rfl Try.underlying24 info5 rfl (by decide) (by omega) u l 1 [.int .u8 1] (fun k => P0 k ∧ k < w.heap.size ∨ w.heap.size + 1 ≤ k) (fun _ => False) rfl rfl ?aP (fun _ hk => hk.elim) ?aF ?aO ?aB ?aS ?aL ?_; (case aP => exact rfl); (case aF => exact (fun k hk => .inr (by omega))); (case aO => exact S1.out.row); (case aB => exact S1.out.below); (case aS => omega); (case aL => omega); intro v3 W3 ho hb hg hat; have S2 := Lib.hid (S1.out.grown ho hb hg); clear ho hb hg hat S1 d0; have d0 := S2.out.cell 0 rfl; have d1 := S2.out.cell 1 rfl; have d2 := S2.out.cell 2 rfl; have d3 := S2.out.cell 3 rfl; have d4 := S2.out.cell 4 rfl; have d5 := S2.out.cell 5 rfl; clear hs2; have hs3 := S2.out.size)
  refine Reg.wp_region_phase (by kernel_rfl) [3, 6, 7] (fun i => match i with | 0 => fun v => v = v3 | 1 => fun v => v = .pointer (some ⟨w.heap.size, 1, none⟩) | 2 => fun v => v = .int .i64 f1 | 4 => fun v => v = .pointer (some ⟨w.heap.size, 2, none⟩) | 5 => fun v => v = .int .i64 f2 | _ => fun _ => True) (fun k f W => match k with | 0 => St P0 w0 w W (actV ⟨1, f1, f2, f3, f4, f5⟩ A4 A5 c4 c5) v3 (l ++ [1]) | 1 => St P0 w0 w W (actV ⟨1, f1, f2, f3, f4, f5⟩ A4 A5 c4 c5) (f 33) (l ++ [1] ++ le 1 f1) | _ => False) (by kernel_rfl) (by kernel_rfl) (by decide) (by decide) ?hJ ?h0 ?pure ?act ?fin
  case hJ => intro k f f' W h hj; match k, hj with | 0, hj => exact hj | 1, hj => (rw [← h 0 (by omega) (by decide) 33 (by kernel_rfl)]; exact hj)
  case h0 => exact S2.out.drew_
  case pure =>
    intro i o k a w_ ho hE hk hmc hf hst hkn hj
    have hi : i < 8 := (Array.getElem?_eq_some_iff.1 ho).1
    obtain rfl | rfl | rfl | rfl | rfl : i = 0 ∨ i = 1 ∨ i = 2 ∨ i = 4 ∨ i = 5 := by
      simp only [List.mem_cons, List.not_mem_nil, or_false, not_or] at hE
      omega
    · obtain rfl := Reg.oper_eq ho rfl
      have e0 : a.eval (.tmp 0) = v3 := (hf.eval 0 (by kernel_rfl)).trans rfl
      have g0 := Reg.eval_getD e0
      exact Reg.op_value rfl rfl (by simp only [List.getElem_toArray, List.getElem_cons_zero, List.getElem_cons_succ, execOp, e0]; go_simp) ⟨_, rfl, rfl, hj⟩
    · obtain rfl := Reg.oper_eq ho rfl
      have e3 : a.eval (.tmp 3) = .pointer (some ⟨w.heap.size, 0, none⟩) := (hf.eval 3 (by kernel_rfl)).trans rfl
      have g3 := Reg.eval_getD e3
      exact Reg.op_value rfl rfl (by simp only [List.getElem_toArray, List.getElem_cons_zero, List.getElem_cons_succ, execOp, e3]; go_simp) ⟨_, rfl, rfl, hj⟩
    · obtain rfl := Reg.oper_eq ho rfl
      have e31 : a.eval (.tmp 31) = .pointer (some ⟨w.heap.size, 1, none⟩) := hkn.eval 1 31 (by kernel_rfl) (by kernel_rfl)
      have g31 := Reg.eval_getD e31
      have hc : ∀ j u, (actV ⟨1, f1, f2, f3, f4, f5⟩ A4 A5 c4 c5)[j]? = some u → w_.cell? ⟨w.heap.size, j, none⟩ = some u := by
        intro j u hu; match k, hj with | 0, hj => exact St.cell hj j hu | 1, hj => exact St.cell hj j hu
      have c1 : w_.cell? ⟨w.heap.size, 1, none⟩ = some (.int .i64 f1) := hc 1 _ rfl; have c2 : w_.cell? ⟨w.heap.size, 2, none⟩ = some (.int .i64 f2) := hc 2 _ rfl
      exact Reg.op_value rfl rfl (by simp only [List.getElem_toArray, List.getElem_cons_zero, List.getElem_cons_succ, execOp, e31]; go_simp) ⟨_, rfl, rfl, hj⟩
    · obtain rfl := Reg.oper_eq ho rfl
      have e3 : a.eval (.tmp 3) = .pointer (some ⟨w.heap.size, 0, none⟩) := (hf.eval 3 (by kernel_rfl)).trans rfl
      have g3 := Reg.eval_getD e3
      exact Reg.op_value rfl rfl (by simp only [List.getElem_toArray, List.getElem_cons_zero, List.getElem_cons_succ, execOp, e3]; go_simp) ⟨_, rfl, rfl, hj⟩
    · obtain rfl := Reg.oper_eq ho rfl
      have e34 : a.eval (.tmp 34) = .pointer (some ⟨w.heap.size, 2, none⟩) := hkn.eval 4 34 (by kernel_rfl) (by kernel_rfl)
      have g34 := Reg.eval_getD e34
      have hc : ∀ j u, (actV ⟨1, f1, f2, f3, f4, f5⟩ A4 A5 c4 c5)[j]? = some u → w_.cell? ⟨w.heap.size, j, none⟩ = some u := by
        intro j u hu; match k, hj with | 0, hj => exact St.cell hj j hu | 1, hj => exact St.cell hj j hu
      have c1 : w_.cell? ⟨w.heap.size, 1, none⟩ = some (.int .i64 f1) := hc 1 _ rfl; have c2 : w_.cell? ⟨w.heap.size, 2, none⟩ = some (.int .i64 f2) := hc 2 _ rfl
      exact Reg.op_value rfl rfl (by simp only [List.getElem_toArray, List.getElem_cons_zero, List.getElem_cons_succ, execOp, e34]; go_simp) ⟨_, rfl, rfl, hj⟩
  case act =>
    intro k o a w_ hk ho hf hst hkn hj
    obtain rfl | rfl | rfl : k = 0 ∨ k = 1 ∨ k = 2 := by simp only [List.length_cons, List.length_nil] at hk; omega
    · obtain rfl := Reg.oper_eq ho rfl
      have e30 : a.eval (.tmp 30) = v3 := hkn.eval 0 30 (by kernel_rfl) (by kernel_rfl)
      have e32 : a.eval (.tmp 32) = .int .i64 f1 := hkn.eval 2 32 (by kernel_rfl) (by kernel_rfl)
      have g30 := Reg.eval_getD e30
      have g32 := Reg.eval_getD e32
      have hj' : St P0 w0 w w_ (actV ⟨1, f1, f2, f3, f4, f5⟩ A4 A5 c4 c5) v3 (l ++ [1]) := hj
      refine Reg.op_call (f := 24) (args := #[v3, .int .i64 f1, .int .i64 1]) (w' := w_) rfl rfl (by simp only [List.getElem_toArray, List.getElem_cons_zero, List.getElem_cons_succ, execOp, e30, e32]; go_simp) ((small_ok _ _ _ _ _ _ _ w0 _ hj'.below hj'.row hm.1 (by omega) (put_f (l ++ [1]) f1 1 (by simp [le_len]; omega) (by omega))).mono ?_)
      rintro e W4 ⟨v4, rfl, hr4, hb4, hk4⟩
      refine .inl ⟨v4, rfl, v4, rfl, trivial, ?_⟩
      show St P0 w0 w W4 (actV ⟨1, f1, f2, f3, f4, f5⟩ A4 A5 c4 c5) (Reg.val (a.put (some 33) v4) 33) _
      rw [Reg.val_put_in hf (by kernel_rfl)]
      exact hj'.step hr4 hb4 hk4
    · obtain rfl := Reg.oper_eq ho rfl
      have e35 : a.eval (.tmp 35) = .int .i64 f2 := hkn.eval 5 35 (by kernel_rfl) (by kernel_rfl)
      have g35 := Reg.eval_getD e35
      have g33 : a.tmps[33]?.getD undef = Reg.val a 33 := Reg.eval_getD (Reg.eval_val a 33)
      have hj' : St P0 w0 w w_ (actV ⟨1, f1, f2, f3, f4, f5⟩ A4 A5 c4 c5) (Reg.val a 33) (l ++ [1] ++ le 1 f1) := hj
      refine Reg.op_call (f := 24) (args := #[Reg.val a 33, .int .i64 f2, .int .i64 1]) (w' := w_) rfl rfl (by simp only [List.getElem_toArray, List.getElem_cons_zero, List.getElem_cons_succ, execOp, e35]; go_simp) ((small_no _ _ _ _ hw (by omega)).mono ?_)
      rintro e W4 ⟨rfl, rfl⟩
      exact .inr ⟨_, rfl, hf.defers, rfl, hj'.below, hj'.kept⟩
    · obtain rfl := Reg.oper_eq ho rfl
      exact hj.elim
  case fin =>
    intro a w_ hf hkn hj
    exact hj.elim

set_option maxHeartbeats 4000000 in
set_option maxRecDepth 100000 in
theorem write_2_no {P0 : Nat → Prop} {w0 w : World} {u : Value} {l : List Int} {x : S47} {A4 A5 : Option Addr} {c4 c5 k : Nat} (G : Gv P0 w0 w u l x A4 A5 c4 c5) (hk : x.f0 = 2) (hb : script_Act_bare.f k x.f0 x.f1 x.f2 x.f3 x.f4 x.f5 = some true) (hm : 256 ≤ x.f5.length) :
    Calls Try.prog 19 #[u, .agg (actV x A4 A5 c4 c5)] w (Gave P0 w0 w) := by
  have S0 := Lib.hid (St.start G.below G.row (actV x A4 A5 c4 c5))
  have HG := Lib.hid G
  have HB := Lib.hid hb
  clear G hb
  obtain ⟨f0, f1, f2, f3, f4, f5⟩ := x
  obtain rfl : f0 = 2 := hk
  unfold actV at *
  dsimp only at *
  go_enter Try.func19, Try.ntmps19
  have d0 := S0.out.cell 0 rfl; have d1 := S0.out.cell 1 rfl; have d2 := S0.out.cell 2 rfl; have d3 := S0.out.cell 3 rfl; have d4 := S0.out.cell 4 rfl; have d5 := S0.out.cell 5 rfl
  go_wp2_with fail
  generalize w.alloc (.cells #[.int .i64 2, .int .i64 f1, .int .i64 f2, .int .i64 f3, .slice A4 f4.length c4, .slice A5 f5.length c5] 47) = W1 at *
  clear d0 d1 d2 d3 d4 d5
  refine (script_Act_bare.calls _ 2 f1 f2 f3 A4 c4 f4 A5 c5 f5 true _ (Kd.C_below HG.out.r4 S0.out.below) HG.out.h4 (Kd.C_below HG.out.r5 S0.out.below) HG.out.h5 HB.out).mono ?_
  rintro e W2 ⟨rfl, hb⟩
  have S1 := Lib.hid (S0.out.below_ hb)
  clear hb S0 HB
  have d0 := S1.out.cell 0 rfl
  go_wp2_with fail
  refine (need_ok _ _).mono ?_
  rintro e W3 ⟨rfl, rfl⟩
  have hs2 := S1.out.size
  have hb2 := S1.out.base
  have hl2 := HG.out.len
  go_wp2_with ((with_reducible refine gate_builtin (b := .append) (xs := #[.tmp 20, .tmp 24]) rfl ?_); at_builtin; refine Kd.R_append (Kd.int .u8) (w0 := w0) w0.heap.size rfl (.tmp 20) (.tmp 24) 24 5 (.int .u8 0) 1 rfl Try.underlying24 info5 rfl (by decide) (by omega) u l 2 [.int .u8 2] (fun k => P0 k ∧ k < w.heap.size ∨ w.heap.size + 1 ≤ k) (fun _ => False) rfl rfl ?aP (fun _ hk => hk.elim) ?aF ?aO ?aB ?aS ?aL ?_; (case aP => exact rfl); (case aF => exact (fun k hk => .inr (by omega))); (case aO => exact S1.out.row); (case aB => exact S1.out.below); (case aS => omega); (case aL => omega); intro v3 W3 ho hb hg hat; have S2 := Lib.hid (S1.out.grown ho hb hg); clear ho hb hg hat S1 d0; have d0 := S2.out.cell 0 rfl; have d1 := S2.out.cell 1 rfl; have d2 := S2.out.cell 2 rfl; have d3 := S2.out.cell 3 rfl; have d4 := S2.out.cell 4 rfl; have d5 := S2.out.cell 5 rfl; clear hs2; have hs3 := S2.out.size)
  have hl4 := HG.out.len4
  have hl5 := HG.out.len5
  dsimp only at hl4 hl5
  refine Reg.wp_region_phase (by kernel_rfl) [4, 7, 8] (fun i => match i with | 0 => fun v => v = v3 | 1 => fun v => v = .pointer (some ⟨w.heap.size, 4, none⟩) | 2 => fun v => v = .slice A4 f4.length c4 | 3 => fun v => v = .int .i64 ↑f4.length | 5 => fun v => v = .pointer (some ⟨w.heap.size, 4, none⟩) | 6 => fun v => v = .slice A4 f4.length c4 | _ => fun _ => True) (fun k f W => match k with | 0 => St P0 w0 w W (actV ⟨2, f1, f2, f3, f4, f5⟩ A4 A5 c4 c5) v3 (l ++ [2]) | 1 => St P0 w0 w W (actV ⟨2, f1, f2, f3, f4, f5⟩ A4 A5 c4 c5) (f 43) (l ++ [2] ++ le 2 f4.length) | 2 => St P0 w0 w W (actV ⟨2, f1, f2, f3, f4, f5⟩ A4 A5 c4 c5) (f 46) (l ++ [2] ++ le 2 f4.length ++ f4) | _ => St P0 w0 w W (actV ⟨2, f1, f2, f3, f4, f5⟩ A4 A5 c4 c5) (f 0) (l ++ [2] ++ le 2 f4.length ++ f4)) (by kernel_rfl) (by kernel_rfl) (by decide) (by decide) ?hJ ?h0 ?pure ?act ?fin
  case hJ => intro k f f' W h hj; match k, hj with | 0, hj => exact hj | 1, hj => (rw [← h 0 (by omega) (by decide) 43 (by kernel_rfl)]; exact hj) | 2, hj => (rw [← h 1 (by omega) (by decide) 46 (by kernel_rfl)]; exact hj) | k + 3, hj => (rw [← h 2 (by omega) (by decide) 0 (by kernel_rfl)]; exact hj)
  case h0 => exact S2.out.drew_
  case pure =>
    intro i o k a w_ ho hE hk hmc hf hst hkn hj
    have hi : i < 9 := (Array.getElem?_eq_some_iff.1 ho).1
    obtain rfl | rfl | rfl | rfl | rfl | rfl : i = 0 ∨ i = 1 ∨ i = 2 ∨ i = 3 ∨ i = 5 ∨ i = 6 := by
      simp only [List.mem_cons, List.not_mem_nil, or_false, not_or] at hE
      omega
    · obtain rfl := Reg.oper_eq ho rfl
      have e0 : a.eval (.tmp 0) = v3 := (hst.eval 8 0 (by kernel_rfl) (by kernel_rfl)).trans rfl
      have g0 := Reg.eval_getD e0
      exact Reg.op_value rfl rfl (by simp only [List.getElem_toArray, List.getElem_cons_zero, List.getElem_cons_succ, execOp, e0]; go_simp) ⟨_, rfl, rfl, hj⟩
    · obtain rfl := Reg.oper_eq ho rfl
      have e3 : a.eval (.tmp 3) = .pointer (some ⟨w.heap.size, 0, none⟩) := (hf.eval 3 (by kernel_rfl)).trans rfl
      have g3 := Reg.eval_getD e3
      exact Reg.op_value rfl rfl (by simp only [List.getElem_toArray, List.getElem_cons_zero, List.getElem_cons_succ, execOp, e3]; go_simp) ⟨_, rfl, rfl, hj⟩
    · obtain rfl := Reg.oper_eq ho rfl
      have e40 : a.eval (.tmp 40) = .pointer (some ⟨w.heap.size, 4, none⟩) := hkn.eval 1 40 (by kernel_rfl) (by kernel_rfl)
      have g40 := Reg.eval_getD e40
      have hc : ∀ j u, (actV ⟨2, f1, f2, f3, f4, f5⟩ A4 A5 c4 c5)[j]? = some u → w_.cell? ⟨w.heap.size, j, none⟩ = some u := by
        intro j u hu; match k, hj with | 0, hj => exact St.cell hj j hu | 1, hj => exact St.cell hj j hu | 2, hj => exact St.cell hj j hu | k + 3, hj => exact St.cell hj j hu
      have c4' : w_.cell? ⟨w.heap.size, 4, none⟩ = some (.slice A4 f4.length c4) := hc 4 _ rfl
      exact Reg.op_value rfl rfl (by simp only [List.getElem_toArray, List.getElem_cons_zero, List.getElem_cons_succ, execOp, e40]; go_simp) ⟨_, rfl, rfl, hj⟩
    · obtain rfl := Reg.oper_eq ho rfl
      have e41 : a.eval (.tmp 41) = .slice A4 f4.length c4 := hkn.eval 2 41 (by kernel_rfl) (by kernel_rfl)
      have g41 := Reg.eval_getD e41
      exact Reg.op_value rfl rfl (by simp only [List.getElem_toArray, List.getElem_cons_zero, List.getElem_cons_succ, execOp, e41]; go_simp) ⟨_, rfl, rfl, hj⟩
    · obtain rfl := Reg.oper_eq ho rfl
      have e3 : a.eval (.tmp 3) = .pointer (some ⟨w.heap.size, 0, none⟩) := (hf.eval 3 (by kernel_rfl)).trans rfl
      have g3 := Reg.eval_getD e3
      exact Reg.op_value rfl rfl (by simp only [List.getElem_toArray, List.getElem_cons_zero, List.getElem_cons_succ, execOp, e3]; go_simp) ⟨_, rfl, rfl, hj⟩
    · obtain rfl := Reg.oper_eq ho rfl
      have e44 : a.eval (.tmp 44) = .pointer (some ⟨w.heap.size, 4, none⟩) := hkn.eval 5 44 (by kernel_rfl) (by kernel_rfl)
      have g44 := Reg.eval_getD e44
      have hc : ∀ j u, (actV ⟨2, f1, f2, f3, f4, f5⟩ A4 A5 c4 c5)[j]? = some u → w_.cell? ⟨w.heap.size, j, none⟩ = some u := by
        intro j u hu; match k, hj with | 0, hj => exact St.cell hj j hu | 1, hj => exact St.cell hj j hu | 2, hj => exact St.cell hj j hu | k + 3, hj => exact St.cell hj j hu
      have c4' : w_.cell? ⟨w.heap.size, 4, none⟩ = some (.slice A4 f4.length c4) := hc 4 _ rfl
      exact Reg.op_value rfl rfl (by simp only [List.getElem_toArray, List.getElem_cons_zero, List.getElem_cons_succ, execOp, e44]; go_simp) ⟨_, rfl, rfl, hj⟩
  case act =>
    intro k o a w_ hk ho hf hst hkn hj
    obtain rfl | rfl | rfl : k = 0 ∨ k = 1 ∨ k = 2 := by simp only [List.length_cons, List.length_nil] at hk; omega
    · obtain rfl := Reg.oper_eq ho rfl
      have e39 : a.eval (.tmp 39) = v3 := hkn.eval 0 39 (by kernel_rfl) (by kernel_rfl)
      have e42 : a.eval (.tmp 42) = .int .i64 ↑f4.length := hkn.eval 3 42 (by kernel_rfl) (by kernel_rfl)
      have g39 := Reg.eval_getD e39
      have g42 := Reg.eval_getD e42
      have hj' : St P0 w0 w w_ (actV ⟨2, f1, f2, f3, f4, f5⟩ A4 A5 c4 c5) v3 (l ++ [2]) := hj
      refine Reg.op_call (f := 24) (args := #[v3, .int .i64 ↑f4.length, .int .i64 2]) (w' := w_) rfl rfl (by simp only [List.getElem_toArray, List.getElem_cons_zero, List.getElem_cons_succ, execOp, e39, e42]; go_simp) ((small_ok _ _ _ _ _ _ _ w0 _ hj'.below hj'.row (by omega) (by omega) (put_f (l ++ [2]) f4.length 2 (by simp [le_len]; omega) (by omega))).mono ?_)
      rintro e W4 ⟨v4, rfl, hr4, hb4, hk4⟩
      refine .inl ⟨v4, rfl, v4, rfl, trivial, ?_⟩
      show St P0 w0 w W4 (actV ⟨2, f1, f2, f3, f4, f5⟩ A4 A5 c4 c5) (Reg.val (a.put (some 43) v4) 43) _
      rw [Reg.val_put_in hf (by kernel_rfl)]
      exact hj'.step hr4 hb4 hk4
    · obtain rfl := Reg.oper_eq ho rfl
      have e45 : a.eval (.tmp 45) = .slice A4 f4.length c4 := hkn.eval 6 45 (by kernel_rfl) (by kernel_rfl)
      have g45 := Reg.eval_getD e45
      have e43 : a.eval (.tmp 43) = Reg.val a 43 := Reg.eval_val a 43
      have hj' : St P0 w0 w w_ (actV ⟨2, f1, f2, f3, f4, f5⟩ A4 A5 c4 c5) (Reg.val a 43) (l ++ [2] ++ le 2 f4.length) := hj
      have hs := hj'.size
      have hb := hj'.base
      refine Reg.op_wp rfl rfl ?_
      refine Kd.R_append_rows_step (Kd.int .u8) (Rr := (Kd.int .u8).K w_) (w0 := w0) w0.heap.size rfl (.tmp 43) (.tmp 45) 24 5 (.int .u8 0) 1 rfl Try.underlying24 info5 rfl (by decide) (by omega) (Reg.val a 43) (l ++ [2] ++ le 2 f4.length) f4 A4 f4.length c4 (fun k => P0 k ∧ k < w.heap.size ∨ w.heap.size + 1 ≤ k) (fun _ => False) e43 e45 hj'.row (Kd.C_below HG.out.r4 hj'.below) (fun _ _ h => h) (fun _ hk => hk.elim) (fun k hk => .inr (by omega)) hj'.below (by omega) (by simp [le_len]; omega) ?_
      intro v5 W5 hr5 hb5 hg5 _
      refine ⟨v5, rfl, trivial, ?_⟩
      show St P0 w0 w W5 (actV ⟨2, f1, f2, f3, f4, f5⟩ A4 A5 c4 c5) (Reg.val (a.put (some 46) v5) 46) _
      rw [Reg.val_put_in hf (by kernel_rfl)]
      exact hj'.grown hr5 hb5 hg5
    · obtain rfl := Reg.oper_eq ho rfl
      have e46 : a.eval (.tmp 46) = Reg.val a 46 := Reg.eval_val a 46
      have g46 := Reg.eval_getD e46
      refine Reg.op_value (v := Reg.val a 46) (w' := w_) rfl rfl (by simp only [List.getElem_toArray, List.getElem_cons_zero, List.getElem_cons_succ, execOp, e46]; go_simp) ⟨_, rfl, trivial, ?_⟩
      show St P0 w0 w w_ (actV ⟨2, f1, f2, f3, f4, f5⟩ A4 A5 c4 c5) (Reg.val (a.put (some 0) (Reg.val a 46)) 0) _
      rw [Reg.val_put_in hf (by kernel_rfl)]
      exact hj
  case fin =>
    intro a w_ hf hkn hj
    have e39 : Reg.val a 39 = _ := hkn 0 39 (by show _ < _; decide) (by kernel_rfl)
    have e40 : Reg.val a 40 = _ := hkn 1 40 (by show _ < _; decide) (by kernel_rfl)
    have e41 : Reg.val a 41 = _ := hkn 2 41 (by show _ < _; decide) (by kernel_rfl)
    have e42 : Reg.val a 42 = _ := hkn 3 42 (by show _ < _; decide) (by kernel_rfl)
    have e44 : Reg.val a 44 = _ := hkn 5 44 (by show _ < _; decide) (by kernel_rfl)
    have e45 : Reg.val a 45 = _ := hkn 6 45 (by show _ < _; decide) (by kernel_rfl)
    rw [Reg.frm_fold hf [39, 40, 41, 42, 43, 44, 45, 46, 0] (by kernel_rfl) (by kernel_rfl)]
    simp only [List.foldl_cons, List.foldl_nil, Act.put, List.setIfInBounds_toArray, List.set_cons_zero, List.set_cons_succ, e39, e40, e41, e42, e44, e45]
    generalize Reg.val a 43 = v43_ at *
    generalize Reg.val a 46 = v46_ at *
    generalize Reg.val a 0 = v0_ at *
    clear hkn hf e39 e40 e41 e42 e44 e45
    have S4 : Hid (St P0 w0 w w_ (actV ⟨2, f1, f2, f3, f4, f5⟩ A4 A5 c4 c5) v0_ (l ++ [2] ++ le 2 f4.length ++ f4)) := hj
    clear hj S2 d0 d1 d2 d3 d4 d5
    have d0 : w_.cell? ⟨w.heap.size, 0, none⟩ = some (.int .i64 2) := S4.out.cell 0 rfl
    have d5 : w_.cell? ⟨w.heap.size, 5, none⟩ = some (.slice A5 f5.length c5) := S4.out.cell 5 rfl
    go_wp2_with fail
    refine (small_no _ _ _ _ (by omega) (by omega)).mono ?_
    rintro e W6 ⟨rfl, rfl⟩
    go_wp2_with fail
    exact ⟨rfl, rfl, S4.out.below, S4.out.kept⟩

set_option maxHeartbeats 4000000 in
set_option maxRecDepth 100000 in
theorem write_2_ok {P0 : Nat → Prop} {w0 w : World} {u : Value} {l : List Int} {x : S47} {A4 A5 : Option Addr} {c4 c5 k : Nat} (G : Gv P0 w0 w u l x A4 A5 c4 c5) (hk : x.f0 = 2) (hb : script_Act_bare.f k x.f0 x.f1 x.f2 x.f3 x.f4 x.f5 = some true) (hm : x.f5.length < 256) :
    Calls Try.prog 19 #[u, .agg (actV x A4 A5 c4 c5)] w (Wrote P0 w0 w (l ++ [2] ++ le 2 x.f4.length ++ x.f4 ++ le 1 x.f5.length ++ x.f5.flatMap (le 8))) := by
  obtain ⟨r, hr⟩ : ∃ r, l ++ [2] ++ le 2 x.f4.length ++ x.f4 ++ le 1 x.f5.length ++ x.f5.flatMap (le 8) = r := ⟨_, rfl⟩
  rw [hr]
  have HR := Lib.hid hr
  clear hr
  have S0 := Lib.hid (St.start G.below G.row (actV x A4 A5 c4 c5))
  have HG := Lib.hid G
  have HB := Lib.hid hb
  clear G hb
  obtain ⟨f0, f1, f2, f3, f4, f5⟩ := x
  obtain rfl : f0 = 2 := hk
  unfold actV at *
  dsimp only at *
  go_enter Try.func19, Try.ntmps19
  have d0 := S0.out.cell 0 rfl; have d1 := S0.out.cell 1 rfl; have d2 := S0.out.cell 2 rfl; have d3 := S0.out.cell 3 rfl; have d4 := S0.out.cell 4 rfl; have d5 := S0.out.cell 5 rfl
  go_wp2_with fail
  generalize w.alloc (.cells #[.int .i64 2, .int .i64 f1, .int .i64 f2, .int .i64 f3, .slice A4 f4.length c4, .slice A5 f5.length c5] 47) = W1 at *
  clear d0 d1 d2 d3 d4 d5
  refine (script_Act_bare.calls _ 2 f1 f2 f3 A4 c4 f4 A5 c5 f5 true _ (Kd.C_below HG.out.r4 S0.out.below) HG.out.h4 (Kd.C_below HG.out.r5 S0.out.below) HG.out.h5 HB.out).mono ?_
  rintro e W2 ⟨rfl, hb⟩
  have S1 := Lib.hid (S0.out.below_ hb)
  clear hb S0 HB
  have d0 := S1.out.cell 0 rfl
  go_wp2_with fail
  refine (need_ok _ _).mono ?_
  rintro e W3 ⟨rfl, rfl⟩
  have hs2 := S1.out.size
  have hb2 := S1.out.base
  have hl2 := HG.out.len
  go_wp2_with ((with_reducible refine gate_builtin (b := .append) (xs := #[.tmp 20, .tmp 24]) rfl ?_); at_builtin; refine Kd.R_append (Kd.int .u8) (w0 := w0) w0.heap.size rfl (.tmp 20) (.tmp 24) 24 5 (.int .u8 0) 1 rfl Try.underlying24 info5 rfl (by decide) (by omega) u l 2 [.int .u8 2] (fun k => P0 k ∧ k < w.heap.size ∨ w.heap.size + 1 ≤ k) (fun _ => False) rfl rfl ?aP (fun _ hk => hk.elim) ?aF ?aO ?aB ?aS ?aL ?_; (case aP => exact rfl); (case aF => exact (fun k hk => .inr (by omega))); (case aO => exact S1.out.row); (case aB => exact S1.out.below); (case aS => omega); (case aL => omega); intro v3 W3 ho hb hg hat; have S2 := Lib.hid (S1.out.grown ho hb hg); clear ho hb hg hat S1 d0; have d0 := S2.out.cell 0 rfl; have d1 := S2.out.cell 1 rfl; have d2 := S2.out.cell 2 rfl; have d3 := S2.out.cell 3 rfl; have d4 := S2.out.cell 4 rfl; have d5 := S2.out.cell 5 rfl; clear hs2; have hs3 := S2.out.size)
  have hl4 := HG.out.len4
  have hl5 := HG.out.len5
  dsimp only at hl4 hl5
  refine Reg.wp_region_phase (by kernel_rfl) [4, 7, 8] (fun i => match i with | 0 => fun v => v = v3 | 1 => fun v => v = .pointer (some ⟨w.heap.size, 4, none⟩) | 2 => fun v => v = .slice A4 f4.length c4 | 3 => fun v => v = .int .i64 ↑f4.length | 5 => fun v => v = .pointer (some ⟨w.heap.size, 4, none⟩) | 6 => fun v => v = .slice A4 f4.length c4 | _ => fun _ => True) (fun k f W => match k with | 0 => St P0 w0 w W (actV ⟨2, f1, f2, f3, f4, f5⟩ A4 A5 c4 c5) v3 (l ++ [2]) | 1 => St P0 w0 w W (actV ⟨2, f1, f2, f3, f4, f5⟩ A4 A5 c4 c5) (f 43) (l ++ [2] ++ le 2 f4.length) | 2 => St P0 w0 w W (actV ⟨2, f1, f2, f3, f4, f5⟩ A4 A5 c4 c5) (f 46) (l ++ [2] ++ le 2 f4.length ++ f4) | _ => St P0 w0 w W (actV ⟨2, f1, f2, f3, f4, f5⟩ A4 A5 c4 c5) (f 0) (l ++ [2] ++ le 2 f4.length ++ f4)) (by kernel_rfl) (by kernel_rfl) (by decide) (by decide) ?hJ ?h0 ?pure ?act ?fin
  case hJ => intro k f f' W h hj; match k, hj with | 0, hj => exact hj | 1, hj => (rw [← h 0 (by omega) (by decide) 43 (by kernel_rfl)]; exact hj) | 2, hj => (rw [← h 1 (by omega) (by decide) 46 (by kernel_rfl)]; exact hj) | k + 3, hj => (rw [← h 2 (by omega) (by decide) 0 (by kernel_rfl)]; exact hj)
  case h0 => exact S2.out.drew_
  case pure =>
    intro i o k a w_ ho hE hk hmc hf hst hkn hj
    have hi : i < 9 := (Array.getElem?_eq_some_iff.1 ho).1
    obtain rfl | rfl | rfl | rfl | rfl | rfl : i = 0 ∨ i = 1 ∨ i = 2 ∨ i = 3 ∨ i = 5 ∨ i = 6 := by
      simp only [List.mem_cons, List.not_mem_nil, or_false, not_or] at hE
      omega
    · obtain rfl := Reg.oper_eq ho rfl
      have e0 : a.eval (.tmp 0) = v3 := (hst.eval 8 0 (by kernel_rfl) (by kernel_rfl)).trans rfl
      have g0 := Reg.eval_getD e0
      exact Reg.op_value rfl rfl (by simp only [List.getElem_toArray, List.getElem_cons_zero, List.getElem_cons_succ, execOp, e0]; go_simp) ⟨_, rfl, rfl, hj⟩
    · obtain rfl := Reg.oper_eq ho rfl
      have e3 : a.eval (.tmp 3) = .pointer (some ⟨w.heap.size, 0, none⟩) := (hf.eval 3 (by kernel_rfl)).trans rfl
      have g3 := Reg.eval_getD e3
      exact Reg.op_value rfl rfl (by simp only [List.getElem_toArray, List.getElem_cons_zero, List.getElem_cons_succ, execOp, e3]; go_simp) ⟨_, rfl, rfl, hj⟩
    · obtain rfl := Reg.oper_eq ho rfl
      have e40 : a.eval (.tmp 40) = .pointer (some ⟨w.heap.size, 4, none⟩) := hkn.eval 1 40 (by kernel_rfl) (by kernel_rfl)
      have g40 := Reg.eval_getD e40
      have hc : ∀ j u, (actV ⟨2, f1, f2, f3, f4, f5⟩ A4 A5 c4 c5)[j]? = some u → w_.cell? ⟨w.heap.size, j, none⟩ = some u := by
        intro j u hu; match k, hj with | 0, hj => exact St.cell hj j hu | 1, hj => exact St.cell hj j hu | 2, hj => exact St.cell hj j hu | k + 3, hj => exact St.cell hj j hu
      have c4' : w_.cell? ⟨w.heap.size, 4, none⟩ = some (.slice A4 f4.length c4) := hc 4 _ rfl
      exact Reg.op_value rfl rfl (by simp only [List.getElem_toArray, List.getElem_cons_zero, List.getElem_cons_succ, execOp, e40]; go_simp) ⟨_, rfl, rfl, hj⟩
    · obtain rfl := Reg.oper_eq ho rfl
      have e41 : a.eval (.tmp 41) = .slice A4 f4.length c4 := hkn.eval 2 41 (by kernel_rfl) (by kernel_rfl)
      have g41 := Reg.eval_getD e41
      exact Reg.op_value rfl rfl (by simp only [List.getElem_toArray, List.getElem_cons_zero, List.getElem_cons_succ, execOp, e41]; go_simp) ⟨_, rfl, rfl, hj⟩
    · obtain rfl := Reg.oper_eq ho rfl
      have e3 : a.eval (.tmp 3) = .pointer (some ⟨w.heap.size, 0, none⟩) := (hf.eval 3 (by kernel_rfl)).trans rfl
      have g3 := Reg.eval_getD e3
      exact Reg.op_value rfl rfl (by simp only [List.getElem_toArray, List.getElem_cons_zero, List.getElem_cons_succ, execOp, e3]; go_simp) ⟨_, rfl, rfl, hj⟩
    · obtain rfl := Reg.oper_eq ho rfl
      have e44 : a.eval (.tmp 44) = .pointer (some ⟨w.heap.size, 4, none⟩) := hkn.eval 5 44 (by kernel_rfl) (by kernel_rfl)
      have g44 := Reg.eval_getD e44
      have hc : ∀ j u, (actV ⟨2, f1, f2, f3, f4, f5⟩ A4 A5 c4 c5)[j]? = some u → w_.cell? ⟨w.heap.size, j, none⟩ = some u := by
        intro j u hu; match k, hj with | 0, hj => exact St.cell hj j hu | 1, hj => exact St.cell hj j hu | 2, hj => exact St.cell hj j hu | k + 3, hj => exact St.cell hj j hu
      have c4' : w_.cell? ⟨w.heap.size, 4, none⟩ = some (.slice A4 f4.length c4) := hc 4 _ rfl
      exact Reg.op_value rfl rfl (by simp only [List.getElem_toArray, List.getElem_cons_zero, List.getElem_cons_succ, execOp, e44]; go_simp) ⟨_, rfl, rfl, hj⟩
  case act =>
    intro k o a w_ hk ho hf hst hkn hj
    obtain rfl | rfl | rfl : k = 0 ∨ k = 1 ∨ k = 2 := by simp only [List.length_cons, List.length_nil] at hk; omega
    · obtain rfl := Reg.oper_eq ho rfl
      have e39 : a.eval (.tmp 39) = v3 := hkn.eval 0 39 (by kernel_rfl) (by kernel_rfl)
      have e42 : a.eval (.tmp 42) = .int .i64 ↑f4.length := hkn.eval 3 42 (by kernel_rfl) (by kernel_rfl)
      have g39 := Reg.eval_getD e39
      have g42 := Reg.eval_getD e42
      have hj' : St P0 w0 w w_ (actV ⟨2, f1, f2, f3, f4, f5⟩ A4 A5 c4 c5) v3 (l ++ [2]) := hj
      refine Reg.op_call (f := 24) (args := #[v3, .int .i64 ↑f4.length, .int .i64 2]) (w' := w_) rfl rfl (by simp only [List.getElem_toArray, List.getElem_cons_zero, List.getElem_cons_succ, execOp, e39, e42]; go_simp) ((small_ok _ _ _ _ _ _ _ w0 _ hj'.below hj'.row (by omega) (by omega) (put_f (l ++ [2]) f4.length 2 (by simp [le_len]; omega) (by omega))).mono ?_)
      rintro e W4 ⟨v4, rfl, hr4, hb4, hk4⟩
      refine .inl ⟨v4, rfl, v4, rfl, trivial, ?_⟩
      show St P0 w0 w W4 (actV ⟨2, f1, f2, f3, f4, f5⟩ A4 A5 c4 c5) (Reg.val (a.put (some 43) v4) 43) _
      rw [Reg.val_put_in hf (by kernel_rfl)]
      exact hj'.step hr4 hb4 hk4
    · obtain rfl := Reg.oper_eq ho rfl
      have e45 : a.eval (.tmp 45) = .slice A4 f4.length c4 := hkn.eval 6 45 (by kernel_rfl) (by kernel_rfl)
      have g45 := Reg.eval_getD e45
      have e43 : a.eval (.tmp 43) = Reg.val a 43 := Reg.eval_val a 43
      have hj' : St P0 w0 w w_ (actV ⟨2, f1, f2, f3, f4, f5⟩ A4 A5 c4 c5) (Reg.val a 43) (l ++ [2] ++ le 2 f4.length) := hj
      have hs := hj'.size
      have hb := hj'.base
      refine Reg.op_wp rfl rfl ?_
      refine Kd.R_append_rows_step (Kd.int .u8) (Rr := (Kd.int .u8).K w_) (w0 := w0) w0.heap.size rfl (.tmp 43) (.tmp 45) 24 5 (.int .u8 0) 1 rfl Try.underlying24 info5 rfl (by decide) (by omega) (Reg.val a 43) (l ++ [2] ++ le 2 f4.length) f4 A4 f4.length c4 (fun k => P0 k ∧ k < w.heap.size ∨ w.heap.size + 1 ≤ k) (fun _ => False) e43 e45 hj'.row (Kd.C_below HG.out.r4 hj'.below) (fun _ _ h => h) (fun _ hk => hk.elim) (fun k hk => .inr (by omega)) hj'.below (by omega) (by simp [le_len]; omega) ?_
      intro v5 W5 hr5 hb5 hg5 _
      refine ⟨v5, rfl, trivial, ?_⟩
      show St P0 w0 w W5 (actV ⟨2, f1, f2, f3, f4, f5⟩ A4 A5 c4 c5) (Reg.val (a.put (some 46) v5) 46) _
      rw [Reg.val_put_in hf (by kernel_rfl)]
      exact hj'.grown hr5 hb5 hg5
    · obtain rfl := Reg.oper_eq ho rfl
      have e46 : a.eval (.tmp 46) = Reg.val a 46 := Reg.eval_val a 46
      have g46 := Reg.eval_getD e46
      refine Reg.op_value (v := Reg.val a 46) (w' := w_) rfl rfl (by simp only [List.getElem_toArray, List.getElem_cons_zero, List.getElem_cons_succ, execOp, e46]; go_simp) ⟨_, rfl, trivial, ?_⟩
      show St P0 w0 w w_ (actV ⟨2, f1, f2, f3, f4, f5⟩ A4 A5 c4 c5) (Reg.val (a.put (some 0) (Reg.val a 46)) 0) _
      rw [Reg.val_put_in hf (by kernel_rfl)]
      exact hj
  case fin =>
    intro a w_ hf hkn hj
    have e39 : Reg.val a 39 = _ := hkn 0 39 (by show _ < _; decide) (by kernel_rfl)
    have e40 : Reg.val a 40 = _ := hkn 1 40 (by show _ < _; decide) (by kernel_rfl)
    have e41 : Reg.val a 41 = _ := hkn 2 41 (by show _ < _; decide) (by kernel_rfl)
    have e42 : Reg.val a 42 = _ := hkn 3 42 (by show _ < _; decide) (by kernel_rfl)
    have e44 : Reg.val a 44 = _ := hkn 5 44 (by show _ < _; decide) (by kernel_rfl)
    have e45 : Reg.val a 45 = _ := hkn 6 45 (by show _ < _; decide) (by kernel_rfl)
    rw [Reg.frm_fold hf [39, 40, 41, 42, 43, 44, 45, 46, 0] (by kernel_rfl) (by kernel_rfl)]
    simp only [List.foldl_cons, List.foldl_nil, Act.put, List.setIfInBounds_toArray, List.set_cons_zero, List.set_cons_succ, e39, e40, e41, e42, e44, e45]
    generalize Reg.val a 43 = v43_ at *
    generalize Reg.val a 46 = v46_ at *
    generalize Reg.val a 0 = v0_ at *
    clear hkn hf e39 e40 e41 e42 e44 e45
    have S4 : Hid (St P0 w0 w w_ (actV ⟨2, f1, f2, f3, f4, f5⟩ A4 A5 c4 c5) v0_ (l ++ [2] ++ le 2 f4.length ++ f4)) := hj
    clear hj S2 d0 d1 d2 d3 d4 d5
    have d0 : w_.cell? ⟨w.heap.size, 0, none⟩ = some (.int .i64 2) := S4.out.cell 0 rfl
    have d5 : w_.cell? ⟨w.heap.size, 5, none⟩ = some (.slice A5 f5.length c5) := S4.out.cell 5 rfl
    go_wp2_with fail
    refine (small_ok _ _ _ _ _ _ _ w0 _ S4.out.below S4.out.row (by omega) (by omega) (put_f (l ++ [2] ++ le 2 f4.length ++ f4) f5.length 1 (by simp [le_len]; omega) (by omega))).mono ?_
    rintro e W6 ⟨v6, rfl, hr6, hb6, hk6⟩
    have S5 := Lib.hid (S4.out.step hr6 hb6 hk6)
    clear hr6 hb6 hk6 S4 d0 d5
    have d0 : W6.cell? ⟨w.heap.size, 0, none⟩ = some (.int .i64 2) := S5.out.cell 0 rfl
    have d5 : W6.cell? ⟨w.heap.size, 5, none⟩ = some (.slice A5 f5.length c5) := S5.out.cell 5 rfl
    go_wp2_with fail
    clear d0 d5
    go_loopg [0, 55] f5.length (fun k b i W => ∃ j : Nat, j + k = f5.length ∧ i = .int .i64 j ∧ Hid (St P0 w0 w W (actV ⟨2, f1, f2, f3, f4, f5⟩ A4 A5 c4 c5) b (l ++ [2] ++ le 2 f4.length ++ f4 ++ le 1 f5.length ++ (f5.take j).flatMap (le 8))))
    case atStart => exact ⟨0, by omega, rfl, by simpa using S5⟩
    case round =>
      obtain ⟨j, hjk, rfl, hS⟩ := hrel
      have HJ := Lib.hid hjk
      clear hjk S5
      by_cases hlt : j < f5.length
      · obtain ⟨ad, c, rfl, hcl, hcK, hcell⟩ := Kd.C_get (Kd.C_below HG.out.r5 hS.out.below) (0 : Int) (j : Int) (Int.natCast_nonneg j) (Int.ofNat_lt.2 hlt)
        have hcell' : wr.cell? (ad.add j) = some (.int .i64 (f5.getD j 0)) := by
          have := hcell 0 (.int .i64 (f5.getD j 0)) (by rw [hcK]; simp)
          simpa [Kd.int, Kd.scalar] using this
        clear hcell hcK hcl
        go_wp2_with fail
        refine (script_put.calls _ _ u0 _ _ _ _ w0 wr hS.out.below hS.out.row (put_f (l ++ [2] ++ le 2 f4.length ++ f4 ++ le 1 f5.length ++ (f5.take j).flatMap (le 8)) (IntKind.u64.wrap f5[j]) 8 (by have := fm_len (f5.take j); simp [le_len] at this ⊢; omega) (by omega))).mono ?_
        rintro e W7 ⟨v7, rfl, hr7, hb7, hk7⟩
        have S7 := Lib.hid (hS.out.step hr7 hb7 hk7)
        clear hr7 hb7 hk7 hS hcell'
        go_wp2_with fail
        go_roundg (f5.length - (j + 1))
        case measure => have := HJ.out; omega
        case rel => exact ⟨j + 1, by omega, by go_num, by rw [fm_succ f5 j hlt]; simpa [le_wrap] using S7⟩
      · obtain rfl : j = f5.length := by have := HJ.out; omega
        go_wp2
        go_ret
        refine ⟨_, rfl, ?_⟩
        have hfin := hS.out.fin
        rw [List.take_length, HR.out] at hfin
        exact hfin

end Go.Proofs.Ythnefjkpjhfkgaa.Core
