/- The reader: acts, a submission. Written by gen_script_c11.py. -/
import Derived.Test.YthnefjkpjhfkgaaC10
import Derived.Test.YthnefjkpjhfkgaaRegion
namespace Go.Proofs.Ythnefjkpjhfkgaa.Core
open Go.RowKit Go.Proofs.YthnefjkpjhfkgaaW.PrintWords Go.Proofs.YthnefjkpjhfkgaaW.PrintMore Go.Proofs.Ythnefjkpjhfkgaa.PScriptWrites
set_option linter.unusedVariables false
set_option linter.unusedSimpArgs false
theorem Aw.drew_ {w0 W W' : World} {g b : Nat} {rs : List Int} {c0 c1 c2 c3 c4 c5 : Value} (h : Aw w0 W W' g b rs c0 c1 c2 c3 c4 c5) : Aw w0 W W'.drew g b rs c0 c1 c2 c3 c4 c5 :=
  h.other (r := none) ⟨rfl, rfl, rfl, Nat.le_refl _, fun _ _ _ => rfl⟩ (fun k e => by cases e)
theorem bytes_app (w0 W : World) (g : Nat) (q r : List Int) (n : Int) (hn : n = q.length) (h : Rd w0 W g (q ++ r)) :
    Calls Try.prog 27 #[.pointer (some ⟨g, 0, none⟩), .int .i64 n] W fun e w' => ∃ A c, e = .returned (.slice A q.length c) ∧ q.length ≤ c ∧ (Kd.int .u8).C w0 A q.length q ∧ Rd w0 w' g r ∧ W.grownBy w' (some g) := by
  refine (bytes_ok w0 W g (q ++ r) n (by omega) (by simp; omega) h).mono ?_
  rintro e w' ⟨A, c, rfl, hc, hC, hr, hg⟩
  have e1 : n.toNat = q.length := by omega
  rw [e1, List.drop_left] at hr
  rw [e1, List.take_left] at hc hC
  exact ⟨A, c, by rw [e1, List.take_left], hc, hC, hr, hg⟩

set_option maxHeartbeats 4000000 in
set_option maxRecDepth 100000 in
theorem act_sub_1 (w0 w : World) (g : Nat) (x y N : Int) (hxy : x + 256 * y = N) (f4 r1 R1 : List Int) (hr1 : R1 = f4 ++ r1) (hn : N = f4.length) (hr0 : r1 = []) (hml : f4.length ≤ 1000000) (hby : Byts (2 :: x :: y :: R1)) (h : Rd w0 w g (2 :: x :: y :: R1)) :
    Calls Try.prog 21 #[.pointer (some ⟨g, 0, none⟩)] w fun e w' => e = .panicked (chain 2) ∧ w.grownBy w' (some g) := by
  have HXY := Lib.hid hxy
  have HN := Lib.hid hn
  have HML := Lib.hid hml
  have HR1 := Lib.hid hr1
  clear hxy hn hml hr1
  have HNil := Lib.hid hr0
  clear hr0
  have hgn : some w.heap.size ≠ some g := by have := h.lt; intro e; injection e with e; omega
  have hgl := h.lt
  have hge := h.ge
  have HBY := Lib.hid hby
  have H := Lib.hid (one_rd w0 (w.alloc (.cells #[.int .i64 0, .int .i64 0, .int .i64 0, .int .i64 0, .slice none 0 0, .slice none 0 0] 47)) g 2 (x :: y :: R1) hby (h.keep0 (World.grownBy_alloc w _ none)))
  clear hby h
  go_enter Try.func21, Try.ntmps21
  go_wp2_with fail
  refine H.out.mono ?_
  rintro e w1 ⟨rfl, hr, hg⟩
  have HR := Lib.hid hr
  have HG := Lib.hid hg
  clear hr hg H
  have hb : w1.heap[w.heap.size]? = some (.cells #[.int .i64 0, .int .i64 0, .int .i64 0, .int .i64 0, .slice none 0 0, .slice none 0 0] 47 (0, 0)) := by
    rw [HG.out.block w.heap.size (by simp) hgn]
    exact heap_alloc_new w _
  have HB := Lib.hid hb
  clear hb
  go_upto_region 2 with (fail)
  obtain ⟨w2, hw2⟩ : ∃ w2, w2 = w1.alloc (.cells #[.int .i64 2, .int .i64 0, .int .i64 0, .int .i64 0, .slice none 0 0, .slice none 0 0] 47) := ⟨_, rfl⟩
  rw [← hw2]
  have G2 : w1.grownBy w2 none := by rw [hw2]; exact World.grownBy_alloc w1 _ none
  have A0 : Hid (Aw w0 w w2 g w1.heap.size (x :: y :: R1) (.int .i64 2) (.int .i64 0) (.int .i64 0) (.int .i64 0) (.slice none 0 0) (.slice none 0 0)) :=
    ⟨by rw [hw2, Below.heap_alloc _ _ _ (blk_lt HB.out)]; exact HB.out, by rw [hw2]; exact heap_alloc_new _ _, HR.out.keep0 G2,
     grown_trans (grown_trans (grown_none (World.grownBy_alloc w _ none) _) HG.out) (grown_none G2 _), blk_lt HB.out, hgl, hge⟩
  clear G2 hw2 HB HG HR hgn hgl hge
  generalize w1.heap.size = b at *
  obtain ⟨a0, a1, a2, a3, a4, a5⟩ := sixp A0.out.act
  obtain ⟨d0, d1, d2, d3, d4, d5, f0⟩ := six A0.out.res
  have f1 := A0.out.fr
  have hne : w.heap.size ≠ b := by have := A0.out.lt; omega
  go_wp2_with fail
  clear a0 a1 a2 a3 a4 a5 d0 d1 d2 d3 d4 d5 f0 f1 hne
  refine Reg.wp_region_phase (by kernel_rfl) [4, 5, 6, 8] (fun i => match i with | 0 => fun v => v = .pointer (some ⟨b, 4, none⟩) | 1 => fun v => v = .slice none 0 0 | 2 => fun v => v = .pointer (some ⟨g, 0, none⟩) | 3 => fun v => v = .pointer (some ⟨g, 0, none⟩) | 7 => fun v => v = .pointer (some ⟨b, 4, none⟩) | _ => fun _ => True) (fun k f W => match k with | 0 => Aw w0 w W g b (x :: y :: R1) (.int .i64 2) (.int .i64 0) (.int .i64 0) (.int .i64 0) (.slice none 0 0) (.slice none 0 0) | 1 => f 24 = .int .i64 N ∧ Aw w0 w W g b R1 (.int .i64 2) (.int .i64 0) (.int .i64 0) (.int .i64 0) (.slice none 0 0) (.slice none 0 0) | 2 => ∃ A c, f 25 = .slice A f4.length c ∧ f4.length ≤ c ∧ (Kd.int .u8).C w0 A f4.length f4 ∧ Aw w0 w W g b r1 (.int .i64 2) (.int .i64 0) (.int .i64 0) (.int .i64 0) (.slice none 0 0) (.slice none 0 0) | 3 => ∃ A c, f 26 = .slice A f4.length c ∧ f4.length ≤ c ∧ Kd.F (Kd.int .u8) W (fun k => b < k ∧ k < W.heap.size) A f4.length f4 ∧ Aw w0 w W g b r1 (.int .i64 2) (.int .i64 0) (.int .i64 0) (.int .i64 0) (.slice none 0 0) (.slice none 0 0) | _ => ∃ A c, f4.length ≤ c ∧ Kd.F (Kd.int .u8) W (fun k => b < k ∧ k < W.heap.size) A f4.length f4 ∧ Aw w0 w W g b r1 (.int .i64 2) (.int .i64 0) (.int .i64 0) (.int .i64 0) (.slice A f4.length c) (.slice none 0 0)) (by kernel_rfl) (by kernel_rfl) (by decide) (by decide) ?hJ ?h0 ?pure ?act ?fin
  case hJ => (intro k f f' W h hj; match k, hj with | 0, hj => exact hj | 1, hj => (refine ⟨?_, hj.2⟩; rw [← h 0 (by omega) (by decide) 24 (by kernel_rfl)]; exact hj.1) | 2, hj => (obtain ⟨A, c, h1, h2⟩ := hj; refine ⟨A, c, ?_, h2⟩; rw [← h 1 (by omega) (by decide) 25 (by kernel_rfl)]; exact h1) | 3, hj => (obtain ⟨A, c, h1, h2⟩ := hj; refine ⟨A, c, ?_, h2⟩; rw [← h 2 (by omega) (by decide) 26 (by kernel_rfl)]; exact h1) | k + 4, hj => exact hj)
  case h0 => exact A0.out.drew_
  case pure =>
    intro i o k a w_ ho hE hk hmc hf hst hkn hj
    have hi : i < 9 := (Array.getElem?_eq_some_iff.1 ho).1
    obtain rfl | rfl | rfl | rfl | rfl : i = 0 ∨ i = 1 ∨ i = 2 ∨ i = 3 ∨ i = 7 := by
      simp only [List.mem_cons, List.not_mem_nil, or_false, not_or] at hE
      omega
    · obtain rfl := Reg.oper_eq ho rfl
      have e3 : a.eval (.tmp 3) = .pointer (some ⟨b, 0, none⟩) := (hf.eval 3 (by kernel_rfl)).trans rfl
      have g3 := Reg.eval_getD e3
      exact Reg.op_value rfl rfl (by simp only [List.getElem_toArray, List.getElem_cons_zero, List.getElem_cons_succ, execOp, e3]; go_simp) ⟨_, rfl, rfl, hj⟩
    · obtain rfl := Reg.oper_eq ho rfl
      have e20 : a.eval (.tmp 20) = .pointer (some ⟨b, 4, none⟩) := hkn.eval 0 20 (by kernel_rfl) (by kernel_rfl)
      have g20 := Reg.eval_getD e20
      have c4' : w_.cell? ⟨b, 4, none⟩ = some (.slice none 0 0) := by
        match k, hj with
        | 0, hj => exact (sixp (Aw.act hj)).2.2.2.2.1
        | 1, hj => exact (sixp (Aw.act hj.2)).2.2.2.2.1
        | 2, hj => obtain ⟨_, _, _, _, _, hj⟩ := hj; exact (sixp (Aw.act hj)).2.2.2.2.1
        | 3, hj => obtain ⟨_, _, _, _, _, hj⟩ := hj; exact (sixp (Aw.act hj)).2.2.2.2.1
        | k + 4, hj => exact absurd hmc (by simp only [List.length_cons, List.length_nil] at hk; have hk0 : k = 0 := (by omega); subst hk0; exact Bool.eq_false_iff.1 (by kernel_rfl))
      exact Reg.op_value rfl rfl (by simp only [List.getElem_toArray, List.getElem_cons_zero, List.getElem_cons_succ, execOp, e20]; go_simp) ⟨_, rfl, rfl, hj⟩
    · obtain rfl := Reg.oper_eq ho rfl
      have e0 : a.eval (.tmp 0) = .pointer (some ⟨g, 0, none⟩) := (hf.eval 0 (by kernel_rfl)).trans rfl
      have g0 := Reg.eval_getD e0
      exact Reg.op_value rfl rfl (by simp only [List.getElem_toArray, List.getElem_cons_zero, List.getElem_cons_succ, execOp, e0]; go_simp) ⟨_, rfl, rfl, hj⟩
    · obtain rfl := Reg.oper_eq ho rfl
      have e0 : a.eval (.tmp 0) = .pointer (some ⟨g, 0, none⟩) := (hf.eval 0 (by kernel_rfl)).trans rfl
      have g0 := Reg.eval_getD e0
      exact Reg.op_value rfl rfl (by simp only [List.getElem_toArray, List.getElem_cons_zero, List.getElem_cons_succ, execOp, e0]; go_simp) ⟨_, rfl, rfl, hj⟩
    · obtain rfl := Reg.oper_eq ho rfl
      have e3 : a.eval (.tmp 3) = .pointer (some ⟨b, 0, none⟩) := (hf.eval 3 (by kernel_rfl)).trans rfl
      have g3 := Reg.eval_getD e3
      exact Reg.op_value rfl rfl (by simp only [List.getElem_toArray, List.getElem_cons_zero, List.getElem_cons_succ, execOp, e3]; go_simp) ⟨_, rfl, rfl, hj⟩
  case act =>
    intro k o a w_ hk ho hf hst hkn hj
    obtain rfl | rfl | rfl | rfl : k = 0 ∨ k = 1 ∨ k = 2 ∨ k = 3 := by simp only [List.length_cons, List.length_nil] at hk; omega
    · obtain rfl := Reg.oper_eq ho rfl
      have e23 : a.eval (.tmp 23) = .pointer (some ⟨g, 0, none⟩) := hkn.eval 3 23 (by kernel_rfl) (by kernel_rfl)
      have g23 := Reg.eval_getD e23
      have hj' : Aw w0 w w_ g b (x :: y :: R1) (.int .i64 2) (.int .i64 0) (.int .i64 0) (.int .i64 0) (.slice none 0 0) (.slice none 0 0) := hj
      refine Reg.op_call (f := 26) (args := #[.pointer (some ⟨g, 0, none⟩), .int .i64 2]) (w' := w_) rfl rfl (by simp only [List.getElem_toArray, List.getElem_cons_zero, List.getElem_cons_succ, execOp, e23]; go_simp) ((two_rd w0 _ _ _ _ _ HBY.out.tl hj'.rd).mono ?_)
      rintro e W4 ⟨he, hr4, hg4⟩
      rw [HXY.out] at he
      subst he
      refine .inl ⟨_, rfl, _, rfl, trivial, ?_, hj'.call hr4 hg4⟩
      exact Reg.val_put_in hf (by kernel_rfl)
    · obtain rfl := Reg.oper_eq ho rfl
      have e22 : a.eval (.tmp 22) = .pointer (some ⟨g, 0, none⟩) := hkn.eval 2 22 (by kernel_rfl) (by kernel_rfl)
      have g22 := Reg.eval_getD e22
      obtain ⟨hv, hj'⟩ : Reg.val a 24 = .int .i64 N ∧ Aw w0 w w_ g b R1 (.int .i64 2) (.int .i64 0) (.int .i64 0) (.int .i64 0) (.slice none 0 0) (.slice none 0 0) := hj
      have e24 : a.eval (.tmp 24) = .int .i64 N := (Reg.eval_val a 24).trans hv
      have g24 := Reg.eval_getD e24
      refine Reg.op_call (f := 27) (args := #[.pointer (some ⟨g, 0, none⟩), .int .i64 N]) (w' := w_) rfl rfl (by simp only [List.getElem_toArray, List.getElem_cons_zero, List.getElem_cons_succ, execOp, e22, e24]; go_simp) ((bytes_app w0 w_ g f4 r1 N HN.out (by have := hj'.rd; rw [HR1.out] at this; exact this)).mono ?_)
      rintro e W4 ⟨A, c, rfl, hc4, hC4, hr4, hg4⟩
      refine .inl ⟨_, rfl, _, rfl, trivial, A, c, ?_, hc4, hC4, hj'.call hr4 hg4⟩
      exact Reg.val_put_in hf (by kernel_rfl)
    · obtain rfl := Reg.oper_eq ho rfl
      have e21 : a.eval (.tmp 21) = .slice none 0 0 := hkn.eval 1 21 (by kernel_rfl) (by kernel_rfl)
      have g21 := Reg.eval_getD e21
      obtain ⟨A, c, hv, hc4, hC4, hj'⟩ : ∃ A c, Reg.val a 25 = .slice A f4.length c ∧ f4.length ≤ c ∧ (Kd.int .u8).C w0 A f4.length f4 ∧ Aw w0 w w_ g b r1 (.int .i64 2) (.int .i64 0) (.int .i64 0) (.int .i64 0) (.slice none 0 0) (.slice none 0 0) := hj
      have e25 : a.eval (.tmp 25) = .slice A f4.length c := (Reg.eval_val a 25).trans hv
      have hbl := blk_lt hj'.act
      have hml := Kd.C_max hC4
      refine Reg.op_wp rfl rfl ?_
      refine Kd.R_append_rows_step (Kd.int .u8) (Rr := (Kd.int .u8).K w_) (w0 := w0) w0.heap.size rfl (.tmp 21) (.tmp 25) 24 5 (.int .u8 0) 1 rfl Try.underlying24 info5 rfl (by decide) (by omega) (.slice none 0 0) [] f4 A f4.length c (fun k => b < k) (fun _ => False) e21 e25 (Kd.R_nil _ _ _ _ _) (Kd.C_below hC4 hj'.rd.below) (fun _ _ h => h) (fun _ hk => hk.elim) (fun k hk => by omega) hj'.rd.below hj'.rd.below.size (by have := HML.out; simp; omega) ?_
      intro v5 W5 hr5 hb5 hg5 _
      obtain ⟨A', c', rfl, hc', _⟩ := Kd.R_reads hr5
      refine ⟨_, rfl, trivial, A', c', ?_, hc', Kd.F_bound (Kd.R_F hr5), hj'.other hg5 (fun k e => by cases e)⟩
      exact Reg.val_put_in hf (by kernel_rfl)
    · obtain rfl := Reg.oper_eq ho rfl
      have e27 : a.eval (.tmp 27) = .pointer (some ⟨b, 4, none⟩) := hkn.eval 7 27 (by kernel_rfl) (by kernel_rfl)
      have g27 := Reg.eval_getD e27
      obtain ⟨A, c, hv, hc4, hC4, hj'⟩ : ∃ A c, Reg.val a 26 = .slice A f4.length c ∧ f4.length ≤ c ∧ Kd.F (Kd.int .u8) w_ (fun k => b < k ∧ k < w_.heap.size) A f4.length f4 ∧ Aw w0 w w_ g b r1 (.int .i64 2) (.int .i64 0) (.int .i64 0) (.int .i64 0) (.slice none 0 0) (.slice none 0 0) := hj
      have e26 : a.eval (.tmp 26) = .slice A f4.length c := (Reg.eval_val a 26).trans hv
      have g26 := Reg.eval_getD e26
      have q4 : w_.cell? ⟨b, 4, none⟩ = some (.slice none 0 0) := (sixp hj'.act).2.2.2.2.1
      have q5 := hj'.fr 4
      refine Reg.op_unit (w' := w_.setCell ⟨b, 4, none⟩ (.slice A f4.length c)) rfl rfl (by simp only [List.getElem_toArray, List.getElem_cons_zero, List.getElem_cons_succ, execOp, e27, e26]; go_simp) ⟨_, rfl, trivial, A, c, hc4, ?_, hj'.set4 _⟩
      exact Kd.F_mono (Kd.F_far hC4 (p := ⟨b, 4, none⟩) (fun k hk => by have := hk.1; show k ≠ b; omega) _) (fun k hk => ⟨hk.1, by simpa [World.setCell] using hk.2⟩)
  case fin =>
    intro a w_ hf hkn hj
    have e20 : Reg.val a 20 = _ := hkn 0 20 (by show _ < _; decide) (by kernel_rfl)
    have e21 : Reg.val a 21 = _ := hkn 1 21 (by show _ < _; decide) (by kernel_rfl)
    have e22 : Reg.val a 22 = _ := hkn 2 22 (by show _ < _; decide) (by kernel_rfl)
    have e23 : Reg.val a 23 = _ := hkn 3 23 (by show _ < _; decide) (by kernel_rfl)
    have e27 : Reg.val a 27 = _ := hkn 7 27 (by show _ < _; decide) (by kernel_rfl)
    rw [Reg.frm_fold hf [20, 21, 22, 23, 24, 25, 26, 27] (by kernel_rfl) (by kernel_rfl)]
    simp only [List.foldl_cons, List.foldl_nil, Act.put, List.setIfInBounds_toArray, List.set_cons_zero, List.set_cons_succ, e20, e21, e22, e23, e27]
    generalize Reg.val a 24 = v24_ at *
    generalize Reg.val a 25 = v25_ at *
    generalize Reg.val a 26 = v26_ at *
    clear hkn hf e20 e21 e22 e23 e27
    obtain ⟨A4, k4, hc4, hF4, hj⟩ : ∃ A c, f4.length ≤ c ∧ Kd.F (Kd.int .u8) w_ (fun k => b < k ∧ k < w_.heap.size) A f4.length f4 ∧ Aw w0 w w_ g b r1 (.int .i64 2) (.int .i64 0) (.int .i64 0) (.int .i64 0) (.slice A f4.length c) (.slice none 0 0) := hj
    have A1 := Lib.hid hj
    have F4 := Lib.hid hF4
    have HC4 := Lib.hid hc4
    clear hj hF4 hc4 A0
    obtain ⟨a0, a1, a2, a3, a4, a5⟩ := sixp A1.out.act
    obtain ⟨d0, d1, d2, d3, d4, d5, f0⟩ := six A1.out.res
    have f1 := A1.out.fr
    have hne : w.heap.size ≠ b := by have := A1.out.lt; omega
    go_wp2_with fail
    refine (small_rdno w0 w_ g r1 1 (by rw [HNil.out]; decide) A1.out.rd).mono ?_
    rintro e w4 ⟨rfl, rfl⟩
    go_wp2
    exact ⟨rfl, rfl, A1.out.grown⟩

set_option maxHeartbeats 4000000 in
set_option maxRecDepth 100000 in
theorem act_sub_a (w0 w : World) (g : Nat) (R1 : List Int) (hl : R1.length < 2) (hby : Byts (2 :: R1)) (h : Rd w0 w g (2 :: R1)) :
    Calls Try.prog 21 #[.pointer (some ⟨g, 0, none⟩)] w fun e w' => e = .panicked (chain 2) ∧ w.grownBy w' (some g) := by
  have HL := Lib.hid hl
  clear hl
  have hgn : some w.heap.size ≠ some g := by have := h.lt; intro e; injection e with e; omega
  have hgl := h.lt
  have hge := h.ge
  have HBY := Lib.hid hby
  have H := Lib.hid (one_rd w0 (w.alloc (.cells #[.int .i64 0, .int .i64 0, .int .i64 0, .int .i64 0, .slice none 0 0, .slice none 0 0] 47)) g 2 R1 hby (h.keep0 (World.grownBy_alloc w _ none)))
  clear hby h
  go_enter Try.func21, Try.ntmps21
  go_wp2_with fail
  refine H.out.mono ?_
  rintro e w1 ⟨rfl, hr, hg⟩
  have HR := Lib.hid hr
  have HG := Lib.hid hg
  clear hr hg H
  have hb : w1.heap[w.heap.size]? = some (.cells #[.int .i64 0, .int .i64 0, .int .i64 0, .int .i64 0, .slice none 0 0, .slice none 0 0] 47 (0, 0)) := by
    rw [HG.out.block w.heap.size (by simp) hgn]
    exact heap_alloc_new w _
  have HB := Lib.hid hb
  clear hb
  go_upto_region 2 with (fail)
  obtain ⟨w2, hw2⟩ : ∃ w2, w2 = w1.alloc (.cells #[.int .i64 2, .int .i64 0, .int .i64 0, .int .i64 0, .slice none 0 0, .slice none 0 0] 47) := ⟨_, rfl⟩
  rw [← hw2]
  have G2 : w1.grownBy w2 none := by rw [hw2]; exact World.grownBy_alloc w1 _ none
  have A0 : Hid (Aw w0 w w2 g w1.heap.size R1 (.int .i64 2) (.int .i64 0) (.int .i64 0) (.int .i64 0) (.slice none 0 0) (.slice none 0 0)) :=
    ⟨by rw [hw2, Below.heap_alloc _ _ _ (blk_lt HB.out)]; exact HB.out, by rw [hw2]; exact heap_alloc_new _ _, HR.out.keep0 G2,
     grown_trans (grown_trans (grown_none (World.grownBy_alloc w _ none) _) HG.out) (grown_none G2 _), blk_lt HB.out, hgl, hge⟩
  clear G2 hw2 HB HG HR hgn hgl hge
  generalize w1.heap.size = b at *
  obtain ⟨a0, a1, a2, a3, a4, a5⟩ := sixp A0.out.act
  obtain ⟨d0, d1, d2, d3, d4, d5, f0⟩ := six A0.out.res
  have f1 := A0.out.fr
  have hne : w.heap.size ≠ b := by have := A0.out.lt; omega
  go_wp2_with fail
  clear a0 a1 a2 a3 a4 a5 d0 d1 d2 d3 d4 d5 f0 f1 hne
  refine Reg.wp_region_phase (by kernel_rfl) [4, 5, 6, 8] (fun i => match i with | 0 => fun v => v = .pointer (some ⟨b, 4, none⟩) | 1 => fun v => v = .slice none 0 0 | 2 => fun v => v = .pointer (some ⟨g, 0, none⟩) | 3 => fun v => v = .pointer (some ⟨g, 0, none⟩) | 7 => fun v => v = .pointer (some ⟨b, 4, none⟩) | _ => fun _ => True) (fun k f W => match k with | 0 => Aw w0 w W g b R1 (.int .i64 2) (.int .i64 0) (.int .i64 0) (.int .i64 0) (.slice none 0 0) (.slice none 0 0) | _ => False) (by kernel_rfl) (by kernel_rfl) (by decide) (by decide) ?hJ ?h0 ?pure ?act ?fin
  case hJ => (intro k f f' W h hj; match k, hj with | 0, hj => exact hj)
  case h0 => exact A0.out.drew_
  case pure =>
    intro i o k a w_ ho hE hk hmc hf hst hkn hj
    have hi : i < 9 := (Array.getElem?_eq_some_iff.1 ho).1
    obtain rfl | rfl | rfl | rfl | rfl : i = 0 ∨ i = 1 ∨ i = 2 ∨ i = 3 ∨ i = 7 := by
      simp only [List.mem_cons, List.not_mem_nil, or_false, not_or] at hE
      omega
    · obtain rfl := Reg.oper_eq ho rfl
      have e3 : a.eval (.tmp 3) = .pointer (some ⟨b, 0, none⟩) := (hf.eval 3 (by kernel_rfl)).trans rfl
      have g3 := Reg.eval_getD e3
      exact Reg.op_value rfl rfl (by simp only [List.getElem_toArray, List.getElem_cons_zero, List.getElem_cons_succ, execOp, e3]; go_simp) ⟨_, rfl, rfl, hj⟩
    · obtain rfl := Reg.oper_eq ho rfl
      have e20 : a.eval (.tmp 20) = .pointer (some ⟨b, 4, none⟩) := hkn.eval 0 20 (by kernel_rfl) (by kernel_rfl)
      have g20 := Reg.eval_getD e20
      have c4' : w_.cell? ⟨b, 4, none⟩ = some (.slice none 0 0) := by
        match k, hj with
        | 0, hj => exact (sixp (Aw.act hj)).2.2.2.2.1
      exact Reg.op_value rfl rfl (by simp only [List.getElem_toArray, List.getElem_cons_zero, List.getElem_cons_succ, execOp, e20]; go_simp) ⟨_, rfl, rfl, hj⟩
    · obtain rfl := Reg.oper_eq ho rfl
      have e0 : a.eval (.tmp 0) = .pointer (some ⟨g, 0, none⟩) := (hf.eval 0 (by kernel_rfl)).trans rfl
      have g0 := Reg.eval_getD e0
      exact Reg.op_value rfl rfl (by simp only [List.getElem_toArray, List.getElem_cons_zero, List.getElem_cons_succ, execOp, e0]; go_simp) ⟨_, rfl, rfl, hj⟩
    · obtain rfl := Reg.oper_eq ho rfl
      have e0 : a.eval (.tmp 0) = .pointer (some ⟨g, 0, none⟩) := (hf.eval 0 (by kernel_rfl)).trans rfl
      have g0 := Reg.eval_getD e0
      exact Reg.op_value rfl rfl (by simp only [List.getElem_toArray, List.getElem_cons_zero, List.getElem_cons_succ, execOp, e0]; go_simp) ⟨_, rfl, rfl, hj⟩
    · obtain rfl := Reg.oper_eq ho rfl
      have e3 : a.eval (.tmp 3) = .pointer (some ⟨b, 0, none⟩) := (hf.eval 3 (by kernel_rfl)).trans rfl
      have g3 := Reg.eval_getD e3
      exact Reg.op_value rfl rfl (by simp only [List.getElem_toArray, List.getElem_cons_zero, List.getElem_cons_succ, execOp, e3]; go_simp) ⟨_, rfl, rfl, hj⟩
  case act =>
    intro k o a w_ hk ho hf hst hkn hj
    obtain rfl | rfl | rfl | rfl : k = 0 ∨ k = 1 ∨ k = 2 ∨ k = 3 := by simp only [List.length_cons, List.length_nil] at hk; omega
    · obtain rfl := Reg.oper_eq ho rfl
      have e23 : a.eval (.tmp 23) = .pointer (some ⟨g, 0, none⟩) := hkn.eval 3 23 (by kernel_rfl) (by kernel_rfl)
      have g23 := Reg.eval_getD e23
      have hj' : Aw w0 w w_ g b R1 (.int .i64 2) (.int .i64 0) (.int .i64 0) (.int .i64 0) (.slice none 0 0) (.slice none 0 0) := hj
      refine Reg.op_call (f := 26) (args := #[.pointer (some ⟨g, 0, none⟩), .int .i64 2]) (w' := w_) rfl rfl (by simp only [List.getElem_toArray, List.getElem_cons_zero, List.getElem_cons_succ, execOp, e23]; go_simp) ((small_rdno w0 w_ g R1 2 (by have := HL.out; omega) hj'.rd).mono ?_)
      rintro e W4 ⟨rfl, rfl⟩
      exact .inr ⟨_, rfl, hf.defers, rfl, hj'.grown⟩
    · obtain rfl := Reg.oper_eq ho rfl
      have e22 : a.eval (.tmp 22) = .pointer (some ⟨g, 0, none⟩) := hkn.eval 2 22 (by kernel_rfl) (by kernel_rfl)
      have g22 := Reg.eval_getD e22
      exact hj.elim
    · obtain rfl := Reg.oper_eq ho rfl
      have e21 : a.eval (.tmp 21) = .slice none 0 0 := hkn.eval 1 21 (by kernel_rfl) (by kernel_rfl)
      have g21 := Reg.eval_getD e21
      exact hj.elim
    · obtain rfl := Reg.oper_eq ho rfl
      have e27 : a.eval (.tmp 27) = .pointer (some ⟨b, 4, none⟩) := hkn.eval 7 27 (by kernel_rfl) (by kernel_rfl)
      have g27 := Reg.eval_getD e27
      exact hj.elim
  case fin =>
    intro a w_ hf hkn hj
    exact hj.elim

set_option maxHeartbeats 4000000 in
set_option maxRecDepth 100000 in
theorem act_sub_b (w0 w : World) (g : Nat) (x y N : Int) (hxy : x + 256 * y = N) (R1 : List Int) (hl : R1.length < N) (hby : Byts (2 :: x :: y :: R1)) (h : Rd w0 w g (2 :: x :: y :: R1)) :
    Calls Try.prog 21 #[.pointer (some ⟨g, 0, none⟩)] w fun e w' => e = .panicked (chain 2) ∧ w.grownBy w' (some g) := by
  have HL := Lib.hid hl
  have HXY := Lib.hid hxy
  clear hl hxy
  have hgn : some w.heap.size ≠ some g := by have := h.lt; intro e; injection e with e; omega
  have hgl := h.lt
  have hge := h.ge
  have HBY := Lib.hid hby
  have H := Lib.hid (one_rd w0 (w.alloc (.cells #[.int .i64 0, .int .i64 0, .int .i64 0, .int .i64 0, .slice none 0 0, .slice none 0 0] 47)) g 2 (x :: y :: R1) hby (h.keep0 (World.grownBy_alloc w _ none)))
  clear hby h
  go_enter Try.func21, Try.ntmps21
  go_wp2_with fail
  refine H.out.mono ?_
  rintro e w1 ⟨rfl, hr, hg⟩
  have HR := Lib.hid hr
  have HG := Lib.hid hg
  clear hr hg H
  have hb : w1.heap[w.heap.size]? = some (.cells #[.int .i64 0, .int .i64 0, .int .i64 0, .int .i64 0, .slice none 0 0, .slice none 0 0] 47 (0, 0)) := by
    rw [HG.out.block w.heap.size (by simp) hgn]
    exact heap_alloc_new w _
  have HB := Lib.hid hb
  clear hb
  go_upto_region 2 with (fail)
  obtain ⟨w2, hw2⟩ : ∃ w2, w2 = w1.alloc (.cells #[.int .i64 2, .int .i64 0, .int .i64 0, .int .i64 0, .slice none 0 0, .slice none 0 0] 47) := ⟨_, rfl⟩
  rw [← hw2]
  have G2 : w1.grownBy w2 none := by rw [hw2]; exact World.grownBy_alloc w1 _ none
  have A0 : Hid (Aw w0 w w2 g w1.heap.size (x :: y :: R1) (.int .i64 2) (.int .i64 0) (.int .i64 0) (.int .i64 0) (.slice none 0 0) (.slice none 0 0)) :=
    ⟨by rw [hw2, Below.heap_alloc _ _ _ (blk_lt HB.out)]; exact HB.out, by rw [hw2]; exact heap_alloc_new _ _, HR.out.keep0 G2,
     grown_trans (grown_trans (grown_none (World.grownBy_alloc w _ none) _) HG.out) (grown_none G2 _), blk_lt HB.out, hgl, hge⟩
  clear G2 hw2 HB HG HR hgn hgl hge
  generalize w1.heap.size = b at *
  obtain ⟨a0, a1, a2, a3, a4, a5⟩ := sixp A0.out.act
  obtain ⟨d0, d1, d2, d3, d4, d5, f0⟩ := six A0.out.res
  have f1 := A0.out.fr
  have hne : w.heap.size ≠ b := by have := A0.out.lt; omega
  go_wp2_with fail
  clear a0 a1 a2 a3 a4 a5 d0 d1 d2 d3 d4 d5 f0 f1 hne
  refine Reg.wp_region_phase (by kernel_rfl) [4, 5, 6, 8] (fun i => match i with | 0 => fun v => v = .pointer (some ⟨b, 4, none⟩) | 1 => fun v => v = .slice none 0 0 | 2 => fun v => v = .pointer (some ⟨g, 0, none⟩) | 3 => fun v => v = .pointer (some ⟨g, 0, none⟩) | 7 => fun v => v = .pointer (some ⟨b, 4, none⟩) | _ => fun _ => True) (fun k f W => match k with | 0 => Aw w0 w W g b (x :: y :: R1) (.int .i64 2) (.int .i64 0) (.int .i64 0) (.int .i64 0) (.slice none 0 0) (.slice none 0 0) | 1 => f 24 = .int .i64 N ∧ Aw w0 w W g b R1 (.int .i64 2) (.int .i64 0) (.int .i64 0) (.int .i64 0) (.slice none 0 0) (.slice none 0 0) | _ => False) (by kernel_rfl) (by kernel_rfl) (by decide) (by decide) ?hJ ?h0 ?pure ?act ?fin
  case hJ => (intro k f f' W h hj; match k, hj with | 0, hj => exact hj | 1, hj => (refine ⟨?_, hj.2⟩; rw [← h 0 (by omega) (by decide) 24 (by kernel_rfl)]; exact hj.1))
  case h0 => exact A0.out.drew_
  case pure =>
    intro i o k a w_ ho hE hk hmc hf hst hkn hj
    have hi : i < 9 := (Array.getElem?_eq_some_iff.1 ho).1
    obtain rfl | rfl | rfl | rfl | rfl : i = 0 ∨ i = 1 ∨ i = 2 ∨ i = 3 ∨ i = 7 := by
      simp only [List.mem_cons, List.not_mem_nil, or_false, not_or] at hE
      omega
    · obtain rfl := Reg.oper_eq ho rfl
      have e3 : a.eval (.tmp 3) = .pointer (some ⟨b, 0, none⟩) := (hf.eval 3 (by kernel_rfl)).trans rfl
      have g3 := Reg.eval_getD e3
      exact Reg.op_value rfl rfl (by simp only [List.getElem_toArray, List.getElem_cons_zero, List.getElem_cons_succ, execOp, e3]; go_simp) ⟨_, rfl, rfl, hj⟩
    · obtain rfl := Reg.oper_eq ho rfl
      have e20 : a.eval (.tmp 20) = .pointer (some ⟨b, 4, none⟩) := hkn.eval 0 20 (by kernel_rfl) (by kernel_rfl)
      have g20 := Reg.eval_getD e20
      have c4' : w_.cell? ⟨b, 4, none⟩ = some (.slice none 0 0) := by
        match k, hj with
        | 0, hj => exact (sixp (Aw.act hj)).2.2.2.2.1
        | 1, hj => exact (sixp (Aw.act hj.2)).2.2.2.2.1
      exact Reg.op_value rfl rfl (by simp only [List.getElem_toArray, List.getElem_cons_zero, List.getElem_cons_succ, execOp, e20]; go_simp) ⟨_, rfl, rfl, hj⟩
    · obtain rfl := Reg.oper_eq ho rfl
      have e0 : a.eval (.tmp 0) = .pointer (some ⟨g, 0, none⟩) := (hf.eval 0 (by kernel_rfl)).trans rfl
      have g0 := Reg.eval_getD e0
      exact Reg.op_value rfl rfl (by simp only [List.getElem_toArray, List.getElem_cons_zero, List.getElem_cons_succ, execOp, e0]; go_simp) ⟨_, rfl, rfl, hj⟩
    · obtain rfl := Reg.oper_eq ho rfl
      have e0 : a.eval (.tmp 0) = .pointer (some ⟨g, 0, none⟩) := (hf.eval 0 (by kernel_rfl)).trans rfl
      have g0 := Reg.eval_getD e0
      exact Reg.op_value rfl rfl (by simp only [List.getElem_toArray, List.getElem_cons_zero, List.getElem_cons_succ, execOp, e0]; go_simp) ⟨_, rfl, rfl, hj⟩
    · obtain rfl := Reg.oper_eq ho rfl
      have e3 : a.eval (.tmp 3) = .pointer (some ⟨b, 0, none⟩) := (hf.eval 3 (by kernel_rfl)).trans rfl
      have g3 := Reg.eval_getD e3
      exact Reg.op_value rfl rfl (by simp only [List.getElem_toArray, List.getElem_cons_zero, List.getElem_cons_succ, execOp, e3]; go_simp) ⟨_, rfl, rfl, hj⟩
  case act =>
    intro k o a w_ hk ho hf hst hkn hj
    obtain rfl | rfl | rfl | rfl : k = 0 ∨ k = 1 ∨ k = 2 ∨ k = 3 := by simp only [List.length_cons, List.length_nil] at hk; omega
    · obtain rfl := Reg.oper_eq ho rfl
      have e23 : a.eval (.tmp 23) = .pointer (some ⟨g, 0, none⟩) := hkn.eval 3 23 (by kernel_rfl) (by kernel_rfl)
      have g23 := Reg.eval_getD e23
      have hj' : Aw w0 w w_ g b (x :: y :: R1) (.int .i64 2) (.int .i64 0) (.int .i64 0) (.int .i64 0) (.slice none 0 0) (.slice none 0 0) := hj
      refine Reg.op_call (f := 26) (args := #[.pointer (some ⟨g, 0, none⟩), .int .i64 2]) (w' := w_) rfl rfl (by simp only [List.getElem_toArray, List.getElem_cons_zero, List.getElem_cons_succ, execOp, e23]; go_simp) ((two_rd w0 _ _ _ _ _ HBY.out.tl hj'.rd).mono ?_)
      rintro e W4 ⟨he, hr4, hg4⟩
      rw [HXY.out] at he
      subst he
      refine .inl ⟨_, rfl, _, rfl, trivial, ?_, hj'.call hr4 hg4⟩
      exact Reg.val_put_in hf (by kernel_rfl)
    · obtain rfl := Reg.oper_eq ho rfl
      have e22 : a.eval (.tmp 22) = .pointer (some ⟨g, 0, none⟩) := hkn.eval 2 22 (by kernel_rfl) (by kernel_rfl)
      have g22 := Reg.eval_getD e22
      obtain ⟨hv, hj'⟩ : Reg.val a 24 = .int .i64 N ∧ Aw w0 w w_ g b R1 (.int .i64 2) (.int .i64 0) (.int .i64 0) (.int .i64 0) (.slice none 0 0) (.slice none 0 0) := hj
      have e24 : a.eval (.tmp 24) = .int .i64 N := (Reg.eval_val a 24).trans hv
      have g24 := Reg.eval_getD e24
      refine Reg.op_call (f := 27) (args := #[.pointer (some ⟨g, 0, none⟩), .int .i64 N]) (w' := w_) rfl rfl (by simp only [List.getElem_toArray, List.getElem_cons_zero, List.getElem_cons_succ, execOp, e22, e24]; go_simp) ((bytes_no w0 w_ g R1 N HL.out hj'.rd).mono ?_)
      rintro e W4 ⟨rfl, rfl⟩
      exact .inr ⟨_, rfl, hf.defers, rfl, hj'.grown⟩
    · obtain rfl := Reg.oper_eq ho rfl
      have e21 : a.eval (.tmp 21) = .slice none 0 0 := hkn.eval 1 21 (by kernel_rfl) (by kernel_rfl)
      have g21 := Reg.eval_getD e21
      exact hj.elim
    · obtain rfl := Reg.oper_eq ho rfl
      have e27 : a.eval (.tmp 27) = .pointer (some ⟨b, 4, none⟩) := hkn.eval 7 27 (by kernel_rfl) (by kernel_rfl)
      have g27 := Reg.eval_getD e27
      exact hj.elim
  case fin =>
    intro a w_ hf hkn hj
    exact hj.elim

theorem info2 : (Try.prog.info? 2).map (fun i => (i.zero, i.size, i.bytes)) = some (some (.int .i64 0), 1, 8) := by kernel_rfl
/-- The arguments of so many numbers. -/
def argsN : Nat → List Int → List Int
  | 0, _ => []
  | m + 1, r => wrap64 (leN (r.take 8)) :: argsN m (r.drop 8)
theorem argsN_len : ∀ (m : Nat) (r : List Int), (argsN m r).length = m
  | 0, _ => rfl
  | m + 1, r => by show (argsN m (r.drop 8)).length + 1 = m + 1; rw [argsN_len m]
theorem argsN_succ : ∀ (m : Nat) (r : List Int), argsN (m + 1) r = argsN m r ++ [wrap64 (leN ((r.drop (8 * m)).take 8))]
  | 0, r => rfl
  | m + 1, r => by
    show wrap64 (leN (r.take 8)) :: argsN (m + 1) (r.drop 8) = wrap64 (leN (r.take 8)) :: (argsN m (r.drop 8) ++ _)
    rw [argsN_succ m, List.drop_drop, show 8 + 8 * m = 8 * (m + 1) by omega]
/-- A submission under way: its bytes, the arguments so far. -/
structure Sw (w0 w W : World) (g b N5 : Nat) (A4 : Option Addr) (k4 : Nat) (f4 rs : List Int) (v5 : Value) (l5 : List Int) : Prop where
  aw : Aw w0 w W g b rs (.int .i64 2) (.int .i64 0) (.int .i64 0) (.int .i64 0) (.slice A4 f4.length k4) v5
  len : f4.length ≤ k4
  by_ : Kd.F (Kd.int .u8) W (fun k => b < k ∧ k < N5) A4 f4.length f4
  ar : Kd.R (Kd.int .i64) 2 W w0.heap.size (fun k => N5 ≤ k) v5 l5
  n5 : b < N5 ∧ N5 ≤ W.heap.size
theorem Sw.drew_ {w0 w W : World} {g b N5 : Nat} {A4 : Option Addr} {k4 : Nat} {f4 rs : List Int} {v5 : Value} {l5 : List Int} (h : Sw w0 w W g b N5 A4 k4 f4 rs v5 l5) : Sw w0 w W.drew g b N5 A4 k4 f4 rs v5 l5 :=
  ⟨h.aw.drew_, h.len, Kd.F_drew h.by_, Kd.R_drew h.ar, h.n5⟩
theorem Sw.call {w0 w W W2 : World} {g b N5 : Nat} {A4 : Option Addr} {k4 : Nat} {f4 rs rs2 : List Int} {v5 : Value} {l5 : List Int} (h : Sw w0 w W g b N5 A4 k4 f4 rs v5 l5) (hr : Rd w0 W2 g rs2) (hg : W.grownBy W2 (some g)) : Sw w0 w W2 g b N5 A4 k4 f4 rs2 v5 l5 :=
  ⟨h.aw.call hr hg, h.len, Kd.F_grown h.by_ hg (fun k hk e => by injection e with e; have := h.aw.lt; have := h.aw.glt; omega), Kd.R_grown h.ar hg (fun k hk e => by injection e with e; have := h.aw.lt; have := h.aw.glt; have := h.n5; omega), ⟨h.n5.1, Nat.le_trans h.n5.2 hg.size⟩⟩
theorem Sw.cell5 {w0 w W : World} {g b N5 : Nat} {A4 : Option Addr} {k4 : Nat} {f4 rs : List Int} {v5 : Value} {l5 : List Int} (h : Sw w0 w W g b N5 A4 k4 f4 rs v5 l5) : W.cell? ⟨b, 5, none⟩ = some v5 := (sixp h.aw.act).2.2.2.2.2

set_option maxHeartbeats 4000000 in
set_option maxRecDepth 100000 in
theorem act_sub (w0 w : World) (g : Nat) (x y N : Int) (hxy : x + 256 * y = N) (f4 r1 R1 r2 : List Int) (mm : Nat) (hr1 : R1 = f4 ++ r1) (hr2 : r1 = ↑mm :: r2) (hn : N = f4.length) (hml : f4.length ≤ 1000000) (hby : Byts (2 :: x :: y :: R1)) (h : Rd w0 w g (2 :: x :: y :: R1)) :
    Calls Try.prog 21 #[.pointer (some ⟨g, 0, none⟩)] w fun e w' => (8 * mm ≤ r2.length ∧ ∃ A4 k4 A5 k5, e = .returned (.agg #[.int .i64 2, .int .i64 0, .int .i64 0, .int .i64 0, .slice A4 f4.length k4, .slice A5 (argsN mm r2).length k5]) ∧ f4.length ≤ k4 ∧ Kd.F (Kd.int .u8) w' (fun k => w.heap.size < k) A4 f4.length f4 ∧ (argsN mm r2).length ≤ k5 ∧ Kd.F (Kd.int .i64) w' (fun k => w.heap.size < k) A5 (argsN mm r2).length (argsN mm r2) ∧ Rd w0 w' g (r2.drop (8 * mm)) ∧ w.grownBy w' (some g)) ∨ (r2.length < 8 * mm ∧ e = .panicked (chain 2) ∧ w.grownBy w' (some g)) := by
  have HXY := Lib.hid hxy
  have HN := Lib.hid hn
  have HML := Lib.hid hml
  have HR1 := Lib.hid hr1
  clear hxy hn hml hr1
  have HR2 := Lib.hid hr2
  clear hr2
  have HMM : Hid (mm < 256) := by
    have := (hby mm (by rw [HR1.out, HR2.out]; simp)).2
    show _ < _
    omega
  have hgn : some w.heap.size ≠ some g := by have := h.lt; intro e; injection e with e; omega
  have hgl := h.lt
  have hge := h.ge
  have HBY := Lib.hid hby
  have H := Lib.hid (one_rd w0 (w.alloc (.cells #[.int .i64 0, .int .i64 0, .int .i64 0, .int .i64 0, .slice none 0 0, .slice none 0 0] 47)) g 2 (x :: y :: R1) hby (h.keep0 (World.grownBy_alloc w _ none)))
  clear hby h
  go_enter Try.func21, Try.ntmps21
  go_wp2_with fail
  refine H.out.mono ?_
  rintro e w1 ⟨rfl, hr, hg⟩
  have HR := Lib.hid hr
  have HG := Lib.hid hg
  clear hr hg H
  have hb : w1.heap[w.heap.size]? = some (.cells #[.int .i64 0, .int .i64 0, .int .i64 0, .int .i64 0, .slice none 0 0, .slice none 0 0] 47 (0, 0)) := by
    rw [HG.out.block w.heap.size (by simp) hgn]
    exact heap_alloc_new w _
  have HB := Lib.hid hb
  clear hb
  go_upto_region 2 with (fail)
  obtain ⟨w2, hw2⟩ : ∃ w2, w2 = w1.alloc (.cells #[.int .i64 2, .int .i64 0, .int .i64 0, .int .i64 0, .slice none 0 0, .slice none 0 0] 47) := ⟨_, rfl⟩
  rw [← hw2]
  have G2 : w1.grownBy w2 none := by rw [hw2]; exact World.grownBy_alloc w1 _ none
  have A0 : Hid (Aw w0 w w2 g w1.heap.size (x :: y :: R1) (.int .i64 2) (.int .i64 0) (.int .i64 0) (.int .i64 0) (.slice none 0 0) (.slice none 0 0)) :=
    ⟨by rw [hw2, Below.heap_alloc _ _ _ (blk_lt HB.out)]; exact HB.out, by rw [hw2]; exact heap_alloc_new _ _, HR.out.keep0 G2,
     grown_trans (grown_trans (grown_none (World.grownBy_alloc w _ none) _) HG.out) (grown_none G2 _), blk_lt HB.out, hgl, hge⟩
  clear G2 hw2 HB HG HR hgn hgl hge
  generalize w1.heap.size = b at *
  obtain ⟨a0, a1, a2, a3, a4, a5⟩ := sixp A0.out.act
  obtain ⟨d0, d1, d2, d3, d4, d5, f0⟩ := six A0.out.res
  have f1 := A0.out.fr
  have hne : w.heap.size ≠ b := by have := A0.out.lt; omega
  go_wp2_with fail
  clear a0 a1 a2 a3 a4 a5 d0 d1 d2 d3 d4 d5 f0 f1 hne
  refine Reg.wp_region_phase (by kernel_rfl) [4, 5, 6, 8] (fun i => match i with | 0 => fun v => v = .pointer (some ⟨b, 4, none⟩) | 1 => fun v => v = .slice none 0 0 | 2 => fun v => v = .pointer (some ⟨g, 0, none⟩) | 3 => fun v => v = .pointer (some ⟨g, 0, none⟩) | 7 => fun v => v = .pointer (some ⟨b, 4, none⟩) | _ => fun _ => True) (fun k f W => match k with | 0 => Aw w0 w W g b (x :: y :: R1) (.int .i64 2) (.int .i64 0) (.int .i64 0) (.int .i64 0) (.slice none 0 0) (.slice none 0 0) | 1 => f 24 = .int .i64 N ∧ Aw w0 w W g b R1 (.int .i64 2) (.int .i64 0) (.int .i64 0) (.int .i64 0) (.slice none 0 0) (.slice none 0 0) | 2 => ∃ A c, f 25 = .slice A f4.length c ∧ f4.length ≤ c ∧ (Kd.int .u8).C w0 A f4.length f4 ∧ Aw w0 w W g b r1 (.int .i64 2) (.int .i64 0) (.int .i64 0) (.int .i64 0) (.slice none 0 0) (.slice none 0 0) | 3 => ∃ A c, f 26 = .slice A f4.length c ∧ f4.length ≤ c ∧ Kd.F (Kd.int .u8) W (fun k => b < k ∧ k < W.heap.size) A f4.length f4 ∧ Aw w0 w W g b r1 (.int .i64 2) (.int .i64 0) (.int .i64 0) (.int .i64 0) (.slice none 0 0) (.slice none 0 0) | _ => ∃ A c, f4.length ≤ c ∧ Kd.F (Kd.int .u8) W (fun k => b < k ∧ k < W.heap.size) A f4.length f4 ∧ Aw w0 w W g b r1 (.int .i64 2) (.int .i64 0) (.int .i64 0) (.int .i64 0) (.slice A f4.length c) (.slice none 0 0)) (by kernel_rfl) (by kernel_rfl) (by decide) (by decide) ?hJ ?h0 ?pure ?act ?fin
  case hJ => (intro k f f' W h hj; match k, hj with | 0, hj => exact hj | 1, hj => (refine ⟨?_, hj.2⟩; rw [← h 0 (by omega) (by decide) 24 (by kernel_rfl)]; exact hj.1) | 2, hj => (obtain ⟨A, c, h1, h2⟩ := hj; refine ⟨A, c, ?_, h2⟩; rw [← h 1 (by omega) (by decide) 25 (by kernel_rfl)]; exact h1) | 3, hj => (obtain ⟨A, c, h1, h2⟩ := hj; refine ⟨A, c, ?_, h2⟩; rw [← h 2 (by omega) (by decide) 26 (by kernel_rfl)]; exact h1) | k + 4, hj => exact hj)
  case h0 => exact A0.out.drew_
  case pure =>
    intro i o k a w_ ho hE hk hmc hf hst hkn hj
    have hi : i < 9 := (Array.getElem?_eq_some_iff.1 ho).1
    obtain rfl | rfl | rfl | rfl | rfl : i = 0 ∨ i = 1 ∨ i = 2 ∨ i = 3 ∨ i = 7 := by
      simp only [List.mem_cons, List.not_mem_nil, or_false, not_or] at hE
      omega
    · obtain rfl := Reg.oper_eq ho rfl
      have e3 : a.eval (.tmp 3) = .pointer (some ⟨b, 0, none⟩) := (hf.eval 3 (by kernel_rfl)).trans rfl
      have g3 := Reg.eval_getD e3
      exact Reg.op_value rfl rfl (by simp only [List.getElem_toArray, List.getElem_cons_zero, List.getElem_cons_succ, execOp, e3]; go_simp) ⟨_, rfl, rfl, hj⟩
    · obtain rfl := Reg.oper_eq ho rfl
      have e20 : a.eval (.tmp 20) = .pointer (some ⟨b, 4, none⟩) := hkn.eval 0 20 (by kernel_rfl) (by kernel_rfl)
      have g20 := Reg.eval_getD e20
      have c4' : w_.cell? ⟨b, 4, none⟩ = some (.slice none 0 0) := by
        match k, hj with
        | 0, hj => exact (sixp (Aw.act hj)).2.2.2.2.1
        | 1, hj => exact (sixp (Aw.act hj.2)).2.2.2.2.1
        | 2, hj => obtain ⟨_, _, _, _, _, hj⟩ := hj; exact (sixp (Aw.act hj)).2.2.2.2.1
        | 3, hj => obtain ⟨_, _, _, _, _, hj⟩ := hj; exact (sixp (Aw.act hj)).2.2.2.2.1
        | k + 4, hj => exact absurd hmc (by simp only [List.length_cons, List.length_nil] at hk; have hk0 : k = 0 := (by omega); subst hk0; exact Bool.eq_false_iff.1 (by kernel_rfl))
      exact Reg.op_value rfl rfl (by simp only [List.getElem_toArray, List.getElem_cons_zero, List.getElem_cons_succ, execOp, e20]; go_simp) ⟨_, rfl, rfl, hj⟩
    · obtain rfl := Reg.oper_eq ho rfl
      have e0 : a.eval (.tmp 0) = .pointer (some ⟨g, 0, none⟩) := (hf.eval 0 (by kernel_rfl)).trans rfl
      have g0 := Reg.eval_getD e0
      exact Reg.op_value rfl rfl (by simp only [List.getElem_toArray, List.getElem_cons_zero, List.getElem_cons_succ, execOp, e0]; go_simp) ⟨_, rfl, rfl, hj⟩
    · obtain rfl := Reg.oper_eq ho rfl
      have e0 : a.eval (.tmp 0) = .pointer (some ⟨g, 0, none⟩) := (hf.eval 0 (by kernel_rfl)).trans rfl
      have g0 := Reg.eval_getD e0
      exact Reg.op_value rfl rfl (by simp only [List.getElem_toArray, List.getElem_cons_zero, List.getElem_cons_succ, execOp, e0]; go_simp) ⟨_, rfl, rfl, hj⟩
    · obtain rfl := Reg.oper_eq ho rfl
      have e3 : a.eval (.tmp 3) = .pointer (some ⟨b, 0, none⟩) := (hf.eval 3 (by kernel_rfl)).trans rfl
      have g3 := Reg.eval_getD e3
      exact Reg.op_value rfl rfl (by simp only [List.getElem_toArray, List.getElem_cons_zero, List.getElem_cons_succ, execOp, e3]; go_simp) ⟨_, rfl, rfl, hj⟩
  case act =>
    intro k o a w_ hk ho hf hst hkn hj
    obtain rfl | rfl | rfl | rfl : k = 0 ∨ k = 1 ∨ k = 2 ∨ k = 3 := by simp only [List.length_cons, List.length_nil] at hk; omega
    · obtain rfl := Reg.oper_eq ho rfl
      have e23 : a.eval (.tmp 23) = .pointer (some ⟨g, 0, none⟩) := hkn.eval 3 23 (by kernel_rfl) (by kernel_rfl)
      have g23 := Reg.eval_getD e23
      have hj' : Aw w0 w w_ g b (x :: y :: R1) (.int .i64 2) (.int .i64 0) (.int .i64 0) (.int .i64 0) (.slice none 0 0) (.slice none 0 0) := hj
      refine Reg.op_call (f := 26) (args := #[.pointer (some ⟨g, 0, none⟩), .int .i64 2]) (w' := w_) rfl rfl (by simp only [List.getElem_toArray, List.getElem_cons_zero, List.getElem_cons_succ, execOp, e23]; go_simp) ((two_rd w0 _ _ _ _ _ HBY.out.tl hj'.rd).mono ?_)
      rintro e W4 ⟨he, hr4, hg4⟩
      rw [HXY.out] at he
      subst he
      refine .inl ⟨_, rfl, _, rfl, trivial, ?_, hj'.call hr4 hg4⟩
      exact Reg.val_put_in hf (by kernel_rfl)
    · obtain rfl := Reg.oper_eq ho rfl
      have e22 : a.eval (.tmp 22) = .pointer (some ⟨g, 0, none⟩) := hkn.eval 2 22 (by kernel_rfl) (by kernel_rfl)
      have g22 := Reg.eval_getD e22
      obtain ⟨hv, hj'⟩ : Reg.val a 24 = .int .i64 N ∧ Aw w0 w w_ g b R1 (.int .i64 2) (.int .i64 0) (.int .i64 0) (.int .i64 0) (.slice none 0 0) (.slice none 0 0) := hj
      have e24 : a.eval (.tmp 24) = .int .i64 N := (Reg.eval_val a 24).trans hv
      have g24 := Reg.eval_getD e24
      refine Reg.op_call (f := 27) (args := #[.pointer (some ⟨g, 0, none⟩), .int .i64 N]) (w' := w_) rfl rfl (by simp only [List.getElem_toArray, List.getElem_cons_zero, List.getElem_cons_succ, execOp, e22, e24]; go_simp) ((bytes_app w0 w_ g f4 r1 N HN.out (by have := hj'.rd; rw [HR1.out] at this; exact this)).mono ?_)
      rintro e W4 ⟨A, c, rfl, hc4, hC4, hr4, hg4⟩
      refine .inl ⟨_, rfl, _, rfl, trivial, A, c, ?_, hc4, hC4, hj'.call hr4 hg4⟩
      exact Reg.val_put_in hf (by kernel_rfl)
    · obtain rfl := Reg.oper_eq ho rfl
      have e21 : a.eval (.tmp 21) = .slice none 0 0 := hkn.eval 1 21 (by kernel_rfl) (by kernel_rfl)
      have g21 := Reg.eval_getD e21
      obtain ⟨A, c, hv, hc4, hC4, hj'⟩ : ∃ A c, Reg.val a 25 = .slice A f4.length c ∧ f4.length ≤ c ∧ (Kd.int .u8).C w0 A f4.length f4 ∧ Aw w0 w w_ g b r1 (.int .i64 2) (.int .i64 0) (.int .i64 0) (.int .i64 0) (.slice none 0 0) (.slice none 0 0) := hj
      have e25 : a.eval (.tmp 25) = .slice A f4.length c := (Reg.eval_val a 25).trans hv
      have hbl := blk_lt hj'.act
      have hml := Kd.C_max hC4
      refine Reg.op_wp rfl rfl ?_
      refine Kd.R_append_rows_step (Kd.int .u8) (Rr := (Kd.int .u8).K w_) (w0 := w0) w0.heap.size rfl (.tmp 21) (.tmp 25) 24 5 (.int .u8 0) 1 rfl Try.underlying24 info5 rfl (by decide) (by omega) (.slice none 0 0) [] f4 A f4.length c (fun k => b < k) (fun _ => False) e21 e25 (Kd.R_nil _ _ _ _ _) (Kd.C_below hC4 hj'.rd.below) (fun _ _ h => h) (fun _ hk => hk.elim) (fun k hk => by omega) hj'.rd.below hj'.rd.below.size (by have := HML.out; simp; omega) ?_
      intro v5 W5 hr5 hb5 hg5 _
      obtain ⟨A', c', rfl, hc', _⟩ := Kd.R_reads hr5
      refine ⟨_, rfl, trivial, A', c', ?_, hc', Kd.F_bound (Kd.R_F hr5), hj'.other hg5 (fun k e => by cases e)⟩
      exact Reg.val_put_in hf (by kernel_rfl)
    · obtain rfl := Reg.oper_eq ho rfl
      have e27 : a.eval (.tmp 27) = .pointer (some ⟨b, 4, none⟩) := hkn.eval 7 27 (by kernel_rfl) (by kernel_rfl)
      have g27 := Reg.eval_getD e27
      obtain ⟨A, c, hv, hc4, hC4, hj'⟩ : ∃ A c, Reg.val a 26 = .slice A f4.length c ∧ f4.length ≤ c ∧ Kd.F (Kd.int .u8) w_ (fun k => b < k ∧ k < w_.heap.size) A f4.length f4 ∧ Aw w0 w w_ g b r1 (.int .i64 2) (.int .i64 0) (.int .i64 0) (.int .i64 0) (.slice none 0 0) (.slice none 0 0) := hj
      have e26 : a.eval (.tmp 26) = .slice A f4.length c := (Reg.eval_val a 26).trans hv
      have g26 := Reg.eval_getD e26
      have q4 : w_.cell? ⟨b, 4, none⟩ = some (.slice none 0 0) := (sixp hj'.act).2.2.2.2.1
      have q5 := hj'.fr 4
      refine Reg.op_unit (w' := w_.setCell ⟨b, 4, none⟩ (.slice A f4.length c)) rfl rfl (by simp only [List.getElem_toArray, List.getElem_cons_zero, List.getElem_cons_succ, execOp, e27, e26]; go_simp) ⟨_, rfl, trivial, A, c, hc4, ?_, hj'.set4 _⟩
      exact Kd.F_mono (Kd.F_far hC4 (p := ⟨b, 4, none⟩) (fun k hk => by have := hk.1; show k ≠ b; omega) _) (fun k hk => ⟨hk.1, by simpa [World.setCell] using hk.2⟩)
  case fin =>
    intro a w_ hf hkn hj
    have e20 : Reg.val a 20 = _ := hkn 0 20 (by show _ < _; decide) (by kernel_rfl)
    have e21 : Reg.val a 21 = _ := hkn 1 21 (by show _ < _; decide) (by kernel_rfl)
    have e22 : Reg.val a 22 = _ := hkn 2 22 (by show _ < _; decide) (by kernel_rfl)
    have e23 : Reg.val a 23 = _ := hkn 3 23 (by show _ < _; decide) (by kernel_rfl)
    have e27 : Reg.val a 27 = _ := hkn 7 27 (by show _ < _; decide) (by kernel_rfl)
    rw [Reg.frm_fold hf [20, 21, 22, 23, 24, 25, 26, 27] (by kernel_rfl) (by kernel_rfl)]
    simp only [List.foldl_cons, List.foldl_nil, Act.put, List.setIfInBounds_toArray, List.set_cons_zero, List.set_cons_succ, e20, e21, e22, e23, e27]
    generalize Reg.val a 24 = v24_ at *
    generalize Reg.val a 25 = v25_ at *
    generalize Reg.val a 26 = v26_ at *
    clear hkn hf e20 e21 e22 e23 e27
    obtain ⟨A4, k4, hc4, hF4, hj⟩ : ∃ A c, f4.length ≤ c ∧ Kd.F (Kd.int .u8) w_ (fun k => b < k ∧ k < w_.heap.size) A f4.length f4 ∧ Aw w0 w w_ g b r1 (.int .i64 2) (.int .i64 0) (.int .i64 0) (.int .i64 0) (.slice A f4.length c) (.slice none 0 0) := hj
    have A1 := Lib.hid hj
    have F4 := Lib.hid hF4
    have HC4 := Lib.hid hc4
    clear hj hF4 hc4 A0
    rw [HR2.out] at A1
    have hbr : Byts (↑mm :: r2) := fun x hx => HBY.out x (by rw [HR1.out, HR2.out]; simp only [List.mem_cons, List.mem_append] at hx ⊢; rcases hx with h | h; exact .inr (.inr (.inr (.inr (.inl h)))); exact .inr (.inr (.inr (.inr (.inr h)))))
    have HBR := Lib.hid hbr
    clear hbr
    obtain ⟨a0, a1, a2, a3, a4, a5⟩ := sixp A1.out.act
    obtain ⟨d0, d1, d2, d3, d4, d5, f0⟩ := six A1.out.res
    have f1 := A1.out.fr
    have hne : w.heap.size ≠ b := by have := A1.out.lt; omega
    go_wp2_with fail
    refine (one_rd w0 w_ g mm r2 HBR.out A1.out.rd).mono ?_
    rintro e w4 ⟨rfl, hr4, hg4⟩
    obtain ⟨N5, hN5⟩ : ∃ N5, N5 = w_.heap.size := ⟨_, rfl⟩
    have hbl := blk_lt A1.out.act
    have S9 : Hid (Sw w0 w w4 g b N5 A4 k4 f4 r2 (.slice none 0 0) []) :=
      ⟨A1.out.call hr4 hg4, HC4.out, Kd.F_grown (by rw [hN5]; exact F4.out) hg4 (fun k hk e => by injection e with e; have := A1.out.lt; have := A1.out.glt; omega), Kd.R_nil _ _ _ _ _, by omega, by have := hg4.size; omega⟩
    have HBN : Hid (b < N5) := by rw [hN5]; exact hbl
    have HK4 := HC4
    clear hr4 hg4 hN5 hbl A1 F4 HC4 a0 a1 a2 a3 a4 a5 d0 d1 d2 d3 d4 d5 f0 f1 hne
    go_wp2_with fail
    go_loopg [30] mm (fun k i W => ∃ (j : Nat) (v5 : Value), j + k = mm ∧ i = .int .i64 j ∧ 8 * j ≤ r2.length ∧ Hid (Sw w0 w W g b N5 A4 k4 f4 (r2.drop (8 * j)) v5 (argsN j r2)))
    case atStart => exact ⟨0, _, by omega, rfl, by omega, S9⟩
    case round =>
      obtain ⟨j, v5, hjk, rfl, h8j, S0⟩ := hrel
      have HJ := Lib.hid hjk
      have HJ8 := Lib.hid h8j
      clear hjk h8j S9
      by_cases hlt : j < mm
      · obtain ⟨A5, k5, rfl⟩ := Kd.R_slice S0.out.ar
        by_cases h8 : 8 * (j + 1) ≤ r2.length
        · have H8 := Lib.hid h8
          have HQ0 : Hid ((8 : Int) ≤ (r2.drop (8 * j)).length) := by show (8 : Int) ≤ _; rw [List.length_drop]; omega
          have HB0 : Hid (∀ x ∈ r2.drop (8 * j), 0 ≤ x ∧ x < 256) := HBR.out.tl.drop _
          have HQ1 : Hid ((r2.drop (8 * j)).drop 8 = r2.drop (8 * (j + 1))) := by show _ = _; rw [List.drop_drop]; congr 1
          have HL5 : Hid ((argsN j r2).length ≤ 1000) := by show _ ≤ _; rw [argsN_len]; have := HMM.out; omega
          have HREL : Hid (∀ {W v}, Sw w0 w W g b N5 A4 k4 f4 (r2.drop (8 * (j + 1))) v (argsN j r2 ++ [wrap64 (leN ((r2.drop (8 * j)).take 8))]) → Hid (Sw w0 w W g b N5 A4 k4 f4 (r2.drop (8 * (j + 1))) v (argsN (j + 1) r2))) := by
            intro W v h; rw [argsN_succ]; exact h
          obtain ⟨q, hq⟩ : ∃ q, leN ((r2.drop (8 * j)).take 8) = q := ⟨_, rfl⟩
          rw [hq] at HREL
          have HQ := Lib.hid hq
          clear hq h8
          generalize argsN j r2 = l5 at *
          generalize r2.drop (8 * j) = q0 at *
          generalize hq1 : r2.drop (8 * (j + 1)) = q1 at *
          have HQ1E := Lib.hid hq1
          clear hq1
          go_wp2_with fail
          refine Reg.wp_region_phase (by kernel_rfl) [3, 5, 6, 8] (fun i => match i with | 0 => fun v => v = .pointer (some ⟨b, 5, none⟩) | 1 => fun v => v = .slice A5 l5.length k5 | 2 => fun v => v = .pointer (some ⟨g, 0, none⟩) | 3 => fun v => v = .int .u64 q | 4 => fun v => v = .int .i64 (wrap64 q) | 7 => fun v => v = .pointer (some ⟨b, 5, none⟩) | _ => fun _ => True) (fun k f W => match k with | 0 => Sw w0 w W g b N5 A4 k4 f4 q0 (.slice A5 l5.length k5) l5 | 1 => Sw w0 w W g b N5 A4 k4 f4 q1 (.slice A5 l5.length k5) l5 | 2 => ∃ W1, W = W1.alloc (.cells #[.int .i64 (wrap64 q)] 2) ∧ f 37 = .slice (some ⟨W1.heap.size, 0, none⟩) 1 1 ∧ Sw w0 w W1 g b N5 A4 k4 f4 q1 (.slice A5 l5.length k5) l5 | 3 => ∃ A n c, f 38 = .slice A n c ∧ Kd.R (Kd.int .i64) 2 W w0.heap.size (fun k => N5 ≤ k) (.slice A n c) (l5 ++ [wrap64 q]) ∧ Kd.F (Kd.int .u8) W (fun k => b < k ∧ k < N5) A4 f4.length f4 ∧ N5 ≤ W.heap.size ∧ Aw w0 w W g b q1 (.int .i64 2) (.int .i64 0) (.int .i64 0) (.int .i64 0) (.slice A4 f4.length k4) (.slice A5 l5.length k5) | _ => ∃ v, Sw w0 w W g b N5 A4 k4 f4 q1 v (l5 ++ [wrap64 q])) (by kernel_rfl) (by kernel_rfl) (by decide) (by decide) ?hJ ?h0 ?pure ?act ?fin
          case hJ => (intro k f f' W h hj; match k, hj with | 0, hj => exact hj | 1, hj => exact hj | 2, hj => (obtain ⟨W1, h0, h1, h2⟩ := hj; refine ⟨W1, h0, ?_, h2⟩; rw [← h 1 (by omega) (by decide) 37 (by kernel_rfl)]; exact h1) | 3, hj => (obtain ⟨A, n, c, h1, h2⟩ := hj; refine ⟨A, n, c, ?_, h2⟩; rw [← h 2 (by omega) (by decide) 38 (by kernel_rfl)]; exact h1) | k + 4, hj => exact hj)
          case h0 => exact S0.out.drew_
          case pure =>
            intro i o k a w_ ho hE hk hmc hf hst hkn hj
            have hi : i < 9 := (Array.getElem?_eq_some_iff.1 ho).1
            obtain rfl | rfl | rfl | rfl | rfl : i = 0 ∨ i = 1 ∨ i = 2 ∨ i = 4 ∨ i = 7 := by
              simp only [List.mem_cons, List.not_mem_nil, or_false, not_or] at hE
              omega
            · obtain rfl := Reg.oper_eq ho rfl
              have e3 : a.eval (.tmp 3) = .pointer (some ⟨b, 0, none⟩) := (hf.eval 3 (by kernel_rfl)).trans rfl
              have g3 := Reg.eval_getD e3
              exact Reg.op_value rfl rfl (by simp only [List.getElem_toArray, List.getElem_cons_zero, List.getElem_cons_succ, execOp, e3]; go_simp) ⟨_, rfl, rfl, hj⟩
            · obtain rfl := Reg.oper_eq ho rfl
              have e32 : a.eval (.tmp 32) = .pointer (some ⟨b, 5, none⟩) := hkn.eval 0 32 (by kernel_rfl) (by kernel_rfl)
              have g32 := Reg.eval_getD e32
              have c5' : w_.cell? ⟨b, 5, none⟩ = some (.slice A5 l5.length k5) := by
                match k, hj with
                | 0, hj => exact Sw.cell5 hj
                | 1, hj => exact Sw.cell5 hj
                | 2, hj =>
                  obtain ⟨W1, rfl, _, hj⟩ := hj
                  rw [World.cell?_alloc_past _ _ _ (blk_lt (Sw.aw hj).act)]
                  exact Sw.cell5 hj
                | 3, hj => obtain ⟨_, _, _, _, _, _, _, hj⟩ := hj; exact (sixp (Aw.act hj)).2.2.2.2.2
                | k + 4, hj => exact absurd hmc (by simp only [List.length_cons, List.length_nil] at hk; have hk0 : k = 0 := (by omega); subst hk0; exact Bool.eq_false_iff.1 (by kernel_rfl))
              exact Reg.op_value rfl rfl (by simp only [List.getElem_toArray, List.getElem_cons_zero, List.getElem_cons_succ, execOp, e32]; go_simp) ⟨_, rfl, rfl, hj⟩
            · obtain rfl := Reg.oper_eq ho rfl
              have e0 : a.eval (.tmp 0) = .pointer (some ⟨g, 0, none⟩) := (hf.eval 0 (by kernel_rfl)).trans rfl
              have g0 := Reg.eval_getD e0
              exact Reg.op_value rfl rfl (by simp only [List.getElem_toArray, List.getElem_cons_zero, List.getElem_cons_succ, execOp, e0]; go_simp) ⟨_, rfl, rfl, hj⟩
            · obtain rfl := Reg.oper_eq ho rfl
              have e35 : a.eval (.tmp 35) = .int .u64 q := hkn.eval 3 35 (by kernel_rfl) (by kernel_rfl)
              have g35 := Reg.eval_getD e35
              exact Reg.op_value rfl rfl (by simp only [List.getElem_toArray, List.getElem_cons_zero, List.getElem_cons_succ, execOp, e35]; go_simp; rw [IntKind.wrap_i64]; unfold wrap64; omega) ⟨_, rfl, rfl, hj⟩
            · obtain rfl := Reg.oper_eq ho rfl
              have e3 : a.eval (.tmp 3) = .pointer (some ⟨b, 0, none⟩) := (hf.eval 3 (by kernel_rfl)).trans rfl
              have g3 := Reg.eval_getD e3
              exact Reg.op_value rfl rfl (by simp only [List.getElem_toArray, List.getElem_cons_zero, List.getElem_cons_succ, execOp, e3]; go_simp) ⟨_, rfl, rfl, hj⟩
          case act =>
            intro k o a w_ hk ho hf hst hkn hj
            obtain rfl | rfl | rfl | rfl : k = 0 ∨ k = 1 ∨ k = 2 ∨ k = 3 := by simp only [List.length_cons, List.length_nil] at hk; omega
            · obtain rfl := Reg.oper_eq ho rfl
              have e34 : a.eval (.tmp 34) = .pointer (some ⟨g, 0, none⟩) := hkn.eval 2 34 (by kernel_rfl) (by kernel_rfl)
              have g34 := Reg.eval_getD e34
              have hj' : Sw w0 w w_ g b N5 A4 k4 f4 q0 (.slice A5 l5.length k5) l5 := hj
              refine Reg.op_call (f := 28) (args := #[.pointer (some ⟨g, 0, none⟩), .int .i64 8]) (w' := w_) rfl rfl (by simp only [List.getElem_toArray, List.getElem_cons_zero, List.getElem_cons_succ, execOp, e34]; go_simp) ((number_ok w0 w_ g q0 8 (by decide) (by decide) HQ0.out HB0.out hj'.aw.rd).mono ?_)
              rintro e W4 ⟨he, hr4, hg4⟩
              rw [show (8 : Int).toNat = 8 from rfl, HQ.out] at he
              rw [show (8 : Int).toNat = 8 from rfl, HQ1.out] at hr4
              subst he
              exact .inl ⟨_, rfl, _, rfl, rfl, hj'.call hr4 hg4⟩
            · obtain rfl := Reg.oper_eq ho rfl
              have e36 : a.eval (.tmp 36) = .int .i64 (wrap64 q) := hkn.eval 4 36 (by kernel_rfl) (by kernel_rfl)
              have g36 := Reg.eval_getD e36
              have hj' : Sw w0 w w_ g b N5 A4 k4 f4 q1 (.slice A5 l5.length k5) l5 := hj
              refine Reg.op_value (v := .slice (some ⟨w_.heap.size, 0, none⟩) 1 1) (w' := w_.alloc (.cells #[.int .i64 (wrap64 q)] 2)) rfl rfl (by simp only [List.getElem_toArray, List.getElem_cons_zero, List.getElem_cons_succ, execOp, e36]; go_simp) ⟨_, rfl, trivial, w_, rfl, ?_, hj'⟩
              exact Reg.val_put_in hf (by kernel_rfl)
            · obtain rfl := Reg.oper_eq ho rfl
              have e33 : a.eval (.tmp 33) = .slice A5 l5.length k5 := hkn.eval 1 33 (by kernel_rfl) (by kernel_rfl)
              have g33 := Reg.eval_getD e33
              obtain ⟨W1, rfl, hv, hj'⟩ : ∃ W1, w_ = W1.alloc (.cells #[.int .i64 (wrap64 q)] 2) ∧ Reg.val a 37 = .slice (some ⟨W1.heap.size, 0, none⟩) 1 1 ∧ Sw w0 w W1 g b N5 A4 k4 f4 q1 (.slice A5 l5.length k5) l5 := hj
              have e37 : a.eval (.tmp 37) = .slice (some ⟨W1.heap.size, 0, none⟩) 1 1 := (Reg.eval_val a 37).trans hv
              have hn5 := hj'.n5
              have hll := HL5.out
              refine Reg.op_wp rfl rfl ?_
              refine Kd.R_append_step (Kd.int .i64) (w0 := w0) w0.heap.size rfl (.tmp 33) (.tmp 37) 31 2 (.int .i64 0) 8 rfl Try.underlying31 info2 rfl (by decide) (by omega) (.slice A5 l5.length k5) l5 (wrap64 q) [.int .i64 (wrap64 q)] (fun k => N5 ≤ k) (fun _ => False) e33 e37 rfl (fun _ hk => hk.elim) (fun k hk => by omega) hj'.ar hj'.aw.rd.below hj'.aw.rd.below.size (by omega) ?_
              intro v5 W5 hr5 hb5 hg5 hat5
              obtain ⟨A', c', hv5⟩ := Kd.R_slice hr5
              have hown := hj'.ar.1
              refine ⟨_, rfl, trivial, A', (l5 ++ [wrap64 q]).length, c', ?_, hv5 ▸ hr5, Kd.F_grown hj'.by_ hg5 (fun k hk e => by have := hown k e.symm; omega), Nat.le_trans hn5.2 hg5.size, hj'.aw.other hg5 (fun k e => by have := hown k e; have := hj'.aw.lt; omega)⟩
              rw [hv5]
              exact Reg.val_put_in hf (by kernel_rfl)
            · obtain rfl := Reg.oper_eq ho rfl
              have e39 : a.eval (.tmp 39) = .pointer (some ⟨b, 5, none⟩) := hkn.eval 7 39 (by kernel_rfl) (by kernel_rfl)
              have g39 := Reg.eval_getD e39
              obtain ⟨A, n, c, hv, hR, hF, hN, hj'⟩ : ∃ A n c, Reg.val a 38 = .slice A n c ∧ Kd.R (Kd.int .i64) 2 w_ w0.heap.size (fun k => N5 ≤ k) (.slice A n c) (l5 ++ [wrap64 q]) ∧ Kd.F (Kd.int .u8) w_ (fun k => b < k ∧ k < N5) A4 f4.length f4 ∧ N5 ≤ w_.heap.size ∧ Aw w0 w w_ g b q1 (.int .i64 2) (.int .i64 0) (.int .i64 0) (.int .i64 0) (.slice A4 f4.length k4) (.slice A5 l5.length k5) := hj
              have e38 : a.eval (.tmp 38) = .slice A n c := (Reg.eval_val a 38).trans hv
              have g38 := Reg.eval_getD e38
              have q4 : w_.cell? ⟨b, 5, none⟩ = some (.slice A5 l5.length k5) := (sixp hj'.act).2.2.2.2.2
              have q5 := hj'.fr 5
              have hbn := HBN.out
              refine Reg.op_unit (w' := w_.setCell ⟨b, 5, none⟩ (.slice A n c)) rfl rfl (by simp only [List.getElem_toArray, List.getElem_cons_zero, List.getElem_cons_succ, execOp, e39, e38]; go_simp) ⟨_, rfl, trivial, .slice A n c, hj'.set5 _, HK4.out, ?_, ?_, hbn, by simpa [World.setCell] using hN⟩
              · exact Kd.F_far hF (p := ⟨b, 5, none⟩) (fun k hk => by have := hk.1; show k ≠ b; omega) _
              · exact Kd.R_far (p := ⟨b, 5, none⟩) hR (fun k hk => by show k ≠ b; omega) _
          case fin =>
            intro a w_ hf hkn hj
            have e32 : Reg.val a 32 = _ := hkn 0 32 (by show _ < _; decide) (by kernel_rfl)
            have e33 : Reg.val a 33 = _ := hkn 1 33 (by show _ < _; decide) (by kernel_rfl)
            have e34 : Reg.val a 34 = _ := hkn 2 34 (by show _ < _; decide) (by kernel_rfl)
            have e35 : Reg.val a 35 = _ := hkn 3 35 (by show _ < _; decide) (by kernel_rfl)
            have e36 : Reg.val a 36 = _ := hkn 4 36 (by show _ < _; decide) (by kernel_rfl)
            have e39 : Reg.val a 39 = _ := hkn 7 39 (by show _ < _; decide) (by kernel_rfl)
            rw [Reg.frm_fold hf [32, 33, 34, 35, 36, 37, 38, 39] (by kernel_rfl) (by kernel_rfl)]
            simp only [List.foldl_cons, List.foldl_nil, Act.put, List.setIfInBounds_toArray, List.set_cons_zero, List.set_cons_succ, e32, e33, e34, e35, e36, e39]
            generalize Reg.val a 37 = v37_ at *
            generalize Reg.val a 38 = v38_ at *
            clear hkn hf e32 e33 e34 e35 e36 e39
            obtain ⟨v5, hj⟩ : ∃ v, Sw w0 w w_ g b N5 A4 k4 f4 q1 v (l5 ++ [wrap64 q]) := hj
            have S1 := Lib.hid hj
            clear hj S0
            go_wp2_with fail
            go_roundg (mm - (j + 1))
            case measure => have := HJ.out; omega
            case rel => exact ⟨j + 1, v5, by have := HJ.out; omega, by have := HJ.out; have := HMM.out; congr 1; unfold wrap64; omega, H8.out, by rw [HQ1E.out]; exact HREL.out S1.out⟩
        · have HBIG : Hid (r2.length < 8 * mm) := by show _ < _; omega
          have H8N : Hid (((r2.drop (8 * j)).length : Int) < 8) := by show _ < _; rw [List.length_drop]; have := HJ8.out; omega
          clear h8
          generalize argsN j r2 = l5 at *
          generalize r2.drop (8 * j) = q0 at *
          go_wp2_with fail
          refine Reg.wp_region_phase (by kernel_rfl) [3, 5, 6, 8] (fun i => match i with | 0 => fun v => v = .pointer (some ⟨b, 5, none⟩) | 1 => fun v => v = .slice A5 l5.length k5 | 2 => fun v => v = .pointer (some ⟨g, 0, none⟩) | 3 => fun v => v = .int .u64 0 | 4 => fun v => v = .int .i64 (wrap64 0) | 7 => fun v => v = .pointer (some ⟨b, 5, none⟩) | _ => fun _ => True) (fun k f W => match k with | 0 => Sw w0 w W g b N5 A4 k4 f4 q0 (.slice A5 l5.length k5) l5 | _ => False) (by kernel_rfl) (by kernel_rfl) (by decide) (by decide) ?hJ ?h0 ?pure ?act ?fin
          case hJ => (intro k f f' W h hj; match k, hj with | 0, hj => exact hj)
          case h0 => exact S0.out.drew_
          case pure =>
            intro i o k a w_ ho hE hk hmc hf hst hkn hj
            have hi : i < 9 := (Array.getElem?_eq_some_iff.1 ho).1
            obtain rfl | rfl | rfl | rfl | rfl : i = 0 ∨ i = 1 ∨ i = 2 ∨ i = 4 ∨ i = 7 := by
              simp only [List.mem_cons, List.not_mem_nil, or_false, not_or] at hE
              omega
            · obtain rfl := Reg.oper_eq ho rfl
              have e3 : a.eval (.tmp 3) = .pointer (some ⟨b, 0, none⟩) := (hf.eval 3 (by kernel_rfl)).trans rfl
              have g3 := Reg.eval_getD e3
              exact Reg.op_value rfl rfl (by simp only [List.getElem_toArray, List.getElem_cons_zero, List.getElem_cons_succ, execOp, e3]; go_simp) ⟨_, rfl, rfl, hj⟩
            · obtain rfl := Reg.oper_eq ho rfl
              have e32 : a.eval (.tmp 32) = .pointer (some ⟨b, 5, none⟩) := hkn.eval 0 32 (by kernel_rfl) (by kernel_rfl)
              have g32 := Reg.eval_getD e32
              have c5' : w_.cell? ⟨b, 5, none⟩ = some (.slice A5 l5.length k5) := by
                match k, hj with
                | 0, hj => exact Sw.cell5 hj
              exact Reg.op_value rfl rfl (by simp only [List.getElem_toArray, List.getElem_cons_zero, List.getElem_cons_succ, execOp, e32]; go_simp) ⟨_, rfl, rfl, hj⟩
            · obtain rfl := Reg.oper_eq ho rfl
              have e0 : a.eval (.tmp 0) = .pointer (some ⟨g, 0, none⟩) := (hf.eval 0 (by kernel_rfl)).trans rfl
              have g0 := Reg.eval_getD e0
              exact Reg.op_value rfl rfl (by simp only [List.getElem_toArray, List.getElem_cons_zero, List.getElem_cons_succ, execOp, e0]; go_simp) ⟨_, rfl, rfl, hj⟩
            · obtain rfl := Reg.oper_eq ho rfl
              have e35 : a.eval (.tmp 35) = .int .u64 0 := hkn.eval 3 35 (by kernel_rfl) (by kernel_rfl)
              have g35 := Reg.eval_getD e35
              exact Reg.op_value rfl rfl (by simp only [List.getElem_toArray, List.getElem_cons_zero, List.getElem_cons_succ, execOp, e35]; go_simp; rw [IntKind.wrap_i64]; unfold wrap64; omega) ⟨_, rfl, rfl, hj⟩
            · obtain rfl := Reg.oper_eq ho rfl
              have e3 : a.eval (.tmp 3) = .pointer (some ⟨b, 0, none⟩) := (hf.eval 3 (by kernel_rfl)).trans rfl
              have g3 := Reg.eval_getD e3
              exact Reg.op_value rfl rfl (by simp only [List.getElem_toArray, List.getElem_cons_zero, List.getElem_cons_succ, execOp, e3]; go_simp) ⟨_, rfl, rfl, hj⟩
          case act =>
            intro k o a w_ hk ho hf hst hkn hj
            obtain rfl | rfl | rfl | rfl : k = 0 ∨ k = 1 ∨ k = 2 ∨ k = 3 := by simp only [List.length_cons, List.length_nil] at hk; omega
            · obtain rfl := Reg.oper_eq ho rfl
              have e34 : a.eval (.tmp 34) = .pointer (some ⟨g, 0, none⟩) := hkn.eval 2 34 (by kernel_rfl) (by kernel_rfl)
              have g34 := Reg.eval_getD e34
              have hj' : Sw w0 w w_ g b N5 A4 k4 f4 q0 (.slice A5 l5.length k5) l5 := hj
              refine Reg.op_call (f := 28) (args := #[.pointer (some ⟨g, 0, none⟩), .int .i64 8]) (w' := w_) rfl rfl (by simp only [List.getElem_toArray, List.getElem_cons_zero, List.getElem_cons_succ, execOp, e34]; go_simp) ((number_no w0 w_ g q0 8 H8N.out hj'.aw.rd).mono ?_)
              rintro e W4 ⟨rfl, rfl⟩
              exact .inr ⟨_, rfl, hf.defers, .inr ⟨HBIG.out, rfl, hj'.aw.grown⟩⟩
            · obtain rfl := Reg.oper_eq ho rfl
              have e36 : a.eval (.tmp 36) = .int .i64 (wrap64 0) := hkn.eval 4 36 (by kernel_rfl) (by kernel_rfl)
              have g36 := Reg.eval_getD e36
              exact hj.elim
            · obtain rfl := Reg.oper_eq ho rfl
              have e33 : a.eval (.tmp 33) = .slice A5 l5.length k5 := hkn.eval 1 33 (by kernel_rfl) (by kernel_rfl)
              have g33 := Reg.eval_getD e33
              exact hj.elim
            · obtain rfl := Reg.oper_eq ho rfl
              have e39 : a.eval (.tmp 39) = .pointer (some ⟨b, 5, none⟩) := hkn.eval 7 39 (by kernel_rfl) (by kernel_rfl)
              have g39 := Reg.eval_getD e39
              exact hj.elim
          case fin =>
            intro a w_ hf hkn hj
            exact hj.elim
      · obtain rfl : j = mm := by have := HJ.out; omega
        obtain ⟨A5, k5, rfl⟩ := Kd.R_slice S0.out.ar
        have HL5 := argsN_len j r2
        have HR5 := Kd.R_reads S0.out.ar
        obtain ⟨A0_, c0_, he0, hk5, _⟩ := HR5
        injection he0 with he1 he2 he3
        have HK5 : Hid ((argsN j r2).length ≤ k5) := by rw [he3]; exact hk5
        clear he1 he2 he3 hk5
        obtain ⟨r3, hr3⟩ : ∃ r3, r3 = r2.drop (8 * j) := ⟨_, rfl⟩
        have HR3 := Lib.hid hr3
        clear hr3
        have hF5 := Lib.hid (Kd.R_F S0.out.ar)
        obtain ⟨l5, hl5⟩ : ∃ l5, argsN j r2 = l5 := ⟨_, rfl⟩
        rw [hl5] at S0 HK5 hF5
        have HL5E := Lib.hid hl5
        clear hl5
        obtain ⟨a0, a1, a2, a3, a4, a5⟩ := sixp S0.out.aw.act
        obtain ⟨d0, d1, d2, d3, d4, d5, f0⟩ := six S0.out.aw.res
        have f1 := S0.out.aw.fr
        have hne : w.heap.size ≠ b := by have := S0.out.aw.lt; omega
        clear HL5
        go_wp2
        refine act_fin rfl rfl (six_set S0.out.aw.res) (.inl ⟨HJ8.out, A4, k4, A5, k5, by rw [HL5E.out], HK4.out, ?_, by rw [HL5E.out]; exact HK5.out, ?_, S0.out.aw.end_ (six_grown _ _ _ _ _ _)⟩)
        · exact Kd.F_mono (Kd.F_grown S0.out.by_ (six_grown _ _ _ _ _ _) (fun k hk e => by injection e with e; have := S0.out.aw.lt; omega)) (fun k hk => by have := S0.out.aw.lt; omega)
        · rw [HL5E.out]
          exact Kd.F_mono (Kd.F_grown hF5.out (six_grown _ _ _ _ _ _) (fun k hk e => by injection e with e; have := S0.out.aw.lt; have := S0.out.n5; omega)) (fun k hk => by have := S0.out.aw.lt; have := S0.out.n5; omega)

end Go.Proofs.Ythnefjkpjhfkgaa.Core
