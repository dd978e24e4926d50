-- PRINTED BY print.sh 35421559b90ae4d0a3588c463048766b98c2df88dd9212a6774a882060cdf62d: not written by this session
import Derived.Test.YthnefjkpjhfkgaaPScriptWritesx0
namespace Go.Proofs.Ythnefjkpjhfkgaa.PScriptWrites
open Go.RowKit Go.Proofs.YthnefjkpjhfkgaaW.PrintWords Go.Proofs.YthnefjkpjhfkgaaW.PrintLast Go.Proofs.YthnefjkpjhfkgaaW.PrintMore
attribute [local go_sem] max2_int min2_int max_two min_two max_three min_three max_four min_four   -- for this text's walks alone
set_option linter.unusedVariables false
set_option linter.unusedSimpArgs false

/-! ### haymowref18_Wrong: function 11 -/
mutual
def haymowref18_Wrong.j0 : Nat → Bool → Int → Int → Int → Int → List Int → List Int → Option (Int)
  | 0, _, _, _, _, _, _, _ => none
  | k + 1, x10, x119000, x119001, x119002, x119003, x119004, x119005 => if x10 = true then (some 4) else (if x119000 = 1 then (if x119000 = 2 then (if x119000 = 3 then (haymowref18_Wrong.j1 k false x119000 x119001 x119002 x119003 x119004 x119005) else (if x119000 = 4 then (haymowref18_Wrong.j1 k false x119000 x119001 x119002 x119003 x119004 x119005) else (if x119000 = 7 then (haymowref18_Wrong.j1 k false x119000 x119001 x119002 x119003 x119004 x119005) else (haymowref18_Wrong.j1 k (x119003 != 0) x119000 x119001 x119002 x119003 x119004 x119005)))) else (if (x119004.length : Int) > 0 then (haymowref18_Wrong.j1 k true x119000 x119001 x119002 x119003 x119004 x119005) else (if (x119005.length : Int) > 0 then (haymowref18_Wrong.j1 k true x119000 x119001 x119002 x119003 x119004 x119005) else (if x119000 = 3 then (haymowref18_Wrong.j1 k false x119000 x119001 x119002 x119003 x119004 x119005) else (if x119000 = 4 then (haymowref18_Wrong.j1 k false x119000 x119001 x119002 x119003 x119004 x119005) else (if x119000 = 7 then (haymowref18_Wrong.j1 k false x119000 x119001 x119002 x119003 x119004 x119005) else (haymowref18_Wrong.j1 k (x119003 != 0) x119000 x119001 x119002 x119003 x119004 x119005))))))) else (if x119001 = 0 then (if x119002 = 0 then (if x119000 = 2 then (if x119000 = 3 then (haymowref18_Wrong.j1 k false x119000 x119001 x119002 x119003 x119004 x119005) else (if x119000 = 4 then (haymowref18_Wrong.j1 k false x119000 x119001 x119002 x119003 x119004 x119005) else (if x119000 = 7 then (haymowref18_Wrong.j1 k false x119000 x119001 x119002 x119003 x119004 x119005) else (haymowref18_Wrong.j1 k (x119003 != 0) x119000 x119001 x119002 x119003 x119004 x119005)))) else (if (x119004.length : Int) > 0 then (haymowref18_Wrong.j1 k true x119000 x119001 x119002 x119003 x119004 x119005) else (if (x119005.length : Int) > 0 then (haymowref18_Wrong.j1 k true x119000 x119001 x119002 x119003 x119004 x119005) else (if x119000 = 3 then (haymowref18_Wrong.j1 k false x119000 x119001 x119002 x119003 x119004 x119005) else (if x119000 = 4 then (haymowref18_Wrong.j1 k false x119000 x119001 x119002 x119003 x119004 x119005) else (if x119000 = 7 then (haymowref18_Wrong.j1 k false x119000 x119001 x119002 x119003 x119004 x119005) else (haymowref18_Wrong.j1 k (x119003 != 0) x119000 x119001 x119002 x119003 x119004 x119005))))))) else (haymowref18_Wrong.j1 k true x119000 x119001 x119002 x119003 x119004 x119005)) else (haymowref18_Wrong.j1 k true x119000 x119001 x119002 x119003 x119004 x119005)))
def haymowref18_Wrong.j1 : Nat → Bool → Int → Int → Int → Int → List Int → List Int → Option (Int)
  | 0, _, _, _, _, _, _, _ => none
  | k + 1, x60, x119000, x119001, x119002, x119003, x119004, x119005 => if x60 = true then (some 4) else (if x119001 < 0 then (some 6) else (if x119001 > 255 then (some 6) else (if x119002 < 0 then (some 6) else (if x119002 > 255 then (some 6) else (if x119003 < 0 then (some 6) else (if x119003 > 65535 then (some 6) else (if x119000 = 7 then (if (x119004.length : Int) > 65535 then (some 6) else (if (x119005.length : Int) > 255 then (some 6) else (some 0))) else (if x119003 > 255 then (some 6) else (if (x119004.length : Int) > 65535 then (some 6) else (if (x119005.length : Int) > 255 then (some 6) else (some 0)))))))))))
end
def haymowref18_Wrong.f (k : Nat) (a0_0 : Int) (a0_1 : Int) (a0_2 : Int) (a0_3 : Int) (l0_4 : List Int) (l0_5 : List Int) : Option (Int) := if a0_0 < 1 then (haymowref18_Wrong.j0 k true a0_0 a0_1 a0_2 a0_3 l0_4 l0_5) else (haymowref18_Wrong.j0 k (decide (a0_0 > 7)) a0_0 a0_1 a0_2 a0_3 l0_4 l0_5)
theorem haymowref18_Wrong.mono_l : ∀ k, (∀ y0 y1 y2 y3 y4 y5 y6, LeO (haymowref18_Wrong.j0 k y0 y1 y2 y3 y4 y5 y6) (haymowref18_Wrong.j0 (k + 1) y0 y1 y2 y3 y4 y5 y6)) ∧ (∀ y0 y1 y2 y3 y4 y5 y6, LeO (haymowref18_Wrong.j1 k y0 y1 y2 y3 y4 y5 y6) (haymowref18_Wrong.j1 (k + 1) y0 y1 y2 y3 y4 y5 y6))
  | 0 => ⟨fun _ _ _ _ _ _ _ r h => by simp [haymowref18_Wrong.j0] at h, fun _ _ _ _ _ _ _ r h => by simp [haymowref18_Wrong.j1] at h⟩
  | k + 1 => by
    obtain ⟨ih0, ih1⟩ := haymowref18_Wrong.mono_l k
    refine ⟨?_, ?_⟩
    · intro y0 y1 y2 y3 y4 y5 y6
      unfold haymowref18_Wrong.j0
      repeat' first
      | (with_reducible exact ih0 _ _ _ _ _ _ _)
      | (with_reducible exact ih1 _ _ _ _ _ _ _)
      | (with_reducible exact LeO.refl _)
      | (with_reducible exact LeO.none _)
      | (with_reducible refine LeO.ite ?_ ?_)
      | (with_reducible refine LeO.bind ?_ (fun _ => ?_))
      | exact ih0 _ _ _ _ _ _ _
      | exact ih1 _ _ _ _ _ _ _
      | exact LeO.none _
      | refine LeO.ite ?_ ?_
      | refine LeO.bind ?_ (fun _ => ?_)
    · intro y0 y1 y2 y3 y4 y5 y6
      unfold haymowref18_Wrong.j1
      repeat' first
      | (with_reducible exact ih0 _ _ _ _ _ _ _)
      | (with_reducible exact ih1 _ _ _ _ _ _ _)
      | (with_reducible exact LeO.refl _)
      | (with_reducible exact LeO.none _)
      | (with_reducible refine LeO.ite ?_ ?_)
      | (with_reducible refine LeO.bind ?_ (fun _ => ?_))
      | exact ih0 _ _ _ _ _ _ _
      | exact ih1 _ _ _ _ _ _ _
      | exact LeO.none _
      | refine LeO.ite ?_ ?_
      | refine LeO.bind ?_ (fun _ => ?_)
theorem haymowref18_Wrong.mono : ∀ a0 a1 a2 a3 a4 a5 k, LeO (haymowref18_Wrong.f k a0 a1 a2 a3 a4 a5) (haymowref18_Wrong.f (k + 1) a0 a1 a2 a3 a4 a5) := by
  intro a0 a1 a2 a3 a4 a5 k
  obtain ⟨ih0, ih1⟩ := haymowref18_Wrong.mono_l k
  unfold haymowref18_Wrong.f
  repeat' first
      | (with_reducible exact ih0 _ _ _ _ _ _ _)
      | (with_reducible exact ih1 _ _ _ _ _ _ _)
      | (with_reducible exact LeO.refl _)
      | (with_reducible exact LeO.none _)
      | (with_reducible refine LeO.ite ?_ ?_)
      | (with_reducible refine LeO.bind ?_ (fun _ => ?_))
      | exact ih0 _ _ _ _ _ _ _
      | exact ih1 _ _ _ _ _ _ _
      | exact LeO.none _
      | refine LeO.ite ?_ ?_
      | refine LeO.bind ?_ (fun _ => ?_)
set_option maxHeartbeats 8000000 in
set_option maxRecDepth 100000 in
theorem haymowref18_Wrong.calls (k : Nat) (a0_0 : Int) (a0_1 : Int) (a0_2 : Int) (a0_3 : Int) (A0_4 : Option Addr) (c0_4 : Nat) (l0_4 : List Int) (A0_5 : Option Addr) (c0_5 : Nat) (l0_5 : List Int) (r : Int) (w : World) (hr0_4 : Kd.C (Kd.int .u8) w A0_4 l0_4.length l0_4) (hc0_4 : l0_4.length ≤ c0_4) (hr0_5 : Kd.C (Kd.int .i64) w A0_5 l0_5.length l0_5) (hc0_5 : l0_5.length ≤ c0_5) (h : haymowref18_Wrong.f k a0_0 a0_1 a0_2 a0_3 l0_4 l0_5 = some r) :
    Calls Try.prog 11 #[.agg #[.int .i64 a0_0, .int .i64 a0_1, .int .i64 a0_2, .int .i64 a0_3, .slice A0_4 l0_4.length c0_4, .slice A0_5 l0_5.length c0_5]] w fun e w' => e = .returned (.int .i64 r) ∧ Below w.heap.size w w' := by
  have hu33 := Try.underlying33
  have HR0_4 := Aside0.mk hr0_4
  have HC0_4 := Aside0.mk hc0_4
  clear hr0_4 hc0_4
  have HR0_5 := Aside0.mk hr0_5
  have HC0_5 := Aside0.mk hc0_5
  clear hr0_5 hc0_5
  have HB := Aside0.mk (Below.refl w.heap.size w)
  have H : (if a0_0 < 1 then (haymowref18_Wrong.j0 k true a0_0 a0_1 a0_2 a0_3 l0_4 l0_5) else (haymowref18_Wrong.j0 k (decide (a0_0 > 7)) a0_0 a0_1 a0_2 a0_3 l0_4 l0_5)) = some r := h
  clear h
  have HC2 := Aside0.mk H
  clear H
  go_enter Try.func11, Try.ntmps11
  go_upto_region 1 with (first | ((with_reducible refine gate_dst (N := 1) rfl ?_); (try (refine gate_guard (by rfl) ?_; dsimp only)); refine box_event ?hg (N := 1) ?hd (cs := #[.int .i64 a0_0, .int .i64 a0_1, .int .i64 a0_2, .int .i64 a0_3, .slice A0_4 l0_4.length c0_4, .slice A0_5 l0_5.length c0_5]) (t := 33) ?hr ?_; (case hd => rfl); (case hg => rfl); (case hr => first | (go_simp; done) | (go_simp; rfl)); intro gb118 hg w3 hbox hb; have n0_ := Aside0.mk (below_step (by repeat (first | (with_reducible first | exact HB.out | apply below_alloc | apply pw_below_drewN | apply below_drew1) | exact HB.out)) hb); have n1_ := Aside0.mk (hbox); have n2_ := Aside0.mk ((by rw [hg]; exact (below_size (by repeat (first | (with_reducible first | exact HB.out | apply below_alloc | apply pw_below_drewN | apply below_drew1) | exact HB.out))) : w.heap.size ≤ gb118)); have n3_ := Aside0.mk ((by rw [hg]; exact (below_size (by repeat (first | (with_reducible first | exact HB.out | apply below_alloc | apply pw_below_drewN | apply below_drew1) | exact HB.out))) : w.heap.size ≤ gb118)); clear HB; have HB := n0_; have BK118 := n1_; have GW118 := n2_; have GE118 := n3_; clear n0_ n1_ n2_ n3_; clear hb hbox hg))
  (try simp only [Act.put, List.setIfInBounds_toArray, List.set_cons_zero, List.set_cons_succ])
  go_cut [10] (fun v10 wc => ∃ (kq : Nat) (x10_1 : Bool), v10 = .bool x10_1 ∧ Aside0 (haymowref18_Wrong.j0 kq x10_1 a0_0 a0_1 a0_2 a0_3 l0_4 l0_5 = some r) ∧ Aside0 (kq ≤ k) ∧ Aside0 (wc.heap[gb118]? = some (.cells #[.int .i64 a0_0, .int .i64 a0_1, .int .i64 a0_2, .int .i64 a0_3, (.slice A0_4 l0_4.length c0_4), (.slice A0_5 l0_5.length c0_5)] 33 (0, 0))) ∧ Aside0 (Below w.heap.size w wc))
  case first =>
    have H := HC2.out
    clear HC2
    by_cases c4 : a0_0 < 1
    · rw [if_pos c4] at H
      have c4b0 : decide (a0_0 < 1) = true := decide_eq_true c4
      clear c4
      (first | rw [c4b0] | (simp only [i64_w, i32_w]; rw [c4b0]) | skip)
      have H' := Aside0.mk H
      clear H
      have hcz5_0 : w3.cell? ⟨gb118, 0, none⟩ = some (.int .i64 a0_0) := (blk_cell BK118.out 0).trans rfl
      have hcz5_1 : w3.cell? ⟨gb118, 1, none⟩ = some (.int .i64 a0_1) := (blk_cell BK118.out 1).trans rfl
      have hcz5_2 : w3.cell? ⟨gb118, 2, none⟩ = some (.int .i64 a0_2) := (blk_cell BK118.out 2).trans rfl
      have hcz5_3 : w3.cell? ⟨gb118, 3, none⟩ = some (.int .i64 a0_3) := (blk_cell BK118.out 3).trans rfl
      have hcz5_4 : w3.cell? ⟨gb118, 4, none⟩ = some (.slice A0_4 l0_4.length c0_4) := (blk_cell BK118.out 4).trans rfl
      have hcz5_5 : w3.cell? ⟨gb118, 5, none⟩ = some (.slice A0_5 l0_5.length c0_5) := (blk_cell BK118.out 5).trans rfl
      have hfz5_0 := blk_frozen BK118.out 0
      have hfz5_1 := blk_frozen BK118.out 1
      have hfz5_2 := blk_frozen BK118.out 2
      have hfz5_3 := blk_frozen BK118.out 3
      have hfz5_4 := blk_frozen BK118.out 4
      have hfz5_5 := blk_frozen BK118.out 5
      go_wp2
      go_meet
      case rel => exact ⟨_, (true), (by first | rfl | (simp; done) | (simp [*]; done)), H', ⟨by first | omega | exact Nat.le_refl _⟩, ⟨by (with_reducible repeat (first | refine blk_drewN ?_ _ | refine blk_drew ?_ | refine blk_alloc ?_ _)); exact BK118.out⟩, ⟨by repeat (first | (with_reducible first | exact HB.out | apply below_alloc | apply pw_below_drewN | apply below_drew1 | refine below_set ?_ GE118.out) | exact HB.out)⟩⟩
    · rw [if_neg c4] at H
      have c4b0 : decide (a0_0 < 1) = false := decide_eq_false c4
      clear c4
      (first | rw [c4b0] | (simp only [i64_w, i32_w]; rw [c4b0]) | skip)
      have H' := Aside0.mk H
      clear H
      have hcz6_0 : w3.cell? ⟨gb118, 0, none⟩ = some (.int .i64 a0_0) := (blk_cell BK118.out 0).trans rfl
      have hcz6_1 : w3.cell? ⟨gb118, 1, none⟩ = some (.int .i64 a0_1) := (blk_cell BK118.out 1).trans rfl
      have hcz6_2 : w3.cell? ⟨gb118, 2, none⟩ = some (.int .i64 a0_2) := (blk_cell BK118.out 2).trans rfl
      have hcz6_3 : w3.cell? ⟨gb118, 3, none⟩ = some (.int .i64 a0_3) := (blk_cell BK118.out 3).trans rfl
      have hcz6_4 : w3.cell? ⟨gb118, 4, none⟩ = some (.slice A0_4 l0_4.length c0_4) := (blk_cell BK118.out 4).trans rfl
      have hcz6_5 : w3.cell? ⟨gb118, 5, none⟩ = some (.slice A0_5 l0_5.length c0_5) := (blk_cell BK118.out 5).trans rfl
      have hfz6_0 := blk_frozen BK118.out 0
      have hfz6_1 := blk_frozen BK118.out 1
      have hfz6_2 := blk_frozen BK118.out 2
      have hfz6_3 := blk_frozen BK118.out 3
      have hfz6_4 := blk_frozen BK118.out 4
      have hfz6_5 := blk_frozen BK118.out 5
      go_wp2
      go_meet
      case rel => exact ⟨_, (decide (a0_0 > 7)), (by first | rfl | (simp; done) | (simp [*]; done)), H', ⟨by first | omega | exact Nat.le_refl _⟩, ⟨by (with_reducible repeat (first | refine blk_drewN ?_ _ | refine blk_drew ?_ | refine blk_alloc ?_ _)); exact BK118.out⟩, ⟨by repeat (first | (with_reducible first | exact HB.out | apply below_alloc | apply pw_below_drewN | apply below_drew1 | refine below_set ?_ GE118.out) | exact HB.out)⟩⟩
  case rest =>
    clear HC2
    try clear c1
    try clear p2
    try clear c4
    try clear c4b0
    try clear hcz5_0
    try clear hcz5_1
    try clear hcz5_2
    try clear hcz5_3
    try clear hcz5_4
    try clear hcz5_5
    try clear hcz6_0
    try clear hcz6_1
    try clear hcz6_2
    try clear hcz6_3
    try clear hcz6_4
    try clear hcz6_5
    try clear hfz5_0
    try clear hfz5_1
    try clear hfz5_2
    try clear hfz5_3
    try clear hfz5_4
    try clear hfz5_5
    try clear hfz6_0
    try clear hfz6_1
    try clear hfz6_2
    try clear hfz6_3
    try clear hfz6_4
    try clear hfz6_5
    obtain ⟨kq, x10_1, rfl, HA, HJ1, BK118, HB⟩ := hcut
    cases kq with
    | zero => exact absurd HA.out (by simp [haymowref18_Wrong.j0])
    | succ kj1 =>
      have H := HA.out
      clear HA
      simp only [haymowref18_Wrong.j0] at H
      by_cases c7 : x10_1 = true
      · subst c7
        have H1 : (some 4) = some r := by rw [if_pos rfl] at H; exact H
        clear H
        have H := H1
        clear H1
        obtain rfl := Option.some.inj H
        go_wp2
        go_ret
        exact ⟨by first | rfl | (simp [errW_none, errW_some] <;> rfl) | (simp [*, errW_none, errW_some] <;> rfl), by repeat (first | (with_reducible first | exact HB.out | apply below_alloc | apply pw_below_drewN | apply below_drew1 | refine below_set ?_ GE118.out) | exact HB.out)⟩
      · replace c7 := Bool.eq_false_iff.mpr c7
        subst c7
        have H1 : (if a0_0 = 1 then (if a0_0 = 2 then (if a0_0 = 3 then (haymowref18_Wrong.j1 kj1 false a0_0 a0_1 a0_2 a0_3 l0_4 l0_5) else (if a0_0 = 4 then (haymowref18_Wrong.j1 kj1 false a0_0 a0_1 a0_2 a0_3 l0_4 l0_5) else (if a0_0 = 7 then (haymowref18_Wrong.j1 kj1 false a0_0 a0_1 a0_2 a0_3 l0_4 l0_5) else (haymowref18_Wrong.j1 kj1 (a0_3 != 0) a0_0 a0_1 a0_2 a0_3 l0_4 l0_5)))) else (if (l0_4.length : Int) > 0 then (haymowref18_Wrong.j1 kj1 true a0_0 a0_1 a0_2 a0_3 l0_4 l0_5) else (if (l0_5.length : Int) > 0 then (haymowref18_Wrong.j1 kj1 true a0_0 a0_1 a0_2 a0_3 l0_4 l0_5) else (if a0_0 = 3 then (haymowref18_Wrong.j1 kj1 false a0_0 a0_1 a0_2 a0_3 l0_4 l0_5) else (if a0_0 = 4 then (haymowref18_Wrong.j1 kj1 false a0_0 a0_1 a0_2 a0_3 l0_4 l0_5) else (if a0_0 = 7 then (haymowref18_Wrong.j1 kj1 false a0_0 a0_1 a0_2 a0_3 l0_4 l0_5) else (haymowref18_Wrong.j1 kj1 (a0_3 != 0) a0_0 a0_1 a0_2 a0_3 l0_4 l0_5))))))) else (if a0_1 = 0 then (if a0_2 = 0 then (if a0_0 = 2 then (if a0_0 = 3 then (haymowref18_Wrong.j1 kj1 false a0_0 a0_1 a0_2 a0_3 l0_4 l0_5) else (if a0_0 = 4 then (haymowref18_Wrong.j1 kj1 false a0_0 a0_1 a0_2 a0_3 l0_4 l0_5) else (if a0_0 = 7 then (haymowref18_Wrong.j1 kj1 false a0_0 a0_1 a0_2 a0_3 l0_4 l0_5) else (haymowref18_Wrong.j1 kj1 (a0_3 != 0) a0_0 a0_1 a0_2 a0_3 l0_4 l0_5)))) else (if (l0_4.length : Int) > 0 then (haymowref18_Wrong.j1 kj1 true a0_0 a0_1 a0_2 a0_3 l0_4 l0_5) else (if (l0_5.length : Int) > 0 then (haymowref18_Wrong.j1 kj1 true a0_0 a0_1 a0_2 a0_3 l0_4 l0_5) else (if a0_0 = 3 then (haymowref18_Wrong.j1 kj1 false a0_0 a0_1 a0_2 a0_3 l0_4 l0_5) else (if a0_0 = 4 then (haymowref18_Wrong.j1 kj1 false a0_0 a0_1 a0_2 a0_3 l0_4 l0_5) else (if a0_0 = 7 then (haymowref18_Wrong.j1 kj1 false a0_0 a0_1 a0_2 a0_3 l0_4 l0_5) else (haymowref18_Wrong.j1 kj1 (a0_3 != 0) a0_0 a0_1 a0_2 a0_3 l0_4 l0_5))))))) else (haymowref18_Wrong.j1 kj1 true a0_0 a0_1 a0_2 a0_3 l0_4 l0_5)) else (haymowref18_Wrong.j1 kj1 true a0_0 a0_1 a0_2 a0_3 l0_4 l0_5))) = some r := by rw [if_neg (show ¬ (false = true) by decide)] at H; exact H
        clear H
        have H := H1
        clear H1
        have HC8 := Aside0.mk H
        clear H
        go_upto_region 3 with (fail)
        go_cut [60] (fun v60 wc => ∃ (kq : Nat) (x60_7 : Bool), v60 = .bool x60_7 ∧ Aside0 (haymowref18_Wrong.j1 kq x60_7 a0_0 a0_1 a0_2 a0_3 l0_4 l0_5 = some r) ∧ Aside0 (kq ≤ kj1) ∧ Aside0 (wc.heap[gb118]? = some (.cells #[.int .i64 a0_0, .int .i64 a0_1, .int .i64 a0_2, .int .i64 a0_3, (.slice A0_4 l0_4.length c0_4), (.slice A0_5 l0_5.length c0_5)] 33 (0, 0))) ∧ Aside0 (Below w.heap.size w wc))
        case first =>
          have H := HC8.out
          clear HC8
          by_cases c9 : a0_0 = 1
          · rw [if_pos c9] at H
            have c9b0 : (a0_0 == 1) = true := beq_iff_eq.mpr c9
            have c9b1 : (a0_0 != 1) = false := bne_eq_false_iff_eq.mpr c9
            clear c9
            (first | rw [c9b0] | (simp only [i64_w, i32_w]; rw [c9b0]) | skip)
            by_cases c10 : a0_0 = 2
            · rw [if_pos c10] at H
              have c10b0 : (a0_0 == 2) = true := beq_iff_eq.mpr c10
              have c10b1 : (a0_0 != 2) = false := bne_eq_false_iff_eq.mpr c10
              clear c10
              by_cases c11 : a0_0 = 3
              · rw [if_pos c11] at H
                have c11b0 : (a0_0 == 3) = true := beq_iff_eq.mpr c11
                have c11b1 : (a0_0 != 3) = false := bne_eq_false_iff_eq.mpr c11
                clear c11
                have H' := Aside0.mk H
                clear H
                have hcz12_0 : wc.cell? ⟨gb118, 0, none⟩ = some (.int .i64 a0_0) := (blk_cell BK118.out 0).trans rfl
                have hcz12_1 : wc.cell? ⟨gb118, 1, none⟩ = some (.int .i64 a0_1) := (blk_cell BK118.out 1).trans rfl
                have hcz12_2 : wc.cell? ⟨gb118, 2, none⟩ = some (.int .i64 a0_2) := (blk_cell BK118.out 2).trans rfl
                have hcz12_3 : wc.cell? ⟨gb118, 3, none⟩ = some (.int .i64 a0_3) := (blk_cell BK118.out 3).trans rfl
                have hcz12_4 : wc.cell? ⟨gb118, 4, none⟩ = some (.slice A0_4 l0_4.length c0_4) := (blk_cell BK118.out 4).trans rfl
                have hcz12_5 : wc.cell? ⟨gb118, 5, none⟩ = some (.slice A0_5 l0_5.length c0_5) := (blk_cell BK118.out 5).trans rfl
                have hfz12_0 := blk_frozen BK118.out 0
                have hfz12_1 := blk_frozen BK118.out 1
                have hfz12_2 := blk_frozen BK118.out 2
                have hfz12_3 := blk_frozen BK118.out 3
                have hfz12_4 := blk_frozen BK118.out 4
                have hfz12_5 := blk_frozen BK118.out 5
                go_wp2
                go_meet
                case rel => exact ⟨_, (false), (by first | rfl | (simp; done) | (simp [*]; done)), H', ⟨by have := HJ1.out; first | omega | exact Nat.le_refl _⟩, ⟨by (with_reducible repeat (first | refine blk_drewN ?_ _ | refine blk_drew ?_ | refine blk_alloc ?_ _)); exact BK118.out⟩, ⟨by repeat (first | (with_reducible first | exact HB.out | apply below_alloc | apply pw_below_drewN | apply below_drew1 | refine below_set ?_ GE118.out) | exact HB.out)⟩⟩
              · rw [if_neg c11] at H
                have c11b0 : (a0_0 == 3) = false := beq_eq_false_iff_ne.mpr c11
                have c11b1 : (a0_0 != 3) = true := bne_iff_ne.mpr c11
                by_cases c13 : a0_0 = 4
                · rw [if_pos c13] at H
                  have c13b0 : (a0_0 == 4) = true := beq_iff_eq.mpr c13
                  have c13b1 : (a0_0 != 4) = false := bne_eq_false_iff_eq.mpr c13
                  clear c13
                  have H' := Aside0.mk H
                  clear H
                  have hcz14_0 : wc.cell? ⟨gb118, 0, none⟩ = some (.int .i64 a0_0) := (blk_cell BK118.out 0).trans rfl
                  have hcz14_1 : wc.cell? ⟨gb118, 1, none⟩ = some (.int .i64 a0_1) := (blk_cell BK118.out 1).trans rfl
                  have hcz14_2 : wc.cell? ⟨gb118, 2, none⟩ = some (.int .i64 a0_2) := (blk_cell BK118.out 2).trans rfl
                  have hcz14_3 : wc.cell? ⟨gb118, 3, none⟩ = some (.int .i64 a0_3) := (blk_cell BK118.out 3).trans rfl
                  have hcz14_4 : wc.cell? ⟨gb118, 4, none⟩ = some (.slice A0_4 l0_4.length c0_4) := (blk_cell BK118.out 4).trans rfl
                  have hcz14_5 : wc.cell? ⟨gb118, 5, none⟩ = some (.slice A0_5 l0_5.length c0_5) := (blk_cell BK118.out 5).trans rfl
                  have hfz14_0 := blk_frozen BK118.out 0
                  have hfz14_1 := blk_frozen BK118.out 1
                  have hfz14_2 := blk_frozen BK118.out 2
                  have hfz14_3 := blk_frozen BK118.out 3
                  have hfz14_4 := blk_frozen BK118.out 4
                  have hfz14_5 := blk_frozen BK118.out 5
                  go_wp2
                  go_meet
                  case rel => exact ⟨_, (false), (by first | rfl | (simp; done) | (simp [*]; done)), H', ⟨by have := HJ1.out; first | omega | exact Nat.le_refl _⟩, ⟨by (with_reducible repeat (first | refine blk_drewN ?_ _ | refine blk_drew ?_ | refine blk_alloc ?_ _)); exact BK118.out⟩, ⟨by repeat (first | (with_reducible first | exact HB.out | apply below_alloc | apply pw_below_drewN | apply below_drew1 | refine below_set ?_ GE118.out) | exact HB.out)⟩⟩
                · rw [if_neg c13] at H
                  have c13b0 : (a0_0 == 4) = false := beq_eq_false_iff_ne.mpr c13
                  have c13b1 : (a0_0 != 4) = true := bne_iff_ne.mpr c13
                  by_cases c15 : a0_0 = 7
                  · rw [if_pos c15] at H
                    have c15b0 : (a0_0 == 7) = true := beq_iff_eq.mpr c15
                    have c15b1 : (a0_0 != 7) = false := bne_eq_false_iff_eq.mpr c15
                    clear c15
                    have H' := Aside0.mk H
                    clear H
                    have hcz16_0 : wc.cell? ⟨gb118, 0, none⟩ = some (.int .i64 a0_0) := (blk_cell BK118.out 0).trans rfl
                    have hcz16_1 : wc.cell? ⟨gb118, 1, none⟩ = some (.int .i64 a0_1) := (blk_cell BK118.out 1).trans rfl
                    have hcz16_2 : wc.cell? ⟨gb118, 2, none⟩ = some (.int .i64 a0_2) := (blk_cell BK118.out 2).trans rfl
                    have hcz16_3 : wc.cell? ⟨gb118, 3, none⟩ = some (.int .i64 a0_3) := (blk_cell BK118.out 3).trans rfl
                    have hcz16_4 : wc.cell? ⟨gb118, 4, none⟩ = some (.slice A0_4 l0_4.length c0_4) := (blk_cell BK118.out 4).trans rfl
                    have hcz16_5 : wc.cell? ⟨gb118, 5, none⟩ = some (.slice A0_5 l0_5.length c0_5) := (blk_cell BK118.out 5).trans rfl
                    have hfz16_0 := blk_frozen BK118.out 0
                    have hfz16_1 := blk_frozen BK118.out 1
                    have hfz16_2 := blk_frozen BK118.out 2
                    have hfz16_3 := blk_frozen BK118.out 3
                    have hfz16_4 := blk_frozen BK118.out 4
                    have hfz16_5 := blk_frozen BK118.out 5
                    go_wp2
                    go_meet
                    case rel => exact ⟨_, (false), (by first | rfl | (simp; done) | (simp [*]; done)), H', ⟨by have := HJ1.out; first | omega | exact Nat.le_refl _⟩, ⟨by (with_reducible repeat (first | refine blk_drewN ?_ _ | refine blk_drew ?_ | refine blk_alloc ?_ _)); exact BK118.out⟩, ⟨by repeat (first | (with_reducible first | exact HB.out | apply below_alloc | apply pw_below_drewN | apply below_drew1 | refine below_set ?_ GE118.out) | exact HB.out)⟩⟩
                  · rw [if_neg c15] at H
                    have c15b0 : (a0_0 == 7) = false := beq_eq_false_iff_ne.mpr c15
                    have c15b1 : (a0_0 != 7) = true := bne_iff_ne.mpr c15
                    have H' := Aside0.mk H
                    clear H
                    have hcz17_0 : wc.cell? ⟨gb118, 0, none⟩ = some (.int .i64 a0_0) := (blk_cell BK118.out 0).trans rfl
                    have hcz17_1 : wc.cell? ⟨gb118, 1, none⟩ = some (.int .i64 a0_1) := (blk_cell BK118.out 1).trans rfl
                    have hcz17_2 : wc.cell? ⟨gb118, 2, none⟩ = some (.int .i64 a0_2) := (blk_cell BK118.out 2).trans rfl
                    have hcz17_3 : wc.cell? ⟨gb118, 3, none⟩ = some (.int .i64 a0_3) := (blk_cell BK118.out 3).trans rfl
                    have hcz17_4 : wc.cell? ⟨gb118, 4, none⟩ = some (.slice A0_4 l0_4.length c0_4) := (blk_cell BK118.out 4).trans rfl
                    have hcz17_5 : wc.cell? ⟨gb118, 5, none⟩ = some (.slice A0_5 l0_5.length c0_5) := (blk_cell BK118.out 5).trans rfl
                    have hfz17_0 := blk_frozen BK118.out 0
                    have hfz17_1 := blk_frozen BK118.out 1
                    have hfz17_2 := blk_frozen BK118.out 2
                    have hfz17_3 := blk_frozen BK118.out 3
                    have hfz17_4 := blk_frozen BK118.out 4
                    have hfz17_5 := blk_frozen BK118.out 5
                    go_wp2
                    go_meet
                    case rel => exact ⟨_, ((a0_3 != 0)), (by first | rfl | (simp; done) | (simp [*]; done)), H', ⟨by have := HJ1.out; first | omega | exact Nat.le_refl _⟩, ⟨by (with_reducible repeat (first | refine blk_drewN ?_ _ | refine blk_drew ?_ | refine blk_alloc ?_ _)); exact BK118.out⟩, ⟨by repeat (first | (with_reducible first | exact HB.out | apply below_alloc | apply pw_below_drewN | apply below_drew1 | refine below_set ?_ GE118.out) | exact HB.out)⟩⟩
            · rw [if_neg c10] at H
              have c10b0 : (a0_0 == 2) = false := beq_eq_false_iff_ne.mpr c10
              have c10b1 : (a0_0 != 2) = true := bne_iff_ne.mpr c10
              by_cases c18 : (l0_4.length : Int) > 0
              · rw [if_pos c18] at H
                have c18b0 : decide (0 < (l0_4.length : Int)) = true := decide_eq_true c18
                have c18b1 : decide (0 < l0_4.length) = true := decide_eq_true (by omega)
                clear c18
                have H' := Aside0.mk H
                clear H
                have hcz19_0 : wc.cell? ⟨gb118, 0, none⟩ = some (.int .i64 a0_0) := (blk_cell BK118.out 0).trans rfl
                have hcz19_1 : wc.cell? ⟨gb118, 1, none⟩ = some (.int .i64 a0_1) := (blk_cell BK118.out 1).trans rfl
                have hcz19_2 : wc.cell? ⟨gb118, 2, none⟩ = some (.int .i64 a0_2) := (blk_cell BK118.out 2).trans rfl
                have hcz19_3 : wc.cell? ⟨gb118, 3, none⟩ = some (.int .i64 a0_3) := (blk_cell BK118.out 3).trans rfl
                have hcz19_4 : wc.cell? ⟨gb118, 4, none⟩ = some (.slice A0_4 l0_4.length c0_4) := (blk_cell BK118.out 4).trans rfl
                have hcz19_5 : wc.cell? ⟨gb118, 5, none⟩ = some (.slice A0_5 l0_5.length c0_5) := (blk_cell BK118.out 5).trans rfl
                have hfz19_0 := blk_frozen BK118.out 0
                have hfz19_1 := blk_frozen BK118.out 1
                have hfz19_2 := blk_frozen BK118.out 2
                have hfz19_3 := blk_frozen BK118.out 3
                have hfz19_4 := blk_frozen BK118.out 4
                have hfz19_5 := blk_frozen BK118.out 5
                go_wp2
                go_meet
                case rel => exact ⟨_, (true), (by first | rfl | (simp; done) | (simp [*]; done)), H', ⟨by have := HJ1.out; first | omega | exact Nat.le_refl _⟩, ⟨by (with_reducible repeat (first | refine blk_drewN ?_ _ | refine blk_drew ?_ | refine blk_alloc ?_ _)); exact BK118.out⟩, ⟨by repeat (first | (with_reducible first | exact HB.out | apply below_alloc | apply pw_below_drewN | apply below_drew1 | refine below_set ?_ GE118.out) | exact HB.out)⟩⟩
              · rw [if_neg c18] at H
                have c18b0 : decide (0 < (l0_4.length : Int)) = false := decide_eq_false c18
                have c18b1 : decide (0 < l0_4.length) = false := decide_eq_false (by omega)
                clear c18
                by_cases c20 : (l0_5.length : Int) > 0
                · rw [if_pos c20] at H
                  have c20b0 : decide (0 < (l0_5.length : Int)) = true := decide_eq_true c20
                  have c20b1 : decide (0 < l0_5.length) = true := decide_eq_true (by omega)
                  clear c20
                  have H' := Aside0.mk H
                  clear H
                  have hcz21_0 : wc.cell? ⟨gb118, 0, none⟩ = some (.int .i64 a0_0) := (blk_cell BK118.out 0).trans rfl
                  have hcz21_1 : wc.cell? ⟨gb118, 1, none⟩ = some (.int .i64 a0_1) := (blk_cell BK118.out 1).trans rfl
                  have hcz21_2 : wc.cell? ⟨gb118, 2, none⟩ = some (.int .i64 a0_2) := (blk_cell BK118.out 2).trans rfl
                  have hcz21_3 : wc.cell? ⟨gb118, 3, none⟩ = some (.int .i64 a0_3) := (blk_cell BK118.out 3).trans rfl
                  have hcz21_4 : wc.cell? ⟨gb118, 4, none⟩ = some (.slice A0_4 l0_4.length c0_4) := (blk_cell BK118.out 4).trans rfl
                  have hcz21_5 : wc.cell? ⟨gb118, 5, none⟩ = some (.slice A0_5 l0_5.length c0_5) := (blk_cell BK118.out 5).trans rfl
                  have hfz21_0 := blk_frozen BK118.out 0
                  have hfz21_1 := blk_frozen BK118.out 1
                  have hfz21_2 := blk_frozen BK118.out 2
                  have hfz21_3 := blk_frozen BK118.out 3
                  have hfz21_4 := blk_frozen BK118.out 4
                  have hfz21_5 := blk_frozen BK118.out 5
                  go_wp2
                  go_meet
                  case rel => exact ⟨_, (true), (by first | rfl | (simp; done) | (simp [*]; done)), H', ⟨by have := HJ1.out; first | omega | exact Nat.le_refl _⟩, ⟨by (with_reducible repeat (first | refine blk_drewN ?_ _ | refine blk_drew ?_ | refine blk_alloc ?_ _)); exact BK118.out⟩, ⟨by repeat (first | (with_reducible first | exact HB.out | apply below_alloc | apply pw_below_drewN | apply below_drew1 | refine below_set ?_ GE118.out) | exact HB.out)⟩⟩
                · rw [if_neg c20] at H
                  have c20b0 : decide (0 < (l0_5.length : Int)) = false := decide_eq_false c20
                  have c20b1 : decide (0 < l0_5.length) = false := decide_eq_false (by omega)
                  clear c20
                  by_cases c22 : a0_0 = 3
                  · rw [if_pos c22] at H
                    have c22b0 : (a0_0 == 3) = true := beq_iff_eq.mpr c22
                    have c22b1 : (a0_0 != 3) = false := bne_eq_false_iff_eq.mpr c22
                    clear c22
                    have H' := Aside0.mk H
                    clear H
                    have hcz23_0 : wc.cell? ⟨gb118, 0, none⟩ = some (.int .i64 a0_0) := (blk_cell BK118.out 0).trans rfl
                    have hcz23_1 : wc.cell? ⟨gb118, 1, none⟩ = some (.int .i64 a0_1) := (blk_cell BK118.out 1).trans rfl
                    have hcz23_2 : wc.cell? ⟨gb118, 2, none⟩ = some (.int .i64 a0_2) := (blk_cell BK118.out 2).trans rfl
                    have hcz23_3 : wc.cell? ⟨gb118, 3, none⟩ = some (.int .i64 a0_3) := (blk_cell BK118.out 3).trans rfl
                    have hcz23_4 : wc.cell? ⟨gb118, 4, none⟩ = some (.slice A0_4 l0_4.length c0_4) := (blk_cell BK118.out 4).trans rfl
                    have hcz23_5 : wc.cell? ⟨gb118, 5, none⟩ = some (.slice A0_5 l0_5.length c0_5) := (blk_cell BK118.out 5).trans rfl
                    have hfz23_0 := blk_frozen BK118.out 0
                    have hfz23_1 := blk_frozen BK118.out 1
                    have hfz23_2 := blk_frozen BK118.out 2
                    have hfz23_3 := blk_frozen BK118.out 3
                    have hfz23_4 := blk_frozen BK118.out 4
                    have hfz23_5 := blk_frozen BK118.out 5
                    go_wp2
                    go_meet
                    case rel => exact ⟨_, (false), (by first | rfl | (simp; done) | (simp [*]; done)), H', ⟨by have := HJ1.out; first | omega | exact Nat.le_refl _⟩, ⟨by (with_reducible repeat (first | refine blk_drewN ?_ _ | refine blk_drew ?_ | refine blk_alloc ?_ _)); exact BK118.out⟩, ⟨by repeat (first | (with_reducible first | exact HB.out | apply below_alloc | apply pw_below_drewN | apply below_drew1 | refine below_set ?_ GE118.out) | exact HB.out)⟩⟩
                  · rw [if_neg c22] at H
                    have c22b0 : (a0_0 == 3) = false := beq_eq_false_iff_ne.mpr c22
                    have c22b1 : (a0_0 != 3) = true := bne_iff_ne.mpr c22
                    by_cases c24 : a0_0 = 4
                    · rw [if_pos c24] at H
                      have c24b0 : (a0_0 == 4) = true := beq_iff_eq.mpr c24
                      have c24b1 : (a0_0 != 4) = false := bne_eq_false_iff_eq.mpr c24
                      clear c24
                      have H' := Aside0.mk H
                      clear H
                      have hcz25_0 : wc.cell? ⟨gb118, 0, none⟩ = some (.int .i64 a0_0) := (blk_cell BK118.out 0).trans rfl
                      have hcz25_1 : wc.cell? ⟨gb118, 1, none⟩ = some (.int .i64 a0_1) := (blk_cell BK118.out 1).trans rfl
                      have hcz25_2 : wc.cell? ⟨gb118, 2, none⟩ = some (.int .i64 a0_2) := (blk_cell BK118.out 2).trans rfl
                      have hcz25_3 : wc.cell? ⟨gb118, 3, none⟩ = some (.int .i64 a0_3) := (blk_cell BK118.out 3).trans rfl
                      have hcz25_4 : wc.cell? ⟨gb118, 4, none⟩ = some (.slice A0_4 l0_4.length c0_4) := (blk_cell BK118.out 4).trans rfl
                      have hcz25_5 : wc.cell? ⟨gb118, 5, none⟩ = some (.slice A0_5 l0_5.length c0_5) := (blk_cell BK118.out 5).trans rfl
                      have hfz25_0 := blk_frozen BK118.out 0
                      have hfz25_1 := blk_frozen BK118.out 1
                      have hfz25_2 := blk_frozen BK118.out 2
                      have hfz25_3 := blk_frozen BK118.out 3
                      have hfz25_4 := blk_frozen BK118.out 4
                      have hfz25_5 := blk_frozen BK118.out 5
                      go_wp2
                      go_meet
                      case rel => exact ⟨_, (false), (by first | rfl | (simp; done) | (simp [*]; done)), H', ⟨by have := HJ1.out; first | omega | exact Nat.le_refl _⟩, ⟨by (with_reducible repeat (first | refine blk_drewN ?_ _ | refine blk_drew ?_ | refine blk_alloc ?_ _)); exact BK118.out⟩, ⟨by repeat (first | (with_reducible first | exact HB.out | apply below_alloc | apply pw_below_drewN | apply below_drew1 | refine below_set ?_ GE118.out) | exact HB.out)⟩⟩
                    · rw [if_neg c24] at H
                      have c24b0 : (a0_0 == 4) = false := beq_eq_false_iff_ne.mpr c24
                      have c24b1 : (a0_0 != 4) = true := bne_iff_ne.mpr c24
                      by_cases c26 : a0_0 = 7
                      · rw [if_pos c26] at H
                        have c26b0 : (a0_0 == 7) = true := beq_iff_eq.mpr c26
                        have c26b1 : (a0_0 != 7) = false := bne_eq_false_iff_eq.mpr c26
                        clear c26
                        have H' := Aside0.mk H
                        clear H
                        have hcz27_0 : wc.cell? ⟨gb118, 0, none⟩ = some (.int .i64 a0_0) := (blk_cell BK118.out 0).trans rfl
                        have hcz27_1 : wc.cell? ⟨gb118, 1, none⟩ = some (.int .i64 a0_1) := (blk_cell BK118.out 1).trans rfl
                        have hcz27_2 : wc.cell? ⟨gb118, 2, none⟩ = some (.int .i64 a0_2) := (blk_cell BK118.out 2).trans rfl
                        have hcz27_3 : wc.cell? ⟨gb118, 3, none⟩ = some (.int .i64 a0_3) := (blk_cell BK118.out 3).trans rfl
                        have hcz27_4 : wc.cell? ⟨gb118, 4, none⟩ = some (.slice A0_4 l0_4.length c0_4) := (blk_cell BK118.out 4).trans rfl
                        have hcz27_5 : wc.cell? ⟨gb118, 5, none⟩ = some (.slice A0_5 l0_5.length c0_5) := (blk_cell BK118.out 5).trans rfl
                        have hfz27_0 := blk_frozen BK118.out 0
                        have hfz27_1 := blk_frozen BK118.out 1
                        have hfz27_2 := blk_frozen BK118.out 2
                        have hfz27_3 := blk_frozen BK118.out 3
                        have hfz27_4 := blk_frozen BK118.out 4
                        have hfz27_5 := blk_frozen BK118.out 5
                        go_wp2
                        go_meet
                        case rel => exact ⟨_, (false), (by first | rfl | (simp; done) | (simp [*]; done)), H', ⟨by have := HJ1.out; first | omega | exact Nat.le_refl _⟩, ⟨by (with_reducible repeat (first | refine blk_drewN ?_ _ | refine blk_drew ?_ | refine blk_alloc ?_ _)); exact BK118.out⟩, ⟨by repeat (first | (with_reducible first | exact HB.out | apply below_alloc | apply pw_below_drewN | apply below_drew1 | refine below_set ?_ GE118.out) | exact HB.out)⟩⟩
                      · rw [if_neg c26] at H
                        have c26b0 : (a0_0 == 7) = false := beq_eq_false_iff_ne.mpr c26
                        have c26b1 : (a0_0 != 7) = true := bne_iff_ne.mpr c26
                        have H' := Aside0.mk H
                        clear H
                        have hcz28_0 : wc.cell? ⟨gb118, 0, none⟩ = some (.int .i64 a0_0) := (blk_cell BK118.out 0).trans rfl
                        have hcz28_1 : wc.cell? ⟨gb118, 1, none⟩ = some (.int .i64 a0_1) := (blk_cell BK118.out 1).trans rfl
                        have hcz28_2 : wc.cell? ⟨gb118, 2, none⟩ = some (.int .i64 a0_2) := (blk_cell BK118.out 2).trans rfl
                        have hcz28_3 : wc.cell? ⟨gb118, 3, none⟩ = some (.int .i64 a0_3) := (blk_cell BK118.out 3).trans rfl
                        have hcz28_4 : wc.cell? ⟨gb118, 4, none⟩ = some (.slice A0_4 l0_4.length c0_4) := (blk_cell BK118.out 4).trans rfl
                        have hcz28_5 : wc.cell? ⟨gb118, 5, none⟩ = some (.slice A0_5 l0_5.length c0_5) := (blk_cell BK118.out 5).trans rfl
                        have hfz28_0 := blk_frozen BK118.out 0
                        have hfz28_1 := blk_frozen BK118.out 1
                        have hfz28_2 := blk_frozen BK118.out 2
                        have hfz28_3 := blk_frozen BK118.out 3
                        have hfz28_4 := blk_frozen BK118.out 4
                        have hfz28_5 := blk_frozen BK118.out 5
                        go_wp2
                        go_meet
                        case rel => exact ⟨_, ((a0_3 != 0)), (by first | rfl | (simp; done) | (simp [*]; done)), H', ⟨by have := HJ1.out; first | omega | exact Nat.le_refl _⟩, ⟨by (with_reducible repeat (first | refine blk_drewN ?_ _ | refine blk_drew ?_ | refine blk_alloc ?_ _)); exact BK118.out⟩, ⟨by repeat (first | (with_reducible first | exact HB.out | apply below_alloc | apply pw_below_drewN | apply below_drew1 | refine below_set ?_ GE118.out) | exact HB.out)⟩⟩
          · rw [if_neg c9] at H
            have c9b0 : (a0_0 == 1) = false := beq_eq_false_iff_ne.mpr c9
            have c9b1 : (a0_0 != 1) = true := bne_iff_ne.mpr c9
            (first | rw [c9b0] | (simp only [i64_w, i32_w]; rw [c9b0]) | skip)
            by_cases c29 : a0_1 = 0
            · rw [if_pos c29] at H
              have c29b0 : (a0_1 == 0) = true := beq_iff_eq.mpr c29
              have c29b1 : (a0_1 != 0) = false := bne_eq_false_iff_eq.mpr c29
              clear c29
              by_cases c30 : a0_2 = 0
              · rw [if_pos c30] at H
                have c30b0 : (a0_2 == 0) = true := beq_iff_eq.mpr c30
                have c30b1 : (a0_2 != 0) = false := bne_eq_false_iff_eq.mpr c30
                clear c30
                by_cases c31 : a0_0 = 2
                · rw [if_pos c31] at H
                  have c31b0 : (a0_0 == 2) = true := beq_iff_eq.mpr c31
                  have c31b1 : (a0_0 != 2) = false := bne_eq_false_iff_eq.mpr c31
                  clear c31
                  by_cases c32 : a0_0 = 3
                  · rw [if_pos c32] at H
                    have c32b0 : (a0_0 == 3) = true := beq_iff_eq.mpr c32
                    have c32b1 : (a0_0 != 3) = false := bne_eq_false_iff_eq.mpr c32
                    clear c32
                    have H' := Aside0.mk H
                    clear H
                    have hcz33_0 : wc.cell? ⟨gb118, 0, none⟩ = some (.int .i64 a0_0) := (blk_cell BK118.out 0).trans rfl
                    have hcz33_1 : wc.cell? ⟨gb118, 1, none⟩ = some (.int .i64 a0_1) := (blk_cell BK118.out 1).trans rfl
                    have hcz33_2 : wc.cell? ⟨gb118, 2, none⟩ = some (.int .i64 a0_2) := (blk_cell BK118.out 2).trans rfl
                    have hcz33_3 : wc.cell? ⟨gb118, 3, none⟩ = some (.int .i64 a0_3) := (blk_cell BK118.out 3).trans rfl
                    have hcz33_4 : wc.cell? ⟨gb118, 4, none⟩ = some (.slice A0_4 l0_4.length c0_4) := (blk_cell BK118.out 4).trans rfl
                    have hcz33_5 : wc.cell? ⟨gb118, 5, none⟩ = some (.slice A0_5 l0_5.length c0_5) := (blk_cell BK118.out 5).trans rfl
                    have hfz33_0 := blk_frozen BK118.out 0
                    have hfz33_1 := blk_frozen BK118.out 1
                    have hfz33_2 := blk_frozen BK118.out 2
                    have hfz33_3 := blk_frozen BK118.out 3
                    have hfz33_4 := blk_frozen BK118.out 4
                    have hfz33_5 := blk_frozen BK118.out 5
                    go_wp2
                    go_meet
                    case rel => exact ⟨_, (false), (by first | rfl | (simp; done) | (simp [*]; done)), H', ⟨by have := HJ1.out; first | omega | exact Nat.le_refl _⟩, ⟨by (with_reducible repeat (first | refine blk_drewN ?_ _ | refine blk_drew ?_ | refine blk_alloc ?_ _)); exact BK118.out⟩, ⟨by repeat (first | (with_reducible first | exact HB.out | apply below_alloc | apply pw_below_drewN | apply below_drew1 | refine below_set ?_ GE118.out) | exact HB.out)⟩⟩
                  · rw [if_neg c32] at H
                    have c32b0 : (a0_0 == 3) = false := beq_eq_false_iff_ne.mpr c32
                    have c32b1 : (a0_0 != 3) = true := bne_iff_ne.mpr c32
                    by_cases c34 : a0_0 = 4
                    · rw [if_pos c34] at H
                      have c34b0 : (a0_0 == 4) = true := beq_iff_eq.mpr c34
                      have c34b1 : (a0_0 != 4) = false := bne_eq_false_iff_eq.mpr c34
                      clear c34
                      have H' := Aside0.mk H
                      clear H
                      have hcz35_0 : wc.cell? ⟨gb118, 0, none⟩ = some (.int .i64 a0_0) := (blk_cell BK118.out 0).trans rfl
                      have hcz35_1 : wc.cell? ⟨gb118, 1, none⟩ = some (.int .i64 a0_1) := (blk_cell BK118.out 1).trans rfl
                      have hcz35_2 : wc.cell? ⟨gb118, 2, none⟩ = some (.int .i64 a0_2) := (blk_cell BK118.out 2).trans rfl
                      have hcz35_3 : wc.cell? ⟨gb118, 3, none⟩ = some (.int .i64 a0_3) := (blk_cell BK118.out 3).trans rfl
                      have hcz35_4 : wc.cell? ⟨gb118, 4, none⟩ = some (.slice A0_4 l0_4.length c0_4) := (blk_cell BK118.out 4).trans rfl
                      have hcz35_5 : wc.cell? ⟨gb118, 5, none⟩ = some (.slice A0_5 l0_5.length c0_5) := (blk_cell BK118.out 5).trans rfl
                      have hfz35_0 := blk_frozen BK118.out 0
                      have hfz35_1 := blk_frozen BK118.out 1
                      have hfz35_2 := blk_frozen BK118.out 2
                      have hfz35_3 := blk_frozen BK118.out 3
                      have hfz35_4 := blk_frozen BK118.out 4
                      have hfz35_5 := blk_frozen BK118.out 5
                      go_wp2
                      go_meet
                      case rel => exact ⟨_, (false), (by first | rfl | (simp; done) | (simp [*]; done)), H', ⟨by have := HJ1.out; first | omega | exact Nat.le_refl _⟩, ⟨by (with_reducible repeat (first | refine blk_drewN ?_ _ | refine blk_drew ?_ | refine blk_alloc ?_ _)); exact BK118.out⟩, ⟨by repeat (first | (with_reducible first | exact HB.out | apply below_alloc | apply pw_below_drewN | apply below_drew1 | refine below_set ?_ GE118.out) | exact HB.out)⟩⟩
                    · rw [if_neg c34] at H
                      have c34b0 : (a0_0 == 4) = false := beq_eq_false_iff_ne.mpr c34
                      have c34b1 : (a0_0 != 4) = true := bne_iff_ne.mpr c34
                      by_cases c36 : a0_0 = 7
                      · rw [if_pos c36] at H
                        have c36b0 : (a0_0 == 7) = true := beq_iff_eq.mpr c36
                        have c36b1 : (a0_0 != 7) = false := bne_eq_false_iff_eq.mpr c36
                        clear c36
                        have H' := Aside0.mk H
                        clear H
                        have hcz37_0 : wc.cell? ⟨gb118, 0, none⟩ = some (.int .i64 a0_0) := (blk_cell BK118.out 0).trans rfl
                        have hcz37_1 : wc.cell? ⟨gb118, 1, none⟩ = some (.int .i64 a0_1) := (blk_cell BK118.out 1).trans rfl
                        have hcz37_2 : wc.cell? ⟨gb118, 2, none⟩ = some (.int .i64 a0_2) := (blk_cell BK118.out 2).trans rfl
                        have hcz37_3 : wc.cell? ⟨gb118, 3, none⟩ = some (.int .i64 a0_3) := (blk_cell BK118.out 3).trans rfl
                        have hcz37_4 : wc.cell? ⟨gb118, 4, none⟩ = some (.slice A0_4 l0_4.length c0_4) := (blk_cell BK118.out 4).trans rfl
                        have hcz37_5 : wc.cell? ⟨gb118, 5, none⟩ = some (.slice A0_5 l0_5.length c0_5) := (blk_cell BK118.out 5).trans rfl
                        have hfz37_0 := blk_frozen BK118.out 0
                        have hfz37_1 := blk_frozen BK118.out 1
                        have hfz37_2 := blk_frozen BK118.out 2
                        have hfz37_3 := blk_frozen BK118.out 3
                        have hfz37_4 := blk_frozen BK118.out 4
                        have hfz37_5 := blk_frozen BK118.out 5
                        go_wp2
                        go_meet
                        case rel => exact ⟨_, (false), (by first | rfl | (simp; done) | (simp [*]; done)), H', ⟨by have := HJ1.out; first | omega | exact Nat.le_refl _⟩, ⟨by (with_reducible repeat (first | refine blk_drewN ?_ _ | refine blk_drew ?_ | refine blk_alloc ?_ _)); exact BK118.out⟩, ⟨by repeat (first | (with_reducible first | exact HB.out | apply below_alloc | apply pw_below_drewN | apply below_drew1 | refine below_set ?_ GE118.out) | exact HB.out)⟩⟩
                      · rw [if_neg c36] at H
                        have c36b0 : (a0_0 == 7) = false := beq_eq_false_iff_ne.mpr c36
                        have c36b1 : (a0_0 != 7) = true := bne_iff_ne.mpr c36
                        have H' := Aside0.mk H
                        clear H
                        have hcz38_0 : wc.cell? ⟨gb118, 0, none⟩ = some (.int .i64 a0_0) := (blk_cell BK118.out 0).trans rfl
                        have hcz38_1 : wc.cell? ⟨gb118, 1, none⟩ = some (.int .i64 a0_1) := (blk_cell BK118.out 1).trans rfl
                        have hcz38_2 : wc.cell? ⟨gb118, 2, none⟩ = some (.int .i64 a0_2) := (blk_cell BK118.out 2).trans rfl
                        have hcz38_3 : wc.cell? ⟨gb118, 3, none⟩ = some (.int .i64 a0_3) := (blk_cell BK118.out 3).trans rfl
                        have hcz38_4 : wc.cell? ⟨gb118, 4, none⟩ = some (.slice A0_4 l0_4.length c0_4) := (blk_cell BK118.out 4).trans rfl
                        have hcz38_5 : wc.cell? ⟨gb118, 5, none⟩ = some (.slice A0_5 l0_5.length c0_5) := (blk_cell BK118.out 5).trans rfl
                        have hfz38_0 := blk_frozen BK118.out 0
                        have hfz38_1 := blk_frozen BK118.out 1
                        have hfz38_2 := blk_frozen BK118.out 2
                        have hfz38_3 := blk_frozen BK118.out 3
                        have hfz38_4 := blk_frozen BK118.out 4
                        have hfz38_5 := blk_frozen BK118.out 5
                        go_wp2
                        go_meet
                        case rel => exact ⟨_, ((a0_3 != 0)), (by first | rfl | (simp; done) | (simp [*]; done)), H', ⟨by have := HJ1.out; first | omega | exact Nat.le_refl _⟩, ⟨by (with_reducible repeat (first | refine blk_drewN ?_ _ | refine blk_drew ?_ | refine blk_alloc ?_ _)); exact BK118.out⟩, ⟨by repeat (first | (with_reducible first | exact HB.out | apply below_alloc | apply pw_below_drewN | apply below_drew1 | refine below_set ?_ GE118.out) | exact HB.out)⟩⟩
                · rw [if_neg c31] at H
                  have c31b0 : (a0_0 == 2) = false := beq_eq_false_iff_ne.mpr c31
                  have c31b1 : (a0_0 != 2) = true := bne_iff_ne.mpr c31
                  by_cases c39 : (l0_4.length : Int) > 0
                  · rw [if_pos c39] at H
                    have c39b0 : decide (0 < (l0_4.length : Int)) = true := decide_eq_true c39
                    have c39b1 : decide (0 < l0_4.length) = true := decide_eq_true (by omega)
                    clear c39
                    have H' := Aside0.mk H
                    clear H
                    have hcz40_0 : wc.cell? ⟨gb118, 0, none⟩ = some (.int .i64 a0_0) := (blk_cell BK118.out 0).trans rfl
                    have hcz40_1 : wc.cell? ⟨gb118, 1, none⟩ = some (.int .i64 a0_1) := (blk_cell BK118.out 1).trans rfl
                    have hcz40_2 : wc.cell? ⟨gb118, 2, none⟩ = some (.int .i64 a0_2) := (blk_cell BK118.out 2).trans rfl
                    have hcz40_3 : wc.cell? ⟨gb118, 3, none⟩ = some (.int .i64 a0_3) := (blk_cell BK118.out 3).trans rfl
                    have hcz40_4 : wc.cell? ⟨gb118, 4, none⟩ = some (.slice A0_4 l0_4.length c0_4) := (blk_cell BK118.out 4).trans rfl
                    have hcz40_5 : wc.cell? ⟨gb118, 5, none⟩ = some (.slice A0_5 l0_5.length c0_5) := (blk_cell BK118.out 5).trans rfl
                    have hfz40_0 := blk_frozen BK118.out 0
                    have hfz40_1 := blk_frozen BK118.out 1
                    have hfz40_2 := blk_frozen BK118.out 2
                    have hfz40_3 := blk_frozen BK118.out 3
                    have hfz40_4 := blk_frozen BK118.out 4
                    have hfz40_5 := blk_frozen BK118.out 5
                    go_wp2
                    go_meet
                    case rel => exact ⟨_, (true), (by first | rfl | (simp; done) | (simp [*]; done)), H', ⟨by have := HJ1.out; first | omega | exact Nat.le_refl _⟩, ⟨by (with_reducible repeat (first | refine blk_drewN ?_ _ | refine blk_drew ?_ | refine blk_alloc ?_ _)); exact BK118.out⟩, ⟨by repeat (first | (with_reducible first | exact HB.out | apply below_alloc | apply pw_below_drewN | apply below_drew1 | refine below_set ?_ GE118.out) | exact HB.out)⟩⟩
                  · rw [if_neg c39] at H
                    have c39b0 : decide (0 < (l0_4.length : Int)) = false := decide_eq_false c39
                    have c39b1 : decide (0 < l0_4.length) = false := decide_eq_false (by omega)
                    clear c39
                    by_cases c41 : (l0_5.length : Int) > 0
                    · rw [if_pos c41] at H
                      have c41b0 : decide (0 < (l0_5.length : Int)) = true := decide_eq_true c41
                      have c41b1 : decide (0 < l0_5.length) = true := decide_eq_true (by omega)
                      clear c41
                      have H' := Aside0.mk H
                      clear H
                      have hcz42_0 : wc.cell? ⟨gb118, 0, none⟩ = some (.int .i64 a0_0) := (blk_cell BK118.out 0).trans rfl
                      have hcz42_1 : wc.cell? ⟨gb118, 1, none⟩ = some (.int .i64 a0_1) := (blk_cell BK118.out 1).trans rfl
                      have hcz42_2 : wc.cell? ⟨gb118, 2, none⟩ = some (.int .i64 a0_2) := (blk_cell BK118.out 2).trans rfl
                      have hcz42_3 : wc.cell? ⟨gb118, 3, none⟩ = some (.int .i64 a0_3) := (blk_cell BK118.out 3).trans rfl
                      have hcz42_4 : wc.cell? ⟨gb118, 4, none⟩ = some (.slice A0_4 l0_4.length c0_4) := (blk_cell BK118.out 4).trans rfl
                      have hcz42_5 : wc.cell? ⟨gb118, 5, none⟩ = some (.slice A0_5 l0_5.length c0_5) := (blk_cell BK118.out 5).trans rfl
                      have hfz42_0 := blk_frozen BK118.out 0
                      have hfz42_1 := blk_frozen BK118.out 1
                      have hfz42_2 := blk_frozen BK118.out 2
                      have hfz42_3 := blk_frozen BK118.out 3
                      have hfz42_4 := blk_frozen BK118.out 4
                      have hfz42_5 := blk_frozen BK118.out 5
                      go_wp2
                      go_meet
                      case rel => exact ⟨_, (true), (by first | rfl | (simp; done) | (simp [*]; done)), H', ⟨by have := HJ1.out; first | omega | exact Nat.le_refl _⟩, ⟨by (with_reducible repeat (first | refine blk_drewN ?_ _ | refine blk_drew ?_ | refine blk_alloc ?_ _)); exact BK118.out⟩, ⟨by repeat (first | (with_reducible first | exact HB.out | apply below_alloc | apply pw_below_drewN | apply below_drew1 | refine below_set ?_ GE118.out) | exact HB.out)⟩⟩
                    · rw [if_neg c41] at H
                      have c41b0 : decide (0 < (l0_5.length : Int)) = false := decide_eq_false c41
                      have c41b1 : decide (0 < l0_5.length) = false := decide_eq_false (by omega)
                      clear c41
                      by_cases c43 : a0_0 = 3
                      · rw [if_pos c43] at H
                        have c43b0 : (a0_0 == 3) = true := beq_iff_eq.mpr c43
                        have c43b1 : (a0_0 != 3) = false := bne_eq_false_iff_eq.mpr c43
                        clear c43
                        have H' := Aside0.mk H
                        clear H
                        have hcz44_0 : wc.cell? ⟨gb118, 0, none⟩ = some (.int .i64 a0_0) := (blk_cell BK118.out 0).trans rfl
                        have hcz44_1 : wc.cell? ⟨gb118, 1, none⟩ = some (.int .i64 a0_1) := (blk_cell BK118.out 1).trans rfl
                        have hcz44_2 : wc.cell? ⟨gb118, 2, none⟩ = some (.int .i64 a0_2) := (blk_cell BK118.out 2).trans rfl
                        have hcz44_3 : wc.cell? ⟨gb118, 3, none⟩ = some (.int .i64 a0_3) := (blk_cell BK118.out 3).trans rfl
                        have hcz44_4 : wc.cell? ⟨gb118, 4, none⟩ = some (.slice A0_4 l0_4.length c0_4) := (blk_cell BK118.out 4).trans rfl
                        have hcz44_5 : wc.cell? ⟨gb118, 5, none⟩ = some (.slice A0_5 l0_5.length c0_5) := (blk_cell BK118.out 5).trans rfl
                        have hfz44_0 := blk_frozen BK118.out 0
                        have hfz44_1 := blk_frozen BK118.out 1
                        have hfz44_2 := blk_frozen BK118.out 2
                        have hfz44_3 := blk_frozen BK118.out 3
                        have hfz44_4 := blk_frozen BK118.out 4
                        have hfz44_5 := blk_frozen BK118.out 5
                        go_wp2
                        go_meet
                        case rel => exact ⟨_, (false), (by first | rfl | (simp; done) | (simp [*]; done)), H', ⟨by have := HJ1.out; first | omega | exact Nat.le_refl _⟩, ⟨by (with_reducible repeat (first | refine blk_drewN ?_ _ | refine blk_drew ?_ | refine blk_alloc ?_ _)); exact BK118.out⟩, ⟨by repeat (first | (with_reducible first | exact HB.out | apply below_alloc | apply pw_below_drewN | apply below_drew1 | refine below_set ?_ GE118.out) | exact HB.out)⟩⟩
                      · rw [if_neg c43] at H
                        have c43b0 : (a0_0 == 3) = false := beq_eq_false_iff_ne.mpr c43
                        have c43b1 : (a0_0 != 3) = true := bne_iff_ne.mpr c43
                        by_cases c45 : a0_0 = 4
                        · rw [if_pos c45] at H
                          have c45b0 : (a0_0 == 4) = true := beq_iff_eq.mpr c45
                          have c45b1 : (a0_0 != 4) = false := bne_eq_false_iff_eq.mpr c45
                          clear c45
                          have H' := Aside0.mk H
                          clear H
                          have hcz46_0 : wc.cell? ⟨gb118, 0, none⟩ = some (.int .i64 a0_0) := (blk_cell BK118.out 0).trans rfl
                          have hcz46_1 : wc.cell? ⟨gb118, 1, none⟩ = some (.int .i64 a0_1) := (blk_cell BK118.out 1).trans rfl
                          have hcz46_2 : wc.cell? ⟨gb118, 2, none⟩ = some (.int .i64 a0_2) := (blk_cell BK118.out 2).trans rfl
                          have hcz46_3 : wc.cell? ⟨gb118, 3, none⟩ = some (.int .i64 a0_3) := (blk_cell BK118.out 3).trans rfl
                          have hcz46_4 : wc.cell? ⟨gb118, 4, none⟩ = some (.slice A0_4 l0_4.length c0_4) := (blk_cell BK118.out 4).trans rfl
                          have hcz46_5 : wc.cell? ⟨gb118, 5, none⟩ = some (.slice A0_5 l0_5.length c0_5) := (blk_cell BK118.out 5).trans rfl
                          have hfz46_0 := blk_frozen BK118.out 0
                          have hfz46_1 := blk_frozen BK118.out 1
                          have hfz46_2 := blk_frozen BK118.out 2
                          have hfz46_3 := blk_frozen BK118.out 3
                          have hfz46_4 := blk_frozen BK118.out 4
                          have hfz46_5 := blk_frozen BK118.out 5
                          go_wp2
                          go_meet
                          case rel => exact ⟨_, (false), (by first | rfl | (simp; done) | (simp [*]; done)), H', ⟨by have := HJ1.out; first | omega | exact Nat.le_refl _⟩, ⟨by (with_reducible repeat (first | refine blk_drewN ?_ _ | refine blk_drew ?_ | refine blk_alloc ?_ _)); exact BK118.out⟩, ⟨by repeat (first | (with_reducible first | exact HB.out | apply below_alloc | apply pw_below_drewN | apply below_drew1 | refine below_set ?_ GE118.out) | exact HB.out)⟩⟩
                        · rw [if_neg c45] at H
                          have c45b0 : (a0_0 == 4) = false := beq_eq_false_iff_ne.mpr c45
                          have c45b1 : (a0_0 != 4) = true := bne_iff_ne.mpr c45
                          by_cases c47 : a0_0 = 7
                          · rw [if_pos c47] at H
                            have c47b0 : (a0_0 == 7) = true := beq_iff_eq.mpr c47
                            have c47b1 : (a0_0 != 7) = false := bne_eq_false_iff_eq.mpr c47
                            clear c47
                            have H' := Aside0.mk H
                            clear H
                            have hcz48_0 : wc.cell? ⟨gb118, 0, none⟩ = some (.int .i64 a0_0) := (blk_cell BK118.out 0).trans rfl
                            have hcz48_1 : wc.cell? ⟨gb118, 1, none⟩ = some (.int .i64 a0_1) := (blk_cell BK118.out 1).trans rfl
                            have hcz48_2 : wc.cell? ⟨gb118, 2, none⟩ = some (.int .i64 a0_2) := (blk_cell BK118.out 2).trans rfl
                            have hcz48_3 : wc.cell? ⟨gb118, 3, none⟩ = some (.int .i64 a0_3) := (blk_cell BK118.out 3).trans rfl
                            have hcz48_4 : wc.cell? ⟨gb118, 4, none⟩ = some (.slice A0_4 l0_4.length c0_4) := (blk_cell BK118.out 4).trans rfl
                            have hcz48_5 : wc.cell? ⟨gb118, 5, none⟩ = some (.slice A0_5 l0_5.length c0_5) := (blk_cell BK118.out 5).trans rfl
                            have hfz48_0 := blk_frozen BK118.out 0
                            have hfz48_1 := blk_frozen BK118.out 1
                            have hfz48_2 := blk_frozen BK118.out 2
                            have hfz48_3 := blk_frozen BK118.out 3
                            have hfz48_4 := blk_frozen BK118.out 4
                            have hfz48_5 := blk_frozen BK118.out 5
                            go_wp2
                            go_meet
                            case rel => exact ⟨_, (false), (by first | rfl | (simp; done) | (simp [*]; done)), H', ⟨by have := HJ1.out; first | omega | exact Nat.le_refl _⟩, ⟨by (with_reducible repeat (first | refine blk_drewN ?_ _ | refine blk_drew ?_ | refine blk_alloc ?_ _)); exact BK118.out⟩, ⟨by repeat (first | (with_reducible first | exact HB.out | apply below_alloc | apply pw_below_drewN | apply below_drew1 | refine below_set ?_ GE118.out) | exact HB.out)⟩⟩
                          · rw [if_neg c47] at H
                            have c47b0 : (a0_0 == 7) = false := beq_eq_false_iff_ne.mpr c47
                            have c47b1 : (a0_0 != 7) = true := bne_iff_ne.mpr c47
                            have H' := Aside0.mk H
                            clear H
                            have hcz49_0 : wc.cell? ⟨gb118, 0, none⟩ = some (.int .i64 a0_0) := (blk_cell BK118.out 0).trans rfl
                            have hcz49_1 : wc.cell? ⟨gb118, 1, none⟩ = some (.int .i64 a0_1) := (blk_cell BK118.out 1).trans rfl
                            have hcz49_2 : wc.cell? ⟨gb118, 2, none⟩ = some (.int .i64 a0_2) := (blk_cell BK118.out 2).trans rfl
                            have hcz49_3 : wc.cell? ⟨gb118, 3, none⟩ = some (.int .i64 a0_3) := (blk_cell BK118.out 3).trans rfl
                            have hcz49_4 : wc.cell? ⟨gb118, 4, none⟩ = some (.slice A0_4 l0_4.length c0_4) := (blk_cell BK118.out 4).trans rfl
                            have hcz49_5 : wc.cell? ⟨gb118, 5, none⟩ = some (.slice A0_5 l0_5.length c0_5) := (blk_cell BK118.out 5).trans rfl
                            have hfz49_0 := blk_frozen BK118.out 0
                            have hfz49_1 := blk_frozen BK118.out 1
                            have hfz49_2 := blk_frozen BK118.out 2
                            have hfz49_3 := blk_frozen BK118.out 3
                            have hfz49_4 := blk_frozen BK118.out 4
                            have hfz49_5 := blk_frozen BK118.out 5
                            go_wp2
                            go_meet
                            case rel => exact ⟨_, ((a0_3 != 0)), (by first | rfl | (simp; done) | (simp [*]; done)), H', ⟨by have := HJ1.out; first | omega | exact Nat.le_refl _⟩, ⟨by (with_reducible repeat (first | refine blk_drewN ?_ _ | refine blk_drew ?_ | refine blk_alloc ?_ _)); exact BK118.out⟩, ⟨by repeat (first | (with_reducible first | exact HB.out | apply below_alloc | apply pw_below_drewN | apply below_drew1 | refine below_set ?_ GE118.out) | exact HB.out)⟩⟩
              · rw [if_neg c30] at H
                have c30b0 : (a0_2 == 0) = false := beq_eq_false_iff_ne.mpr c30
                have c30b1 : (a0_2 != 0) = true := bne_iff_ne.mpr c30
                have H' := Aside0.mk H
                clear H
                have hcz50_0 : wc.cell? ⟨gb118, 0, none⟩ = some (.int .i64 a0_0) := (blk_cell BK118.out 0).trans rfl
                have hcz50_1 : wc.cell? ⟨gb118, 1, none⟩ = some (.int .i64 a0_1) := (blk_cell BK118.out 1).trans rfl
                have hcz50_2 : wc.cell? ⟨gb118, 2, none⟩ = some (.int .i64 a0_2) := (blk_cell BK118.out 2).trans rfl
                have hcz50_3 : wc.cell? ⟨gb118, 3, none⟩ = some (.int .i64 a0_3) := (blk_cell BK118.out 3).trans rfl
                have hcz50_4 : wc.cell? ⟨gb118, 4, none⟩ = some (.slice A0_4 l0_4.length c0_4) := (blk_cell BK118.out 4).trans rfl
                have hcz50_5 : wc.cell? ⟨gb118, 5, none⟩ = some (.slice A0_5 l0_5.length c0_5) := (blk_cell BK118.out 5).trans rfl
                have hfz50_0 := blk_frozen BK118.out 0
                have hfz50_1 := blk_frozen BK118.out 1
                have hfz50_2 := blk_frozen BK118.out 2
                have hfz50_3 := blk_frozen BK118.out 3
                have hfz50_4 := blk_frozen BK118.out 4
                have hfz50_5 := blk_frozen BK118.out 5
                go_wp2
                go_meet
                case rel => exact ⟨_, (true), (by first | rfl | (simp; done) | (simp [*]; done)), H', ⟨by have := HJ1.out; first | omega | exact Nat.le_refl _⟩, ⟨by (with_reducible repeat (first | refine blk_drewN ?_ _ | refine blk_drew ?_ | refine blk_alloc ?_ _)); exact BK118.out⟩, ⟨by repeat (first | (with_reducible first | exact HB.out | apply below_alloc | apply pw_below_drewN | apply below_drew1 | refine below_set ?_ GE118.out) | exact HB.out)⟩⟩
            · rw [if_neg c29] at H
              have c29b0 : (a0_1 == 0) = false := beq_eq_false_iff_ne.mpr c29
              have c29b1 : (a0_1 != 0) = true := bne_iff_ne.mpr c29
              have H' := Aside0.mk H
              clear H
              have hcz51_0 : wc.cell? ⟨gb118, 0, none⟩ = some (.int .i64 a0_0) := (blk_cell BK118.out 0).trans rfl
              have hcz51_1 : wc.cell? ⟨gb118, 1, none⟩ = some (.int .i64 a0_1) := (blk_cell BK118.out 1).trans rfl
              have hcz51_2 : wc.cell? ⟨gb118, 2, none⟩ = some (.int .i64 a0_2) := (blk_cell BK118.out 2).trans rfl
              have hcz51_3 : wc.cell? ⟨gb118, 3, none⟩ = some (.int .i64 a0_3) := (blk_cell BK118.out 3).trans rfl
              have hcz51_4 : wc.cell? ⟨gb118, 4, none⟩ = some (.slice A0_4 l0_4.length c0_4) := (blk_cell BK118.out 4).trans rfl
              have hcz51_5 : wc.cell? ⟨gb118, 5, none⟩ = some (.slice A0_5 l0_5.length c0_5) := (blk_cell BK118.out 5).trans rfl
              have hfz51_0 := blk_frozen BK118.out 0
              have hfz51_1 := blk_frozen BK118.out 1
              have hfz51_2 := blk_frozen BK118.out 2
              have hfz51_3 := blk_frozen BK118.out 3
              have hfz51_4 := blk_frozen BK118.out 4
              have hfz51_5 := blk_frozen BK118.out 5
              go_wp2
              go_meet
              case rel => exact ⟨_, (true), (by first | rfl | (simp; done) | (simp [*]; done)), H', ⟨by have := HJ1.out; first | omega | exact Nat.le_refl _⟩, ⟨by (with_reducible repeat (first | refine blk_drewN ?_ _ | refine blk_drew ?_ | refine blk_alloc ?_ _)); exact BK118.out⟩, ⟨by repeat (first | (with_reducible first | exact HB.out | apply below_alloc | apply pw_below_drewN | apply below_drew1 | refine below_set ?_ GE118.out) | exact HB.out)⟩⟩
        case rest =>
          clear HC8
          try clear c1
          try clear c2
          try clear p2
          try clear c3
          try clear c4
          try clear c7
          try clear c9
          try clear c9b0
          try clear c9b1
          try clear c10
          try clear c10b0
          try clear c10b1
          try clear c11
          try clear c11b0
          try clear c11b1
          try clear c13
          try clear c13b0
          try clear c13b1
          try clear c15
          try clear c15b0
          try clear c15b1
          try clear c18
          try clear c18b0
          try clear c18b1
          try clear c20
          try clear c20b0
          try clear c20b1
          try clear c22
          try clear c22b0
          try clear c22b1
          try clear c24
          try clear c24b0
          try clear c24b1
          try clear c26
          try clear c26b0
          try clear c26b1
          try clear c29
          try clear c29b0
          try clear c29b1
          try clear c30
          try clear c30b0
          try clear c30b1
          try clear c31
          try clear c31b0
          try clear c31b1
          try clear c32
          try clear c32b0
          try clear c32b1
          try clear c34
          try clear c34b0
          try clear c34b1
          try clear c36
          try clear c36b0
          try clear c36b1
          try clear c39
          try clear c39b0
          try clear c39b1
          try clear c41
          try clear c41b0
          try clear c41b1
          try clear c43
          try clear c43b0
          try clear c43b1
          try clear c45
          try clear c45b0
          try clear c45b1
          try clear c47
          try clear c47b0
          try clear c47b1
          try clear hcz12_0
          try clear hcz12_1
          try clear hcz12_2
          try clear hcz12_3
          try clear hcz12_4
          try clear hcz12_5
          try clear hcz14_0
          try clear hcz14_1
          try clear hcz14_2
          try clear hcz14_3
          try clear hcz14_4
          try clear hcz14_5
          try clear hcz16_0
          try clear hcz16_1
          try clear hcz16_2
          try clear hcz16_3
          try clear hcz16_4
          try clear hcz16_5
          try clear hcz17_0
          try clear hcz17_1
          try clear hcz17_2
          try clear hcz17_3
          try clear hcz17_4
          try clear hcz17_5
          try clear hcz19_0
          try clear hcz19_1
          try clear hcz19_2
          try clear hcz19_3
          try clear hcz19_4
          try clear hcz19_5
          try clear hcz21_0
          try clear hcz21_1
          try clear hcz21_2
          try clear hcz21_3
          try clear hcz21_4
          try clear hcz21_5
          try clear hcz23_0
          try clear hcz23_1
          try clear hcz23_2
          try clear hcz23_3
          try clear hcz23_4
          try clear hcz23_5
          try clear hcz25_0
          try clear hcz25_1
          try clear hcz25_2
          try clear hcz25_3
          try clear hcz25_4
          try clear hcz25_5
          try clear hcz27_0
          try clear hcz27_1
          try clear hcz27_2
          try clear hcz27_3
          try clear hcz27_4
          try clear hcz27_5
          try clear hcz28_0
          try clear hcz28_1
          try clear hcz28_2
          try clear hcz28_3
          try clear hcz28_4
          try clear hcz28_5
          try clear hcz33_0
          try clear hcz33_1
          try clear hcz33_2
          try clear hcz33_3
          try clear hcz33_4
          try clear hcz33_5
          try clear hcz35_0
          try clear hcz35_1
          try clear hcz35_2
          try clear hcz35_3
          try clear hcz35_4
          try clear hcz35_5
          try clear hcz37_0
          try clear hcz37_1
          try clear hcz37_2
          try clear hcz37_3
          try clear hcz37_4
          try clear hcz37_5
          try clear hcz38_0
          try clear hcz38_1
          try clear hcz38_2
          try clear hcz38_3
          try clear hcz38_4
          try clear hcz38_5
          try clear hcz40_0
          try clear hcz40_1
          try clear hcz40_2
          try clear hcz40_3
          try clear hcz40_4
          try clear hcz40_5
          try clear hcz42_0
          try clear hcz42_1
          try clear hcz42_2
          try clear hcz42_3
          try clear hcz42_4
          try clear hcz42_5
          try clear hcz44_0
          try clear hcz44_1
          try clear hcz44_2
          try clear hcz44_3
          try clear hcz44_4
          try clear hcz44_5
          try clear hcz46_0
          try clear hcz46_1
          try clear hcz46_2
          try clear hcz46_3
          try clear hcz46_4
          try clear hcz46_5
          try clear hcz48_0
          try clear hcz48_1
          try clear hcz48_2
          try clear hcz48_3
          try clear hcz48_4
          try clear hcz48_5
          try clear hcz49_0
          try clear hcz49_1
          try clear hcz49_2
          try clear hcz49_3
          try clear hcz49_4
          try clear hcz49_5
          try clear hcz50_0
          try clear hcz50_1
          try clear hcz50_2
          try clear hcz50_3
          try clear hcz50_4
          try clear hcz50_5
          try clear hcz51_0
          try clear hcz51_1
          try clear hcz51_2
          try clear hcz51_3
          try clear hcz51_4
          try clear hcz51_5
          try clear hcz5_4
          try clear hcz5_5
          try clear hcz6_0
          try clear hcz6_1
          try clear hcz6_2
          try clear hcz6_3
          try clear hcz6_4
          try clear hcz6_5
          try clear hfz12_0
          try clear hfz12_1
          try clear hfz12_2
          try clear hfz12_3
          try clear hfz12_4
          try clear hfz12_5
          try clear hfz14_0
          try clear hfz14_1
          try clear hfz14_2
          try clear hfz14_3
          try clear hfz14_4
          try clear hfz14_5
          try clear hfz16_0
          try clear hfz16_1
          try clear hfz16_2
          try clear hfz16_3
          try clear hfz16_4
          try clear hfz16_5
          try clear hfz17_0
          try clear hfz17_1
          try clear hfz17_2
          try clear hfz17_3
          try clear hfz17_4
          try clear hfz17_5
          try clear hfz19_0
          try clear hfz19_1
          try clear hfz19_2
          try clear hfz19_3
          try clear hfz19_4
          try clear hfz19_5
          try clear hfz21_0
          try clear hfz21_1
          try clear hfz21_2
          try clear hfz21_3
          try clear hfz21_4
          try clear hfz21_5
          try clear hfz23_0
          try clear hfz23_1
          try clear hfz23_2
          try clear hfz23_3
          try clear hfz23_4
          try clear hfz23_5
          try clear hfz25_0
          try clear hfz25_1
          try clear hfz25_2
          try clear hfz25_3
          try clear hfz25_4
          try clear hfz25_5
          try clear hfz27_0
          try clear hfz27_1
          try clear hfz27_2
          try clear hfz27_3
          try clear hfz27_4
          try clear hfz27_5
          try clear hfz28_0
          try clear hfz28_1
          try clear hfz28_2
          try clear hfz28_3
          try clear hfz28_4
          try clear hfz28_5
          try clear hfz33_0
          try clear hfz33_1
          try clear hfz33_2
          try clear hfz33_3
          try clear hfz33_4
          try clear hfz33_5
          try clear hfz35_0
          try clear hfz35_1
          try clear hfz35_2
          try clear hfz35_3
          try clear hfz35_4
          try clear hfz35_5
          try clear hfz37_0
          try clear hfz37_1
          try clear hfz37_2
          try clear hfz37_3
          try clear hfz37_4
          try clear hfz37_5
          try clear hfz38_0
          try clear hfz38_1
          try clear hfz38_2
          try clear hfz38_3
          try clear hfz38_4
          try clear hfz38_5
          try clear hfz40_0
          try clear hfz40_1
          try clear hfz40_2
          try clear hfz40_3
          try clear hfz40_4
          try clear hfz40_5
          try clear hfz42_0
          try clear hfz42_1
          try clear hfz42_2
          try clear hfz42_3
          try clear hfz42_4
          try clear hfz42_5
          try clear hfz44_0
          try clear hfz44_1
          try clear hfz44_2
          try clear hfz44_3
          try clear hfz44_4
          try clear hfz44_5
          try clear hfz46_0
          try clear hfz46_1
          try clear hfz46_2
          try clear hfz46_3
          try clear hfz46_4
          try clear hfz46_5
          try clear hfz48_0
          try clear hfz48_1
          try clear hfz48_2
          try clear hfz48_3
          try clear hfz48_4
          try clear hfz48_5
          try clear hfz49_0
          try clear hfz49_1
          try clear hfz49_2
          try clear hfz49_3
          try clear hfz49_4
          try clear hfz49_5
          try clear hfz50_0
          try clear hfz50_1
          try clear hfz50_2
          try clear hfz50_3
          try clear hfz50_4
          try clear hfz50_5
          try clear hfz51_0
          try clear hfz51_1
          try clear hfz51_2
          try clear hfz51_3
          try clear hfz51_4
          try clear hfz51_5
          try clear hfz5_0
          try clear hfz5_1
          try clear hfz5_2
          try clear hfz5_3
          try clear hfz5_4
          try clear hfz5_5
          try clear hfz6_0
          try clear hfz6_1
          try clear hfz6_2
          try clear hfz6_3
          try clear hfz6_4
          try clear hfz6_5
          obtain ⟨kq, x60_7, rfl, HA, HJ7, BK118, HB⟩ := hcut
          cases kq with
          | zero => exact absurd HA.out (by simp [haymowref18_Wrong.j1])
          | succ kj7 =>
            have H := HA.out
            clear HA
            simp only [haymowref18_Wrong.j1] at H
            by_cases c52 : x60_7 = true
            · subst c52
              have H1 : (some 4) = some r := by rw [if_pos rfl] at H; exact H
              clear H
              have H := H1
              clear H1
              obtain rfl := Option.some.inj H
              go_wp2
              go_ret
              exact ⟨by first | rfl | (simp [errW_none, errW_some] <;> rfl) | (simp [*, errW_none, errW_some] <;> rfl), by repeat (first | (with_reducible first | exact HB.out | apply below_alloc | apply pw_below_drewN | apply below_drew1 | refine below_set ?_ GE118.out) | exact HB.out)⟩
            · replace c52 := Bool.eq_false_iff.mpr c52
              subst c52
              have H1 : (if a0_1 < 0 then (some 6) else (if a0_1 > 255 then (some 6) else (if a0_2 < 0 then (some 6) else (if a0_2 > 255 then (some 6) else (if a0_3 < 0 then (some 6) else (if a0_3 > 65535 then (some 6) else (if a0_0 = 7 then (if (l0_4.length : Int) > 65535 then (some 6) else (if (l0_5.length : Int) > 255 then (some 6) else (some 0))) else (if a0_3 > 255 then (some 6) else (if (l0_4.length : Int) > 65535 then (some 6) else (if (l0_5.length : Int) > 255 then (some 6) else (some 0))))))))))) = some r := by rw [if_neg (show ¬ (false = true) by decide)] at H; exact H
              clear H
              have H := H1
              clear H1
              by_cases c53 : a0_1 < 0
              · rw [if_pos c53] at H
                have c53b0 : decide (a0_1 < 0) = true := decide_eq_true c53
                clear c53
                obtain rfl := Option.some.inj H
                have hcz54_0 : wc.cell? ⟨gb118, 0, none⟩ = some (.int .i64 a0_0) := (blk_cell BK118.out 0).trans rfl
                have hcz54_1 : wc.cell? ⟨gb118, 1, none⟩ = some (.int .i64 a0_1) := (blk_cell BK118.out 1).trans rfl
                have hcz54_2 : wc.cell? ⟨gb118, 2, none⟩ = some (.int .i64 a0_2) := (blk_cell BK118.out 2).trans rfl
                have hcz54_3 : wc.cell? ⟨gb118, 3, none⟩ = some (.int .i64 a0_3) := (blk_cell BK118.out 3).trans rfl
                have hcz54_4 : wc.cell? ⟨gb118, 4, none⟩ = some (.slice A0_4 l0_4.length c0_4) := (blk_cell BK118.out 4).trans rfl
                have hcz54_5 : wc.cell? ⟨gb118, 5, none⟩ = some (.slice A0_5 l0_5.length c0_5) := (blk_cell BK118.out 5).trans rfl
                have hfz54_0 := blk_frozen BK118.out 0
                have hfz54_1 := blk_frozen BK118.out 1
                have hfz54_2 := blk_frozen BK118.out 2
                have hfz54_3 := blk_frozen BK118.out 3
                have hfz54_4 := blk_frozen BK118.out 4
                have hfz54_5 := blk_frozen BK118.out 5
                go_wp2
                go_ret
                exact ⟨by first | rfl | (simp [errW_none, errW_some] <;> rfl) | (simp [*, errW_none, errW_some] <;> rfl), by repeat (first | (with_reducible first | exact HB.out | apply below_alloc | apply pw_below_drewN | apply below_drew1 | refine below_set ?_ GE118.out) | exact HB.out)⟩
              · rw [if_neg c53] at H
                have c53b0 : decide (a0_1 < 0) = false := decide_eq_false c53
                clear c53
                by_cases c55 : a0_1 > 255
                · rw [if_pos c55] at H
                  have c55b0 : decide (255 < a0_1) = true := decide_eq_true c55
                  clear c55
                  obtain rfl := Option.some.inj H
                  have hcz56_0 : wc.cell? ⟨gb118, 0, none⟩ = some (.int .i64 a0_0) := (blk_cell BK118.out 0).trans rfl
                  have hcz56_1 : wc.cell? ⟨gb118, 1, none⟩ = some (.int .i64 a0_1) := (blk_cell BK118.out 1).trans rfl
                  have hcz56_2 : wc.cell? ⟨gb118, 2, none⟩ = some (.int .i64 a0_2) := (blk_cell BK118.out 2).trans rfl
                  have hcz56_3 : wc.cell? ⟨gb118, 3, none⟩ = some (.int .i64 a0_3) := (blk_cell BK118.out 3).trans rfl
                  have hcz56_4 : wc.cell? ⟨gb118, 4, none⟩ = some (.slice A0_4 l0_4.length c0_4) := (blk_cell BK118.out 4).trans rfl
                  have hcz56_5 : wc.cell? ⟨gb118, 5, none⟩ = some (.slice A0_5 l0_5.length c0_5) := (blk_cell BK118.out 5).trans rfl
                  have hfz56_0 := blk_frozen BK118.out 0
                  have hfz56_1 := blk_frozen BK118.out 1
                  have hfz56_2 := blk_frozen BK118.out 2
                  have hfz56_3 := blk_frozen BK118.out 3
                  have hfz56_4 := blk_frozen BK118.out 4
                  have hfz56_5 := blk_frozen BK118.out 5
                  go_wp2
                  go_ret
                  exact ⟨by first | rfl | (simp [errW_none, errW_some] <;> rfl) | (simp [*, errW_none, errW_some] <;> rfl), by repeat (first | (with_reducible first | exact HB.out | apply below_alloc | apply pw_below_drewN | apply below_drew1 | refine below_set ?_ GE118.out) | exact HB.out)⟩
                · rw [if_neg c55] at H
                  have c55b0 : decide (255 < a0_1) = false := decide_eq_false c55
                  clear c55
                  by_cases c57 : a0_2 < 0
                  · rw [if_pos c57] at H
                    have c57b0 : decide (a0_2 < 0) = true := decide_eq_true c57
                    clear c57
                    obtain rfl := Option.some.inj H
                    have hcz58_0 : wc.cell? ⟨gb118, 0, none⟩ = some (.int .i64 a0_0) := (blk_cell BK118.out 0).trans rfl
                    have hcz58_1 : wc.cell? ⟨gb118, 1, none⟩ = some (.int .i64 a0_1) := (blk_cell BK118.out 1).trans rfl
                    have hcz58_2 : wc.cell? ⟨gb118, 2, none⟩ = some (.int .i64 a0_2) := (blk_cell BK118.out 2).trans rfl
                    have hcz58_3 : wc.cell? ⟨gb118, 3, none⟩ = some (.int .i64 a0_3) := (blk_cell BK118.out 3).trans rfl
                    have hcz58_4 : wc.cell? ⟨gb118, 4, none⟩ = some (.slice A0_4 l0_4.length c0_4) := (blk_cell BK118.out 4).trans rfl
                    have hcz58_5 : wc.cell? ⟨gb118, 5, none⟩ = some (.slice A0_5 l0_5.length c0_5) := (blk_cell BK118.out 5).trans rfl
                    have hfz58_0 := blk_frozen BK118.out 0
                    have hfz58_1 := blk_frozen BK118.out 1
                    have hfz58_2 := blk_frozen BK118.out 2
                    have hfz58_3 := blk_frozen BK118.out 3
                    have hfz58_4 := blk_frozen BK118.out 4
                    have hfz58_5 := blk_frozen BK118.out 5
                    go_wp2
                    go_ret
                    exact ⟨by first | rfl | (simp [errW_none, errW_some] <;> rfl) | (simp [*, errW_none, errW_some] <;> rfl), by repeat (first | (with_reducible first | exact HB.out | apply below_alloc | apply pw_below_drewN | apply below_drew1 | refine below_set ?_ GE118.out) | exact HB.out)⟩
                  · rw [if_neg c57] at H
                    have c57b0 : decide (a0_2 < 0) = false := decide_eq_false c57
                    clear c57
                    by_cases c59 : a0_2 > 255
                    · rw [if_pos c59] at H
                      have c59b0 : decide (255 < a0_2) = true := decide_eq_true c59
                      clear c59
                      obtain rfl := Option.some.inj H
                      have hcz60_0 : wc.cell? ⟨gb118, 0, none⟩ = some (.int .i64 a0_0) := (blk_cell BK118.out 0).trans rfl
                      have hcz60_1 : wc.cell? ⟨gb118, 1, none⟩ = some (.int .i64 a0_1) := (blk_cell BK118.out 1).trans rfl
                      have hcz60_2 : wc.cell? ⟨gb118, 2, none⟩ = some (.int .i64 a0_2) := (blk_cell BK118.out 2).trans rfl
                      have hcz60_3 : wc.cell? ⟨gb118, 3, none⟩ = some (.int .i64 a0_3) := (blk_cell BK118.out 3).trans rfl
                      have hcz60_4 : wc.cell? ⟨gb118, 4, none⟩ = some (.slice A0_4 l0_4.length c0_4) := (blk_cell BK118.out 4).trans rfl
                      have hcz60_5 : wc.cell? ⟨gb118, 5, none⟩ = some (.slice A0_5 l0_5.length c0_5) := (blk_cell BK118.out 5).trans rfl
                      have hfz60_0 := blk_frozen BK118.out 0
                      have hfz60_1 := blk_frozen BK118.out 1
                      have hfz60_2 := blk_frozen BK118.out 2
                      have hfz60_3 := blk_frozen BK118.out 3
                      have hfz60_4 := blk_frozen BK118.out 4
                      have hfz60_5 := blk_frozen BK118.out 5
                      go_wp2
                      go_ret
                      exact ⟨by first | rfl | (simp [errW_none, errW_some] <;> rfl) | (simp [*, errW_none, errW_some] <;> rfl), by repeat (first | (with_reducible first | exact HB.out | apply below_alloc | apply pw_below_drewN | apply below_drew1 | refine below_set ?_ GE118.out) | exact HB.out)⟩
                    · rw [if_neg c59] at H
                      have c59b0 : decide (255 < a0_2) = false := decide_eq_false c59
                      clear c59
                      by_cases c61 : a0_3 < 0
                      · rw [if_pos c61] at H
                        have c61b0 : decide (a0_3 < 0) = true := decide_eq_true c61
                        clear c61
                        obtain rfl := Option.some.inj H
                        have hcz62_0 : wc.cell? ⟨gb118, 0, none⟩ = some (.int .i64 a0_0) := (blk_cell BK118.out 0).trans rfl
                        have hcz62_1 : wc.cell? ⟨gb118, 1, none⟩ = some (.int .i64 a0_1) := (blk_cell BK118.out 1).trans rfl
                        have hcz62_2 : wc.cell? ⟨gb118, 2, none⟩ = some (.int .i64 a0_2) := (blk_cell BK118.out 2).trans rfl
                        have hcz62_3 : wc.cell? ⟨gb118, 3, none⟩ = some (.int .i64 a0_3) := (blk_cell BK118.out 3).trans rfl
                        have hcz62_4 : wc.cell? ⟨gb118, 4, none⟩ = some (.slice A0_4 l0_4.length c0_4) := (blk_cell BK118.out 4).trans rfl
                        have hcz62_5 : wc.cell? ⟨gb118, 5, none⟩ = some (.slice A0_5 l0_5.length c0_5) := (blk_cell BK118.out 5).trans rfl
                        have hfz62_0 := blk_frozen BK118.out 0
                        have hfz62_1 := blk_frozen BK118.out 1
                        have hfz62_2 := blk_frozen BK118.out 2
                        have hfz62_3 := blk_frozen BK118.out 3
                        have hfz62_4 := blk_frozen BK118.out 4
                        have hfz62_5 := blk_frozen BK118.out 5
                        go_wp2
                        go_ret
                        exact ⟨by first | rfl | (simp [errW_none, errW_some] <;> rfl) | (simp [*, errW_none, errW_some] <;> rfl), by repeat (first | (with_reducible first | exact HB.out | apply below_alloc | apply pw_below_drewN | apply below_drew1 | refine below_set ?_ GE118.out) | exact HB.out)⟩
                      · rw [if_neg c61] at H
                        have c61b0 : decide (a0_3 < 0) = false := decide_eq_false c61
                        clear c61
                        by_cases c63 : a0_3 > 65535
                        · rw [if_pos c63] at H
                          have c63b0 : decide (65535 < a0_3) = true := decide_eq_true c63
                          clear c63
                          obtain rfl := Option.some.inj H
                          have hcz64_0 : wc.cell? ⟨gb118, 0, none⟩ = some (.int .i64 a0_0) := (blk_cell BK118.out 0).trans rfl
                          have hcz64_1 : wc.cell? ⟨gb118, 1, none⟩ = some (.int .i64 a0_1) := (blk_cell BK118.out 1).trans rfl
                          have hcz64_2 : wc.cell? ⟨gb118, 2, none⟩ = some (.int .i64 a0_2) := (blk_cell BK118.out 2).trans rfl
                          have hcz64_3 : wc.cell? ⟨gb118, 3, none⟩ = some (.int .i64 a0_3) := (blk_cell BK118.out 3).trans rfl
                          have hcz64_4 : wc.cell? ⟨gb118, 4, none⟩ = some (.slice A0_4 l0_4.length c0_4) := (blk_cell BK118.out 4).trans rfl
                          have hcz64_5 : wc.cell? ⟨gb118, 5, none⟩ = some (.slice A0_5 l0_5.length c0_5) := (blk_cell BK118.out 5).trans rfl
                          have hfz64_0 := blk_frozen BK118.out 0
                          have hfz64_1 := blk_frozen BK118.out 1
                          have hfz64_2 := blk_frozen BK118.out 2
                          have hfz64_3 := blk_frozen BK118.out 3
                          have hfz64_4 := blk_frozen BK118.out 4
                          have hfz64_5 := blk_frozen BK118.out 5
                          go_wp2
                          go_ret
                          exact ⟨by first | rfl | (simp [errW_none, errW_some] <;> rfl) | (simp [*, errW_none, errW_some] <;> rfl), by repeat (first | (with_reducible first | exact HB.out | apply below_alloc | apply pw_below_drewN | apply below_drew1 | refine below_set ?_ GE118.out) | exact HB.out)⟩
                        · rw [if_neg c63] at H
                          have c63b0 : decide (65535 < a0_3) = false := decide_eq_false c63
                          clear c63
                          by_cases c65 : a0_0 = 7
                          · rw [if_pos c65] at H
                            have c65b0 : (a0_0 == 7) = true := beq_iff_eq.mpr c65
                            have c65b1 : (a0_0 != 7) = false := bne_eq_false_iff_eq.mpr c65
                            clear c65
                            by_cases c66 : (l0_4.length : Int) > 65535
                            · rw [if_pos c66] at H
                              have c66b0 : decide (65535 < (l0_4.length : Int)) = true := decide_eq_true c66
                              have c66b1 : decide (65535 < l0_4.length) = true := decide_eq_true (by omega)
                              clear c66
                              obtain rfl := Option.some.inj H
                              have hcz67_0 : wc.cell? ⟨gb118, 0, none⟩ = some (.int .i64 a0_0) := (blk_cell BK118.out 0).trans rfl
                              have hcz67_1 : wc.cell? ⟨gb118, 1, none⟩ = some (.int .i64 a0_1) := (blk_cell BK118.out 1).trans rfl
                              have hcz67_2 : wc.cell? ⟨gb118, 2, none⟩ = some (.int .i64 a0_2) := (blk_cell BK118.out 2).trans rfl
                              have hcz67_3 : wc.cell? ⟨gb118, 3, none⟩ = some (.int .i64 a0_3) := (blk_cell BK118.out 3).trans rfl
                              have hcz67_4 : wc.cell? ⟨gb118, 4, none⟩ = some (.slice A0_4 l0_4.length c0_4) := (blk_cell BK118.out 4).trans rfl
                              have hcz67_5 : wc.cell? ⟨gb118, 5, none⟩ = some (.slice A0_5 l0_5.length c0_5) := (blk_cell BK118.out 5).trans rfl
                              have hfz67_0 := blk_frozen BK118.out 0
                              have hfz67_1 := blk_frozen BK118.out 1
                              have hfz67_2 := blk_frozen BK118.out 2
                              have hfz67_3 := blk_frozen BK118.out 3
                              have hfz67_4 := blk_frozen BK118.out 4
                              have hfz67_5 := blk_frozen BK118.out 5
                              go_wp2
                              go_ret
                              exact ⟨by first | rfl | (simp [errW_none, errW_some] <;> rfl) | (simp [*, errW_none, errW_some] <;> rfl), by repeat (first | (with_reducible first | exact HB.out | apply below_alloc | apply pw_below_drewN | apply below_drew1 | refine below_set ?_ GE118.out) | exact HB.out)⟩
                            · rw [if_neg c66] at H
                              have c66b0 : decide (65535 < (l0_4.length : Int)) = false := decide_eq_false c66
                              have c66b1 : decide (65535 < l0_4.length) = false := decide_eq_false (by omega)
                              clear c66
                              by_cases c68 : (l0_5.length : Int) > 255
                              · rw [if_pos c68] at H
                                have c68b0 : decide (255 < (l0_5.length : Int)) = true := decide_eq_true c68
                                have c68b1 : decide (255 < l0_5.length) = true := decide_eq_true (by omega)
                                clear c68
                                obtain rfl := Option.some.inj H
                                have hcz69_0 : wc.cell? ⟨gb118, 0, none⟩ = some (.int .i64 a0_0) := (blk_cell BK118.out 0).trans rfl
                                have hcz69_1 : wc.cell? ⟨gb118, 1, none⟩ = some (.int .i64 a0_1) := (blk_cell BK118.out 1).trans rfl
                                have hcz69_2 : wc.cell? ⟨gb118, 2, none⟩ = some (.int .i64 a0_2) := (blk_cell BK118.out 2).trans rfl
                                have hcz69_3 : wc.cell? ⟨gb118, 3, none⟩ = some (.int .i64 a0_3) := (blk_cell BK118.out 3).trans rfl
                                have hcz69_4 : wc.cell? ⟨gb118, 4, none⟩ = some (.slice A0_4 l0_4.length c0_4) := (blk_cell BK118.out 4).trans rfl
                                have hcz69_5 : wc.cell? ⟨gb118, 5, none⟩ = some (.slice A0_5 l0_5.length c0_5) := (blk_cell BK118.out 5).trans rfl
                                have hfz69_0 := blk_frozen BK118.out 0
                                have hfz69_1 := blk_frozen BK118.out 1
                                have hfz69_2 := blk_frozen BK118.out 2
                                have hfz69_3 := blk_frozen BK118.out 3
                                have hfz69_4 := blk_frozen BK118.out 4
                                have hfz69_5 := blk_frozen BK118.out 5
                                go_wp2
                                go_ret
                                exact ⟨by first | rfl | (simp [errW_none, errW_some] <;> rfl) | (simp [*, errW_none, errW_some] <;> rfl), by repeat (first | (with_reducible first | exact HB.out | apply below_alloc | apply pw_below_drewN | apply below_drew1 | refine below_set ?_ GE118.out) | exact HB.out)⟩
                              · rw [if_neg c68] at H
                                have c68b0 : decide (255 < (l0_5.length : Int)) = false := decide_eq_false c68
                                have c68b1 : decide (255 < l0_5.length) = false := decide_eq_false (by omega)
                                clear c68
                                obtain rfl := Option.some.inj H
                                have hcz70_0 : wc.cell? ⟨gb118, 0, none⟩ = some (.int .i64 a0_0) := (blk_cell BK118.out 0).trans rfl
                                have hcz70_1 : wc.cell? ⟨gb118, 1, none⟩ = some (.int .i64 a0_1) := (blk_cell BK118.out 1).trans rfl
                                have hcz70_2 : wc.cell? ⟨gb118, 2, none⟩ = some (.int .i64 a0_2) := (blk_cell BK118.out 2).trans rfl
                                have hcz70_3 : wc.cell? ⟨gb118, 3, none⟩ = some (.int .i64 a0_3) := (blk_cell BK118.out 3).trans rfl
                                have hcz70_4 : wc.cell? ⟨gb118, 4, none⟩ = some (.slice A0_4 l0_4.length c0_4) := (blk_cell BK118.out 4).trans rfl
                                have hcz70_5 : wc.cell? ⟨gb118, 5, none⟩ = some (.slice A0_5 l0_5.length c0_5) := (blk_cell BK118.out 5).trans rfl
                                have hfz70_0 := blk_frozen BK118.out 0
                                have hfz70_1 := blk_frozen BK118.out 1
                                have hfz70_2 := blk_frozen BK118.out 2
                                have hfz70_3 := blk_frozen BK118.out 3
                                have hfz70_4 := blk_frozen BK118.out 4
                                have hfz70_5 := blk_frozen BK118.out 5
                                go_wp2
                                go_ret
                                exact ⟨by first | rfl | (simp [errW_none, errW_some] <;> rfl) | (simp [*, errW_none, errW_some] <;> rfl), by repeat (first | (with_reducible first | exact HB.out | apply below_alloc | apply pw_below_drewN | apply below_drew1 | refine below_set ?_ GE118.out) | exact HB.out)⟩
                          · rw [if_neg c65] at H
                            have c65b0 : (a0_0 == 7) = false := beq_eq_false_iff_ne.mpr c65
                            have c65b1 : (a0_0 != 7) = true := bne_iff_ne.mpr c65
                            by_cases c71 : a0_3 > 255
                            · rw [if_pos c71] at H
                              have c71b0 : decide (255 < a0_3) = true := decide_eq_true c71
                              clear c71
                              obtain rfl := Option.some.inj H
                              have hcz72_0 : wc.cell? ⟨gb118, 0, none⟩ = some (.int .i64 a0_0) := (blk_cell BK118.out 0).trans rfl
                              have hcz72_1 : wc.cell? ⟨gb118, 1, none⟩ = some (.int .i64 a0_1) := (blk_cell BK118.out 1).trans rfl
                              have hcz72_2 : wc.cell? ⟨gb118, 2, none⟩ = some (.int .i64 a0_2) := (blk_cell BK118.out 2).trans rfl
                              have hcz72_3 : wc.cell? ⟨gb118, 3, none⟩ = some (.int .i64 a0_3) := (blk_cell BK118.out 3).trans rfl
                              have hcz72_4 : wc.cell? ⟨gb118, 4, none⟩ = some (.slice A0_4 l0_4.length c0_4) := (blk_cell BK118.out 4).trans rfl
                              have hcz72_5 : wc.cell? ⟨gb118, 5, none⟩ = some (.slice A0_5 l0_5.length c0_5) := (blk_cell BK118.out 5).trans rfl
                              have hfz72_0 := blk_frozen BK118.out 0
                              have hfz72_1 := blk_frozen BK118.out 1
                              have hfz72_2 := blk_frozen BK118.out 2
                              have hfz72_3 := blk_frozen BK118.out 3
                              have hfz72_4 := blk_frozen BK118.out 4
                              have hfz72_5 := blk_frozen BK118.out 5
                              go_wp2
                              go_ret
                              exact ⟨by first | rfl | (simp [errW_none, errW_some] <;> rfl) | (simp [*, errW_none, errW_some] <;> rfl), by repeat (first | (with_reducible first | exact HB.out | apply below_alloc | apply pw_below_drewN | apply below_drew1 | refine below_set ?_ GE118.out) | exact HB.out)⟩
                            · rw [if_neg c71] at H
                              have c71b0 : decide (255 < a0_3) = false := decide_eq_false c71
                              clear c71
                              by_cases c73 : (l0_4.length : Int) > 65535
                              · rw [if_pos c73] at H
                                have c73b0 : decide (65535 < (l0_4.length : Int)) = true := decide_eq_true c73
                                have c73b1 : decide (65535 < l0_4.length) = true := decide_eq_true (by omega)
                                clear c73
                                obtain rfl := Option.some.inj H
                                have hcz74_0 : wc.cell? ⟨gb118, 0, none⟩ = some (.int .i64 a0_0) := (blk_cell BK118.out 0).trans rfl
                                have hcz74_1 : wc.cell? ⟨gb118, 1, none⟩ = some (.int .i64 a0_1) := (blk_cell BK118.out 1).trans rfl
                                have hcz74_2 : wc.cell? ⟨gb118, 2, none⟩ = some (.int .i64 a0_2) := (blk_cell BK118.out 2).trans rfl
                                have hcz74_3 : wc.cell? ⟨gb118, 3, none⟩ = some (.int .i64 a0_3) := (blk_cell BK118.out 3).trans rfl
                                have hcz74_4 : wc.cell? ⟨gb118, 4, none⟩ = some (.slice A0_4 l0_4.length c0_4) := (blk_cell BK118.out 4).trans rfl
                                have hcz74_5 : wc.cell? ⟨gb118, 5, none⟩ = some (.slice A0_5 l0_5.length c0_5) := (blk_cell BK118.out 5).trans rfl
                                have hfz74_0 := blk_frozen BK118.out 0
                                have hfz74_1 := blk_frozen BK118.out 1
                                have hfz74_2 := blk_frozen BK118.out 2
                                have hfz74_3 := blk_frozen BK118.out 3
                                have hfz74_4 := blk_frozen BK118.out 4
                                have hfz74_5 := blk_frozen BK118.out 5
                                go_wp2
                                go_ret
                                exact ⟨by first | rfl | (simp [errW_none, errW_some] <;> rfl) | (simp [*, errW_none, errW_some] <;> rfl), by repeat (first | (with_reducible first | exact HB.out | apply below_alloc | apply pw_below_drewN | apply below_drew1 | refine below_set ?_ GE118.out) | exact HB.out)⟩
                              · rw [if_neg c73] at H
                                have c73b0 : decide (65535 < (l0_4.length : Int)) = false := decide_eq_false c73
                                have c73b1 : decide (65535 < l0_4.length) = false := decide_eq_false (by omega)
                                clear c73
                                by_cases c75 : (l0_5.length : Int) > 255
                                · rw [if_pos c75] at H
                                  have c75b0 : decide (255 < (l0_5.length : Int)) = true := decide_eq_true c75
                                  have c75b1 : decide (255 < l0_5.length) = true := decide_eq_true (by omega)
                                  clear c75
                                  obtain rfl := Option.some.inj H
                                  have hcz76_0 : wc.cell? ⟨gb118, 0, none⟩ = some (.int .i64 a0_0) := (blk_cell BK118.out 0).trans rfl
                                  have hcz76_1 : wc.cell? ⟨gb118, 1, none⟩ = some (.int .i64 a0_1) := (blk_cell BK118.out 1).trans rfl
                                  have hcz76_2 : wc.cell? ⟨gb118, 2, none⟩ = some (.int .i64 a0_2) := (blk_cell BK118.out 2).trans rfl
                                  have hcz76_3 : wc.cell? ⟨gb118, 3, none⟩ = some (.int .i64 a0_3) := (blk_cell BK118.out 3).trans rfl
                                  have hcz76_4 : wc.cell? ⟨gb118, 4, none⟩ = some (.slice A0_4 l0_4.length c0_4) := (blk_cell BK118.out 4).trans rfl
                                  have hcz76_5 : wc.cell? ⟨gb118, 5, none⟩ = some (.slice A0_5 l0_5.length c0_5) := (blk_cell BK118.out 5).trans rfl
                                  have hfz76_0 := blk_frozen BK118.out 0
                                  have hfz76_1 := blk_frozen BK118.out 1
                                  have hfz76_2 := blk_frozen BK118.out 2
                                  have hfz76_3 := blk_frozen BK118.out 3
                                  have hfz76_4 := blk_frozen BK118.out 4
                                  have hfz76_5 := blk_frozen BK118.out 5
                                  go_wp2
                                  go_ret
                                  exact ⟨by first | rfl | (simp [errW_none, errW_some] <;> rfl) | (simp [*, errW_none, errW_some] <;> rfl), by repeat (first | (with_reducible first | exact HB.out | apply below_alloc | apply pw_below_drewN | apply below_drew1 | refine below_set ?_ GE118.out) | exact HB.out)⟩
                                · rw [if_neg c75] at H
                                  have c75b0 : decide (255 < (l0_5.length : Int)) = false := decide_eq_false c75
                                  have c75b1 : decide (255 < l0_5.length) = false := decide_eq_false (by omega)
                                  clear c75
                                  obtain rfl := Option.some.inj H
                                  have hcz77_0 : wc.cell? ⟨gb118, 0, none⟩ = some (.int .i64 a0_0) := (blk_cell BK118.out 0).trans rfl
                                  have hcz77_1 : wc.cell? ⟨gb118, 1, none⟩ = some (.int .i64 a0_1) := (blk_cell BK118.out 1).trans rfl
                                  have hcz77_2 : wc.cell? ⟨gb118, 2, none⟩ = some (.int .i64 a0_2) := (blk_cell BK118.out 2).trans rfl
                                  have hcz77_3 : wc.cell? ⟨gb118, 3, none⟩ = some (.int .i64 a0_3) := (blk_cell BK118.out 3).trans rfl
                                  have hcz77_4 : wc.cell? ⟨gb118, 4, none⟩ = some (.slice A0_4 l0_4.length c0_4) := (blk_cell BK118.out 4).trans rfl
                                  have hcz77_5 : wc.cell? ⟨gb118, 5, none⟩ = some (.slice A0_5 l0_5.length c0_5) := (blk_cell BK118.out 5).trans rfl
                                  have hfz77_0 := blk_frozen BK118.out 0
                                  have hfz77_1 := blk_frozen BK118.out 1
                                  have hfz77_2 := blk_frozen BK118.out 2
                                  have hfz77_3 := blk_frozen BK118.out 3
                                  have hfz77_4 := blk_frozen BK118.out 4
                                  have hfz77_5 := blk_frozen BK118.out 5
                                  go_wp2
                                  go_ret
                                  exact ⟨by first | rfl | (simp [errW_none, errW_some] <;> rfl) | (simp [*, errW_none, errW_some] <;> rfl), by repeat (first | (with_reducible first | exact HB.out | apply below_alloc | apply pw_below_drewN | apply below_drew1 | refine below_set ?_ GE118.out) | exact HB.out)⟩

end Go.Proofs.Ythnefjkpjhfkgaa.PScriptWrites
