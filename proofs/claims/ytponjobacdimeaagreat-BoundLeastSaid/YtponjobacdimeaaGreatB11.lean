/- bound.Least: what it comes to. -/
import Derived.Test.YtponjobacdimeaaGreatB10
namespace Go.Proofs.YtponjobacdimeaaGreat.Core
open Go.RowKit Go.Proofs.YtponjobacdimeaaGreatW.PrintWords Go.Proofs.YtponjobacdimeaaGreat.PBoundLeast Go.Proofs.YtponjobacdimeaaGreat
set_option linter.unusedVariables false
set_option linter.unusedSimpArgs false
/-- What bound.Least answers. -/
abbrev leastV (W K R r1 r2 r3 er : Int) : Value := .tuple #[.agg (ints (if er = 0 then [W, K, R, r1, r2, r3] else [0, 0, 0, 0, 0, 0])), .int .i64 er]
theorem set6 {W : World} {g t : Nat} {z0 z1 z2 z3 z4 z5 : Int} (h : W.heap[g]? = some (.cells (ints [z0, z1, z2, z3, z4, z5]) t (0, 0))) (a0 a1 a2 a3 a4 a5 : Int) :
    ((((((W.setCell ⟨g, 0, none⟩ (.int .i64 a0)).setCell ⟨g, 1, none⟩ (.int .i64 a1)).setCell ⟨g, 2, none⟩ (.int .i64 a2)).setCell ⟨g, 3, none⟩ (.int .i64 a3)).setCell ⟨g, 4, none⟩ (.int .i64 a4)).setCell ⟨g, 5, none⟩ (.int .i64 a5)).heap[g]? = some (.cells (ints [a0, a1, a2, a3, a4, a5]) t (0, 0)) :=
  blk_set (blk_set (blk_set (blk_set (blk_set (blk_set h 0 _) 1 _) 2 _) 3 _) 4 _) 5 _
theorem below6 {w W : World} {b base : Nat} (hb : base ≤ b) (h : Below base w W) (a0 a1 a2 a3 a4 a5 : Value) :
    Below base w ((((((W.setCell ⟨b, 0, none⟩ a0).setCell ⟨b, 1, none⟩ a1).setCell ⟨b, 2, none⟩ a2).setCell ⟨b, 3, none⟩ a3).setCell ⟨b, 4, none⟩ a4).setCell ⟨b, 5, none⟩ a5) :=
  (((((h.setCell (p := ⟨b, 0, none⟩) hb _).setCell (p := ⟨b, 1, none⟩) hb _).setCell (p := ⟨b, 2, none⟩) hb _).setCell (p := ⟨b, 3, none⟩) hb _).setCell (p := ⟨b, 4, none⟩) hb _).setCell (p := ⟨b, 5, none⟩) hb _
set_option maxRecDepth 100000 in
set_option maxHeartbeats 4000000 in
theorem least_any (k : Nat) (W K R r1 r2 r3 r4 : Int) (A : Option Addr) (cp : Nat) (l : List S43) (w : World)
    (hr : Kd.C k43 w A l.length l) (hc : l.length ≤ cp) (h : bound_Sum.f k l = some (r1, r2, r3, r4)) :
    Calls Tryz.prog 6 #[.int .i64 W, .int .i64 K, .int .i64 R, .slice A l.length cp] w fun e w' => e = .returned (leastV W K R r1 r2 r3 (errC W K R r1 r2 r3)) ∧ Below w.heap.size w w' := by
  obtain ⟨er, her⟩ : ∃ x, x = errC W K R r1 r2 r3 := ⟨_, rfl⟩
  have HS := Lib.hid (fun w1 (hb : Kd.C k43 w1 A l.length l) => bound_Sum.calls k A cp l r1 r2 r3 r4 w1 hb hc h)
  have HR := Lib.hid hr
  have HN := Lib.hid (fun X => snew_any W K R r1 r2 r3 X)
  rw [← her] at HN ⊢
  obtain ⟨len, hlen⟩ : ∃ x, x = l.length := ⟨_, rfl⟩
  rw [← hlen] at HS HR ⊢
  clear hr hc h her hlen
  go_enter Tryz.func6, Tryz.ntmps6
  go_wp2_with fail
  refine (HS.out _ (Kd.C_below HR.out ((Below.refl _ _).alloc (Nat.le_refl _) _))).mono ?_
  rintro e w1 ⟨rfl, hb1⟩
  go_wp2_with fail
  refine (blocks_any _ _ _ _ _).mono ?_
  rintro e w2 ⟨rfl, hb2⟩
  go_wp2_with fail
  have HB2 : Hid (Below w.heap.size w w2 ∧ w2.heap[w.heap.size]? = some (.cells (ints [0, 0, 0, 0, 0, 0]) 29 (0, 0))) := by
    have ha : Below w.heap.size w (w.alloc (.cells (ints [0, 0, 0, 0, 0, 0]) 29)) := (Below.refl _ _).alloc (Nat.le_refl _) _
    have hb12 := hb1.trans (hb2.mono hb1.size)
    exact ⟨ha.trans (hb12.mono ha.size), blk_below (heap_alloc_new _ _) hb12⟩
  clear hb1 hb2
  refine (HN.out _).mono ?_
  rintro e w3 ⟨p, rfl, hb3⟩
  have HB3 : Hid (Below w.heap.size w w3 ∧ w3.heap[w.heap.size]? = some (.cells (ints [0, 0, 0, 0, 0, 0]) 29 (0, 0)) ∧ w3.heap[w2.heap.size]? = some (.cells (ints [W, K, R, r1, r2, r3]) 29 (0, 0))) := by
    have ha : Below w2.heap.size w2 (w2.alloc (.cells (ints [W, K, R, r1, r2, r3]) 29)) := (Below.refl _ _).alloc (Nat.le_refl _) _
    have h23 : Below w2.heap.size w2 w3 := ha.trans (hb3.mono ha.size)
    exact ⟨HB2.out.1.trans (h23.mono HB2.out.1.size), blk_below HB2.out.2 h23, blk_below (heap_alloc_new _ _) hb3⟩
  clear hb3
  obtain ⟨g, hg⟩ : ∃ x, x = w2.heap.size := ⟨_, rfl⟩
  rw [← hg] at HB3 ⊢
  clear hg
  have k0 := cell_ints HB3.out.2.2 0 _ rfl
  have k1 := cell_ints HB3.out.2.2 1 _ rfl
  have k2 := cell_ints HB3.out.2.2 2 _ rfl
  have k3 := cell_ints HB3.out.2.2 3 _ rfl
  have k4 := cell_ints HB3.out.2.2 4 _ rfl
  have k5 := cell_ints HB3.out.2.2 5 _ rfl
  have z0 := cell_ints HB3.out.2.1 0 _ rfl
  have z1 := cell_ints HB3.out.2.1 1 _ rfl
  have z2 := cell_ints HB3.out.2.1 2 _ rfl
  have z3 := cell_ints HB3.out.2.1 3 _ rfl
  have z4 := cell_ints HB3.out.2.1 4 _ rfl
  have z5 := cell_ints HB3.out.2.1 5 _ rfl
  have y0 := blk_frozen HB3.out.2.1 0
  have y1 := blk_frozen HB3.out.2.1 1
  have y2 := blk_frozen HB3.out.2.1 2
  have y3 := blk_frozen HB3.out.2.1 3
  have y4 := blk_frozen HB3.out.2.1 4
  have y5 := blk_frozen HB3.out.2.1 5
  by_cases he : er = 0
  · have e1 : (er != 0) = false := by rw [he]; rfl
    have HE := Lib.hid he
    clear he
    go_wp2_with fail
    refine bodyPost_ret (results_row_t rfl _ _ w.heap.size 29 _ (0, 0) _ _ rfl rfl (set6 HB3.out.2.1 _ _ _ _ _ _) Tryz.underlying29 rfl (by kernel_rfl)) rfl ?_
    refine ⟨?_, below6 (Nat.le_refl _) HB3.out.1 _ _ _ _ _ _⟩
    rw [HE.out]; rfl
  · have e1 : (er != 0) = true := bne_iff_ne.2 he
    have HE := Lib.hid he
    clear he
    go_wp2_with fail
    refine bodyPost_ret (results_row_t rfl _ _ w.heap.size 29 _ (0, 0) _ _ rfl rfl (set6 HB3.out.2.1 _ _ _ _ _ _) Tryz.underlying29 rfl (by kernel_rfl)) rfl ?_
    refine ⟨?_, below6 (Nat.le_refl _) HB3.out.1 _ _ _ _ _ _⟩
    unfold leastV; rw [if_neg HE.out]; rfl
end Go.Proofs.YtponjobacdimeaaGreat.Core
