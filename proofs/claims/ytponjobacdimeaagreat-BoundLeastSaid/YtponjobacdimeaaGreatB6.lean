/- deque.New: what it comes to. -/
import Derived.Test.YtponjobacdimeaaGreatB5
namespace Go.Proofs.YtponjobacdimeaaGreat.Core
open Go.RowKit Go.Proofs.YtponjobacdimeaaGreatW.PrintWords Go.Proofs.YtponjobacdimeaaGreat.PBoundLeast Go.Proofs.YtponjobacdimeaaGreat
set_option linter.unusedVariables false
set_option linter.unusedSimpArgs false
theorem results_row_t {fn : Func} {P : Program} {p q : Tmp} {ty : TypeId} (h : fn.results = #[.cell p ty, .tmp q]) (tmps : Array Value) (w : World) (g : Nat) (t : TypeId) (cs : Array Value) (fr : Nat × Nat) (d : TypeDesc) (u : Value)
    (hp : tmps.getD p undef = .pointer (some ⟨g, 0, none⟩)) (hq : tmps.getD q undef = u) (hg : w.heap[g]? = some (.cells cs t fr))
    (hu : P.underlying ty = some d) (hd : (match d with | .struct _ | .array _ _ => true | _ => false) = true) (hi : (P.info? ty).map (·.size) = some cs.size) :
    (results fn tmps).run P w = .ok (.tuple #[.agg cs, u]) w := by
  have hp' : tmps[p]?.getD undef = .pointer (some ⟨g, 0, none⟩) := by simpa using hp
  have hq' : tmps[q]?.getD undef = u := by simpa using hq
  simp [results, h, hp', hq', asAddr, run_loadVar_row w g t ty cs fr d hg hu hd hi]
theorem wordsD_nat (r : Nat) (h1 : 1 ≤ r) (h2 : r ≤ 1000) : wordsD (r : Int) = ((r + 2 : Nat) : Int) := by
  unfold wordsD
  rw [if_pos (by omega)]
  omega
/-- What deque.New answers: a deque, or none; the memory is one still. -/
def GivesD (B b g1 g2 n : Nat) (w : World) (e : Ending) (w' : World) : Prop := ∃ x y z er : Int, e = .returned (.tuple #[.agg #[.int .i64 x, .int .i64 y, .int .i64 z], .int .i64 er]) ∧ MemAt B b g1 g2 n w' ∧ Kp [2, 4] w w' ∧ Below B w w'
theorem set3 {W : World} {g t : Nat} {z0 z1 z2 : Int} (h : W.heap[g]? = some (.cells (ints [z0, z1, z2]) t (0, 0))) (a0 a1 a2 : Int) :
    (((W.setCell ⟨g, 0, none⟩ (.int .i64 a0)).setCell ⟨g, 1, none⟩ (.int .i64 a1)).setCell ⟨g, 2, none⟩ (.int .i64 a2)).heap[g]? = some (.cells (ints [a0, a1, a2]) t (0, 0)) :=
  blk_set (blk_set (blk_set h 0 _) 1 _) 2 _
theorem below3 {w W : World} {b base : Nat} (hb : base ≤ b) (h : Below base w W) (a0 a1 a2 : Value) :
    Below base w (((W.setCell ⟨b, 0, none⟩ a0).setCell ⟨b, 1, none⟩ a1).setCell ⟨b, 2, none⟩ a2) :=
  ((h.setCell (p := ⟨b, 0, none⟩) hb _).setCell (p := ⟨b, 1, none⟩) hb _).setCell (p := ⟨b, 2, none⟩) hb _
theorem Kp.fresh {ts : List Nat} {w W : World} (h : Kp ts w W) (g : Nat) (hg : w.heap.size ≤ g) (j : Nat) (v : Value) : Kp ts w (W.setCell ⟨g, j, none⟩ v) :=
  ⟨by rw [World.size_setCell]; exact h.1, fun k cs t fr hk ht => by
    have hlt := (Array.getElem?_eq_some_iff.1 hk).1
    rw [Below.heap_setCell W ⟨g, j, none⟩ v k (by show k ≠ g; omega)]
    exact h.2 k cs t fr hk ht⟩
set_option maxRecDepth 100000 in
set_option maxHeartbeats 4000000 in
theorem dnew_any {B b g1 g2 n : Nat} (hn : n ≤ 65536) (kd : Int) (hk1 : 1 ≤ kd) (hk2 : kd ≤ 3) (p r : Nat) (hr1 : 1 ≤ r) (hr2 : r ≤ 1000) (hpr : p + (r + 2) ≤ n) (w : World) (h : MemAt B b g1 g2 n w) (hBw : B ≤ w.heap.size) :
    Calls Tryz.prog 23 #[.pointer (some ⟨b, 0, none⟩), .int .i64 kd, .int .i64 (p : Int), .int .i64 (r : Int)] w (GivesD B b g1 g2 n w) := by
  have c1 : decide (kd < 1) = false := decide_eq_false (by omega)
  have c2 : decide (kd > 3) = false := decide_eq_false (by omega)
  have c3 : (((r + 2 : Nat) : Int) == 0) = false := by rw [beq_eq_false_iff_ne]; omega
  have hwd : ∀ W, Calls Tryz.prog 18 #[.int .i64 (r : Int)] W fun e w' => e = .returned (.int .i64 ((r + 2 : Nat) : Int)) ∧ Below W.heap.size W w' := fun W => by
    have := words_any (r : Int) W
    rwa [wordsD_nat r hr1 hr2] at this
  have HWD := Lib.hid hwd
  obtain ⟨rw', hrw⟩ : ∃ x, x = r + 2 := ⟨_, rfl⟩
  rw [← hrw] at HWD c3
  have HLV := Lib.hid (fun W (hM : MemAt B b g1 g2 n W) (hB : B ≤ W.heap.size) => live_any hn p rw' (by omega) W hM hB)
  have HB := Lib.hid hBw
  have HA0 : Hid (MemAt B b g1 g2 n (w.alloc (.cells (ints [0, 0, 0]) 74)) ∧ Kp [2, 4] w (w.alloc (.cells (ints [0, 0, 0]) 74)) ∧ Below B w (w.alloc (.cells (ints [0, 0, 0]) 74)) ∧ (w.alloc (.cells (ints [0, 0, 0]) 74)).heap[w.heap.size]? = some (.cells (ints [0, 0, 0]) 74 (0, 0))) :=
    ⟨h.below ((Below.refl _ _).alloc (Nat.le_refl _) _), Kp.below ((Below.refl _ _).alloc (Nat.le_refl _) _), (Below.refl _ _).alloc hBw _, heap_alloc_new _ _⟩
  clear h hBw hwd hn hk1 hk2 hr1 hr2 hpr hrw
  go_enter Tryz.func23, Tryz.ntmps23
  go_wp2_with fail
  refine (HWD.out _).mono ?_
  rintro _ w1 ⟨rfl, hb1⟩
  have HA1 : Hid (MemAt B b g1 g2 n w1 ∧ Kp [2, 4] w w1 ∧ Below B w w1 ∧ w1.heap[w.heap.size]? = some (.cells (ints [0, 0, 0]) 74 (0, 0))) :=
    ⟨HA0.out.1.below hb1, HA0.out.2.1.trans (Kp.below hb1), HA0.out.2.2.1.trans (hb1.mono (Nat.le_trans HB.out HA0.out.2.1.1)), blk_below HA0.out.2.2.2 hb1⟩
  clear hb1
  go_wp2_with fail
  refine (HWD.out _).mono ?_
  rintro _ w2 ⟨rfl, hb2⟩
  have HA2 : Hid (MemAt B b g1 g2 n w2 ∧ Kp [2, 4] w w2 ∧ Below B w w2 ∧ w2.heap[w.heap.size]? = some (.cells (ints [0, 0, 0]) 74 (0, 0))) :=
    ⟨HA1.out.1.below hb2, HA1.out.2.1.trans (Kp.below hb2), HA1.out.2.2.1.trans (hb2.mono (Nat.le_trans HB.out HA1.out.2.1.1)), blk_below HA1.out.2.2.2 hb2⟩
  clear hb2
  go_wp2_with fail
  refine (HLV.out _ HA2.out.1 (Nat.le_trans HB.out HA2.out.2.1.1)).mono ?_
  rintro _ w3 ⟨er, rfl, hm3, hk3, hb3⟩
  have HA3 : Hid (MemAt B b g1 g2 n w3 ∧ Kp [2, 4] w w3 ∧ Below B w w3 ∧ w3.heap[w.heap.size]? = some (.cells (ints [0, 0, 0]) 74 (0, 0))) :=
    ⟨hm3, HA2.out.2.1.trans hk3, HA2.out.2.2.1.trans hb3, hk3.2 _ _ _ _ HA2.out.2.2.2 (by decide)⟩
  clear hm3 hk3 hb3
  have k0 := cell_ints HA3.out.2.2.2 0 _ rfl
  have k1 := cell_ints HA3.out.2.2.2 1 _ rfl
  have k2 := cell_ints HA3.out.2.2.2 2 _ rfl
  have y0 := blk_frozen HA3.out.2.2.2 0
  have y1 := blk_frozen HA3.out.2.2.2 1
  have y2 := blk_frozen HA3.out.2.2.2 2
  have HF : Hid (∀ a0 a1 a2 : Int, MemAt B b g1 g2 n (((w3.setCell ⟨w.heap.size, 0, none⟩ (.int .i64 a0)).setCell ⟨w.heap.size, 1, none⟩ (.int .i64 a1)).setCell ⟨w.heap.size, 2, none⟩ (.int .i64 a2)) ∧ Kp [2, 4] w (((w3.setCell ⟨w.heap.size, 0, none⟩ (.int .i64 a0)).setCell ⟨w.heap.size, 1, none⟩ (.int .i64 a1)).setCell ⟨w.heap.size, 2, none⟩ (.int .i64 a2)) ∧ Below B w (((w3.setCell ⟨w.heap.size, 0, none⟩ (.int .i64 a0)).setCell ⟨w.heap.size, 1, none⟩ (.int .i64 a1)).setCell ⟨w.heap.size, 2, none⟩ (.int .i64 a2))) := fun a0 a1 a2 => by
    obtain ⟨hm, hk, hb, hg⟩ := HA3.out
    have hg1 := blk_set hg 0 (.int .i64 a0)
    have hg2 := blk_set hg1 1 (.int .i64 a1)
    refine ⟨((hm.keep (Kp.set hg (ts := [74]) (by simp) 0 _) (by decide) (by decide) (by decide)).keep (Kp.set hg1 (ts := [74]) (by simp) 1 _) (by decide) (by decide) (by decide)).keep (Kp.set hg2 (ts := [74]) (by simp) 2 _) (by decide) (by decide) (by decide), ((hk.fresh _ (Nat.le_refl _) _ _).fresh _ (Nat.le_refl _) _ _).fresh _ (Nat.le_refl _) _ _, below3 HB.out hb _ _ _⟩
  by_cases he : er = 0
  · have e1 : (er != 0) = false := by rw [he]; rfl
    clear he
    go_wp2_with fail
    refine bodyPost_ret (results_row_t rfl _ _ w.heap.size 74 _ (0, 0) _ _ rfl rfl (set3 HA3.out.2.2.2 _ _ _) Tryz.underlying74 rfl (by kernel_rfl)) rfl ?_
    exact ⟨_, _, _, _, rfl, HF.out _ _ _⟩
  · have e1 : (er != 0) = true := bne_iff_ne.2 he
    clear he
    go_wp2_with fail
    refine bodyPost_ret (results_row_t rfl _ _ w.heap.size 74 _ (0, 0) _ _ rfl rfl (set3 HA3.out.2.2.2 _ _ _) Tryz.underlying74 rfl (by kernel_rfl)) rfl ?_
    exact ⟨_, _, _, _, rfl, HF.out _ _ _⟩
end Go.Proofs.YtponjobacdimeaaGreat.Core
