/- mem: Words, turn, Live: what each comes to. -/
import Derived.Test.YtponjobacdimeaaGreatB3
import Derived.BigRegion
import Derived.Deep.LoopGhost
namespace Go.Proofs.YtponjobacdimeaaGreat.Core
open Go.RowKit Go.Proofs.YtponjobacdimeaaGreatW.PrintWords Go.Proofs.YtponjobacdimeaaGreat.PBoundLeast Go.Proofs.YtponjobacdimeaaGreat
set_option linter.unusedVariables false
set_option linter.unusedSimpArgs false
theorem step_lt {j d m : Nat} (h : j + d = m) (hj : j < m) : m - (j + 1) < d := by omega
theorem step_eq {j m : Nat} (hj : j < m) : j + 1 + (m - (j + 1)) = m := by omega
/-- What is of no type of a list stays as it is. -/
def Kp (ts : List Nat) (w w' : World) : Prop := w.heap.size ≤ w'.heap.size ∧ ∀ (g : Nat) (cs : Array Value) (t : Nat) (fr : Nat × Nat), w.heap[g]? = some (Obj.cells cs t fr) → t ∉ ts → w'.heap[g]? = some (Obj.cells cs t fr)
theorem Kp.refl (ts : List Nat) (w : World) : Kp ts w w := ⟨Nat.le_refl _, fun _ _ _ _ h _ => h⟩
theorem Kp.trans {ts : List Nat} {w w1 w2 : World} (h : Kp ts w w1) (h' : Kp ts w1 w2) : Kp ts w w2 := ⟨Nat.le_trans h.1 h'.1, fun g cs t fr hg ht => h'.2 g cs t fr (h.2 g cs t fr hg ht) ht⟩
theorem Kp.more {ts ts' : List Nat} {w w1 : World} (h : Kp ts w w1) (hs : ∀ t, t ∈ ts → t ∈ ts') : Kp ts' w w1 := ⟨h.1, fun g cs t fr hg ht => h.2 g cs t fr hg (fun e => ht (hs t e))⟩
theorem Kp.below {ts : List Nat} {w w' : World} (h : Below w.heap.size w w') : Kp ts w w' := ⟨h.size, fun g cs t fr hg _ => (h.block g (Array.getElem?_eq_some_iff.1 hg).1).trans hg⟩
theorem Kp.set {ts : List Nat} {w : World} {b : Nat} {cb : Array Value} {tb : Nat} {fb : Nat × Nat} (hb : w.heap[b]? = some (Obj.cells cb tb fb)) (ht : tb ∈ ts) (j : Nat) (v : Value) : Kp ts w (w.setCell ⟨b, j, none⟩ v) :=
  ⟨Nat.le_of_eq (World.size_setCell _ _ _).symm, fun g cs t fr h hn => by
    have hne : g ≠ b := fun e => by
      rw [e, hb] at h
      injection h with h
      injection h with _ h
      exact hn (h ▸ ht)
    rw [Below.heap_setCell w ⟨b, j, none⟩ v g hne]
    exact h⟩
theorem MemAt.keep {B b g1 g2 n : Nat} {W W' : World} (h : MemAt B b g1 g2 n W) {ts : List Nat} (hk : Kp ts W W') (h89 : 89 ∉ ts) (h2 : 2 ∉ ts) (h4 : 4 ∉ ts) : MemAt B b g1 g2 n W' := by
  obtain ⟨hB, hb, ⟨cs, hw, hs⟩, bs, hl, hn⟩ := h
  exact ⟨hB, hk.2 _ _ _ _ hb h89, ⟨cs, hk.2 _ _ _ _ hw h2, hs⟩, bs, hk.2 _ _ _ _ hl h4, hn⟩
theorem MemAt.below {B b g1 g2 n : Nat} {W W' : World} (h : MemAt B b g1 g2 n W) (hb : Below W.heap.size W W') : MemAt B b g1 g2 n W' := h.keep (Kp.below (ts := []) hb) (by simp) (by simp) (by simp)
theorem MemAt.ne {B b g1 g2 n : Nat} {W : World} (h : MemAt B b g1 g2 n W) : b ≠ g1 ∧ b ≠ g2 ∧ g1 ≠ g2 := by
  obtain ⟨hB, hb, ⟨cs, hw, hs⟩, bs, hl, hn⟩ := h
  refine ⟨fun e => ?_, fun e => ?_, fun e => ?_⟩
  · rw [e, hw] at hb; injection hb with hb; injection hb with _ hb; exact absurd hb (by decide)
  · rw [e, hl] at hb; injection hb with hb; injection hb with _ hb; exact absurd hb (by decide)
  · rw [e, hl] at hw; injection hw with hw; injection hw with _ hw; exact absurd hw (by decide)
theorem MemAt.word {B b g1 g2 n : Nat} {W : World} (h : MemAt B b g1 g2 n W) (j : Nat) (x : Int) : MemAt B b g1 g2 n (W.setCell ⟨g1, j, none⟩ (.int .i64 x)) := by
  obtain ⟨n1, n2, n3⟩ := h.ne
  obtain ⟨hB, hb, ⟨cs, hw, hs⟩, bs, hl, hn⟩ := h
  exact ⟨hB, blk_far hb (by show b ≠ g1; exact n1) _, ⟨_, blk_set hw j _, by simpa using hs⟩, bs, blk_far hl (by show g2 ≠ g1; exact fun e => n3 e.symm) _, hn⟩
theorem MemAt.live {B b g1 g2 n : Nat} {W : World} (h : MemAt B b g1 g2 n W) (j : Nat) (v : Bool) : MemAt B b g1 g2 n (W.setCell ⟨g2, j, none⟩ (.bool v)) := by
  obtain ⟨n1, n2, n3⟩ := h.ne
  obtain ⟨hB, hb, ⟨cs, hw, hs⟩, bs, hl, hn⟩ := h
  refine ⟨hB, blk_far hb (by show b ≠ g2; exact n2) _, ⟨cs, blk_far hw (by show g1 ≠ g2; exact n3) _, hs⟩, bs.set j v, ?_, by simpa using hn⟩
  have := blk_set hl j (.bool v)
  rw [this]
  simp [List.map_set]
set_option maxRecDepth 100000 in
theorem mwords_any {B b g1 g2 n : Nat} (w : World) (h : MemAt B b g1 g2 n w) : Calls Tryz.prog 29 #[.pointer (some ⟨b, 0, none⟩)] w fun e w' => e = .returned (.int .i64 (n : Int)) ∧ w' = w := by
  have k0 := (blk_cell h.blk 0).trans rfl
  clear h
  go_enter Tryz.func29, Tryz.ntmps29
  go_wp2_with fail
  go_ret
  exact ⟨rfl, rfl⟩
theorem index_some (l : List Bool) (a : Bool) (hl : l.length ≤ 1000000) : ∀ (d j : Nat), l.length - j = d → j ≤ l.length → ∃ k r, slices_Index_bool_bool.l0 k l a (l.length : Int) (j : Int) = some r := by
  intro d
  induction d with
  | zero =>
    intro j h1 h2
    exact ⟨1, -1, by rw [slices_Index_bool_bool.l0, if_neg (by omega)]⟩
  | succ d ih =>
    intro j h1 h2
    obtain ⟨k, r, hk⟩ := ih (j + 1) (by omega) (by omega)
    by_cases he : (a == rdOf false l (j : Int)) = true
    · exact ⟨1, j, by rw [slices_Index_bool_bool.l0, if_pos (by omega), if_pos (by omega), if_pos (by omega), if_pos he]⟩
    · exact ⟨k + 1, r, by rw [slices_Index_bool_bool.l0, if_pos (by omega), if_pos (by omega), if_pos (by omega), if_neg he, show wrap64 ((j : Int) + 1) = ((j + 1 : Nat) : Int) by unfold wrap64; omega]; exact hk⟩
theorem contains_any (l : List Bool) (a : Bool) (hl : l.length ≤ 1000000) : ∃ r : Bool, ∀ (A : Option Addr) (c : Nat) (w : World), Kd.C Kd.bool w A l.length l → l.length ≤ c → Calls Tryz.prog 44 #[.slice A l.length c, .bool a] w fun e w' => e = .returned (.bool r) ∧ Below w.heap.size w w' := by
  obtain ⟨k, r, hk⟩ := index_some l a hl _ 0 rfl (Nat.zero_le _)
  refine ⟨decide (r ≥ 0), fun A c w hC hc => ?_⟩
  have hf : slices_Contains_bool_bool.f k l a = some (decide (r ≥ 0)) := by
    unfold slices_Contains_bool_bool.f slices_Index_bool_bool.f
    rw [show ((0 : Int)) = ((0 : Nat) : Int) from rfl, hk]
    rfl
  refine (slices_Contains_bool_bool.calls k A c l a _ w hC hc hf).mono ?_
  rintro e w' ⟨he, hd⟩
  obtain ⟨nd, rfl⟩ := hd
  exact ⟨he, pw_below_drewN (Below.refl _ _) nd⟩
/-- What mem.Mem's turn does: the memory is one still, and nothing but words and marks is turned. -/
def GivesL (B b g1 g2 n : Nat) (w : World) (e : Ending) (w' : World) : Prop := ∃ er : Int, e = .returned (.int .i64 er) ∧ MemAt B b g1 g2 n w' ∧ Kp [2, 4] w w' ∧ Below B w w'
set_option maxRecDepth 100000 in
set_option maxHeartbeats 8000000 in
theorem turn_any {B b g1 g2 n : Nat} (hn : n ≤ 65536) (p k : Nat) (hpk : p + k ≤ n) (w : World) (h : MemAt B b g1 g2 n w) (hBw : B ≤ w.heap.size) :
    Calls Tryz.prog 33 #[.pointer (some ⟨b, 0, none⟩), .int .i64 (p : Int), .int .i64 (k : Int), .bool true] w (GivesL B b g1 g2 n w) := by
  have d0 : decide ((k : Int) < 0) = false := decide_eq_false (by omega)
  have d1 : decide ((p : Int) < 0) = false := decide_eq_false (by omega)
  have d2 : decide ((p : Int) > (n : Int)) = false := decide_eq_false (by omega)
  have d3 : decide ((k : Int) > (n : Int) - (p : Int)) = false := decide_eq_false (by omega)
  have w0 : wrap64 ((n : Int) - (p : Int)) = (n : Int) - (p : Int) := by unfold wrap64; omega
  have w1 : wrap64 ((p : Int) + (k : Int)) = ((p + k : Nat) : Int) := by unfold wrap64; omega
  have k0 := (blk_cell h.blk 0).trans rfl
  have k1 := (blk_cell h.blk 1).trans rfl
  obtain ⟨bs, hl, hbn⟩ := h.ls
  obtain ⟨i4, hi4, hs4⟩ : ∃ i, Tryz.prog.info? 4 = some i ∧ i.size = 1 := by
    obtain ⟨i, hi, hz0, hz1, hz2⟩ := info_parts info4
    exact ⟨i, hi, hz1⟩
  have hcut := cut_mid (P := Tryz.prog) 87 4 .i64 .i64 Tryz.underlying87 hi4 1 hs4 (some ⟨g2, 0, none⟩) n n (p : Int) ((p + k : Nat) : Int) (by omega) (by omega) (by omega) (Nat.le_refl _)
  rw [Int.toNat_natCast, Int.toNat_natCast, show p + k - p = k by omega] at hcut
  have hC0 : Kd.C Kd.bool w (some ⟨g2, 0, none⟩) bs.length bs := by
    refine Kd.C_of_reads (enc := Value.bool) (d := false) (h1 := fun _ => rfl) ⟨rfl, by omega, fun _ => ⟨_, rfl, fun j hj => ?_⟩⟩
    rw [add_plain, blk_cell hl j]
    have hj' : j < bs.length := hj
    simp [List.getElem?_eq_getElem hj']
  have hC1 := Kd.C_drop (c := n) hC0 (m := p) (by omega) (by omega)
  have hC2 := Kd.C_take hC1 (m := k) (by rw [List.length_drop]; omega)
  have hlk : ((bs.drop p).take k).length = k := by rw [List.length_take, List.length_drop]; omega
  rw [hlk] at hC2
  obtain ⟨AD, hAD⟩ : ∃ AD, AD = (if n = p then some (⟨g2, 0, none⟩ : Addr) else (some (⟨g2, 0, none⟩ : Addr)).map (·.add (p * 1))) := ⟨_, rfl⟩
  rw [← hAD] at hcut
  have hC3 : Kd.C Kd.bool w AD k ((bs.drop p).take k) := by rw [hAD]; exact hC2
  obtain ⟨r, hr⟩ := contains_any ((bs.drop p).take k) true (by omega)
  have hr2 := hr AD (n - p) w (by rw [hlk]; exact hC3) (by rw [hlk]; omega)
  rw [hlk] at hr2
  have HR := Lib.hid hr2
  have HM := Lib.hid h
  have HPK : Hid (p + k ≤ n ∧ n ≤ 65536) := ⟨hpk, hn⟩
  have HBW := Lib.hid hBw
  have HAD := Lib.hid hAD
  have e2 : decide (n < p) = false := decide_eq_false (by omega)
  have e3 : p ≤ n := by omega
  have e4 : decide ((n : Int) < (p : Int)) = false := decide_eq_false (by omega)
  have e5 : (p : Int) + (k : Int) ≤ (n : Int) := by omega
  have e6 : p ≤ p + k := by omega
  clear hC0 hC1 hC2 hC3 hlk hr hr2 hAD hl hbn hi4 hs4 h hBw hcut
  by_cases hnp : n = p
  · have hAD : AD = some ⟨g2, 0, none⟩ := by rw [HAD.out, if_pos hnp]
    subst hAD
    have hnz : n - p = 0 := by omega
    rw [hnz] at HR
    obtain rfl : k = 0 := by omega
    subst hnp
    clear d0 d1 d2 d3 w0 w1 e2 e3 e4 e5 e6 hpk HAD hnz HPK
    go_enter Tryz.func33, Tryz.ntmps33
    go_wp2_with fail
    refine HR.out.mono ?_
    rintro _ w2 ⟨rfl, hb2⟩
    have HM2 : Hid (MemAt B b g1 g2 n w2) := HM.out.below hb2
    have HK2 : Hid (Kp [2, 4] w w2) := Kp.below hb2
    have HB2 : Hid (Below B w w2) := hb2.mono HBW.out
    clear hb2 k0 k1
    cases r with
    | true =>
      go_wp2_with fail
      go_ret
      exact ⟨_, rfl, HM2.out, HK2.out, HB2.out⟩
    | false =>
      go_wp2_with fail
      go_loopg [9] 1 (fun d i W => d = 1 ∧ i = .int .i64 (n : Int) ∧ Hid (MemAt B b g1 g2 n W) ∧ Hid (Kp [2, 4] w W) ∧ Hid (Below B w W))
      case atStart => exact ⟨rfl, rfl, HM2.out, HK2.out, HB2.out⟩
      case round =>
        obtain ⟨hd, rfl, hM, hK, hB⟩ := hrel
        have HD := Lib.hid hd
        clear hd
        go_wp2_with fail
        go_ret
        exact ⟨_, rfl, hM.out, hK.out, hB.out⟩
  · have hAD : AD = some ⟨g2, p, none⟩ := by rw [HAD.out, if_neg hnp, Nat.mul_one]; show some (Addr.add _ _) = _; rw [add_plain]
    subst hAD
    go_enter Tryz.func33, Tryz.ntmps33
    go_wp2_with fail
    refine HR.out.mono ?_
    rintro _ w2 ⟨rfl, hb2⟩
    have HM2 : Hid (MemAt B b g1 g2 n w2) := HM.out.below hb2
    have HK2 : Hid (Kp [2, 4] w w2) := Kp.below hb2
    have HB2 : Hid (Below B w w2) := hb2.mono HBW.out
    clear hb2 k0 k1
    cases r with
    | true =>
      go_wp2_with fail
      go_ret
      exact ⟨_, rfl, HM2.out, HK2.out, HB2.out⟩
    | false =>
      go_wp2_with fail
      go_loopg [9] k (fun d i W => ∃ m : Nat, m + d = k ∧ i = .int .i64 ((p + m : Nat) : Int) ∧ Hid (MemAt B b g1 g2 n W) ∧ Hid (Kp [2, 4] w W) ∧ Hid (Below B w W))
      case atStart => exact ⟨0, by omega, rfl, HM2.out, HK2.out, HB2.out⟩
      case round =>
        obtain ⟨m, hmd, rfl, hM, hK, hB⟩ := hrel
        obtain ⟨q, hq⟩ : ∃ q, q = p + m := ⟨_, rfl⟩
        rw [← hq]
        have HQ := Lib.hid hq
        by_cases hm : m < k
        · have hq1 : (q : Int) < ((p + k : Nat) : Int) := by omega
          have hq2 : decide ((q : Int) < ((p + k : Nat) : Int)) = true := decide_eq_true hq1
          have hq3 : (q : Int) < (n : Int) := by have := HPK.out; omega
          have hq0 : (0 : Int) ≤ (q : Int) := by omega
          have hqw : wrap64 ((q : Int) + 1) = ((p + (m + 1) : Nat) : Int) := by have := HPK.out; unfold wrap64; omega
          have k0 := (blk_cell hM.out.blk 0).trans rfl
          have k1 := (blk_cell hM.out.blk 1).trans rfl
          obtain ⟨cs, hcs, hcn⟩ := hM.out.ws
          obtain ⟨bs, hbs, hbn⟩ := hM.out.ls
          have hqn : q < n := by omega
          have c1 : ∃ x, wr.cell? ⟨g1, q, none⟩ = some x := ⟨cs[q], by rw [blk_cell hcs q]; exact Array.getElem?_eq_getElem (by omega)⟩
          have c2 : ∃ x, wr.cell? ⟨g2, q, none⟩ = some x := ⟨.bool bs[q], by rw [blk_cell hbs q]; simp [List.getElem?_eq_getElem (show q < bs.length by omega)]⟩
          obtain ⟨x1, c1⟩ := c1
          obtain ⟨x2, c2⟩ := c2
          have f1 := blk_frozen hcs q
          have f2 := blk_frozen hbs q
          have hne : g1 ≠ g2 := hM.out.ne.2.2
          have hne2 : g2 ≠ g1 := fun e => hne e.symm
          have HA1 : Hid (MemAt B b g1 g2 n ((wr.setCell ⟨g2, q, none⟩ (.bool true)).setCell ⟨g1, q, none⟩ (.int .i64 0)) ∧ Kp [2, 4] w ((wr.setCell ⟨g2, q, none⟩ (.bool true)).setCell ⟨g1, q, none⟩ (.int .i64 0)) ∧ Below B w ((wr.setCell ⟨g2, q, none⟩ (.bool true)).setCell ⟨g1, q, none⟩ (.int .i64 0))) :=
            ⟨(hM.out.live q true).word q 0, (hK.out.trans (Kp.set hbs (by simp) q _)).trans (Kp.set (blk_far hcs (by show g1 ≠ g2; exact hne) _) (by simp) q _), (hB.out.setCell (p := ⟨g2, q, none⟩) hM.out.hB.2.2 _).setCell (p := ⟨g1, q, none⟩) hM.out.hB.2.1 _⟩
          have HA2 : Hid (MemAt B b g1 g2 n ((wr.setCell ⟨g1, q, none⟩ (.int .i64 0)).setCell ⟨g2, q, none⟩ (.bool true)) ∧ Kp [2, 4] w ((wr.setCell ⟨g1, q, none⟩ (.int .i64 0)).setCell ⟨g2, q, none⟩ (.bool true)) ∧ Below B w ((wr.setCell ⟨g1, q, none⟩ (.int .i64 0)).setCell ⟨g2, q, none⟩ (.bool true))) :=
            ⟨(hM.out.word q 0).live q true, (hK.out.trans (Kp.set hcs (by simp) q _)).trans (Kp.set (blk_far hbs (by show g2 ≠ g1; exact hne2) _) (by simp) q _), (hB.out.setCell (p := ⟨g1, q, none⟩) hM.out.hB.2.1 _).setCell (p := ⟨g2, q, none⟩) hM.out.hB.2.2 _⟩
          clear hq hcs hcn hbs hbn hqn
          go_wp2_with fail
          go_region
          have HD : Hid (MemAt B b g1 g2 n ((wr.setCell ⟨g2, q, none⟩ (.bool true)).setCell ⟨g1, q, none⟩ (.int .i64 0)).drew ∧ Kp [2, 4] w ((wr.setCell ⟨g2, q, none⟩ (.bool true)).setCell ⟨g1, q, none⟩ (.int .i64 0)).drew ∧ Below B w ((wr.setCell ⟨g2, q, none⟩ (.bool true)).setCell ⟨g1, q, none⟩ (.int .i64 0)).drew) :=
            ⟨HA1.out.1.below (below_drew (Below.refl _ _)), HA1.out.2.1.trans (Kp.below (below_drew (Below.refl _ _))), below_drew HA1.out.2.2⟩
          have HMD := Lib.hid hmd
          clear hmd HA1 HA2
          go_wp2_with fail
          go_roundg (k - (m + 1))
          case measure => exact step_lt HMD.out hm
          case rel => exact ⟨m + 1, step_eq hm, congrArg (Value.int .i64) (by have := HQ.out; omega), HD.out.1, HD.out.2.1, HD.out.2.2⟩
        · have hq1 : ¬ (q : Int) < ((p + k : Nat) : Int) := by omega
          have hq2 : decide ((q : Int) < ((p + k : Nat) : Int)) = false := decide_eq_false hq1
          clear hq
          go_wp2_with fail
          go_ret
          exact ⟨_, rfl, hM.out, hK.out, hB.out⟩
set_option maxRecDepth 100000 in
theorem live_any {B b g1 g2 n : Nat} (hn : n ≤ 65536) (p k : Nat) (hpk : p + k ≤ n) (w : World) (h : MemAt B b g1 g2 n w) (hBw : B ≤ w.heap.size) :
    Calls Tryz.prog 25 #[.pointer (some ⟨b, 0, none⟩), .int .i64 (p : Int), .int .i64 (k : Int)] w (GivesL B b g1 g2 n w) := by
  have HT := Lib.hid (turn_any hn p k hpk w h hBw)
  clear h hn hpk hBw
  go_enter Tryz.func25, Tryz.ntmps25
  go_wp2_with fail
  refine HT.out.mono ?_
  rintro e w1 ⟨er, rfl, h1, h2, h3⟩
  have H1 := Lib.hid h1
  have H2 := Lib.hid h2
  have H3 := Lib.hid h3
  clear h1 h2 h3
  go_wp2_with fail
  go_ret
  exact ⟨er, rfl, H1.out, H2.out, H3.out⟩
end Go.Proofs.YtponjobacdimeaaGreat.Core
