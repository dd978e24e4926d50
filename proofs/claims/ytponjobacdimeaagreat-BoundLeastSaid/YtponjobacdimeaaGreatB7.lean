/- pool.New: what it comes to. Printed by gen_gb7.py. -/
import Derived.Test.YtponjobacdimeaaGreatB6
import Derived.Laws.MakeOwn
namespace Go.Proofs.YtponjobacdimeaaGreat.Core
open Go.RowKit Go.Proofs.YtponjobacdimeaaGreatW.PrintWords Go.Proofs.YtponjobacdimeaaGreat.PBoundLeast Go.Proofs.YtponjobacdimeaaGreat
set_option linter.unusedVariables false
set_option linter.unusedSimpArgs false
abbrev shL (W m0 m1 m2 : Nat) : List Int := [W, 2, 3, 5, m0, m1, m2]
abbrev poolC (W m0 m1 m2 pb gs : Nat) (bv : Value) : Array Value := #[.pointer (some ⟨pb, 0, none⟩), .int .i64 W, .int .i64 2, .int .i64 3, .int .i64 5, .int .i64 m0, .int .i64 m1, .int .i64 m2, bv, .slice (some ⟨gs, 0, none⟩) W W]
/-- The shape and the memory while pool.New looks. -/
structure PS (w : World) (W m0 m1 m2 B b g1 g2 n : Nat) (X : World) : Prop where
  below : Below w.heap.size w X
  s : X.heap[w.heap.size]? = some (.cells (ints (shL W m0 m1 m2)) 54 (0, 0))
  m : MemAt B b g1 g2 n X
theorem PS.drawn {w : World} {W m0 m1 m2 B b g1 g2 n : Nat} {X X' : World} (h : PS w W m0 m1 m2 B b g1 g2 n X) (hb : Below X.heap.size X X') : PS w W m0 m1 m2 B b g1 g2 n X' := ⟨h.below.trans (hb.mono h.below.size), blk_below h.s hb, h.m.below hb⟩
/-- A pool while its blocks are made: bv is what it holds of them, rv a row of cnt; cs are the shards' rows; of the row ex nothing is said. -/
structure PI (w : World) (W m0 m1 m2 pb gp gs : Nat) (bv rv : Value) (cs : Array Value) (ex : Option Nat) (cnt : Nat) (X : World) : Prop where
  below : Below w.heap.size w X
  hg : w.heap.size ≤ gp ∧ w.heap.size ≤ gs
  s : X.heap[w.heap.size]? = some (.cells (ints (shL W m0 m1 m2)) 54 (0, 0))
  p : X.heap[gp]? = some (.cells (poolC W m0 m1 m2 pb gs bv) 94 (0, 0))
  row : Rr 96 5 w.heap.size X rv cnt
  sh : X.heap[gs]? = some (.cells cs 99 (0, 0)) ∧ cs.size = W * 4
  fr : ∀ i, i < W * 4 → some i ≠ ex → ∃ m, m ≤ cnt ∧ Rr 3 1 w.heap.size X (cs.getD i undef) m
  dis : ∀ i j, i < W * 4 → j < W * 4 → i ≠ j → ∀ q, (cs.getD i undef).ownBlock = some q → (cs.getD j undef).ownBlock ≠ some q
section
variable {w : World} {W m0 m1 m2 pb gp gs : Nat} {bv rv : Value} {cs : Array Value} {ex : Option Nat} {cnt : Nat} {X X' : World}
theorem PI.keep (h : PI w W m0 m1 m2 pb gp gs bv rv cs ex cnt X) {ts : List Nat} (hk : Kp ts X X') (hb : Below w.heap.size w X') (h1 : 54 ∉ ts) (h2 : 94 ∉ ts) (h3 : 96 ∉ ts) (h4 : 99 ∉ ts) (h5 : 3 ∉ ts) : PI w W m0 m1 m2 pb gp gs bv rv cs ex cnt X' :=
  ⟨hb, h.hg, hk.2 _ _ _ _ h.s h1, hk.2 _ _ _ _ h.p h2, h.row.keep hk h3, ⟨hk.2 _ _ _ _ h.sh.1 h4, h.sh.2⟩, fun i hi he => by obtain ⟨m, hm, hr⟩ := h.fr i hi he; exact ⟨m, hm, hr.keep hk h5⟩, h.dis⟩
theorem PI.drawn (h : PI w W m0 m1 m2 pb gp gs bv rv cs ex cnt X) (hb : Below X.heap.size X X') : PI w W m0 m1 m2 pb gp gs bv rv cs ex cnt X' :=
  h.keep (Kp.below (ts := []) hb) (h.below.trans (hb.mono h.below.size)) (by simp) (by simp) (by simp) (by simp) (by simp)
/-- The blocks' row has got one more. -/
theorem PI.grown (h : PI w W m0 m1 m2 pb gp gs bv bv cs none cnt X) {v1 : Value} (hR : Rr 96 5 w.heap.size X' v1 (cnt + 1)) (hB : Below w.heap.size w X') (hk : Kp [96] X X') : PI w W m0 m1 m2 pb gp gs bv v1 cs none (cnt + 1) X' :=
  ⟨hB, h.hg, hk.2 _ _ _ _ h.s (by decide), hk.2 _ _ _ _ h.p (by decide), hR, ⟨hk.2 _ _ _ _ h.sh.1 (by decide), h.sh.2⟩, fun i hi he => by obtain ⟨m, hm, hr⟩ := h.fr i hi he; exact ⟨m, by omega, hr.keep hk (by decide)⟩, h.dis⟩
/-- .. and is held. -/
theorem PI.held (h : PI w W m0 m1 m2 pb gp gs bv rv cs none cnt X) : PI w W m0 m1 m2 pb gp gs rv rv cs none cnt (X.setCell ⟨gp, 8, none⟩ rv) := by
  have hk : Kp [94] X (X.setCell ⟨gp, 8, none⟩ rv) := Kp.set h.p (by simp) 8 _
  refine ⟨h.below.setCell (p := ⟨gp, 8, none⟩) h.hg.1 _, h.hg, hk.2 _ _ _ _ h.s (by decide), ?_, h.row.keep hk (by decide), ⟨hk.2 _ _ _ _ h.sh.1 (by decide), h.sh.2⟩, fun i hi he => by obtain ⟨m, hm, hr⟩ := h.fr i hi he; exact ⟨m, hm, hr.keep hk (by decide)⟩, h.dis⟩
  exact blk_set h.p 8 rv
/-- A shard's row has got one more. -/
theorem PI.freed (h : PI w W m0 m1 m2 pb gp gs bv bv cs none cnt X) {i0 : Nat} (hi0 : i0 < W * 4) {v1 : Value} {m : Nat} (hr0 : Rr 3 1 w.heap.size X (cs.getD i0 undef) m) (hR : Rr 3 1 w.heap.size X' v1 (m + 1)) (hB : Below w.heap.size w X') (hk : Kp [3] X X')
    (hg : X.grownBy X' (cs.getD i0 undef).ownBlock) (hat : v1.ownBlock = (cs.getD i0 undef).ownBlock ∨ ∃ q, v1.ownBlock = some q ∧ X.heap.size ≤ q) :
    PI w W m0 m1 m2 pb gp gs bv bv cs (some i0) cnt X' ∧ ∀ j, j < W * 4 → j ≠ i0 → ∀ q, v1.ownBlock = some q → (cs.getD j undef).ownBlock ≠ some q := by
  refine ⟨⟨hB, h.hg, hk.2 _ _ _ _ h.s (by decide), hk.2 _ _ _ _ h.p (by decide), h.row.keep hk (by decide), ⟨hk.2 _ _ _ _ h.sh.1 (by decide), h.sh.2⟩, fun i hi he => ?_, h.dis⟩, fun j hj hne q hq hq2 => ?_⟩
  · obtain ⟨mi, hm, rows, hl, hri⟩ := h.fr i hi (by simp)
    have hii : i ≠ i0 := fun e => he (by rw [e])
    refine ⟨mi, hm, rows, hl, Kd.R_grown hri hg (fun k hk' hk2 => ?_)⟩
    exact h.dis i i0 hi hi0 hii k hk'.symm hk2.symm
  · rcases hat with hat | ⟨q', hq', hle⟩
    · rw [hat] at hq
      exact h.dis i0 j hi0 hj (fun e => hne e.symm) q hq hq2
    · rw [hq'] at hq
      injection hq with hq
      obtain ⟨mi, hm, rows, hl, hri⟩ := h.fr j hj (by simp)
      have := Kd.R_lt hri q hq2
      omega
theorem getD_set {cs : Array Value} {i0 i : Nat} {u : Value} (h : i0 < cs.size) : (cs.setIfInBounds i0 u).getD i undef = if i = i0 then u else cs.getD i undef := by
  by_cases e : i = i0
  · subst e
    rw [if_pos rfl]
    simp [Array.getD_eq_getD_getElem?, h]
  · rw [if_neg e]
    simp [Array.getD_eq_getD_getElem?, Array.getElem?_setIfInBounds, e, Ne.symm e]
/-- .. and is held. -/
theorem PI.kept {i0 : Nat} (h : PI w W m0 m1 m2 pb gp gs bv bv cs (some i0) cnt X) (hi0 : i0 < W * 4) {v1 : Value} {m : Nat} (hm : m + 1 ≤ cnt) (hR : Rr 3 1 w.heap.size X v1 (m + 1))
    (hd : ∀ j, j < W * 4 → j ≠ i0 → ∀ q, v1.ownBlock = some q → (cs.getD j undef).ownBlock ≠ some q) :
    PI w W m0 m1 m2 pb gp gs bv bv (cs.setIfInBounds i0 v1) none cnt (X.setCell ⟨gs, i0, none⟩ v1) := by
  have hk : Kp [99] X (X.setCell ⟨gs, i0, none⟩ v1) := Kp.set h.sh.1 (by simp) i0 _
  have hcs : i0 < cs.size := by rw [h.sh.2]; exact hi0
  refine ⟨h.below.setCell (p := ⟨gs, i0, none⟩) h.hg.2 _, h.hg, hk.2 _ _ _ _ h.s (by decide), hk.2 _ _ _ _ h.p (by decide), h.row.keep hk (by decide), ⟨?_, by simpa using h.sh.2⟩, fun i hi _ => ?_, fun i j hi hj hij q hq => ?_⟩
  · rw [blk_set h.sh.1 i0 v1]
  · rw [getD_set hcs]
    by_cases e : i = i0
    · rw [if_pos e]
      exact ⟨m + 1, hm, hR.keep hk (by decide)⟩
    · rw [if_neg e]
      obtain ⟨mi, hmi, hr⟩ := h.fr i hi (fun e2 => e (by injection e2))
      exact ⟨mi, hmi, hr.keep hk (by decide)⟩
  · rw [getD_set hcs] at hq
    rw [getD_set hcs]
    by_cases e1 : i = i0
    · rw [if_pos e1] at hq
      rw [if_neg (fun e2 => hij (e1.trans e2.symm))]
      exact hd j hj (fun e2 => hij (e1.trans e2.symm)) q hq
    · rw [if_neg e1] at hq
      by_cases e2 : j = i0
      · rw [if_pos e2]
        exact fun hq2 => hd i hi e1 q hq2 hq
      · rw [if_neg e2]
        exact h.dis i j hi hj hij q hq
end
theorem info96 : (Tryz.prog.info? 96).map (fun i => (i.zero, i.size, i.bytes)) = some (some (.agg #[.int .i64 0, .int .i64 0, .int .i64 0, .int .i64 0, .bool false]), 5, 40) := by kernel_rfl
theorem info3 : (Tryz.prog.info? 3).map (fun i => (i.zero, i.size, i.bytes)) = some (some (.int .i64 0), 1, 8) := by kernel_rfl
theorem info99 : (Tryz.prog.info? 99).map (fun i => (i.zero, i.size, i.bytes)) = some (some (.agg #[.slice none 0 0, .slice none 0 0, .slice none 0 0, .slice none 0 0]), 4, 96) := by kernel_rfl
theorem make99 (n : Nat) (hn : n ≤ 64) (X : World) : (Instr.makeSlice 91 (.int .i64 (n : Int)) (.int .i64 (n : Int))).run Tryz.prog X = .ok (.slice (some ⟨X.heap.size, 0, none⟩) n n) (X.alloc (.cells (Array.replicate (n * 4) (.slice none 0 0)) 99)) := by
  obtain ⟨i, hi, hz, hs, hb⟩ := info_parts info99
  have h := run_makeSlice X 91 99 i _ Tryz.underlying91 hi hz .i64 .i64 (n : Int) (n : Int) (by omega) (Int.le_refl _) (by rw [hs]; simp; omega) (by rw [hb]; simp; omega) (by omega)
  rw [Int.toNat_natCast, hs] at h
  have e : madeCells (Value.agg #[.slice none 0 0, .slice none 0 0, .slice none 0 0, .slice none 0 0]).cells (n * 4) = Array.replicate (n * 4) (.slice none 0 0) := by
    apply Array.ext
    · simp [madeCells]
    · intro j h1 h2
      have hj : j % 4 = 0 ∨ j % 4 = 1 ∨ j % 4 = 2 ∨ j % 4 = 3 := by omega
      rcases hj with hj | hj | hj | hj <;> simp [madeCells, Value.cells, hj]
  rw [e] at h
  exact h
theorem PI.start {w w_ : World} {W m0 m1 m2 B b g1 g2 n : Nat} (h : PS w W m0 m1 m2 B b g1 g2 n w_) :
    PI w W m0 m1 m2 b (w_.heap.size + 1) w_.heap.size (.slice none 0 0) (.slice none 0 0) (Array.replicate (W * 4) (.slice none 0 0)) none 0 ((w_.alloc (.cells (Array.replicate (W * 4) (.slice none 0 0)) 99)).alloc (.cells (poolC W m0 m1 m2 b w_.heap.size (.slice none 0 0)) 94)) := by
  have hs : (w_.alloc (.cells (Array.replicate (W * 4) (.slice none 0 0)) 99)).heap.size = w_.heap.size + 1 := by unfold World.alloc; simp
  have hb1 : Below w_.heap.size w_ (w_.alloc (.cells (Array.replicate (W * 4) (.slice none 0 0)) 99)) := (Below.refl _ _).alloc (Nat.le_refl _) _
  have hb2 : Below (w_.heap.size + 1) (w_.alloc (.cells (Array.replicate (W * 4) (.slice none 0 0)) 99)) ((w_.alloc (.cells (Array.replicate (W * 4) (.slice none 0 0)) 99)).alloc (.cells (poolC W m0 m1 m2 b w_.heap.size (.slice none 0 0)) 94)) := (Below.refl _ _).alloc (by rw [hs]; exact Nat.le_refl _) _
  have hb : Below w_.heap.size w_ ((w_.alloc (.cells (Array.replicate (W * 4) (.slice none 0 0)) 99)).alloc (.cells (poolC W m0 m1 m2 b w_.heap.size (.slice none 0 0)) 94)) := hb1.trans (hb2.mono (by omega))
  have hle := h.below.size
  have hg : ∀ i, i < W * 4 → (Array.replicate (W * 4) (.slice none 0 0) : Array Value).getD i undef = .slice none 0 0 := fun i hi => by
    rw [Array.getD_eq_getD_getElem?, Array.getElem?_replicate, if_pos hi]; rfl
  refine ⟨h.below.trans (hb.mono hle), ⟨by omega, hle⟩, blk_below h.s hb, ?_, Rr.nil _ _ _ _, ⟨blk_below (heap_alloc_new _ _) (by rw [hs]; exact hb2), by simp⟩, fun i hi _ => ⟨0, Nat.le_refl _, ?_⟩, fun i j hi hj hij q hq => ?_⟩
  · have := heap_alloc_new (w_.alloc (.cells (Array.replicate (W * 4) (.slice none 0 0)) 99)) (.cells (poolC W m0 m1 m2 b w_.heap.size (.slice none 0 0)) 94)
    rw [hs] at this
    exact this
  · rw [hg i hi]
    exact Rr.nil _ _ _ _
  · rw [hg i hi] at hq
    exact absurd hq (by simp [Value.ownBlock])
theorem many_at {w : World} {W m0 m1 m2 ci : Nat} (h0 : m0 ≤ 1000) (h1 : m1 ≤ 1000) (h2 : m2 ≤ 1000) (hc : ci < 3) : ∃ mm : Nat, mm ≤ 1000 ∧ ∀ X : World, X.heap[w.heap.size]? = some (.cells (ints (shL W m0 m1 m2)) 54 (0, 0)) → X.cell? ⟨w.heap.size, 4 + ci, none⟩ = some (.int .i64 (mm : Int)) := by
  have : ci = 0 ∨ ci = 1 ∨ ci = 2 := by omega
  rcases this with rfl | rfl | rfl
  · exact ⟨m0, h0, fun X h => cell_ints h 4 _ rfl⟩
  · exact ⟨m1, h1, fun X h => cell_ints h 5 _ rfl⟩
  · exact ⟨m2, h2, fun X h => cell_ints h 6 _ rfl⟩
theorem size_at {w : World} (W m0 m1 m2 : Nat) {ci : Nat} (hc : ci < 3) : ∃ sz : Nat, sz ≤ 5 ∧ ∀ X : World, X.heap[w.heap.size]? = some (.cells (ints (shL W m0 m1 m2)) 54 (0, 0)) → X.cell? ⟨w.heap.size, 1 + ci, none⟩ = some (.int .i64 (sz : Int)) := by
  have : ci = 0 ∨ ci = 1 ∨ ci = 2 := by omega
  rcases this with rfl | rfl | rfl
  · exact ⟨2, by omega, fun X h => cell_ints h 1 _ rfl⟩
  · exact ⟨3, by omega, fun X h => cell_ints h 2 _ rfl⟩
  · exact ⟨5, by omega, fun X h => cell_ints h 3 _ rfl⟩
theorem cell_of_getD {cs : Array Value} {i t g : Nat} {v : Value} (hi : i < cs.size) (h : cs.getD i undef = v) (X : World) (hX : X.heap[g]? = some (.cells cs t (0, 0))) : X.cell? ⟨g, i, none⟩ = some v := by
  refine (blk_cell hX i).trans ?_
  rw [Array.getD_eq_getD_getElem?, Array.getElem?_eq_getElem hi] at h
  rw [Array.getElem?_eq_getElem hi]
  exact congrArg some h
theorem free_of {w : World} {W m0 m1 m2 pb gp gs : Nat} {bv rv : Value} {cs : Array Value} {cnt : Nat} {X : World} (h : PI w W m0 m1 m2 pb gp gs bv rv cs none cnt X) {i : Nat} (hi : i < W * 4) {FA : Option Addr} {fm fc : Nat} (hg : cs.getD i undef = .slice FA fm fc) : Rr 3 1 w.heap.size X (.slice FA fm fc) fm := by
  obtain ⟨m, _, hr⟩ := h.fr i hi (by simp)
  rw [hg] at hr
  obtain ⟨A, c, e, _⟩ := hr.slice
  injection e with _ e2 _
  rw [e2]
  rw [e2] at hr
  exact hr
set_option maxRecDepth 100000 in
set_option maxHeartbeats 16000000 in
theorem pnew_any {B b g1 g2 n : Nat} (hn : n ≤ 65536) (p0 W m0 m1 m2 : Nat) (hW1 : 1 ≤ W) (hW : W ≤ 64) (h0 : m0 ≤ 1000) (h1 : m1 ≤ 1000) (h2 : m2 ≤ 1000) (hp : p0 + (W * m0 * 2 + W * m1 * 3 + W * m2 * 5) ≤ n) (w : World) (hM : MemAt B b g1 g2 n w) :
    Calls Tryz.prog 21 #[.pointer (some ⟨b, 0, none⟩), .int .i64 (p0 : Int), shapeA (W : Int) (m0 : Int) (m1 : Int) (m2 : Int)] w (GivesN w) := by
  obtain ⟨wd, hwd⟩ : ∃ x : Nat, x = W * m0 * 2 + W * m1 * 3 + W * m2 * 5 := ⟨_, rfl⟩
  have HSR := Lib.hid (fun X => sright_any (W : Int) (m0 : Int) (m1 : Int) (m2 : Int) (by omega) (by omega) (by omega) (by omega) X)
  have hsw := fun X => swords_any (W : Int) (m0 : Int) (m1 : Int) (m2 : Int) (by omega) (by omega) (by omega) (by omega) X
  have hwi : (W : Int) * (m0 : Int) * 2 + (W : Int) * (m1 : Int) * 3 + (W : Int) * (m2 : Int) * 5 = (wd : Int) := by rw [hwd]; simp
  rw [hwi] at hsw
  rw [← hwd] at hp
  have HSW := Lib.hid hsw
  have HMW := Lib.hid (fun X (h : MemAt B b g1 g2 n X) => mwords_any X h)
  have HP : Hid (p0 + wd ≤ n ∧ n ≤ 65536) := ⟨hp, hn⟩
  have HWW : Hid (1 ≤ W ∧ W ≤ 64) := ⟨hW1, hW⟩
  have HMM : Hid (m0 ≤ 1000 ∧ m1 ≤ 1000 ∧ m2 ≤ 1000) := ⟨h0, h1, h2⟩
  have HMK := Lib.hid (fun X => make99 W hW X)
  have c1 : decide ((wd : Int) > 65536) = false := decide_eq_false (by omega)
  have c2 : decide ((p0 : Int) < 0) = false := decide_eq_false (by omega)
  have c3 : decide ((p0 : Int) > (n : Int) - (wd : Int)) = false := decide_eq_false (by omega)
  have c4 : IntKind.i64.wrap ((n : Int) - (wd : Int)) = (n : Int) - (wd : Int) := by rw [IntKind.wrap_i64]; omega
  have HS0 : Hid (PS w W m0 m1 m2 B b g1 g2 n (w.alloc (.cells (ints (shL W m0 m1 m2)) 54))) := ⟨(Below.refl _ _).alloc (Nat.le_refl _) _, heap_alloc_new _ _, hM.below ((Below.refl _ _).alloc (Nat.le_refl _) _)⟩
  clear hsw hwi hwd hp hn hW1 hW h0 h1 h2 hM
  go_enter Tryz.func21, Tryz.ntmps21
  go_wp2_with fail
  refine (HSR.out _).mono ?_
  rintro _ w1 ⟨rfl, hb1⟩
  have HS1 := Lib.hid (HS0.out.drawn hb1)
  clear hb1
  have k0 := cell_ints HS1.out.s 0 _ rfl
  have k1 := cell_ints HS1.out.s 1 _ rfl
  have k2 := cell_ints HS1.out.s 2 _ rfl
  have k3 := cell_ints HS1.out.s 3 _ rfl
  have k4 := cell_ints HS1.out.s 4 _ rfl
  have k5 := cell_ints HS1.out.s 5 _ rfl
  have k6 := cell_ints HS1.out.s 6 _ rfl
  go_wp2_with fail
  refine (HSW.out _).mono ?_
  rintro _ w2 ⟨rfl, hb2⟩
  have HS2 := Lib.hid (HS1.out.drawn hb2)
  clear hb2 k0 k1 k2 k3 k4 k5 k6
  go_wp2_with fail
  refine Reg.wp_region_phase (by kernel_rfl) [9, 11] (fun i => match i with | 0 => fun v => v = .pointer (some ⟨b, 0, none⟩) | 1 => fun v => v = .bool false | 2 => fun v => v = .bool false | 3 => fun v => v = .int .i64 (p0 : Int) | 4 => fun v => v = .bool false | 5 => fun v => v = .bool false | 6 => fun v => v = .bool false | 7 => fun v => v = .int .i64 (p0 : Int) | 8 => fun v => v = .pointer (some ⟨b, 0, none⟩) | 9 => fun v => v = .int .i64 (n : Int) | 10 => fun v => v = .agg #[.int .i64 (W : Int), .int .i64 2, .int .i64 3, .int .i64 5, .int .i64 (m0 : Int), .int .i64 (m1 : Int), .int .i64 (m2 : Int)] | 11 => fun v => v = .int .i64 (wd : Int) | 12 => fun v => v = .int .i64 ((n : Int) - (wd : Int)) | 13 => fun v => v = .bool false | 14 => fun v => v = .bool false | 15 => fun v => v = .bool false | _ => fun _ => True) (fun k f X => PS w W m0 m1 m2 B b g1 g2 n X) (by kernel_rfl) (by kernel_rfl) (by decide) (by decide) ?hJ ?h0 ?pure ?act ?fin
  case hJ => intro k f f' X h hj; exact hj
  case h0 => exact (show PS w W m0 m1 m2 B b g1 g2 n (World.drew _) from HS2.out.drawn (pw_below_drewN (Below.refl _ _) 1))
  case pure =>
    intro i o k a w_ ho hE hk hmc hf hst hkn hj
    have hi : i < 16 := (Array.getElem?_eq_some_iff.1 ho).1
    obtain rfl | rfl | rfl | rfl | rfl | rfl | rfl | rfl | rfl | rfl | rfl | rfl | rfl | rfl : i = 0 ∨ i = 1 ∨ i = 2 ∨ i = 3 ∨ i = 4 ∨ i = 5 ∨ i = 6 ∨ i = 7 ∨ i = 8 ∨ i = 10 ∨ i = 12 ∨ i = 13 ∨ i = 14 ∨ i = 15 := by
      simp only [List.mem_cons, List.not_mem_nil, or_false, not_or] at hE
      omega
    · skip
      obtain rfl := Reg.oper_eq ho rfl
      have e0 : a.eval (.tmp 0) = .pointer (some ⟨b, 0, none⟩) := (hf.eval 0 (by kernel_rfl)).trans rfl
      have g0 := Reg.eval_getD e0
      exact Reg.op_value rfl rfl (by simp only [List.getElem_toArray, List.getElem_cons_zero, List.getElem_cons_succ, execOp, e0]; go_simp) ⟨_, rfl, rfl, hj⟩
    · skip
      obtain rfl := Reg.oper_eq ho rfl
      have e20 : a.eval (.tmp 20) = .pointer (some ⟨b, 0, none⟩) := hkn.eval 0 20 (by kernel_rfl) (by kernel_rfl)
      have g20 := Reg.eval_getD e20
      exact Reg.op_value rfl rfl (by simp only [List.getElem_toArray, List.getElem_cons_zero, List.getElem_cons_succ, execOp, e20]; go_simp) ⟨_, rfl, rfl, hj⟩
    · skip
      obtain rfl := Reg.oper_eq ho rfl
      have e21 : a.eval (.tmp 21) = .bool false := hkn.eval 1 21 (by kernel_rfl) (by kernel_rfl)
      have g21 := Reg.eval_getD e21
      exact Reg.op_value rfl rfl (by simp only [List.getElem_toArray, List.getElem_cons_zero, List.getElem_cons_succ, execOp, e21]; go_simp) ⟨_, rfl, rfl, hj⟩
    · skip
      obtain rfl := Reg.oper_eq ho rfl
      have e1 : a.eval (.tmp 1) = .int .i64 (p0 : Int) := (hf.eval 1 (by kernel_rfl)).trans rfl
      have e22 : a.eval (.tmp 22) = .bool false := hkn.eval 2 22 (by kernel_rfl) (by kernel_rfl)
      have g1 := Reg.eval_getD e1
      have g22 := Reg.eval_getD e22
      exact Reg.op_value rfl ((Reg.wanted_of (j := 2) (d := 22) (b := false) rfl (by kernel_rfl) e22).trans rfl) (by simp only [List.getElem_toArray, List.getElem_cons_zero, List.getElem_cons_succ, execOp, e1, e22]; go_simp) ⟨_, rfl, rfl, hj⟩
    · skip
      obtain rfl := Reg.oper_eq ho rfl
      have e23 : a.eval (.tmp 23) = .int .i64 (p0 : Int) := hkn.eval 3 23 (by kernel_rfl) (by kernel_rfl)
      have e22 : a.eval (.tmp 22) = .bool false := hkn.eval 2 22 (by kernel_rfl) (by kernel_rfl)
      have g23 := Reg.eval_getD e23
      have g22 := Reg.eval_getD e22
      exact Reg.op_value rfl ((Reg.wanted_of (j := 2) (d := 22) (b := false) rfl (by kernel_rfl) e22).trans rfl) (by simp only [List.getElem_toArray, List.getElem_cons_zero, List.getElem_cons_succ, execOp, e23, e22]; go_simp) ⟨_, rfl, rfl, hj⟩
    · skip
      obtain rfl := Reg.oper_eq ho rfl
      have e22 : a.eval (.tmp 22) = .bool false := hkn.eval 2 22 (by kernel_rfl) (by kernel_rfl)
      have e24 : a.eval (.tmp 24) = .bool false := hkn.eval 4 24 (by kernel_rfl) (by kernel_rfl)
      have g22 := Reg.eval_getD e22
      have g24 := Reg.eval_getD e24
      exact Reg.op_value rfl rfl (by simp only [List.getElem_toArray, List.getElem_cons_zero, List.getElem_cons_succ, execOp, e22, e24]; go_simp) ⟨_, rfl, rfl, hj⟩
    · skip
      obtain rfl := Reg.oper_eq ho rfl
      have e25 : a.eval (.tmp 25) = .bool false := hkn.eval 5 25 (by kernel_rfl) (by kernel_rfl)
      have g25 := Reg.eval_getD e25
      exact Reg.op_value rfl rfl (by simp only [List.getElem_toArray, List.getElem_cons_zero, List.getElem_cons_succ, execOp, e25]; go_simp) ⟨_, rfl, rfl, hj⟩
    · skip
      obtain rfl := Reg.oper_eq ho rfl
      have e1 : a.eval (.tmp 1) = .int .i64 (p0 : Int) := (hf.eval 1 (by kernel_rfl)).trans rfl
      have e26 : a.eval (.tmp 26) = .bool false := hkn.eval 6 26 (by kernel_rfl) (by kernel_rfl)
      have g1 := Reg.eval_getD e1
      have g26 := Reg.eval_getD e26
      exact Reg.op_value rfl ((Reg.wanted_of (j := 6) (d := 26) (b := false) rfl (by kernel_rfl) e26).trans rfl) (by simp only [List.getElem_toArray, List.getElem_cons_zero, List.getElem_cons_succ, execOp, e1, e26]; go_simp) ⟨_, rfl, rfl, hj⟩
    · skip
      obtain rfl := Reg.oper_eq ho rfl
      have e0 : a.eval (.tmp 0) = .pointer (some ⟨b, 0, none⟩) := (hf.eval 0 (by kernel_rfl)).trans rfl
      have e26 : a.eval (.tmp 26) = .bool false := hkn.eval 6 26 (by kernel_rfl) (by kernel_rfl)
      have g0 := Reg.eval_getD e0
      have g26 := Reg.eval_getD e26
      exact Reg.op_value rfl ((Reg.wanted_of (j := 6) (d := 26) (b := false) rfl (by kernel_rfl) e26).trans rfl) (by simp only [List.getElem_toArray, List.getElem_cons_zero, List.getElem_cons_succ, execOp, e0, e26]; go_simp) ⟨_, rfl, rfl, hj⟩
    · skip
      obtain rfl := Reg.oper_eq ho rfl
      have e5 : a.eval (.tmp 5) = .pointer (some ⟨w.heap.size, 0, none⟩) := (hf.eval 5 (by kernel_rfl)).trans rfl
      have e26 : a.eval (.tmp 26) = .bool false := hkn.eval 6 26 (by kernel_rfl) (by kernel_rfl)
      have g5 := Reg.eval_getD e5
      have g26 := Reg.eval_getD e26
      have k0 := cell_ints hj.s 0 _ rfl
      have k1 := cell_ints hj.s 1 _ rfl
      have k2 := cell_ints hj.s 2 _ rfl
      have k3 := cell_ints hj.s 3 _ rfl
      have k4 := cell_ints hj.s 4 _ rfl
      have k5 := cell_ints hj.s 5 _ rfl
      have k6 := cell_ints hj.s 6 _ rfl
      exact Reg.op_value rfl ((Reg.wanted_of (j := 6) (d := 26) (b := false) rfl (by kernel_rfl) e26).trans rfl) (by simp only [List.getElem_toArray, List.getElem_cons_zero, List.getElem_cons_succ, execOp]; go_simp) ⟨_, rfl, rfl, hj⟩
    · skip
      obtain rfl := Reg.oper_eq ho rfl
      have e29 : a.eval (.tmp 29) = .int .i64 (n : Int) := hkn.eval 9 29 (by kernel_rfl) (by kernel_rfl)
      have e31 : a.eval (.tmp 31) = .int .i64 (wd : Int) := hkn.eval 11 31 (by kernel_rfl) (by kernel_rfl)
      have e26 : a.eval (.tmp 26) = .bool false := hkn.eval 6 26 (by kernel_rfl) (by kernel_rfl)
      have g29 := Reg.eval_getD e29
      have g31 := Reg.eval_getD e31
      have g26 := Reg.eval_getD e26
      exact Reg.op_value rfl ((Reg.wanted_of (j := 6) (d := 26) (b := false) rfl (by kernel_rfl) e26).trans rfl) (by simp only [List.getElem_toArray, List.getElem_cons_zero, List.getElem_cons_succ, execOp, e29, e31, e26]; go_simp) ⟨_, rfl, rfl, hj⟩
    · skip
      obtain rfl := Reg.oper_eq ho rfl
      have e27 : a.eval (.tmp 27) = .int .i64 (p0 : Int) := hkn.eval 7 27 (by kernel_rfl) (by kernel_rfl)
      have e32 : a.eval (.tmp 32) = .int .i64 ((n : Int) - (wd : Int)) := hkn.eval 12 32 (by kernel_rfl) (by kernel_rfl)
      have e26 : a.eval (.tmp 26) = .bool false := hkn.eval 6 26 (by kernel_rfl) (by kernel_rfl)
      have g27 := Reg.eval_getD e27
      have g32 := Reg.eval_getD e32
      have g26 := Reg.eval_getD e26
      exact Reg.op_value rfl ((Reg.wanted_of (j := 6) (d := 26) (b := false) rfl (by kernel_rfl) e26).trans rfl) (by simp only [List.getElem_toArray, List.getElem_cons_zero, List.getElem_cons_succ, execOp, e27, e32, e26]; go_simp) ⟨_, rfl, rfl, hj⟩
    · skip
      obtain rfl := Reg.oper_eq ho rfl
      have e26 : a.eval (.tmp 26) = .bool false := hkn.eval 6 26 (by kernel_rfl) (by kernel_rfl)
      have e33 : a.eval (.tmp 33) = .bool false := hkn.eval 13 33 (by kernel_rfl) (by kernel_rfl)
      have g26 := Reg.eval_getD e26
      have g33 := Reg.eval_getD e33
      exact Reg.op_value rfl rfl (by simp only [List.getElem_toArray, List.getElem_cons_zero, List.getElem_cons_succ, execOp, e26, e33]; go_simp) ⟨_, rfl, rfl, hj⟩
    · skip
      obtain rfl := Reg.oper_eq ho rfl
      have e34 : a.eval (.tmp 34) = .bool false := hkn.eval 14 34 (by kernel_rfl) (by kernel_rfl)
      have g34 := Reg.eval_getD e34
      exact Reg.op_value rfl rfl (by simp only [List.getElem_toArray, List.getElem_cons_zero, List.getElem_cons_succ, execOp, e34]; go_simp) ⟨_, rfl, rfl, hj⟩
  case act =>
    intro k o a w_ hk ho hf hst hkn hj
    obtain rfl | rfl : k = 0 ∨ k = 1 := by simp only [List.length_cons, List.length_nil] at hk; omega
    · skip
      obtain rfl := Reg.oper_eq ho rfl
      have e28 : a.eval (.tmp 28) = .pointer (some ⟨b, 0, none⟩) := hkn.eval 8 28 (by kernel_rfl) (by kernel_rfl)
      have e26 : a.eval (.tmp 26) = .bool false := hkn.eval 6 26 (by kernel_rfl) (by kernel_rfl)
      have g28 := Reg.eval_getD e28
      have g26 := Reg.eval_getD e26
      refine Reg.op_call (f := 29) (args := #[.pointer (some ⟨b, 0, none⟩)]) (w' := w_) rfl ((Reg.wanted_of (j := 6) (d := 26) (b := false) rfl (by kernel_rfl) e26).trans rfl) (by simp only [List.getElem_toArray, List.getElem_cons_zero, List.getElem_cons_succ, execOp, e28, e26]; go_simp) ((HMW.out w_ hj.m).mono ?_)
      rintro e W3 ⟨rfl, rfl⟩
      exact .inl ⟨_, rfl, _, rfl, rfl, hj⟩
    · skip
      obtain rfl := Reg.oper_eq ho rfl
      have e30 : a.eval (.tmp 30) = .agg #[.int .i64 (W : Int), .int .i64 2, .int .i64 3, .int .i64 5, .int .i64 (m0 : Int), .int .i64 (m1 : Int), .int .i64 (m2 : Int)] := hkn.eval 10 30 (by kernel_rfl) (by kernel_rfl)
      have e26 : a.eval (.tmp 26) = .bool false := hkn.eval 6 26 (by kernel_rfl) (by kernel_rfl)
      have g30 := Reg.eval_getD e30
      have g26 := Reg.eval_getD e26
      refine Reg.op_call (f := 28) (args := #[.agg #[.int .i64 (W : Int), .int .i64 2, .int .i64 3, .int .i64 5, .int .i64 (m0 : Int), .int .i64 (m1 : Int), .int .i64 (m2 : Int)]]) (w' := w_) rfl ((Reg.wanted_of (j := 6) (d := 26) (b := false) rfl (by kernel_rfl) e26).trans rfl) (by simp only [List.getElem_toArray, List.getElem_cons_zero, List.getElem_cons_succ, execOp, e30, e26]; go_simp) ((HSW.out w_).mono ?_)
      rintro e W3 ⟨rfl, hb3⟩
      exact .inl ⟨_, rfl, _, rfl, rfl, hj.drawn hb3⟩
  case fin =>
    intro a w_ hf hkn hj
    have e20 : Reg.val a 20 = _ := hkn 0 20 (by show _ < _; decide) (by kernel_rfl)
    have e21 : Reg.val a 21 = _ := hkn 1 21 (by show _ < _; decide) (by kernel_rfl)
    have e22 : Reg.val a 22 = _ := hkn 2 22 (by show _ < _; decide) (by kernel_rfl)
    have e23 : Reg.val a 23 = _ := hkn 3 23 (by show _ < _; decide) (by kernel_rfl)
    have e24 : Reg.val a 24 = _ := hkn 4 24 (by show _ < _; decide) (by kernel_rfl)
    have e25 : Reg.val a 25 = _ := hkn 5 25 (by show _ < _; decide) (by kernel_rfl)
    have e26 : Reg.val a 26 = _ := hkn 6 26 (by show _ < _; decide) (by kernel_rfl)
    have e27 : Reg.val a 27 = _ := hkn 7 27 (by show _ < _; decide) (by kernel_rfl)
    have e28 : Reg.val a 28 = _ := hkn 8 28 (by show _ < _; decide) (by kernel_rfl)
    have e29 : Reg.val a 29 = _ := hkn 9 29 (by show _ < _; decide) (by kernel_rfl)
    have e30 : Reg.val a 30 = _ := hkn 10 30 (by show _ < _; decide) (by kernel_rfl)
    have e31 : Reg.val a 31 = _ := hkn 11 31 (by show _ < _; decide) (by kernel_rfl)
    have e32 : Reg.val a 32 = _ := hkn 12 32 (by show _ < _; decide) (by kernel_rfl)
    have e33 : Reg.val a 33 = _ := hkn 13 33 (by show _ < _; decide) (by kernel_rfl)
    have e34 : Reg.val a 34 = _ := hkn 14 34 (by show _ < _; decide) (by kernel_rfl)
    have e19 : Reg.val a 19 = _ := hkn 15 19 (by show _ < _; decide) (by kernel_rfl)
    rw [Reg.frm_fold hf [20, 21, 22, 23, 24, 25, 26, 27, 28, 29, 30, 31, 32, 33, 34, 19] (by kernel_rfl) (by kernel_rfl)]
    simp only [List.foldl_cons, List.foldl_nil, Act.put, List.setIfInBounds_toArray, List.set_cons_zero, List.set_cons_succ, e20, e21, e22, e23, e24, e25, e26, e27, e28, e29, e30, e31, e32, e33, e34, e19]
    clear hkn hf e20 e21 e22 e23 e24 e25 e26 e27 e28 e29 e30 e31 e32 e33 e34 e19
    have HS5 : Hid (PS w W m0 m1 m2 B b g1 g2 n w_) := hj
    clear hj c1 c2 c3 c4
    have k0 := cell_ints HS5.out.s 0 _ rfl
    have k1 := cell_ints HS5.out.s 1 _ rfl
    have k2 := cell_ints HS5.out.s 2 _ rfl
    have k3 := cell_ints HS5.out.s 3 _ rfl
    have k4 := cell_ints HS5.out.s 4 _ rfl
    have k5 := cell_ints HS5.out.s 5 _ rfl
    have k6 := cell_ints HS5.out.s 6 _ rfl
    have hmk := HMK.out
    have hlt : w.heap.size < w_.heap.size := blk_lt HS5.out.s
    go_wp2_with fail
    go_region
    all_goals go_wp2_with fail
    have HP0 := Lib.hid (PI.start HS5.out)
    obtain ⟨gs, hgs⟩ : ∃ x : Nat, x = w_.heap.size := ⟨_, rfl⟩
    obtain ⟨gp, hgp⟩ : ∃ x : Nat, x = gs + 1 := ⟨_, rfl⟩
    rw [← hgs] at HP0
    rw [← hgp] at HP0
    rw [← hgs]
    try rw [← hgp]
    have HGS := Lib.hid hgs
    have HGP := Lib.hid hgp
    clear hgs hgp hmk hlt k0 k1 k2 k3 k4 k5 k6
    go_loopg [42, 1] 3 (fun d c p X => ∃ (ci bb cnt : Nat) (bv : Value) (cs : Array Value), ci + d = 3 ∧ c = .int .i64 ci ∧ p = .int .i64 bb ∧ Hid (PI w W m0 m1 m2 b gp gs bv bv cs none cnt X ∧ cnt ≤ ci * 64000 ∧ bb ≤ 65536 + 5 * cnt))
    case atStart => exact ⟨0, p0, 0, _, _, by omega, rfl, rfl, HP0.out.drawn (pw_below_drewN (Below.refl _ _) 1), by omega, by have := HP.out; omega⟩
    case round =>
      obtain ⟨ci, bb, cnt, bv, cs, hcd, rfl, rfl, hE⟩ := hrel
      by_cases hq : ci < 3
      · have hq1 : (ci : Int) < 3 := by omega
        have hq0 : (0 : Int) ≤ (ci : Int) := by omega
        have hq2 : decide ((ci : Int) < 3) = true := decide_eq_true hq1
        have hqw : wrap64 ((ci : Int) + 1) = ((ci + 1 : Nat) : Int) := by unfold wrap64; omega
        have HCI := Lib.hid hq
        have HCD := Lib.hid hcd
        obtain ⟨mm, hmm, hmc⟩ := many_at (w := w) (W := W) HMM.out.1 HMM.out.2.1 HMM.out.2.2 hq
        obtain ⟨sz, hsz, hsc⟩ := size_at (w := w) W m0 m1 m2 hq
        have HMC := Lib.hid hmc
        have HSZ := Lib.hid hsc
        have HMS := Lib.hid (And.intro hmm hsz)
        have k0 := cell_ints hE.out.1.s 0 _ rfl
        clear hcd hmm hsz hmc hsc hq
        go_wp2_with fail
        go_loopg [47, 1] W (fun d c p X => ∃ (wi bb cnt : Nat) (bv : Value) (cs : Array Value), wi + d = W ∧ c = .int .i64 wi ∧ p = .int .i64 bb ∧ Hid (PI w W m0 m1 m2 b gp gs bv bv cs none cnt X ∧ cnt ≤ ci * 64000 + wi * 1000 ∧ bb ≤ 65536 + 5 * cnt))
        case atStart => exact ⟨0, bb, cnt, bv, cs, by omega, rfl, rfl, hE.out.1, by have := hE.out.2; omega, hE.out.2.2⟩
        case round =>
          clear hE k0
          obtain ⟨wi, bb, cnt, bv, cs, hcd, rfl, rfl, hE⟩ := hrel
          by_cases hq : wi < W
          · have hw1 : (wi : Int) < (W : Int) := by omega
            have hw2 : decide ((wi : Int) < (W : Int)) = true := decide_eq_true hw1
            have hww : wrap64 ((wi : Int) + 1) = ((wi + 1 : Nat) : Int) := by have := HWW.out; unfold wrap64; omega
            have HWI := Lib.hid hq
            have HWD := Lib.hid hcd
            have km := HMC.out _ hE.out.1.s
            clear hcd hq
            go_wp2_with fail
            go_loopg [54, 1] mm (fun d c p X => ∃ (ki bb cnt : Nat) (bv : Value) (cs : Array Value), ki + d = mm ∧ c = .int .i64 ki ∧ p = .int .i64 bb ∧ Hid (PI w W m0 m1 m2 b gp gs bv bv cs none cnt X ∧ cnt ≤ ci * 64000 + wi * 1000 + ki ∧ bb ≤ 65536 + 5 * cnt))
            case atStart => exact ⟨0, bb, cnt, bv, cs, by omega, rfl, rfl, hE.out.1, by have := hE.out.2; omega, hE.out.2.2⟩
            case round =>
              clear hE km
              obtain ⟨ki, bb, cnt, bv, cs, hcd, rfl, rfl, hE⟩ := hrel
              by_cases hq : ki < mm
              · have hk1 : (ki : Int) < (mm : Int) := by omega
                have hk2 : decide ((ki : Int) < (mm : Int)) = true := decide_eq_true hk1
                have hkw : wrap64 ((ki : Int) + 1) = ((ki + 1 : Nat) : Int) := by have := HMS.out; unfold wrap64; omega
                have hbw : wrap64 ((bb : Int) + (sz : Int)) = ((bb + sz : Nat) : Int) := by have := HMS.out; have := HCI.out; have := HWI.out; have := HWW.out; have := hE.out.2; unfold wrap64; omega
                have HKI := Lib.hid hq
                have HKD := Lib.hid hcd
                have HI0 : Hid (wi * 4 + ci < W * 4) := by have := HCI.out; have := HWI.out; show wi * 4 + ci < W * 4; omega
                obtain ⟨fm, hfm, hfr⟩ := hE.out.1.fr (wi * 4 + ci) HI0.out (by simp)
                obtain ⟨FA, fc, hfg, hfc⟩ := hfr.slice
                obtain ⟨BA, bc, rfl, hbc⟩ := hE.out.1.row.slice
                have HPI := Lib.hid hE.out.1
                have HCN : Hid (cnt ≤ 256000 ∧ bb ≤ 65536 + 5 * cnt ∧ cnt ≤ ci * 64000 + wi * 1000 + ki) := by have := HMS.out; have := HCI.out; have := HWI.out; have := HWW.out; have := hE.out.2; exact ⟨by omega, by omega, by omega⟩
                obtain ⟨rn, hrn⟩ : ∃ x : Nat, x = cnt + 1 := ⟨_, rfl⟩
                have HRC := Lib.hid hrn
                have HFG := Lib.hid hfg
                have HFM : Hid (fm + 1 ≤ rn) := by show fm + 1 ≤ rn; omega
                have HRN : Hid (rn ≤ 256001 ∧ bb ≤ 65536 + 5 * rn ∧ rn ≤ ci * 64000 + wi * 1000 + ki + 1) := by have := HCN.out; exact ⟨by omega, by omega, by omega⟩
                have HFV : Hid (∀ X : World, X.heap[gs]? = some (.cells cs 99 (0, 0)) → X.cell? ⟨gs, wi * 4 + ci, none⟩ = some (.slice FA fm fc)) := cell_of_getD (by rw [hE.out.1.sh.2]; exact HI0.out) hfg
                have HFR : Hid (∀ (X : World) (v : Value), PI w W m0 m1 m2 b gp gs v v cs none rn X → Rr 3 1 w.heap.size X (.slice FA fm fc) fm) := fun X v h => free_of h HI0.out hfg
                clear hE hcd hq hfm hfr hfg hfc hbc hrn
                go_wp2_with fail
                refine Reg.wp_region_phase (by kernel_rfl) [13, 14, 17] (fun i => match i with | 0 => fun v => v = .pointer (some ⟨gp, 0, none⟩) | 1 => fun v => v = .pointer (some ⟨gp, 0, none⟩) | 2 => fun v => v = .pointer (some ⟨gp, 0, none⟩) | 3 => fun v => v = .pointer (some ⟨gp, 8, none⟩) | 4 => fun v => v = (Value.slice BA cnt bc) | 5 => fun v => v = .int .i64 (bb : Int) | 6 => fun v => v = .int .i64 (ci : Int) | 7 => fun v => v = .pointer (some ⟨w.heap.size, 1, none⟩) | 8 => fun v => v = .pointer (some ⟨w.heap.size, 1 + ci, none⟩) | 9 => fun v => v = .int .i64 (sz : Int) | 10 => fun v => v = .int .i64 (wi : Int) | 11 => fun v => v = .int .i64 (ci : Int) | 12 => fun v => v = .agg #[.int .i64 (bb : Int), .int .i64 (sz : Int), .int .i64 (wi : Int), .int .i64 (ci : Int), .bool false] | 15 => fun v => v = .pointer (some ⟨gp, 0, none⟩) | 16 => fun v => v = .pointer (some ⟨gp, 8, none⟩) | _ => fun _ => True) (fun k f X => match k with | 0 => PI w W m0 m1 m2 b gp gs (Value.slice BA cnt bc) (Value.slice BA cnt bc) cs none cnt X | 1 => ∃ W9, X = W9.alloc (.cells ([.int .i64 (bb : Int), .int .i64 (sz : Int), .int .i64 (wi : Int), .int .i64 (ci : Int), .bool false] : List Value).toArray 96) ∧ f 69 = .slice (some ⟨W9.heap.size, 0, none⟩) 1 1 ∧ PI w W m0 m1 m2 b gp gs (Value.slice BA cnt bc) (Value.slice BA cnt bc) cs none cnt W9 | 2 => ∃ A1 c1, f 70 = .slice A1 (cnt + 1) c1 ∧ PI w W m0 m1 m2 b gp gs (Value.slice BA cnt bc) (.slice A1 (cnt + 1) c1) cs none (cnt + 1) X | _ => ∃ A1 c1, PI w W m0 m1 m2 b gp gs (.slice A1 (cnt + 1) c1) (.slice A1 (cnt + 1) c1) cs none (cnt + 1) X) (by kernel_rfl) (by kernel_rfl) (by decide) (by decide) ?hJ ?h0 ?pure ?act ?fin
                case hJ => (intro k f f' X h hj; match k, hj with
    | 0, hj => exact hj
    | 1, hj => (obtain ⟨W9, h1, h2, h3⟩ := hj; exact ⟨W9, h1, (h 0 (by omega) (by decide) 69 (by kernel_rfl)).symm.trans h2, h3⟩)
    | 2, hj => (obtain ⟨A1, c1, h2, h3⟩ := hj; exact ⟨A1, c1, (h 1 (by omega) (by decide) 70 (by kernel_rfl)).symm.trans h2, h3⟩)
    | k + 3, hj => exact hj)
                case h0 => exact (show PI w W m0 m1 m2 b gp gs (Value.slice BA cnt bc) (Value.slice BA cnt bc) cs none cnt (World.drew _) from HPI.out.drawn (pw_below_drewN (Below.refl _ _) 1))
                case pure =>
                  intro i o k a w_ ho hE hk hmc hf hst hkn hj
                  have hi : i < 18 := (Array.getElem?_eq_some_iff.1 ho).1
                  obtain rfl | rfl | rfl | rfl | rfl | rfl | rfl | rfl | rfl | rfl | rfl | rfl | rfl | rfl | rfl : i = 0 ∨ i = 1 ∨ i = 2 ∨ i = 3 ∨ i = 4 ∨ i = 5 ∨ i = 6 ∨ i = 7 ∨ i = 8 ∨ i = 9 ∨ i = 10 ∨ i = 11 ∨ i = 12 ∨ i = 15 ∨ i = 16 := by
                    simp only [List.mem_cons, List.not_mem_nil, or_false, not_or] at hE
                    omega
                  · skip
                    obtain rfl := Reg.oper_eq ho rfl
                    have e8 : a.eval (.tmp 8) = .pointer (some ⟨gp, 0, none⟩) := (hf.eval 8 (by kernel_rfl)).trans rfl
                    have g8 := Reg.eval_getD e8
                    exact Reg.op_value rfl rfl (by simp only [List.getElem_toArray, List.getElem_cons_zero, List.getElem_cons_succ, execOp, e8]; go_simp) ⟨_, rfl, rfl, hj⟩
                  · skip
                    obtain rfl := Reg.oper_eq ho rfl
                    have e8 : a.eval (.tmp 8) = .pointer (some ⟨gp, 0, none⟩) := (hf.eval 8 (by kernel_rfl)).trans rfl
                    have g8 := Reg.eval_getD e8
                    exact Reg.op_value rfl rfl (by simp only [List.getElem_toArray, List.getElem_cons_zero, List.getElem_cons_succ, execOp, e8]; go_simp) ⟨_, rfl, rfl, hj⟩
                  · skip
                    obtain rfl := Reg.oper_eq ho rfl
                    have e57 : a.eval (.tmp 57) = .pointer (some ⟨gp, 0, none⟩) := hkn.eval 1 57 (by kernel_rfl) (by kernel_rfl)
                    have g57 := Reg.eval_getD e57
                    exact Reg.op_value rfl rfl (by simp only [List.getElem_toArray, List.getElem_cons_zero, List.getElem_cons_succ, execOp, e57]; go_simp) ⟨_, rfl, rfl, hj⟩
                  · skip
                    obtain rfl := Reg.oper_eq ho rfl
                    have e58 : a.eval (.tmp 58) = .pointer (some ⟨gp, 0, none⟩) := hkn.eval 2 58 (by kernel_rfl) (by kernel_rfl)
                    have g58 := Reg.eval_getD e58
                    exact Reg.op_value rfl rfl (by simp only [List.getElem_toArray, List.getElem_cons_zero, List.getElem_cons_succ, execOp, e58]; go_simp) ⟨_, rfl, rfl, hj⟩
                  · skip
                    obtain rfl := Reg.oper_eq ho rfl
                    have e59 : a.eval (.tmp 59) = .pointer (some ⟨gp, 8, none⟩) := hkn.eval 3 59 (by kernel_rfl) (by kernel_rfl)
                    have g59 := Reg.eval_getD e59
                    have hkp : w_.cell? ⟨gp, 8, none⟩ = some (Value.slice BA cnt bc) := by
                      have hk2 : k = 0 ∨ k = 1 ∨ k = 2 ∨ k = 3 := by simp only [List.length_cons, List.length_nil] at hk; omega
                      rcases hk2 with rfl | rfl | rfl | rfl
                      · exact (blk_cell (show PI w W m0 m1 m2 b gp gs (Value.slice BA cnt bc) (Value.slice BA cnt bc) cs none cnt w_ from hj).p 8).trans rfl
                      · obtain ⟨W9, rfl, _, hP⟩ := hj
                        exact (blk_cell (hP.drawn ((Below.refl _ _).alloc (Nat.le_refl _) _)).p 8).trans rfl
                      · exact Bool.noConfusion (hmc.symm.trans (show Reg.mayComeB _ _ _ _ = false from by kernel_rfl))
                      · exact Bool.noConfusion (hmc.symm.trans (show Reg.mayComeB _ _ _ _ = false from by kernel_rfl))
                    exact Reg.op_value rfl rfl (by simp only [List.getElem_toArray, List.getElem_cons_zero, List.getElem_cons_succ, execOp, e59]; go_simp) ⟨_, rfl, rfl, hj⟩
                  · skip
                    obtain rfl := Reg.oper_eq ho rfl
                    have e1 : a.eval (.tmp 1) = .int .i64 (bb : Int) := (hf.eval 1 (by kernel_rfl)).trans rfl
                    have g1 := Reg.eval_getD e1
                    exact Reg.op_value rfl rfl (by simp only [List.getElem_toArray, List.getElem_cons_zero, List.getElem_cons_succ, execOp, e1]; go_simp) ⟨_, rfl, rfl, hj⟩
                  · skip
                    obtain rfl := Reg.oper_eq ho rfl
                    have e9 : a.eval (.tmp 9) = .int .i64 (ci : Int) := (hf.eval 9 (by kernel_rfl)).trans rfl
                    have g9 := Reg.eval_getD e9
                    exact Reg.op_value rfl rfl (by simp only [List.getElem_toArray, List.getElem_cons_zero, List.getElem_cons_succ, execOp, e9]; go_simp) ⟨_, rfl, rfl, hj⟩
                  · skip
                    obtain rfl := Reg.oper_eq ho rfl
                    have e5 : a.eval (.tmp 5) = .pointer (some ⟨w.heap.size, 0, none⟩) := (hf.eval 5 (by kernel_rfl)).trans rfl
                    have g5 := Reg.eval_getD e5
                    exact Reg.op_value rfl rfl (by simp only [List.getElem_toArray, List.getElem_cons_zero, List.getElem_cons_succ, execOp, e5]; go_simp) ⟨_, rfl, rfl, hj⟩
                  · skip
                    obtain rfl := Reg.oper_eq ho rfl
                    have e63 : a.eval (.tmp 63) = .pointer (some ⟨w.heap.size, 1, none⟩) := hkn.eval 7 63 (by kernel_rfl) (by kernel_rfl)
                    have e62 : a.eval (.tmp 62) = .int .i64 (ci : Int) := hkn.eval 6 62 (by kernel_rfl) (by kernel_rfl)
                    have g63 := Reg.eval_getD e63
                    have g62 := Reg.eval_getD e62
                    have hci := HCI.out
                    have hci1 : (ci : Int) < 3 := by omega
                    have hci0 : (0 : Int) ≤ (ci : Int) := by omega
                    exact Reg.op_value rfl rfl (by simp only [List.getElem_toArray, List.getElem_cons_zero, List.getElem_cons_succ, execOp, e63, e62]; go_simp) ⟨_, rfl, rfl, hj⟩
                  · skip
                    obtain rfl := Reg.oper_eq ho rfl
                    have e64 : a.eval (.tmp 64) = .pointer (some ⟨w.heap.size, 1 + ci, none⟩) := hkn.eval 8 64 (by kernel_rfl) (by kernel_rfl)
                    have g64 := Reg.eval_getD e64
                    have hkz : w_.cell? ⟨w.heap.size, 1 + ci, none⟩ = some (.int .i64 (sz : Int)) := by
                      have hk2 : k = 0 ∨ k = 1 ∨ k = 2 ∨ k = 3 := by simp only [List.length_cons, List.length_nil] at hk; omega
                      rcases hk2 with rfl | rfl | rfl | rfl
                      · exact HSZ.out w_ (show PI w W m0 m1 m2 b gp gs (Value.slice BA cnt bc) (Value.slice BA cnt bc) cs none cnt w_ from hj).s
                      · exact Bool.noConfusion (hmc.symm.trans (show Reg.mayComeB _ _ _ _ = false from by kernel_rfl))
                      · exact Bool.noConfusion (hmc.symm.trans (show Reg.mayComeB _ _ _ _ = false from by kernel_rfl))
                      · exact Bool.noConfusion (hmc.symm.trans (show Reg.mayComeB _ _ _ _ = false from by kernel_rfl))
                    exact Reg.op_value rfl rfl (by simp only [List.getElem_toArray, List.getElem_cons_zero, List.getElem_cons_succ, execOp, e64]; go_simp) ⟨_, rfl, rfl, hj⟩
                  · skip
                    obtain rfl := Reg.oper_eq ho rfl
                    have e10 : a.eval (.tmp 10) = .int .i64 (wi : Int) := (hf.eval 10 (by kernel_rfl)).trans rfl
                    have g10 := Reg.eval_getD e10
                    exact Reg.op_value rfl rfl (by simp only [List.getElem_toArray, List.getElem_cons_zero, List.getElem_cons_succ, execOp, e10]; go_simp) ⟨_, rfl, rfl, hj⟩
                  · skip
                    obtain rfl := Reg.oper_eq ho rfl
                    have e9 : a.eval (.tmp 9) = .int .i64 (ci : Int) := (hf.eval 9 (by kernel_rfl)).trans rfl
                    have g9 := Reg.eval_getD e9
                    exact Reg.op_value rfl rfl (by simp only [List.getElem_toArray, List.getElem_cons_zero, List.getElem_cons_succ, execOp, e9]; go_simp) ⟨_, rfl, rfl, hj⟩
                  · skip
                    obtain rfl := Reg.oper_eq ho rfl
                    have e61 : a.eval (.tmp 61) = .int .i64 (bb : Int) := hkn.eval 5 61 (by kernel_rfl) (by kernel_rfl)
                    have e65 : a.eval (.tmp 65) = .int .i64 (sz : Int) := hkn.eval 9 65 (by kernel_rfl) (by kernel_rfl)
                    have e66 : a.eval (.tmp 66) = .int .i64 (wi : Int) := hkn.eval 10 66 (by kernel_rfl) (by kernel_rfl)
                    have e67 : a.eval (.tmp 67) = .int .i64 (ci : Int) := hkn.eval 11 67 (by kernel_rfl) (by kernel_rfl)
                    have g61 := Reg.eval_getD e61
                    have g65 := Reg.eval_getD e65
                    have g66 := Reg.eval_getD e66
                    have g67 := Reg.eval_getD e67
                    exact Reg.op_value rfl rfl (by simp only [List.getElem_toArray, List.getElem_cons_zero, List.getElem_cons_succ, execOp, e61, e65, e66, e67]; go_simp) ⟨_, rfl, rfl, hj⟩
                  · skip
                    obtain rfl := Reg.oper_eq ho rfl
                    have e56 : a.eval (.tmp 56) = .pointer (some ⟨gp, 0, none⟩) := hkn.eval 0 56 (by kernel_rfl) (by kernel_rfl)
                    have g56 := Reg.eval_getD e56
                    exact Reg.op_value rfl rfl (by simp only [List.getElem_toArray, List.getElem_cons_zero, List.getElem_cons_succ, execOp, e56]; go_simp) ⟨_, rfl, rfl, hj⟩
                  · skip
                    obtain rfl := Reg.oper_eq ho rfl
                    have e71 : a.eval (.tmp 71) = .pointer (some ⟨gp, 0, none⟩) := hkn.eval 15 71 (by kernel_rfl) (by kernel_rfl)
                    have g71 := Reg.eval_getD e71
                    exact Reg.op_value rfl rfl (by simp only [List.getElem_toArray, List.getElem_cons_zero, List.getElem_cons_succ, execOp, e71]; go_simp) ⟨_, rfl, rfl, hj⟩
                case act =>
                  intro k o a w_ hk ho hf hst hkn hj
                  obtain rfl | rfl | rfl : k = 0 ∨ k = 1 ∨ k = 2 := by simp only [List.length_cons, List.length_nil] at hk; omega
                  · skip
                    obtain rfl := Reg.oper_eq ho rfl
                    have e68 : a.eval (.tmp 68) = .agg #[.int .i64 (bb : Int), .int .i64 (sz : Int), .int .i64 (wi : Int), .int .i64 (ci : Int), .bool false] := hkn.eval 12 68 (by kernel_rfl) (by kernel_rfl)
                    have g68 := Reg.eval_getD e68
                    refine Reg.op_value (v := .slice (some ⟨w_.heap.size, 0, none⟩) 1 1) (w' := w_.alloc (.cells ([.int .i64 (bb : Int), .int .i64 (sz : Int), .int .i64 (wi : Int), .int .i64 (ci : Int), .bool false] : List Value).toArray 96)) rfl rfl (by simp only [List.getElem_toArray, List.getElem_cons_zero, List.getElem_cons_succ, execOp, e68]; go_simp) ⟨_, rfl, trivial, w_, rfl, Reg.val_put_in hf (by kernel_rfl), hj⟩
                  · skip
                    obtain rfl := Reg.oper_eq ho rfl
                    have e60 : a.eval (.tmp 60) = (Value.slice BA cnt bc) := hkn.eval 4 60 (by kernel_rfl) (by kernel_rfl)
                    have g60 := Reg.eval_getD e60
                    obtain ⟨W9, rfl, e69, hP9⟩ := hj
                    refine Reg.op_wp rfl rfl ?_
                    refine Rr.append_step 5 (w0 := w) w.heap.size rfl (.tmp 60) (.tmp 69) 92 96 (.agg #[.int .i64 0, .int .i64 0, .int .i64 0, .int .i64 0, .bool false]) 40 rfl Tryz.underlying92 info96 rfl (by decide) (by decide) (Value.slice BA cnt bc) cnt [.int .i64 (bb : Int), .int .i64 (sz : Int), .int .i64 (wi : Int), .int .i64 (ci : Int), .bool false] e60 ((Reg.eval_val a 69).trans e69) rfl (by intro u hu; simp at hu; rcases hu with rfl | rfl | rfl | rfl | rfl <;> rfl) hP9.row hP9.below hP9.below.size (by have := HCN.out; omega) ?_
                    intro v1 w1 hR hB hK hat hg
                    obtain ⟨A1, c1, rfl, hc1⟩ := hR.slice
                    refine ⟨_, rfl, trivial, A1, c1, Reg.val_put_in hf (by kernel_rfl), hP9.grown hR hB hK⟩
                  · skip
                    obtain rfl := Reg.oper_eq ho rfl
                    have e72 : a.eval (.tmp 72) = .pointer (some ⟨gp, 8, none⟩) := hkn.eval 16 72 (by kernel_rfl) (by kernel_rfl)
                    have g72 := Reg.eval_getD e72
                    obtain ⟨A1, c1, e70, hP⟩ := hj
                    have e70' : a.eval (.tmp 70) = .slice A1 (cnt + 1) c1 := (Reg.eval_val a 70).trans e70
                    have g70 := Reg.eval_getD e70'
                    have kk : w_.cell? ⟨gp, 8, none⟩ = some (Value.slice BA cnt bc) := (blk_cell hP.p 8).trans rfl
                    have qq : w_.frozen? ⟨gp, 8, none⟩ = false := blk_frozen hP.p 8
                    refine Reg.op_unit (w' := w_.setCell ⟨gp, 8, none⟩ (.slice A1 (cnt + 1) c1)) rfl rfl (by simp only [List.getElem_toArray, List.getElem_cons_zero, List.getElem_cons_succ, execOp, e70', e72]; go_simp) ⟨_, rfl, trivial, A1, c1, hP.held⟩
                case fin =>
                  intro a w_ hf hkn hj
                  have e56 : Reg.val a 56 = _ := hkn 0 56 (by show _ < _; decide) (by kernel_rfl)
                  have e57 : Reg.val a 57 = _ := hkn 1 57 (by show _ < _; decide) (by kernel_rfl)
                  have e58 : Reg.val a 58 = _ := hkn 2 58 (by show _ < _; decide) (by kernel_rfl)
                  have e59 : Reg.val a 59 = _ := hkn 3 59 (by show _ < _; decide) (by kernel_rfl)
                  have e60 : Reg.val a 60 = _ := hkn 4 60 (by show _ < _; decide) (by kernel_rfl)
                  have e61 : Reg.val a 61 = _ := hkn 5 61 (by show _ < _; decide) (by kernel_rfl)
                  have e62 : Reg.val a 62 = _ := hkn 6 62 (by show _ < _; decide) (by kernel_rfl)
                  have e63 : Reg.val a 63 = _ := hkn 7 63 (by show _ < _; decide) (by kernel_rfl)
                  have e64 : Reg.val a 64 = _ := hkn 8 64 (by show _ < _; decide) (by kernel_rfl)
                  have e65 : Reg.val a 65 = _ := hkn 9 65 (by show _ < _; decide) (by kernel_rfl)
                  have e66 : Reg.val a 66 = _ := hkn 10 66 (by show _ < _; decide) (by kernel_rfl)
                  have e67 : Reg.val a 67 = _ := hkn 11 67 (by show _ < _; decide) (by kernel_rfl)
                  have e68 : Reg.val a 68 = _ := hkn 12 68 (by show _ < _; decide) (by kernel_rfl)
                  have e71 : Reg.val a 71 = _ := hkn 15 71 (by show _ < _; decide) (by kernel_rfl)
                  have e72 : Reg.val a 72 = _ := hkn 16 72 (by show _ < _; decide) (by kernel_rfl)
                  rw [Reg.frm_fold hf [56, 57, 58, 59, 60, 61, 62, 63, 64, 65, 66, 67, 68, 69, 70, 71, 72] (by kernel_rfl) (by kernel_rfl)]
                  simp only [List.foldl_cons, List.foldl_nil, Act.put, List.setIfInBounds_toArray, List.set_cons_zero, List.set_cons_succ, e56, e57, e58, e59, e60, e61, e62, e63, e64, e65, e66, e67, e68, e71, e72]
                  generalize Reg.val a 69 = v69_ at *
                  generalize Reg.val a 70 = v70_ at *
                  clear hkn hf e56 e57 e58 e59 e60 e61 e62 e63 e64 e65 e66 e67 e68 e71 e72
                  obtain ⟨RA, rc, hP⟩ := hj
                  have HPJ : Hid (PI w W m0 m1 m2 b gp gs (.slice RA rn rc) (.slice RA rn rc) cs none rn w_) := by have e := HRC.out; rw [e]; exact hP
                  clear hP
                  go_wp2_with fail
                  refine Reg.wp_region_phase (by kernel_rfl) [21, 22, 26] (fun i => match i with | 0 => fun v => v = .pointer (some ⟨gp, 0, none⟩) | 1 => fun v => v = .pointer (some ⟨gp, 0, none⟩) | 2 => fun v => v = .pointer (some ⟨gp, 9, none⟩) | 3 => fun v => v = .slice (some ⟨gs, 0, none⟩) W W | 4 => fun v => v = .int .i64 (wi : Int) | 5 => fun v => v = .int .i64 (ci : Int) | 6 => fun v => v = .pointer (some ⟨gp, 0, none⟩) | 7 => fun v => v = .pointer (some ⟨gp, 0, none⟩) | 8 => fun v => v = .pointer (some ⟨gp, 9, none⟩) | 9 => fun v => v = .slice (some ⟨gs, 0, none⟩) W W | 10 => fun v => v = .int .i64 (wi : Int) | 11 => fun v => v = .int .i64 (ci : Int) | 12 => fun v => v = .pointer (some ⟨gs, wi * 4, none⟩) | 13 => fun v => v = .pointer (some ⟨gs, wi * 4, none⟩) | 14 => fun v => v = .pointer (some ⟨gs, wi * 4 + ci, none⟩) | 15 => fun v => v = .slice FA fm fc | 16 => fun v => v = .pointer (some ⟨gp, 0, none⟩) | 17 => fun v => v = .pointer (some ⟨gp, 0, none⟩) | 18 => fun v => v = .pointer (some ⟨gp, 8, none⟩) | 19 => fun v => v = .slice RA rn rc | 20 => fun v => v = .int .i64 (rn : Int) | 23 => fun v => v = .pointer (some ⟨gs, wi * 4, none⟩) | 24 => fun v => v = .pointer (some ⟨gs, wi * 4, none⟩) | 25 => fun v => v = .pointer (some ⟨gs, wi * 4 + ci, none⟩) | _ => fun _ => True) (fun k f X => match k with | 0 => PI w W m0 m1 m2 b gp gs (.slice RA rn rc) (.slice RA rn rc) cs none rn X | 1 => ∃ W9, X = W9.alloc (.cells ([.int .i64 (rn : Int)] : List Value).toArray 3) ∧ f 94 = .slice (some ⟨W9.heap.size, 0, none⟩) 1 1 ∧ PI w W m0 m1 m2 b gp gs (.slice RA rn rc) (.slice RA rn rc) cs none rn W9 | 2 => ∃ A1 c1, f 95 = .slice A1 (fm + 1) c1 ∧ PI w W m0 m1 m2 b gp gs (.slice RA rn rc) (.slice RA rn rc) cs (some (wi * 4 + ci)) rn X ∧ Rr 3 1 w.heap.size X (.slice A1 (fm + 1) c1) (fm + 1) ∧ ∀ j, j < W * 4 → j ≠ wi * 4 + ci → ∀ q, (Value.slice A1 (fm + 1) c1).ownBlock = some q → (cs.getD j undef).ownBlock ≠ some q | _ => ∃ A1 c1, PI w W m0 m1 m2 b gp gs (.slice RA rn rc) (.slice RA rn rc) (cs.setIfInBounds (wi * 4 + ci) (.slice A1 (fm + 1) c1)) none rn X) (by kernel_rfl) (by kernel_rfl) (by decide) (by decide) ?hJ ?h0 ?pure ?act ?fin
                  case hJ => (intro k f f' X h hj; match k, hj with
    | 0, hj => exact hj
    | 1, hj => (obtain ⟨W9, h1, h2, h3⟩ := hj; exact ⟨W9, h1, (h 0 (by omega) (by decide) 94 (by kernel_rfl)).symm.trans h2, h3⟩)
    | 2, hj => (obtain ⟨A1, c1, h2, h3⟩ := hj; exact ⟨A1, c1, (h 1 (by omega) (by decide) 95 (by kernel_rfl)).symm.trans h2, h3⟩)
    | k + 3, hj => exact hj)
                  case h0 => exact (show PI w W m0 m1 m2 b gp gs (.slice RA rn rc) (.slice RA rn rc) cs none rn (World.drew _) from HPJ.out.drawn (pw_below_drewN (Below.refl _ _) 1))
                  case pure =>
                    intro i o k a w_ ho hE hk hmc hf hst hkn hj
                    have hi : i < 27 := (Array.getElem?_eq_some_iff.1 ho).1
                    obtain rfl | rfl | rfl | rfl | rfl | rfl | rfl | rfl | rfl | rfl | rfl | rfl | rfl | rfl | rfl | rfl | rfl | rfl | rfl | rfl | rfl | rfl | rfl | rfl : i = 0 ∨ i = 1 ∨ i = 2 ∨ i = 3 ∨ i = 4 ∨ i = 5 ∨ i = 6 ∨ i = 7 ∨ i = 8 ∨ i = 9 ∨ i = 10 ∨ i = 11 ∨ i = 12 ∨ i = 13 ∨ i = 14 ∨ i = 15 ∨ i = 16 ∨ i = 17 ∨ i = 18 ∨ i = 19 ∨ i = 20 ∨ i = 23 ∨ i = 24 ∨ i = 25 := by
                      simp only [List.mem_cons, List.not_mem_nil, or_false, not_or] at hE
                      omega
                    · skip
                      obtain rfl := Reg.oper_eq ho rfl
                      have e8 : a.eval (.tmp 8) = .pointer (some ⟨gp, 0, none⟩) := (hf.eval 8 (by kernel_rfl)).trans rfl
                      have g8 := Reg.eval_getD e8
                      exact Reg.op_value rfl rfl (by simp only [List.getElem_toArray, List.getElem_cons_zero, List.getElem_cons_succ, execOp, e8]; go_simp) ⟨_, rfl, rfl, hj⟩
                    · skip
                      obtain rfl := Reg.oper_eq ho rfl
                      have e73 : a.eval (.tmp 73) = .pointer (some ⟨gp, 0, none⟩) := hkn.eval 0 73 (by kernel_rfl) (by kernel_rfl)
                      have g73 := Reg.eval_getD e73
                      exact Reg.op_value rfl rfl (by simp only [List.getElem_toArray, List.getElem_cons_zero, List.getElem_cons_succ, execOp, e73]; go_simp) ⟨_, rfl, rfl, hj⟩
                    · skip
                      obtain rfl := Reg.oper_eq ho rfl
                      have e74 : a.eval (.tmp 74) = .pointer (some ⟨gp, 0, none⟩) := hkn.eval 1 74 (by kernel_rfl) (by kernel_rfl)
                      have g74 := Reg.eval_getD e74
                      exact Reg.op_value rfl rfl (by simp only [List.getElem_toArray, List.getElem_cons_zero, List.getElem_cons_succ, execOp, e74]; go_simp) ⟨_, rfl, rfl, hj⟩
                    · skip
                      obtain rfl := Reg.oper_eq ho rfl
                      have e75 : a.eval (.tmp 75) = .pointer (some ⟨gp, 9, none⟩) := hkn.eval 2 75 (by kernel_rfl) (by kernel_rfl)
                      have g75 := Reg.eval_getD e75
                      have hk9 : w_.cell? ⟨gp, 9, none⟩ = some (.slice (some ⟨gs, 0, none⟩) W W) := by
                        have hk2 : k = 0 ∨ k = 1 ∨ k = 2 ∨ k = 3 := by simp only [List.length_cons, List.length_nil] at hk; omega
                        rcases hk2 with rfl | rfl | rfl | rfl
                        · have hPP := (show PI w W m0 m1 m2 b gp gs (.slice RA rn rc) (.slice RA rn rc) cs none rn w_ from hj)
                          exact (blk_cell hPP.p 9).trans rfl
                        · obtain ⟨W9, rfl, _, hP⟩ := hj
                          have hPP := hP.drawn ((Below.refl _ _).alloc (Nat.le_refl _) (.cells ([.int .i64 (rn : Int)] : List Value).toArray 3))
                          exact (blk_cell hPP.p 9).trans rfl
                        · obtain ⟨A1, c1, _, hPP, _⟩ := hj
                          exact (blk_cell hPP.p 9).trans rfl
                        · exact Bool.noConfusion (hmc.symm.trans (show Reg.mayComeB _ _ _ _ = false from by kernel_rfl))
                      exact Reg.op_value rfl rfl (by simp only [List.getElem_toArray, List.getElem_cons_zero, List.getElem_cons_succ, execOp, e75]; go_simp) ⟨_, rfl, rfl, hj⟩
                    · skip
                      obtain rfl := Reg.oper_eq ho rfl
                      have e10 : a.eval (.tmp 10) = .int .i64 (wi : Int) := (hf.eval 10 (by kernel_rfl)).trans rfl
                      have g10 := Reg.eval_getD e10
                      exact Reg.op_value rfl rfl (by simp only [List.getElem_toArray, List.getElem_cons_zero, List.getElem_cons_succ, execOp, e10]; go_simp) ⟨_, rfl, rfl, hj⟩
                    · skip
                      obtain rfl := Reg.oper_eq ho rfl
                      have e9 : a.eval (.tmp 9) = .int .i64 (ci : Int) := (hf.eval 9 (by kernel_rfl)).trans rfl
                      have g9 := Reg.eval_getD e9
                      exact Reg.op_value rfl rfl (by simp only [List.getElem_toArray, List.getElem_cons_zero, List.getElem_cons_succ, execOp, e9]; go_simp) ⟨_, rfl, rfl, hj⟩
                    · skip
                      obtain rfl := Reg.oper_eq ho rfl
                      have e8 : a.eval (.tmp 8) = .pointer (some ⟨gp, 0, none⟩) := (hf.eval 8 (by kernel_rfl)).trans rfl
                      have g8 := Reg.eval_getD e8
                      exact Reg.op_value rfl rfl (by simp only [List.getElem_toArray, List.getElem_cons_zero, List.getElem_cons_succ, execOp, e8]; go_simp) ⟨_, rfl, rfl, hj⟩
                    · skip
                      obtain rfl := Reg.oper_eq ho rfl
                      have e79 : a.eval (.tmp 79) = .pointer (some ⟨gp, 0, none⟩) := hkn.eval 6 79 (by kernel_rfl) (by kernel_rfl)
                      have g79 := Reg.eval_getD e79
                      exact Reg.op_value rfl rfl (by simp only [List.getElem_toArray, List.getElem_cons_zero, List.getElem_cons_succ, execOp, e79]; go_simp) ⟨_, rfl, rfl, hj⟩
                    · skip
                      obtain rfl := Reg.oper_eq ho rfl
                      have e80 : a.eval (.tmp 80) = .pointer (some ⟨gp, 0, none⟩) := hkn.eval 7 80 (by kernel_rfl) (by kernel_rfl)
                      have g80 := Reg.eval_getD e80
                      exact Reg.op_value rfl rfl (by simp only [List.getElem_toArray, List.getElem_cons_zero, List.getElem_cons_succ, execOp, e80]; go_simp) ⟨_, rfl, rfl, hj⟩
                    · skip
                      obtain rfl := Reg.oper_eq ho rfl
                      have e81 : a.eval (.tmp 81) = .pointer (some ⟨gp, 9, none⟩) := hkn.eval 8 81 (by kernel_rfl) (by kernel_rfl)
                      have g81 := Reg.eval_getD e81
                      have hk9 : w_.cell? ⟨gp, 9, none⟩ = some (.slice (some ⟨gs, 0, none⟩) W W) := by
                        have hk2 : k = 0 ∨ k = 1 ∨ k = 2 ∨ k = 3 := by simp only [List.length_cons, List.length_nil] at hk; omega
                        rcases hk2 with rfl | rfl | rfl | rfl
                        · have hPP := (show PI w W m0 m1 m2 b gp gs (.slice RA rn rc) (.slice RA rn rc) cs none rn w_ from hj)
                          exact (blk_cell hPP.p 9).trans rfl
                        · obtain ⟨W9, rfl, _, hP⟩ := hj
                          have hPP := hP.drawn ((Below.refl _ _).alloc (Nat.le_refl _) (.cells ([.int .i64 (rn : Int)] : List Value).toArray 3))
                          exact (blk_cell hPP.p 9).trans rfl
                        · exact Bool.noConfusion (hmc.symm.trans (show Reg.mayComeB _ _ _ _ = false from by kernel_rfl))
                        · exact Bool.noConfusion (hmc.symm.trans (show Reg.mayComeB _ _ _ _ = false from by kernel_rfl))
                      exact Reg.op_value rfl rfl (by simp only [List.getElem_toArray, List.getElem_cons_zero, List.getElem_cons_succ, execOp, e81]; go_simp) ⟨_, rfl, rfl, hj⟩
                    · skip
                      obtain rfl := Reg.oper_eq ho rfl
                      have e10 : a.eval (.tmp 10) = .int .i64 (wi : Int) := (hf.eval 10 (by kernel_rfl)).trans rfl
                      have g10 := Reg.eval_getD e10
                      exact Reg.op_value rfl rfl (by simp only [List.getElem_toArray, List.getElem_cons_zero, List.getElem_cons_succ, execOp, e10]; go_simp) ⟨_, rfl, rfl, hj⟩
                    · skip
                      obtain rfl := Reg.oper_eq ho rfl
                      have e9 : a.eval (.tmp 9) = .int .i64 (ci : Int) := (hf.eval 9 (by kernel_rfl)).trans rfl
                      have g9 := Reg.eval_getD e9
                      exact Reg.op_value rfl rfl (by simp only [List.getElem_toArray, List.getElem_cons_zero, List.getElem_cons_succ, execOp, e9]; go_simp) ⟨_, rfl, rfl, hj⟩
                    · skip
                      obtain rfl := Reg.oper_eq ho rfl
                      have e82 : a.eval (.tmp 82) = .slice (some ⟨gs, 0, none⟩) W W := hkn.eval 9 82 (by kernel_rfl) (by kernel_rfl)
                      have e83 : a.eval (.tmp 83) = .int .i64 (wi : Int) := hkn.eval 10 83 (by kernel_rfl) (by kernel_rfl)
                      have g82 := Reg.eval_getD e82
                      have g83 := Reg.eval_getD e83
                      have hwi := HWI.out
                      have hwi1 : (wi : Int) < (W : Int) := by omega
                      have hwi0 : (0 : Int) ≤ (wi : Int) := by omega
                      exact Reg.op_value rfl rfl (by simp only [List.getElem_toArray, List.getElem_cons_zero, List.getElem_cons_succ, execOp, e82, e83]; go_simp) ⟨_, rfl, rfl, hj⟩
                    · skip
                      obtain rfl := Reg.oper_eq ho rfl
                      have e85 : a.eval (.tmp 85) = .pointer (some ⟨gs, wi * 4, none⟩) := hkn.eval 12 85 (by kernel_rfl) (by kernel_rfl)
                      have g85 := Reg.eval_getD e85
                      exact Reg.op_value rfl rfl (by simp only [List.getElem_toArray, List.getElem_cons_zero, List.getElem_cons_succ, execOp, e85]; go_simp) ⟨_, rfl, rfl, hj⟩
                    · skip
                      obtain rfl := Reg.oper_eq ho rfl
                      have e86 : a.eval (.tmp 86) = .pointer (some ⟨gs, wi * 4, none⟩) := hkn.eval 13 86 (by kernel_rfl) (by kernel_rfl)
                      have e84 : a.eval (.tmp 84) = .int .i64 (ci : Int) := hkn.eval 11 84 (by kernel_rfl) (by kernel_rfl)
                      have g86 := Reg.eval_getD e86
                      have g84 := Reg.eval_getD e84
                      have hci := HCI.out
                      have hci1 : (ci : Int) < 3 := by omega
                      have hci0 : (0 : Int) ≤ (ci : Int) := by omega
                      exact Reg.op_value rfl rfl (by simp only [List.getElem_toArray, List.getElem_cons_zero, List.getElem_cons_succ, execOp, e86, e84]; go_simp) ⟨_, rfl, rfl, hj⟩
                    · skip
                      obtain rfl := Reg.oper_eq ho rfl
                      have e87 : a.eval (.tmp 87) = .pointer (some ⟨gs, wi * 4 + ci, none⟩) := hkn.eval 14 87 (by kernel_rfl) (by kernel_rfl)
                      have g87 := Reg.eval_getD e87
                      have hkf : w_.cell? ⟨gs, wi * 4 + ci, none⟩ = some (.slice FA fm fc) := by
                        have hk2 : k = 0 ∨ k = 1 ∨ k = 2 ∨ k = 3 := by simp only [List.length_cons, List.length_nil] at hk; omega
                        rcases hk2 with rfl | rfl | rfl | rfl
                        · have hPP := (show PI w W m0 m1 m2 b gp gs (.slice RA rn rc) (.slice RA rn rc) cs none rn w_ from hj)
                          exact HFV.out w_ hPP.sh.1
                        · obtain ⟨W9, rfl, _, hP⟩ := hj
                          have hPP := hP.drawn ((Below.refl _ _).alloc (Nat.le_refl _) (.cells ([.int .i64 (rn : Int)] : List Value).toArray 3))
                          exact HFV.out _ hPP.sh.1
                        · exact Bool.noConfusion (hmc.symm.trans (show Reg.mayComeB _ _ _ _ = false from by kernel_rfl))
                        · exact Bool.noConfusion (hmc.symm.trans (show Reg.mayComeB _ _ _ _ = false from by kernel_rfl))
                      exact Reg.op_value rfl rfl (by simp only [List.getElem_toArray, List.getElem_cons_zero, List.getElem_cons_succ, execOp, e87]; go_simp) ⟨_, rfl, rfl, hj⟩
                    · skip
                      obtain rfl := Reg.oper_eq ho rfl
                      have e8 : a.eval (.tmp 8) = .pointer (some ⟨gp, 0, none⟩) := (hf.eval 8 (by kernel_rfl)).trans rfl
                      have g8 := Reg.eval_getD e8
                      exact Reg.op_value rfl rfl (by simp only [List.getElem_toArray, List.getElem_cons_zero, List.getElem_cons_succ, execOp, e8]; go_simp) ⟨_, rfl, rfl, hj⟩
                    · skip
                      obtain rfl := Reg.oper_eq ho rfl
                      have e89 : a.eval (.tmp 89) = .pointer (some ⟨gp, 0, none⟩) := hkn.eval 16 89 (by kernel_rfl) (by kernel_rfl)
                      have g89 := Reg.eval_getD e89
                      exact Reg.op_value rfl rfl (by simp only [List.getElem_toArray, List.getElem_cons_zero, List.getElem_cons_succ, execOp, e89]; go_simp) ⟨_, rfl, rfl, hj⟩
                    · skip
                      obtain rfl := Reg.oper_eq ho rfl
                      have e90 : a.eval (.tmp 90) = .pointer (some ⟨gp, 0, none⟩) := hkn.eval 17 90 (by kernel_rfl) (by kernel_rfl)
                      have g90 := Reg.eval_getD e90
                      exact Reg.op_value rfl rfl (by simp only [List.getElem_toArray, List.getElem_cons_zero, List.getElem_cons_succ, execOp, e90]; go_simp) ⟨_, rfl, rfl, hj⟩
                    · skip
                      obtain rfl := Reg.oper_eq ho rfl
                      have e91 : a.eval (.tmp 91) = .pointer (some ⟨gp, 8, none⟩) := hkn.eval 18 91 (by kernel_rfl) (by kernel_rfl)
                      have g91 := Reg.eval_getD e91
                      have hk8 : w_.cell? ⟨gp, 8, none⟩ = some (.slice RA rn rc) := by
                        have hk2 : k = 0 ∨ k = 1 ∨ k = 2 ∨ k = 3 := by simp only [List.length_cons, List.length_nil] at hk; omega
                        rcases hk2 with rfl | rfl | rfl | rfl
                        · have hPP := (show PI w W m0 m1 m2 b gp gs (.slice RA rn rc) (.slice RA rn rc) cs none rn w_ from hj)
                          exact (blk_cell hPP.p 8).trans rfl
                        · exact Bool.noConfusion (hmc.symm.trans (show Reg.mayComeB _ _ _ _ = false from by kernel_rfl))
                        · exact Bool.noConfusion (hmc.symm.trans (show Reg.mayComeB _ _ _ _ = false from by kernel_rfl))
                        · exact Bool.noConfusion (hmc.symm.trans (show Reg.mayComeB _ _ _ _ = false from by kernel_rfl))
                      exact Reg.op_value rfl rfl (by simp only [List.getElem_toArray, List.getElem_cons_zero, List.getElem_cons_succ, execOp, e91]; go_simp) ⟨_, rfl, rfl, hj⟩
                    · skip
                      obtain rfl := Reg.oper_eq ho rfl
                      have e92 : a.eval (.tmp 92) = .slice RA rn rc := hkn.eval 19 92 (by kernel_rfl) (by kernel_rfl)
                      have g92 := Reg.eval_getD e92
                      exact Reg.op_value rfl rfl (by simp only [List.getElem_toArray, List.getElem_cons_zero, List.getElem_cons_succ, execOp, e92]; go_simp) ⟨_, rfl, rfl, hj⟩
                    · skip
                      obtain rfl := Reg.oper_eq ho rfl
                      have e76 : a.eval (.tmp 76) = .slice (some ⟨gs, 0, none⟩) W W := hkn.eval 3 76 (by kernel_rfl) (by kernel_rfl)
                      have e77 : a.eval (.tmp 77) = .int .i64 (wi : Int) := hkn.eval 4 77 (by kernel_rfl) (by kernel_rfl)
                      have g76 := Reg.eval_getD e76
                      have g77 := Reg.eval_getD e77
                      have hwi := HWI.out
                      have hwi1 : (wi : Int) < (W : Int) := by omega
                      have hwi0 : (0 : Int) ≤ (wi : Int) := by omega
                      exact Reg.op_value rfl rfl (by simp only [List.getElem_toArray, List.getElem_cons_zero, List.getElem_cons_succ, execOp, e76, e77]; go_simp) ⟨_, rfl, rfl, hj⟩
                    · skip
                      obtain rfl := Reg.oper_eq ho rfl
                      have e96 : a.eval (.tmp 96) = .pointer (some ⟨gs, wi * 4, none⟩) := hkn.eval 23 96 (by kernel_rfl) (by kernel_rfl)
                      have g96 := Reg.eval_getD e96
                      exact Reg.op_value rfl rfl (by simp only [List.getElem_toArray, List.getElem_cons_zero, List.getElem_cons_succ, execOp, e96]; go_simp) ⟨_, rfl, rfl, hj⟩
                    · skip
                      obtain rfl := Reg.oper_eq ho rfl
                      have e97 : a.eval (.tmp 97) = .pointer (some ⟨gs, wi * 4, none⟩) := hkn.eval 24 97 (by kernel_rfl) (by kernel_rfl)
                      have e78 : a.eval (.tmp 78) = .int .i64 (ci : Int) := hkn.eval 5 78 (by kernel_rfl) (by kernel_rfl)
                      have g97 := Reg.eval_getD e97
                      have g78 := Reg.eval_getD e78
                      have hci := HCI.out
                      have hci1 : (ci : Int) < 3 := by omega
                      have hci0 : (0 : Int) ≤ (ci : Int) := by omega
                      exact Reg.op_value rfl rfl (by simp only [List.getElem_toArray, List.getElem_cons_zero, List.getElem_cons_succ, execOp, e97, e78]; go_simp) ⟨_, rfl, rfl, hj⟩
                  case act =>
                    intro k o a w_ hk ho hf hst hkn hj
                    obtain rfl | rfl | rfl : k = 0 ∨ k = 1 ∨ k = 2 := by simp only [List.length_cons, List.length_nil] at hk; omega
                    · skip
                      obtain rfl := Reg.oper_eq ho rfl
                      have e93 : a.eval (.tmp 93) = .int .i64 (rn : Int) := hkn.eval 20 93 (by kernel_rfl) (by kernel_rfl)
                      have g93 := Reg.eval_getD e93
                      refine Reg.op_value (v := .slice (some ⟨w_.heap.size, 0, none⟩) 1 1) (w' := w_.alloc (.cells ([.int .i64 (rn : Int)] : List Value).toArray 3)) rfl rfl (by simp only [List.getElem_toArray, List.getElem_cons_zero, List.getElem_cons_succ, execOp, e93]; go_simp) ⟨_, rfl, trivial, w_, rfl, Reg.val_put_in hf (by kernel_rfl), hj⟩
                    · skip
                      obtain rfl := Reg.oper_eq ho rfl
                      have e88 : a.eval (.tmp 88) = .slice FA fm fc := hkn.eval 15 88 (by kernel_rfl) (by kernel_rfl)
                      have g88 := Reg.eval_getD e88
                      obtain ⟨W9, rfl, e94, hP9⟩ := hj
                      refine Reg.op_wp rfl rfl ?_
                      have hfr := HFR.out W9 _ hP9
                      refine Rr.append_step 1 (w0 := w) w.heap.size rfl (.tmp 88) (.tmp 94) 50 3 (.int .i64 0) 8 rfl Tryz.underlying50 info3 rfl (by decide) (by decide) (.slice FA fm fc) fm [.int .i64 (rn : Int)] e88 ((Reg.eval_val a 94).trans e94) rfl (by intro u hu; simp at hu; rcases hu with rfl; rfl) hfr hP9.below hP9.below.size (by have := HRN.out; have := HFM.out; omega) ?_
                      intro v1 w1 hR hB hK hat hg
                      obtain ⟨A1, c1, rfl, hc1⟩ := hR.slice
                      have hfv := HFG.out
                      obtain ⟨q1, q2⟩ := hP9.freed HI0.out (by rw [hfv]; exact hfr) hR hB hK (by rw [hfv]; exact hg) (by rw [hfv]; exact hat)
                      exact ⟨_, rfl, trivial, A1, c1, Reg.val_put_in hf (by kernel_rfl), q1, hR, q2⟩
                    · skip
                      obtain rfl := Reg.oper_eq ho rfl
                      have e98 : a.eval (.tmp 98) = .pointer (some ⟨gs, wi * 4 + ci, none⟩) := hkn.eval 25 98 (by kernel_rfl) (by kernel_rfl)
                      have g98 := Reg.eval_getD e98
                      obtain ⟨A1, c1, e95, hP, hR, hd⟩ := hj
                      have e95' : a.eval (.tmp 95) = .slice A1 (fm + 1) c1 := (Reg.eval_val a 95).trans e95
                      have g95 := Reg.eval_getD e95'
                      have kk : w_.cell? ⟨gs, wi * 4 + ci, none⟩ = some (.slice FA fm fc) := HFV.out w_ hP.sh.1
                      have qq : w_.frozen? ⟨gs, wi * 4 + ci, none⟩ = false := blk_frozen hP.sh.1 _
                      refine Reg.op_unit (w' := w_.setCell ⟨gs, wi * 4 + ci, none⟩ (.slice A1 (fm + 1) c1)) rfl rfl (by simp only [List.getElem_toArray, List.getElem_cons_zero, List.getElem_cons_succ, execOp, e95', e98]; go_simp) ⟨_, rfl, trivial, A1, c1, hP.kept HI0.out HFM.out hR hd⟩
                  case fin =>
                    intro a w_ hf hkn hj
                    have e73 : Reg.val a 73 = _ := hkn 0 73 (by show _ < _; decide) (by kernel_rfl)
                    have e74 : Reg.val a 74 = _ := hkn 1 74 (by show _ < _; decide) (by kernel_rfl)
                    have e75 : Reg.val a 75 = _ := hkn 2 75 (by show _ < _; decide) (by kernel_rfl)
                    have e76 : Reg.val a 76 = _ := hkn 3 76 (by show _ < _; decide) (by kernel_rfl)
                    have e77 : Reg.val a 77 = _ := hkn 4 77 (by show _ < _; decide) (by kernel_rfl)
                    have e78 : Reg.val a 78 = _ := hkn 5 78 (by show _ < _; decide) (by kernel_rfl)
                    have e79 : Reg.val a 79 = _ := hkn 6 79 (by show _ < _; decide) (by kernel_rfl)
                    have e80 : Reg.val a 80 = _ := hkn 7 80 (by show _ < _; decide) (by kernel_rfl)
                    have e81 : Reg.val a 81 = _ := hkn 8 81 (by show _ < _; decide) (by kernel_rfl)
                    have e82 : Reg.val a 82 = _ := hkn 9 82 (by show _ < _; decide) (by kernel_rfl)
                    have e83 : Reg.val a 83 = _ := hkn 10 83 (by show _ < _; decide) (by kernel_rfl)
                    have e84 : Reg.val a 84 = _ := hkn 11 84 (by show _ < _; decide) (by kernel_rfl)
                    have e85 : Reg.val a 85 = _ := hkn 12 85 (by show _ < _; decide) (by kernel_rfl)
                    have e86 : Reg.val a 86 = _ := hkn 13 86 (by show _ < _; decide) (by kernel_rfl)
                    have e87 : Reg.val a 87 = _ := hkn 14 87 (by show _ < _; decide) (by kernel_rfl)
                    have e88 : Reg.val a 88 = _ := hkn 15 88 (by show _ < _; decide) (by kernel_rfl)
                    have e89 : Reg.val a 89 = _ := hkn 16 89 (by show _ < _; decide) (by kernel_rfl)
                    have e90 : Reg.val a 90 = _ := hkn 17 90 (by show _ < _; decide) (by kernel_rfl)
                    have e91 : Reg.val a 91 = _ := hkn 18 91 (by show _ < _; decide) (by kernel_rfl)
                    have e92 : Reg.val a 92 = _ := hkn 19 92 (by show _ < _; decide) (by kernel_rfl)
                    have e93 : Reg.val a 93 = _ := hkn 20 93 (by show _ < _; decide) (by kernel_rfl)
                    have e96 : Reg.val a 96 = _ := hkn 23 96 (by show _ < _; decide) (by kernel_rfl)
                    have e97 : Reg.val a 97 = _ := hkn 24 97 (by show _ < _; decide) (by kernel_rfl)
                    have e98 : Reg.val a 98 = _ := hkn 25 98 (by show _ < _; decide) (by kernel_rfl)
                    rw [Reg.frm_fold hf [73, 74, 75, 76, 77, 78, 79, 80, 81, 82, 83, 84, 85, 86, 87, 88, 89, 90, 91, 92, 93, 94, 95, 96, 97, 98] (by kernel_rfl) (by kernel_rfl)]
                    simp only [List.foldl_cons, List.foldl_nil, Act.put, List.setIfInBounds_toArray, List.set_cons_zero, List.set_cons_succ, e73, e74, e75, e76, e77, e78, e79, e80, e81, e82, e83, e84, e85, e86, e87, e88, e89, e90, e91, e92, e93, e96, e97, e98]
                    generalize Reg.val a 94 = v94_ at *
                    generalize Reg.val a 95 = v95_ at *
                    clear hkn hf e73 e74 e75 e76 e77 e78 e79 e80 e81 e82 e83 e84 e85 e86 e87 e88 e89 e90 e91 e92 e93 e96 e97 e98
                    obtain ⟨NA, nc, hP⟩ := hj
                    have HPK := Lib.hid hP
                    have ks := HSZ.out w_ hP.s
                    clear hP
                    go_wp2_with fail
                    go_roundg (mm - (ki + 1))
                    case measure => exact step_lt HKD.out HKI.out
                    case rel => exact ⟨ki + 1, bb + sz, rn, _, _, step_eq HKI.out, by go_num, by go_num, HPK.out, by have := HRN.out; omega, by have := HRN.out; have := HRC.out; have := HCN.out; have := HMS.out; omega⟩
              · have hk1 : ¬ (ki : Int) < (mm : Int) := by omega
                have hk2 : decide ((ki : Int) < (mm : Int)) = false := decide_eq_false hk1
                have HKM : Hid (ki = mm) := by show ki = mm; omega
                clear hcd hq
                go_wp2_with fail
                go_roundg (W - (wi + 1))
                case measure => exact step_lt HWD.out HWI.out
                case rel => exact ⟨wi + 1, bb, cnt, _, _, step_eq HWI.out, by go_num, rfl, hE.out.1, by have := hE.out.2; have := HKM.out; have := HMS.out; omega, hE.out.2.2⟩
          · have hw1 : ¬ (wi : Int) < (W : Int) := by omega
            have hw2 : decide ((wi : Int) < (W : Int)) = false := decide_eq_false hw1
            have HKM : Hid (wi = W) := by show wi = W; omega
            clear hcd hq
            go_wp2_with fail
            go_roundg (3 - (ci + 1))
            case measure => exact step_lt HCD.out HCI.out
            case rel => exact ⟨ci + 1, bb, cnt, _, _, step_eq HCI.out, by go_num, rfl, hE.out.1, by have := hE.out.2; have := HKM.out; have := HWW.out; omega, hE.out.2.2⟩
      · have hq1 : ¬ (ci : Int) < 3 := by omega
        have hq2 : decide ((ci : Int) < 3) = false := decide_eq_false hq1
        go_wp2_with fail
        go_ret2
        exact ⟨_, rfl, hE.out.1.below⟩
end Go.Proofs.YtponjobacdimeaaGreat.Core
