/- valid.Check. -/
import Derived.Test.YtbiajfkencamiaaGreatDoorV5
/-! V6 -/
namespace Go.Proofs.YtbiajfkencamiaaGreatDoor.Core
open Go.RowKit Go.Shelf Go.Proofs.YtbiajfkencamiaaGreatDoorW.PrintWords Go.Proofs.YtbiajfkencamiaaGreatDoorW.PrintMore Go.Proofs.YtbiajfkencamiaaGreatDoor.P1 Go.Proofs.YtbiajfkencamiaaGreatDoor
open Go.Proofs.YtbiajfkencamiaaGreatDoor.PK (S121 k121 z121 S124 k124 z124 at_T124 at_T121 rd_T124 rd_T121)
set_option linter.unusedVariables false
set_option linter.unusedSimpArgs false
def arOf (p : List Fn) (j : Int) : Int := (p.getD j.toNat (0, [])).1
def instrOk (p : List Fn) (f : Fn) (i : Int × List Int) : Bool := instrB p.length f.2.length (arOf p) i.1 (i.2.getD 0 0) (i.2.getD 1 0) (i.2.getD 2 0) (i.2.getD 3 0)
def lastOk (f : Fn) : Bool := let o := (f.2.getD (f.2.length - 1) (0, [])).1; o == 9 || o == 16 || o == 17
def funcOk (p : List Fn) (f : Fn) : Bool := (decide (0 ≤ f.1) && decide (f.1 ≤ 4)) && (decide (1 ≤ f.2.length) && decide (f.2.length ≤ 64)) && f.2.all (instrOk p f) && lastOk f
/-- May a program run? -/
def validB (p : List Fn) : Bool := (decide (1 ≤ p.length) && decide (p.length ≤ 16)) && p.all (funcOk p)
/-- What Check answers. -/
def GivesC (w : World) (ok : Bool) (e : Ending) (w' : World) : Prop := ∃ f at' er : Int, e = .returned (.tuple #[.int .i64 f, .int .i64 at', .int .i64 er]) ∧ (ok = true ↔ er = 0) ∧ Below w.heap.size w w'
theorem res3 (w : World) (m : Nat) (y0 y1 y2 : Int) (h0 : w.heap[m]? = some (.cells #[.int .i64 y0] 3 (0, 0))) (h1 : w.heap[m + 1]? = some (.cells #[.int .i64 y1] 3 (0, 0))) (h2 : w.heap[m + 2]? = some (.cells #[.int .i64 y2] 29 (0, 0))) (tmps : Array Value)
    (t2 : tmps.getD 2 undef = .pointer (some ⟨m, 0, none⟩)) (t3 : tmps.getD 3 undef = .pointer (some ⟨m + 1, 0, none⟩)) (t4 : tmps.getD 4 undef = .pointer (some ⟨m + 2, 0, none⟩)) :
    (results Tryz.f77 tmps).run Tryz.prog w = .ok (.tuple #[.int .i64 y0, .int .i64 y1, .int .i64 y2]) w :=
  results_111 (by rfl) tmps w ⟨m, 0, none⟩ ⟨m + 1, 0, none⟩ ⟨m + 2, 0, none⟩ _ _ _ t2 t3 t4 (load3 _ _ _ h0) (load3 _ _ _ h1) (load29 _ _ _ h2)
/-- The three results' blocks while Check goes on. -/
structure CZ (w W : World) : Prop where
  below : Below w.heap.size w W
  b0 : W.heap[w.heap.size]? = some (.cells #[.int .i64 0] 3 (0, 0))
  b1 : W.heap[w.heap.size + 1]? = some (.cells #[.int .i64 0] 3 (0, 0))
  b2 : W.heap[w.heap.size + 2]? = some (.cells #[.int .i64 0] 29 (0, 0))
theorem CZ.drawn {w W W' : World} (h : CZ w W) (hb : Below W.heap.size W W') : CZ w W' := ⟨h.below.trans (hb.mono h.below.size), blk_below h.b0 hb, blk_below h.b1 hb, blk_below h.b2 hb⟩
theorem vfail (w W : World) (tmps : Array Value) (fx ax ex : Int) (he : ex ≠ 0) (hz : CZ w W) (t2 : tmps.getD 2 undef = .pointer (some ⟨w.heap.size, 0, none⟩)) (t3 : tmps.getD 3 undef = .pointer (some ⟨w.heap.size + 1, 0, none⟩)) (t4 : tmps.getD 4 undef = .pointer (some ⟨w.heap.size + 2, 0, none⟩)) :
    bodyPostD Tryz.prog Tryz.f77 (GivesC w false) (Exit.panic (wrongV fx ax ex)) { tmps := tmps, defers := [{ target := Target.fn (Go.Fn.func 113) #[.pointer (some ⟨w.heap.size, 0, none⟩), .pointer (some ⟨w.heap.size + 1, 0, none⟩), .pointer (some ⟨w.heap.size + 2, 0, none⟩)], args := #[] }] } W := by
  refine leaves_cons (f := 113) (args := #[.pointer (some ⟨w.heap.size, 0, none⟩), .pointer (some ⟨w.heap.size + 1, 0, none⟩), .pointer (some ⟨w.heap.size + 2, 0, none⟩)]) (by simp) (by simp [go_sem]) ?_
  refine (vcatch_panicking w.heap.size 0 0 0 fx ax ex [] W hz.b0 hz.b1 hz.b2).mono ?_
  rintro e u' w'' ⟨rfl, rfl, hc⟩
  refine ⟨_, res3 w'' w.heap.size fx ax ex hc.b0 hc.b1 hc.b2 tmps t2 t3 t4, fx, ax, ex, rfl, ?_, hz.below.trans hc.below⟩
  constructor
  · intro h; cases h
  · intro h; exact absurd h he
theorem valid_yes {p : List Fn} (h1 : 1 ≤ p.length) (h2 : p.length ≤ 16) (h : ∀ m, m < p.length → funcOk p (p.getD m (0, [])) = true) : validB p = true := by
  have ha : p.all (funcOk p) = true := List.all_eq_true.2 fun f hf => by
    obtain ⟨m, hm, rfl⟩ := List.mem_iff_getElem.1 hf
    have := h m hm
    rwa [List.getD, List.getElem?_eq_getElem hm] at this
  unfold validB
  rw [decide_eq_true h1, decide_eq_true h2, ha]
  rfl
theorem CZ.zeroed {w W : World} (h : CZ w W) : CZ w (((W.setCell ⟨w.heap.size, 0, none⟩ (.int .i64 0)).setCell ⟨w.heap.size + 1, 0, none⟩ (.int .i64 0)).setCell ⟨w.heap.size + 2, 0, none⟩ (.int .i64 0)) :=
  ⟨((h.below.setCell (p := ⟨w.heap.size, 0, none⟩) (Nat.le_refl _) _).setCell (p := ⟨w.heap.size + 1, 0, none⟩) (by show w.heap.size ≤ w.heap.size + 1; omega) _).setCell (p := ⟨w.heap.size + 2, 0, none⟩) (by show w.heap.size ≤ w.heap.size + 2; omega) _,
    blk_far (blk_far (blk_set h.b0 0 _) (by show w.heap.size ≠ w.heap.size + 1; omega) _) (by show w.heap.size ≠ w.heap.size + 2; omega) _,
    blk_far (blk_set (blk_far h.b1 (by show w.heap.size + 1 ≠ w.heap.size; omega) _) 0 _) (by show w.heap.size + 1 ≠ w.heap.size + 2; omega) _,
    blk_set (blk_far (blk_far h.b2 (by show w.heap.size + 2 ≠ w.heap.size; omega) _) (by show w.heap.size + 2 ≠ w.heap.size + 1; omega) _) 0 _⟩
theorem valid_no {p : List Fn} {q : Nat} (hq : q < p.length) (h : funcOk p (p.getD q (0, [])) = false) : validB p = false := by
  have e : p.getD q (0, []) = p[q] := by rw [List.getD, List.getElem?_eq_getElem hq]; rfl
  rw [e] at h
  have ha : p.all (funcOk p) = false := List.all_eq_false.2 ⟨p[q], List.getElem_mem hq, by rw [h]; simp⟩
  unfold validB
  rw [ha]
  simp
theorem CZ.set {w W : World} (h : CZ w W) {b : Nat} (hb : w.heap.size + 2 < b) (j : Nat) (v : Value) : CZ w (W.setCell ⟨b, j, none⟩ v) :=
  ⟨h.below.setCell (p := ⟨b, j, none⟩) (by show w.heap.size ≤ b; omega) _, blk_far h.b0 (by show w.heap.size ≠ b; omega) _, blk_far h.b1 (by show w.heap.size + 1 ≠ b; omega) _, blk_far h.b2 (by show w.heap.size + 2 ≠ b; omega) _⟩
theorem rd49 (p : List Fn) (q : Nat) (hq : q < p.length) : rd_T124 (p.map toP) q = toP (p.getD q (0, [])) := by
  unfold rd_T124
  rw [Int.toNat_natCast, List.getD, List.getElem?_map, List.getD, List.getElem?_eq_getElem hq]
  rfl
theorem rd56 (l : List (Int × List Int)) (r : Nat) (hr : r < l.length) : rd_T121 (l.map toI) r = toI (l.getD r (0, [])) := by
  unfold rd_T121
  rw [Int.toNat_natCast, List.getD, List.getElem?_map, List.getD, List.getElem?_eq_getElem hr]
  rfl
theorem vinstr_at (p : List Fn) (A : Option Addr) (c : Nat) (w : World) (hC : Kd.C k124 w A p.length (p.map toP)) (q : Nat) (at' : Int) (hq : q < p.length) (f : Fn) (hf : p.getD q (0, []) = f) (i : Int × List Int) (W : World) (hb : Below w.heap.size w W) :
    Calls Tryz.prog 115 #[.agg #[.slice A p.length c, .int .i64 q, .int .i64 at'], .agg #[.int .i64 i.1, .int .i64 (i.2.getD 0 0), .int .i64 (i.2.getD 1 0), .int .i64 (i.2.getD 2 0), .int .i64 (i.2.getD 3 0)]] W (GivesV W (instrOk p f i)) := by
  have hC' := Kd.C_below hC hb
  refine vinstr_any A p.length c f.2.length q at' i.1 _ _ _ _ (arOf p) W hq ?_ ?_
  · obtain ⟨ad, A1, c1, hA, f0, f1, hl, hC1⟩ := at_T124 hC' q (by omega) (by omega)
    rw [rd49 p q hq, hf, Int.toNat_natCast] at f1
    rw [show (toP f).f1.length = f.2.length by simp [toP]] at f1
    exact ⟨ad, A1, c1, hA, f1⟩
  · intro j hj
    obtain ⟨ad, A1, c1, hA, f0, f1, hl, hC1⟩ := at_T124 hC' j (by omega) (by omega)
    rw [rd49 p j hj, Int.toNat_natCast] at f0
    exact ⟨ad, hA, f0⟩
theorem func_no {p : List Fn} {f : Fn} {r : Nat} (hr : r < f.2.length) (h : instrOk p f (f.2.getD r (0, [])) = false) : funcOk p f = false := by
  have e : f.2.getD r (0, []) = f.2[r] := by rw [List.getD, List.getElem?_eq_getElem hr]; rfl
  rw [e] at h
  have ha : f.2.all (instrOk p f) = false := List.all_eq_false.2 ⟨f.2[r], List.getElem_mem hr, by rw [h]; simp⟩
  unfold funcOk
  rw [ha]
  simp
theorem func_yes {p : List Fn} {f : Fn} (h0 : 0 ≤ f.1 ∧ f.1 ≤ 4) (h1 : 1 ≤ f.2.length ∧ f.2.length ≤ 64) (h : ∀ m, m < f.2.length → instrOk p f (f.2.getD m (0, [])) = true) : funcOk p f = lastOk f := by
  have ha : f.2.all (instrOk p f) = true := List.all_eq_true.2 fun i hi => by
    obtain ⟨m, hm, rfl⟩ := List.mem_iff_getElem.1 hi
    have := h m hm
    rwa [List.getD, List.getElem?_eq_getElem hm] at this
  unfold funcOk
  rw [decide_eq_true h0.1, decide_eq_true h0.2, decide_eq_true h1.1, decide_eq_true h1.2, ha]
  rfl
set_option maxRecDepth 100000 in
set_option maxHeartbeats 8000000 in
theorem vcheck_any (p : List Fn) (A : Option Addr) (c : Nat) (w : World) (hC : Kd.C k124 w A p.length (p.map toP)) :
    Calls Tryz.prog 77 #[.slice A p.length c] w (GivesC w (validB p)) := by
  have hmf : ∀ (fn : Go.Fn) (first cap : Array Value) (w : World), (Instr.makeFunc fn first cap).run Tryz.prog w = .ok (.func fn first cap) w := fun _ _ _ _ => rfl
  have HVA : Hid (∀ (q : Nat) (at' : Int), q < p.length → ∀ f, p.getD q (0, []) = f → ∀ (i : Int × List Int) (W : World), Below w.heap.size w W → Calls Tryz.prog 115 #[.agg #[.slice A p.length c, .int .i64 q, .int .i64 at'], .agg #[.int .i64 i.1, .int .i64 (i.2.getD 0 0), .int .i64 (i.2.getD 1 0), .int .i64 (i.2.getD 2 0), .int .i64 (i.2.getD 3 0)]] W (GivesV W (instrOk p f i))) := fun q at' hq f hf i W hb => vinstr_at p A c w hC q at' hq f hf i W hb
  obtain ⟨n, hn⟩ : ∃ n, n = p.length := ⟨_, rfl⟩
  obtain ⟨B, hB⟩ : ∃ B, B = validB p := ⟨_, rfl⟩
  rw [← hB]
  rw [← hn] at hC HVA ⊢
  have HN := Lib.hid hn
  have HB := Lib.hid hB
  have HC := Lib.hid hC
  have HZ0 : Hid (CZ w (((w.alloc (.cells #[.int .i64 0] 3)).alloc (.cells #[.int .i64 0] 3)).alloc (.cells #[.int .i64 0] 29))) := by
    have h0 := heap_alloc_new w (.cells #[.int .i64 0] 3)
    have h1 := heap_alloc_new (w.alloc (.cells #[.int .i64 0] 3)) (.cells #[.int .i64 0] 3)
    have h2 := heap_alloc_new ((w.alloc (.cells #[.int .i64 0] 3)).alloc (.cells #[.int .i64 0] 3)) (.cells #[.int .i64 0] 29)
    simp only [World.size_alloc] at h1 h2
    exact ⟨(((Below.refl _ _).alloc (Nat.le_refl _) _).alloc (by simp) _).alloc (by simp; omega) _,
      (Below.heap_alloc _ _ _ (by simp; omega)).trans ((Below.heap_alloc _ _ _ (by simp)).trans h0), (Below.heap_alloc _ _ _ (by simp)).trans h1, h2⟩
  clear hn hB hC
  by_cases hn1 : n ≤ 16 ∧ 1 ≤ n
  · obtain ⟨ha, hb⟩ := hn1
    have g1 : decide ((n : Int) ≥ 1) = true := decide_eq_true (by omega)
    have g1n : (n : Int) ≥ 1 := by omega
    have g2 : decide ((n : Int) ≤ 16) = true := decide_eq_true (by omega)
    go_enter_defers Tryz.func77, Tryz.ntmps77
    go_wp2_with fail
    refine (vneed_any none 0 0 0 0 true 3 (by decide) _).mono ?_
    rintro e w1 ⟨he, hb1⟩
    obtain rfl : e = .returned (.tuple #[]) := he
    have HZ1 := Lib.hid (HZ0.out.drawn hb1)
    clear hb1
    go_wp2_with fail
    go_loopg [24] n (fun d i W => ∃ q : Nat, q + d = n ∧ i = .int .i64 q ∧ Hid (CZ w W) ∧ Hid (∀ m, m < q → funcOk p (p.getD m (0, [])) = true))
    case atStart => exact ⟨0, by omega, rfl, HZ1.out, fun m hm => absurd hm (by omega)⟩
    case round =>
      obtain ⟨q, hqd, rfl, hZ, hok⟩ := hrel
      by_cases hq : q < n
      · have hq1 : (q : Int) < (n : Int) := by omega
        have hq2 : decide ((q : Int) < (n : Int)) = true := decide_eq_true hq1
        have hq0 : (0 : Int) ≤ (q : Int) := by omega
        have hqw : wrap64 ((q : Int) + 1) = ((q + 1 : Nat) : Int) := by unfold wrap64; omega
        have HQD := Lib.hid hqd
        have HQ := Lib.hid hq
        obtain ⟨ad, A1, c1, hA, f0, f1, hl, hC1⟩ := at_T124 HC.out q hq0 hq1
        subst hA
        have hrd : rd_T124 (p.map toP) q = toP (p.getD q (0, [])) := by
          unfold rd_T124
          have hql : q < p.length := by have := HN.out; omega
          rw [Int.toNat_natCast, List.getD, List.getElem?_map, List.getD, List.getElem?_eq_getElem hql]
          rfl
        rw [hrd] at f0 f1 hl hC1
        obtain ⟨f, hf⟩ : ∃ f, p.getD q (0, []) = f := ⟨_, rfl⟩
        rw [hf] at f0 f1 hl hC1
        rw [Int.toNat_natCast] at f0 f1
        have HFQ := Lib.hid hf
        change w.cell? (ad.add (q * 2)) = some (.int .i64 f.1) at f0
        rw [show (toP f).f1.length = f.2.length by simp [toP]] at f1 hl hC1
        have HCW : Hid (Kd.C k121 w A1 f.2.length (f.2.map toI)) := hC1
        have HTW := Lib.hid f1
        replace f0 := (hZ.out.below.cell (World.block_lt_of_cell? w _ f0)).trans f0
        replace f1 := (hZ.out.below.cell (World.block_lt_of_cell? w _ f1)).trans f1
        replace hC1 := Kd.C_below hC1 hZ.out.below
        have HC1 := Lib.hid hC1
        have HNO : Hid (funcOk p f = false → B = false) := fun h => by
          rw [HB.out]
          exact valid_no (q := q) (by have := HN.out; omega) (by rw [hf]; exact h)
        have HDR : Hid (∀ o1 o2 : Obj, CZ w ((wr.alloc o1).alloc o2)) := fun o1 o2 => hZ.out.drawn (((Below.refl _ _).alloc (Nat.le_refl _) _).alloc (by simp) _)
        clear hrd hf hC1 hqd
        by_cases ha : 0 ≤ f.1 ∧ f.1 ≤ 4
        · obtain ⟨ha0, ha1⟩ := ha
          have a1 : decide (f.1 ≥ 0) = true := decide_eq_true ha0
          have a2 : decide (f.1 ≤ 4) = true := decide_eq_true ha1
          have HAA : Hid (0 ≤ f.1 ∧ f.1 ≤ 4) := ⟨ha0, ha1⟩
          have HG0 : Hid (w.heap.size + 2 < wr.heap.size) := blk_lt hZ.out.b2
          have hF0 := heap_alloc_new wr (.cells #[.int .i64 f.1, .slice A1 f.2.length c1] 124)
          have hL0 := heap_alloc_new (wr.alloc (.cells #[.int .i64 f.1, .slice A1 f.2.length c1] 124)) (.cells #[.slice (some ad) n c, .int .i64 q, .int .i64 0] 210)
          have hF1 := (Below.heap_alloc (wr.alloc (.cells #[.int .i64 f.1, .slice A1 f.2.length c1] 124)) (.cells #[.slice (some ad) n c, .int .i64 q, .int .i64 0] 210) _ (by simp)).trans hF0
          rw [World.size_alloc] at hL0
          have HF1 := Lib.hid hF1
          have HL1 := Lib.hid hL0
          have hbw : Below wr.heap.size wr ((wr.alloc (.cells #[.int .i64 f.1, .slice A1 f.2.length c1] 124)).alloc (.cells #[.slice (some ad) n c, .int .i64 q, .int .i64 0] 210)) := ((Below.refl _ _).alloc (Nat.le_refl _) _).alloc (by simp) _
          have HBW := Lib.hid hbw
          clear ha0 ha1 hF0 hF1 hL0 hbw
          go_wp2_with fail
          refine (vneed_any (some ad) n c q 0 true 6 (by decide) _).mono ?_
          rintro e w1 ⟨he, hb1⟩
          obtain rfl : e = .returned (.tuple #[]) := he
          have HZ2 : Hid (CZ w w1) := (HDR.out _ _).drawn hb1
          have HF2 : Hid (w1.heap[wr.heap.size]? = some (.cells #[.int .i64 f.1, .slice A1 f.2.length c1] 124 (0, 0))) := blk_below HF1.out hb1
          have HL2 : Hid (w1.heap[wr.heap.size + 1]? = some (.cells #[.slice (some ad) n c, .int .i64 q, .int .i64 0] 210 (0, 0))) := blk_below HL1.out hb1
          have HC2 : Hid (Kd.C k121 w1 A1 f.2.length (f.2.map toI)) := Kd.C_below (Kd.C_below HC1.out HBW.out) hb1
          clear hb1 HF1 HL1 HBW f0 f1
          generalize wr.heap.size = gf at *
          have k0 := (blk_cell HF2.out 0).trans rfl
          have k1 := (blk_cell HF2.out 1).trans rfl
          have l0 := (blk_cell HL2.out 0).trans rfl
          have l1 := (blk_cell HL2.out 1).trans rfl
          have l2 := (blk_cell HL2.out 2).trans rfl
          obtain ⟨cl, hcl⟩ : ∃ cl, cl = f.2.length := ⟨_, rfl⟩
          have HCL := Lib.hid hcl
          rw [← hcl] at k1 HF2 HC2 hl
          clear hcl
          by_cases hlen : 1 ≤ cl ∧ cl ≤ 64
          · obtain ⟨hl1, hl64⟩ := hlen
            have b1 : decide ((cl : Int) ≥ 1) = true := decide_eq_true (by omega)
            have b2 : decide ((cl : Int) ≤ 64) = true := decide_eq_true (by omega)
            have HLC : Hid (1 ≤ cl ∧ cl ≤ 64) := ⟨hl1, hl64⟩
            go_wp2_with fail
            refine (vneed_any (some ad) n c q 0 true 3 (by decide) _).mono ?_
            rintro e w2 ⟨he, hb1⟩
            obtain rfl : e = .returned (.tuple #[]) := he
            have HZ3 := Lib.hid (HZ2.out.drawn hb1)
            have HF3 := Lib.hid (blk_below HF2.out hb1)
            have HL3 := Lib.hid (blk_below HL2.out hb1)
            have HC3 := Lib.hid (Kd.C_below HC2.out hb1)
            clear hb1 HZ2 HF2 HL2 HC2 k0 k1 l0 l1 l2
            have k0 := (blk_cell HF3.out 0).trans rfl
            have k1 := (blk_cell HF3.out 1).trans rfl
            go_wp2_with fail
            go_loopg [57] cl (fun d i W => ∃ (r : Nat) (at' : Int), r + d = cl ∧ i = .int .i64 r ∧ Hid (CZ w W) ∧ Hid (W.heap[gf]? = some (.cells #[.int .i64 f.1, .slice A1 cl c1] 124 (0, 0))) ∧ Hid (W.heap[gf + 1]? = some (.cells #[.slice (some ad) n c, .int .i64 q, .int .i64 at'] 210 (0, 0))) ∧ Hid (∀ m, m < r → instrOk p f (f.2.getD m (0, [])) = true))
            case atStart => exact ⟨0, 0, by omega, rfl, HZ3.out, HF3.out, HL3.out, fun m hm => absurd hm (by omega)⟩
            case round =>
              obtain ⟨r, at', hrd, rfl, hZ4, hF4, hL4, hok4⟩ := hrel
              have HRD := Lib.hid hrd
              have k0 := (blk_cell hF4.out 0).trans rfl
              have k1 := (blk_cell hF4.out 1).trans rfl
              have l0 := (blk_cell hL4.out 0).trans rfl
              have l1 := (blk_cell hL4.out 1).trans rfl
              by_cases hr : r < cl
              · have hr1 : (r : Int) < (cl : Int) := by omega
                have hr2 : decide ((r : Int) < (cl : Int)) = true := decide_eq_true hr1
                have hr0 : (0 : Int) ≤ (r : Int) := by omega
                have hrw : wrap64 ((r : Int) + 1) = ((r + 1 : Nat) : Int) := by unfold wrap64; omega
                have hCC := Kd.C_below HCW.out hZ4.out.below
                rw [← HCL.out] at hCC
                obtain ⟨ad3, hA3, i0, i1, i2, i3, i4⟩ := at_T121 hCC r hr0 hr1
                subst hA3
                rw [rd56 _ r (by rw [← HCL.out]; exact hr), Int.toNat_natCast] at i0 i1 i2 i3 i4
                obtain ⟨i, hi⟩ : ∃ i, f.2.getD r (0, []) = i := ⟨_, rfl⟩
                rw [hi] at i0 i1 i2 i3 i4
                change _ = some (Value.int .i64 i.1) at i0
                change _ = some (Value.int .i64 (i.2.getD 0 0)) at i1
                change _ = some (Value.int .i64 (i.2.getD 1 0)) at i2
                change _ = some (Value.int .i64 (i.2.getD 2 0)) at i3
                change _ = some (Value.int .i64 (i.2.getD 3 0)) at i4
                have HVI : Hid (∀ (W : World), Below w.heap.size w W → Calls Tryz.prog 115 #[.agg #[.slice (some ad) n c, .int .i64 q, .int .i64 r], .agg #[.int .i64 i.1, .int .i64 (i.2.getD 0 0), .int .i64 (i.2.getD 1 0), .int .i64 (i.2.getD 2 0), .int .i64 (i.2.getD 3 0)]] W (GivesV W (instrOk p f i))) := fun W hb => HVA.out q r HQ.out f HFQ.out i W hb
                have HNI : Hid (instrOk p f i = false → B = false) := fun h => HNO.out (func_no (by rw [← HCL.out]; exact hr) (by rw [hi]; exact h))
                have HOK5 : Hid (instrOk p f i = true → ∀ m, m < r + 1 → instrOk p f (f.2.getD m (0, [])) = true) := fun h m hm => by
                  by_cases hmr : m < r
                  · exact hok4.out m hmr
                  · obtain rfl : m = r := by omega
                    rw [hi]
                    exact h
                generalize i.2.getD 0 0 = x1 at *
                generalize i.2.getD 1 0 = x2 at *
                generalize i.2.getD 2 0 = x3 at *
                generalize i.2.getD 3 0 = x4 at *
                obtain ⟨x0, hx0⟩ : ∃ x, i.1 = x := ⟨_, rfl⟩
                rw [hx0] at i0 HVI
                have hgl : gf + 1 < wr.heap.size := blk_lt hL4.out
                have hs5 : (wr.setCell ⟨gf + 1, 2, none⟩ (.int .i64 r)).heap.size = wr.heap.size := World.size_setCell _ _ _
                have hL50 := (blk_set hL4.out 2 (.int .i64 r)).trans rfl
                have hF50 := blk_far hF4.out (p := ⟨gf + 1, 2, none⟩) (show gf ≠ gf + 1 by omega) (.int .i64 r)
                have hI5 : ((wr.setCell ⟨gf + 1, 2, none⟩ (.int .i64 r)).alloc (.cells #[.int .i64 x0, .int .i64 x1, .int .i64 x2, .int .i64 x3, .int .i64 x4] 121)).heap[wr.heap.size]? = some (.cells #[.int .i64 x0, .int .i64 x1, .int .i64 x2, .int .i64 x3, .int .i64 x4] 121 (0, 0)) := by
                  have h := heap_alloc_new (wr.setCell ⟨gf + 1, 2, none⟩ (.int .i64 r)) (.cells #[.int .i64 x0, .int .i64 x1, .int .i64 x2, .int .i64 x3, .int .i64 x4] 121)
                  rwa [hs5] at h
                have hL5 : ((wr.setCell ⟨gf + 1, 2, none⟩ (.int .i64 r)).alloc (.cells #[.int .i64 x0, .int .i64 x1, .int .i64 x2, .int .i64 x3, .int .i64 x4] 121)).heap[gf + 1]? = some (.cells #[.slice (some ad) n c, .int .i64 q, .int .i64 r] 210 (0, 0)) := (Below.heap_alloc _ _ _ (by rw [hs5]; exact hgl)).trans hL50
                have hF5 : ((wr.setCell ⟨gf + 1, 2, none⟩ (.int .i64 r)).alloc (.cells #[.int .i64 x0, .int .i64 x1, .int .i64 x2, .int .i64 x3, .int .i64 x4] 121)).heap[gf]? = some (.cells #[.int .i64 f.1, .slice (some ad3) cl c1] 124 (0, 0)) := (Below.heap_alloc _ _ _ (by rw [hs5]; omega)).trans hF50
                have hZ5 : CZ w ((wr.setCell ⟨gf + 1, 2, none⟩ (.int .i64 r)).alloc (.cells #[.int .i64 x0, .int .i64 x1, .int .i64 x2, .int .i64 x3, .int .i64 x4] 121)) := (CZ.set hZ4.out (by have := HG0.out; omega) 2 (.int .i64 r)).drawn ((Below.refl _ _).alloc (Nat.le_refl _) _)
                have HI5 := Lib.hid hI5
                have HL5 := Lib.hid hL5
                have HF5 := Lib.hid hF5
                have HZ5 := Lib.hid hZ5
                have l2 := (blk_cell hL4.out 2).trans rfl
                have y2 := blk_frozen hL4.out 2
                clear hI5 hL5 hF5 hZ5 hs5 hL50 hF50 hrd hCC hi hx0 hok4
                have hgl2 : gf + 1 ≠ wr.heap.size := by omega
                go_wp2_with fail
                refine (HVI.out _ HZ5.out.below).mono ?_
                rintro e w5 ⟨he, hb5⟩
                have HZ6 := Lib.hid (HZ5.out.drawn hb5)
                have HF6 := Lib.hid (blk_below HF5.out hb5)
                have HL6 := Lib.hid (blk_below HL5.out hb5)
                obtain ⟨ok, hok6⟩ : ∃ x, instrOk p f i = x := ⟨_, rfl⟩
                rw [hok6] at he HNI HOK5
                clear hok6 hb5 HI5 HL5 HF5 HZ5 HVI
                cases ok with
                | false =>
                  obtain ⟨f', a', e', hne, rfl⟩ := he
                  rw [HNI.out rfl]
                  exact vfail w w5 _ f' a' e' hne HZ6.out rfl rfl rfl
                | true =>
                  obtain rfl : e = .returned (.tuple #[]) := he
                  have HOK6 := Lib.hid (HOK5.out rfl)
                  clear k0 k1 l0 l1 l2 y2 i0 i1 i2 i3 i4 hgl hgl2 HOK5 HNI
                  go_wp2_with fail
                  go_roundg (cl - (r + 1))
                  case measure => exact step_lt HRD.out hr
                  case rel => exact ⟨r + 1, (r : Int), step_eq hr, by go_num, HZ6.out, HF6.out, HL6.out, HOK6.out⟩
              · have hr1 : ¬ (r : Int) < (cl : Int) := by omega
                have hr2 : decide ((r : Int) < (cl : Int)) = false := decide_eq_false hr1
                obtain rfl : r = cl := by omega
                have hlc := HLC.out
                have hCC := Kd.C_below HCW.out hZ4.out.below
                rw [← HCL.out] at hCC
                have hm0 : (0 : Int) ≤ (r : Int) - 1 := by omega
                have hm1 : (r : Int) - 1 < (r : Int) := by omega
                obtain ⟨ad3, hA3, i0, _, _, _, _⟩ := at_T121 hCC ((r : Int) - 1) hm0 hm1
                rw [show ((r : Int) - 1) = ((r - 1 : Nat) : Int) by omega, rd56 _ (r - 1) (by rw [← HCL.out]; omega)] at i0
                rw [show ((r - 1 : Nat) : Int) = (r : Int) - 1 by omega] at i0
                obtain ⟨o, ho⟩ : ∃ o, (f.2.getD (r - 1) (0, [])).1 = o := ⟨_, rfl⟩
                change _ = some (Value.int .i64 (f.2.getD (r - 1) (0, [])).1) at i0
                rw [ho] at i0
                have HFO : Hid (funcOk p f = (o == 9 || o == 16 || o == 17)) := by
                  show _ = _
                  rw [func_yes HAA.out (by rw [← HCL.out]; exact hlc) (fun m hm => hok4.out m (by rw [HCL.out]; exact hm))]
                  unfold lastOk
                  rw [← HCL.out, ho]
                have HOK8 : Hid (∀ m, m < q → funcOk p (p.getD m (0, [])) = true) := hok
                have hw1 : IntKind.i64.wrap ((r : Int) - 1) = (r : Int) - 1 := by rw [IntKind.wrap_i64]; omega
                have hw2 : wrap64 ((r : Int) - 1) = (r : Int) - 1 := by unfold wrap64; omega
                have i00 := i0
                rw [show ((r : Int) - 1).toNat = r - 1 by omega] at i00
                subst hA3
                clear hlc hCC ho hrd HRD hok
                have l2 := (blk_cell hL4.out 2).trans rfl
                have HOK10 : Hid (funcOk p f = true → ∀ m, m < q + 1 → funcOk p (p.getD m (0, [])) = true) := fun h m hm => by
                  by_cases hmr : m < q
                  · exact HOK8.out m hmr
                  · obtain rfl : m = q := by omega
                    rw [HFQ.out]
                    exact h
                by_cases h9 : o = 9
                · have b9 : (o == 9) = true := by rw [h9]; rfl
                  clear h9
                  have HOK9 : Hid (∀ m, m < q + 1 → funcOk p (p.getD m (0, [])) = true) := HOK10.out (by rw [HFO.out, b9]; simp)
                  go_wp2_with fail
                  refine (vneed_any (some ad) n c q at' true 11 (by decide) _).mono ?_
                  rintro e w5 ⟨he, hb5⟩
                  obtain rfl : e = .returned (.tuple #[]) := he
                  have HZ6 := Lib.hid (hZ4.out.drawn hb5)
                  clear hb5 k0 k1 l0 l1 l2 i0 i00
                  go_wp2_with fail
                  go_roundg (n - (q + 1))
                  case measure => exact step_lt HQD.out hq
                  case rel => exact ⟨q + 1, step_eq hq, by go_num, HZ6.out, HOK9.out⟩
                · have b9 : (o == 9) = false := beq_eq_false_iff_ne.2 h9
                  by_cases h16 : o = 16
                  · have b16 : (o == 16) = true := by rw [h16]; rfl
                    clear h9 h16
                    have HOK9 : Hid (∀ m, m < q + 1 → funcOk p (p.getD m (0, [])) = true) := HOK10.out (by rw [HFO.out, b9, b16]; simp)
                    go_wp2_with fail
                    refine (vneed_any (some ad) n c q at' true 11 (by decide) _).mono ?_
                    rintro e w5 ⟨he, hb5⟩
                    obtain rfl : e = .returned (.tuple #[]) := he
                    have HZ6 := Lib.hid (hZ4.out.drawn hb5)
                    clear hb5 k0 k1 l0 l1 l2 i0 i00
                    go_wp2_with fail
                    go_roundg (n - (q + 1))
                    case measure => exact step_lt HQD.out hq
                    case rel => exact ⟨q + 1, step_eq hq, by go_num, HZ6.out, HOK9.out⟩
                  · have b16 : (o == 16) = false := beq_eq_false_iff_ne.2 h16
                    by_cases h17 : o = 17
                    · have b17 : (o == 17) = true := by rw [h17]; rfl
                      clear h9 h16 h17
                      have HOK9 : Hid (∀ m, m < q + 1 → funcOk p (p.getD m (0, [])) = true) := HOK10.out (by rw [HFO.out, b9, b16, b17]; simp)
                      go_wp2_with fail
                      refine (vneed_any (some ad) n c q at' true 11 (by decide) _).mono ?_
                      rintro e w5 ⟨he, hb5⟩
                      obtain rfl : e = .returned (.tuple #[]) := he
                      have HZ6 := Lib.hid (hZ4.out.drawn hb5)
                      clear hb5 k0 k1 l0 l1 l2 i0 i00
                      go_wp2_with fail
                      go_roundg (n - (q + 1))
                      case measure => exact step_lt HQD.out hq
                      case rel => exact ⟨q + 1, step_eq hq, by go_num, HZ6.out, HOK9.out⟩
                    · have b17 : (o == 17) = false := beq_eq_false_iff_ne.2 h17
                      clear h9 h16 h17
                      go_wp2_with fail
                      refine (vneed_any (some ad) n c q at' false 11 (by decide) _).mono ?_
                      rintro e w5 ⟨he, hb5⟩
                      obtain ⟨f', a', e', hne, rfl⟩ := he
                      rw [HNO.out (by rw [HFO.out, b9, b16, b17]; rfl)]
                      exact vfail w w5 _ f' a' e' hne (hZ4.out.drawn hb5) rfl rfl rfl
          · have HBF : Hid (B = false) := HNO.out (by
              unfold funcOk
              rw [← HCL.out]
              by_cases h : 1 ≤ cl
              · rw [decide_eq_false (show ¬ cl ≤ 64 by omega)]; simp
              · rw [decide_eq_false h]; simp)
            by_cases h0 : 1 ≤ cl
            · have b1 : decide ((cl : Int) ≥ 1) = true := decide_eq_true (by omega)
              have b2 : decide ((cl : Int) ≤ 64) = false := decide_eq_false (by omega)
              go_wp2_with fail
              refine (vneed_any (some ad) n c q 0 false 3 (by decide) _).mono ?_
              rintro e w2 ⟨he, hb1⟩
              obtain ⟨f', a', e', hne, rfl⟩ := he
              rw [HBF.out]
              exact vfail w w2 _ f' a' e' hne (HZ2.out.drawn hb1) rfl rfl rfl
            · have b1 : decide ((cl : Int) ≥ 1) = false := decide_eq_false (by omega)
              go_wp2_with fail
              refine (vneed_any (some ad) n c q 0 false 3 (by decide) _).mono ?_
              rintro e w2 ⟨he, hb1⟩
              obtain ⟨f', a', e', hne, rfl⟩ := he
              rw [HBF.out]
              exact vfail w w2 _ f' a' e' hne (HZ2.out.drawn hb1) rfl rfl rfl
        · have HBF : Hid (B = false) := HNO.out (by
            unfold funcOk
            by_cases h : 0 ≤ f.1
            · rw [decide_eq_false (show ¬ f.1 ≤ 4 by omega)]; simp
            · rw [decide_eq_false h]; simp)
          by_cases h0 : 0 ≤ f.1
          · have a1 : decide (f.1 ≥ 0) = true := decide_eq_true h0
            have a2 : decide (f.1 ≤ 4) = false := decide_eq_false (by omega)
            go_wp2_with fail
            refine (vneed_any (some ad) n c q 0 false 6 (by decide) _).mono ?_
            rintro e w1 ⟨he, hb1⟩
            obtain ⟨f', a', e', hne, rfl⟩ := he
            rw [HBF.out]
            exact vfail w w1 _ f' a' e' hne ((HDR.out _ _).drawn hb1) rfl rfl rfl
          · have a1 : decide (f.1 ≥ 0) = false := decide_eq_false h0
            go_wp2_with fail
            refine (vneed_any (some ad) n c q 0 false 6 (by decide) _).mono ?_
            rintro e w1 ⟨he, hb1⟩
            obtain ⟨f', a', e', hne, rfl⟩ := he
            rw [HBF.out]
            exact vfail w w1 _ f' a' e' hne ((HDR.out _ _).drawn hb1) rfl rfl rfl
      · have hqn : q = n := by omega
        have HBT : Hid (B = true) := by
          show _ = _
          rw [HB.out]
          exact valid_yes (by rw [← HN.out]; exact hb) (by rw [← HN.out]; exact ha) (fun m hm => hok.out m (by rw [hqn, HN.out]; exact hm))
        have k0 := (blk_cell hZ.out.b0 0).trans rfl
        have k1 := (blk_cell hZ.out.b1 0).trans rfl
        have k2 := (blk_cell hZ.out.b2 0).trans rfl
        have y0 := blk_frozen hZ.out.b0 0
        have y1 := blk_frozen hZ.out.b1 0
        have y2 := blk_frozen hZ.out.b2 0
        have hq1 : ¬ (q : Int) < (n : Int) := by omega
        have hq2 : decide ((q : Int) < (n : Int)) = false := decide_eq_false hq1
        go_wp2_with fail
        refine leaves_cons (f := 113) (args := #[.pointer (some ⟨w.heap.size, 0, none⟩), .pointer (some ⟨w.heap.size + 1, 0, none⟩), .pointer (some ⟨w.heap.size + 2, 0, none⟩)]) (by simp) (by simp [go_sem]) ?_
        refine (vcatch_idle _ _ _ _).mono ?_
        rintro e u' w'' ⟨rfl, rfl, rfl⟩
        have hz := hZ.out.zeroed
        rw [HBT.out]
        refine ⟨_, res3 _ w.heap.size 0 0 0 hz.b0 hz.b1 hz.b2 _ rfl rfl rfl, 0, 0, 0, rfl, ⟨fun _ => rfl, fun _ => rfl⟩, hz.below⟩
  · have HBF : Hid (B = false) := by
      show _ = _
      rw [HB.out]
      unfold validB
      rw [← HN.out]
      by_cases h1 : 1 ≤ n
      · rw [decide_eq_false (show ¬ n ≤ 16 by omega)]; simp
      · rw [decide_eq_false h1]; simp
    by_cases h1 : 1 ≤ n
    · have g1 : decide ((n : Int) ≥ 1) = true := decide_eq_true (by omega)
      have g1n : (n : Int) ≥ 1 := by omega
      have g2 : decide ((n : Int) ≤ 16) = false := decide_eq_false (by omega)
      clear hn1
      go_enter_defers Tryz.func77, Tryz.ntmps77
      go_wp2_with fail
      refine (vneed_any none 0 0 0 0 false 3 (by decide) _).mono ?_
      rintro e w1 ⟨he, hb1⟩
      obtain ⟨f', a', e', hne, rfl⟩ := he
      rw [HBF.out]
      exact vfail w w1 _ f' a' e' hne (HZ0.out.drawn hb1) rfl rfl rfl
    · have g1 : decide ((n : Int) ≥ 1) = false := decide_eq_false (by omega)
      have g1n : ¬ (n : Int) ≥ 1 := by omega
      clear hn1
      go_enter_defers Tryz.func77, Tryz.ntmps77
      go_wp2_with fail
      refine (vneed_any none 0 0 0 0 false 3 (by decide) _).mono ?_
      rintro e w1 ⟨he, hb1⟩
      obtain ⟨f', a', e', hne, rfl⟩ := he
      rw [HBF.out]
      exact vfail w w1 _ f' a' e' hne (HZ0.out.drawn hb1) rfl rfl rfl
end Go.Proofs.YtbiajfkencamiaaGreatDoor.Core
