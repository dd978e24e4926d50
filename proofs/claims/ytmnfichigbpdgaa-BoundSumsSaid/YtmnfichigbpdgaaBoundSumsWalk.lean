/- The walk of haymowlaw21.BoundSums: it returns true and turns nothing that was there, for every argument that can be read. -/
import Derived.Test.YtmnfichigbpdgaaBoundSumsPure
import Derived.Test.YtmnfichigbpdgaaA
import Derived.Deep.RegionHeld3
import Derived.Deep.DeepCutAuto
namespace Go.Proofs.Ytmnfichigbpdgaa.RBoundSums
open Go.RowKit Go.Proofs.YtmnfichigbpdgaaW.PrintWords Go.Proofs.Ytmnfichigbpdgaa.PBoundSums Go.Proofs.Ytmnfichigbpdgaa.KBoundSums

set_option maxHeartbeats 1000000 in
theorem walk_long (w : World) (A0 : Option Addr) (n c0 : Nat) (v : Value) (v2 : Array Value) (h : 100 < n) (hn : n ≤ 9223372036854775807) :
    Calls Try.prog 3 #[.slice A0 n c0, v, .agg v2] w fun e w' => e = .returned (.bool true) ∧ Below w.heap.size w w' := by
  go_enter Try.func3, Try.ntmps3
  go_wp2
  go_ret
  exact ⟨rfl, (Below.refl _ _).alloc (Nat.le_refl _) _⟩

set_option maxHeartbeats 1000000 in
theorem walk_wrong (w : World) (A0 : Option Addr) (c0 : Nat) (l : List S33) (hr : Kd.C k33 w A0 l.length l) (hc : l.length ≤ c0) (v : Value) (v2 : Array Value) (h : l.length ≤ 100) (hf : haymowref21_Right.f (l.length + 1) l = some false) :
    Calls Try.prog 3 #[.slice A0 l.length c0, v, .agg v2] w fun e w' => e = .returned (.bool true) ∧ Below w.heap.size w w' := by
  have H := Lib.hid hr
  have HF := Lib.hid hf
  clear hr hf
  go_enter Try.func3, Try.ntmps3
  go_wp2_with fail
  refine (haymowref21_Right.calls _ A0 c0 l false _ (Kd.C_below H.out ((Below.refl _ _).alloc (Nat.le_refl _) _)) hc HF.out).mono ?_
  rintro e w1 ⟨rfl, hb1⟩
  have HB := Lib.hid hb1
  have hz := hb1.size
  clear hb1
  go_wp2_with fail
  refine (haymowlaw21_awake.calls true _ awake_f).mono ?_
  rintro e w2 ⟨rfl, hb2⟩
  have HB2 := Lib.hid hb2
  clear hb2
  go_wp2
  go_ret
  exact ⟨rfl, (((Below.refl _ _).alloc (Nat.le_refl _) _).trans (HB.out.mono (by simp))).trans (HB2.out.mono (by simp at hz; omega))⟩

/-- The cells that the last statement reads, and that nothing that was there has turned. -/
abbrev St (w5 : World) (b c d : Nat) (q0 q1 q2 m0 m1 m2 r1 r2 r3 r4 : Int) (w' : World) : Prop :=
  Below w5.heap.size w5 w' ∧ w'.cell? ⟨b, 0, none⟩ = some (.int .i64 q0) ∧ w'.cell? ⟨b, 1, none⟩ = some (.int .i64 q1) ∧ w'.cell? ⟨b, 2, none⟩ = some (.int .i64 q2)
            ∧ w'.cell? ⟨b, 3, none⟩ = some (.int .i64 m0) ∧ w'.cell? ⟨b, 4, none⟩ = some (.int .i64 m1) ∧ w'.cell? ⟨b, 5, none⟩ = some (.int .i64 m2)
            ∧ w'.cell? ⟨c, 0, none⟩ = some (.int .i64 r1) ∧ w'.cell? ⟨c, 1, none⟩ = some (.int .i64 r2) ∧ w'.cell? ⟨c, 2, none⟩ = some (.int .i64 r3) ∧ w'.cell? ⟨c, 3, none⟩ = some (.int .i64 r4)
            ∧ w'.cell? ⟨d, 0, none⟩ = some (.int .i64 r1) ∧ w'.cell? ⟨d, 1, none⟩ = some (.int .i64 r2) ∧ w'.cell? ⟨d, 2, none⟩ = some (.int .i64 r3) ∧ w'.cell? ⟨d, 3, none⟩ = some (.int .i64 r4)
theorem St.keep {w5 : World} {b c d : Nat} {q0 q1 q2 m0 m1 m2 r1 r2 r3 r4 : Int} {w w' : World} (h : St w5 b c d q0 q1 q2 m0 m1 m2 r1 r2 r3 r4 w) (hb : Below w.heap.size w w') (hB : b < w5.heap.size) (hC : c < w5.heap.size) (hD : d < w5.heap.size) :
    St w5 b c d q0 q1 q2 m0 m1 m2 r1 r2 r3 r4 w' := by
  obtain ⟨h0, h1, h2, h3, h4, h5, h6, h7, h8, h9, h10, h11, h12, h13, h14⟩ := h
  have hz := h0.size
  have k : ∀ (x o : Nat), x < w5.heap.size → w'.cell? ⟨x, o, none⟩ = w.cell? ⟨x, o, none⟩ := fun x o hx => hb.cell (p := ⟨x, o, none⟩) (by show x < _; omega)
  simp only [St, k _ _ hB, k _ _ hC, k _ _ hD]
  exact ⟨h0.trans (hb.mono hz), h1, h2, h3, h4, h5, h6, h7, h8, h9, h10, h11, h12, h13, h14⟩

set_option maxHeartbeats 4000000 in
set_option maxRecDepth 100000 in
theorem walk_main (w : World) (A0 : Option Addr) (c0 : Nat) (l : List S33) (hr : Kd.C k33 w A0 l.length l) (hc : l.length ≤ c0) (a1 : Int) (h1 : 0 ≤ a1) (h2 : a1 ≤ 255) (q0 q1 q2 m0 m1 m2 : Int) (h : l.length ≤ 100) (hf : haymowref21_Right.f (l.length + 1) l = some true) :
    Calls Try.prog 3 #[.slice A0 l.length c0, .int .u8 a1, .agg #[.int .i64 q0, .int .i64 q1, .int .i64 q2, .int .i64 m0, .int .i64 m1, .int .i64 m2]] w fun e w' => e = .returned (.bool true) ∧ Below w.heap.size w w' := by
  obtain ⟨r1, r2, r3, r4, hs1, hs2⟩ := sums_f l (by omega)
  have HO := Lib.hid (of_f l (by omega))
  generalize l.map cv = l2 at HO hs2
  have H := Lib.hid hr
  have HF := Lib.hid hf
  have HS1 := Lib.hid hs1
  have HS2 := Lib.hid hs2
  clear hr hf hs1 hs2
  go_enter Try.func3, Try.ntmps3
  go_wp2_with fail
  refine (haymowref21_Right.calls _ A0 c0 l true _ (Kd.C_below H.out ((Below.refl _ _).alloc (Nat.le_refl _) _)) hc HF.out).mono ?_
  rintro e w1 ⟨rfl, hb1⟩
  have H1 := Lib.hid (Kd.C_below (Kd.C_below H.out ((Below.refl _ _).alloc (Nat.le_refl _) _)) hb1)
  have HB1 : Hid (Below w.heap.size w w1) := ((Below.refl _ _).alloc (Nat.le_refl _) _).trans (hb1.mono (by simp))
  have hz1 : w.heap.size + 1 ≤ w1.heap.size := by have := hb1.size; simpa using this
  have HC1 : Hid (w1.heap[w.heap.size]? = some (.cells #[.int .i64 q0, .int .i64 q1, .int .i64 q2, .int .i64 m0, .int .i64 m1, .int .i64 m2] 25 (0, 0))) := by
    have := hb1.block w.heap.size (by simp); rw [this]; exact heap_alloc_new w _
  clear hb1
  go_wp2_with fail
  refine (haymowlaw21_of.calls _ A0 c0 l _ w1 H1.out hc HO.out).mono ?_
  rintro e w2 ⟨v, rfl, hv, hb2⟩
  obtain ⟨A2, c2, rfl, hc2, hr2⟩ := Kd.R_reads hv
  have HR2 := Lib.hid hr2
  have H2 := Lib.hid (Kd.C_below H1.out hb2)
  have HB2 := Lib.hid hb2
  have hz2 := hb2.size
  clear hb2 hv hr2
  go_wp2_with fail
  refine (bound_Sum.calls _ A2 c2 _ _ _ _ _ w2 HR2.out hc2 HS2.out).mono ?_
  rintro e w3 ⟨rfl, hb3⟩
  have H3 := Lib.hid (Kd.C_below (Kd.C_below H2.out hb3) ((Below.refl _ _).alloc (Nat.le_refl _) (.cells #[.int .i64 r1, .int .i64 r2, .int .i64 r3, .int .i64 r4] 29)))
  have HB3 := Lib.hid hb3
  have hz3 := hb3.size
  clear hb3 HR2 hc2
  go_wp2_with fail
  refine (haymowref21_Sum.calls _ A0 c0 l _ _ _ _ _ H3.out hc HS1.out).mono ?_
  rintro e w4 ⟨rfl, hb4⟩
  have H4 := Lib.hid (Kd.C_below H3.out hb4)
  have HB4 := Lib.hid hb4
  have hz4 : w3.heap.size + 1 ≤ w4.heap.size := by have := hb4.size; simpa using this
  have HC4 : Hid (w4.heap[w3.heap.size]? = some (.cells #[.int .i64 r1, .int .i64 r2, .int .i64 r3, .int .i64 r4] 29 (0, 0))) := by
    have := hb4.block w3.heap.size (by simp); rw [this]; exact heap_alloc_new w3 _
  clear hb4
  have hB4 : Below w.heap.size w w4 := (((HB1.out.trans (HB2.out.mono (by omega))).trans (HB3.out.mono (by omega))).trans ((Below.refl w3.heap.size w3).alloc (Nat.le_refl _) (.cells #[.int .i64 r1, .int .i64 r2, .int .i64 r3, .int .i64 r4] 29) |>.mono (by omega))).trans (HB4.out.mono (by simp; omega))
  have HB := Lib.hid hB4
  have hcc : w4.heap[w.heap.size]? = some (.cells #[.int .i64 q0, .int .i64 q1, .int .i64 q2, .int .i64 m0, .int .i64 m1, .int .i64 m2] 25 (0, 0)) := by
    rw [HB4.out.block w.heap.size (by simp; omega), Below.heap_alloc _ _ _ (by omega), HB3.out.block _ (by omega), HB2.out.block _ (by omega)]; exact HC1.out
  clear hB4
  have hcell : ∀ j v, (#[Value.int .i64 q0, .int .i64 q1, .int .i64 q2, .int .i64 m0, .int .i64 m1, .int .i64 m2] : Array Value)[j]? = some v → (w4.alloc (.cells #[.int .i64 r1, .int .i64 r2, .int .i64 r3, .int .i64 r4] 33)).cell? ⟨w.heap.size, j, none⟩ = some v := by
    intro j v hv
    rw [World.cell?_alloc_past _ _ _ (by omega)]
    simp only [World.cell?, hcc]
    exact hv
  have c0' := hcell 0 _ rfl; have c1' := hcell 1 _ rfl; have c2' := hcell 2 _ rfl; have c3' := hcell 3 _ rfl; have c4' := hcell 4 _ rfl; have c5' := hcell 5 _ rfl
  clear hcc hcell
  have hcell : ∀ j v, (#[Value.int .i64 r1, .int .i64 r2, .int .i64 r3, .int .i64 r4] : Array Value)[j]? = some v → (w4.alloc (.cells #[.int .i64 r1, .int .i64 r2, .int .i64 r3, .int .i64 r4] 33)).cell? ⟨w3.heap.size, j, none⟩ = some v := by
    intro j v hv
    rw [World.cell?_alloc_past _ _ _ (by omega)]
    simp only [World.cell?, HC4.out]
    exact hv
  have d0' := hcell 0 _ rfl; have d1' := hcell 1 _ rfl; have d2' := hcell 2 _ rfl; have d3' := hcell 3 _ rfl
  clear hcell
  have H5 := Lib.hid (Kd.C_below H4.out ((Below.refl _ _).alloc (Nat.le_refl _) (.cells #[.int .i64 r1, .int .i64 r2, .int .i64 r3, .int .i64 r4] 33)))
  have HBB : Hid (Below w.heap.size w (w4.alloc (.cells #[.int .i64 r1, .int .i64 r2, .int .i64 r3, .int .i64 r4] 33))) := HB.out.alloc (by omega) _
  have hz5 : w.heap.size < (w4.alloc (.cells #[.int .i64 r1, .int .i64 r2, .int .i64 r3, .int .i64 r4] 33)).heap.size := by simp; omega
  have hz6 : w3.heap.size < (w4.alloc (.cells #[.int .i64 r1, .int .i64 r2, .int .i64 r3, .int .i64 r4] 33)).heap.size := by simp; omega
  have hz7 : w4.heap.size < (w4.alloc (.cells #[.int .i64 r1, .int .i64 r2, .int .i64 r3, .int .i64 r4] 33)).heap.size := by simp
  have e0' : (w4.alloc (.cells #[.int .i64 r1, .int .i64 r2, .int .i64 r3, .int .i64 r4] 33)).cell? ⟨w4.heap.size, 0, none⟩ = some (.int .i64 r1) := by rw [World.cell?_alloc_new]; rfl
  have e1' : (w4.alloc (.cells #[.int .i64 r1, .int .i64 r2, .int .i64 r3, .int .i64 r4] 33)).cell? ⟨w4.heap.size, 1, none⟩ = some (.int .i64 r2) := by rw [World.cell?_alloc_new]; rfl
  have e2' : (w4.alloc (.cells #[.int .i64 r1, .int .i64 r2, .int .i64 r3, .int .i64 r4] 33)).cell? ⟨w4.heap.size, 2, none⟩ = some (.int .i64 r3) := by rw [World.cell?_alloc_new]; rfl
  have e3' : (w4.alloc (.cells #[.int .i64 r1, .int .i64 r2, .int .i64 r3, .int .i64 r4] 33)).cell? ⟨w4.heap.size, 3, none⟩ = some (.int .i64 r4) := by rw [World.cell?_alloc_new]; rfl
  have HA := Lib.hid awake_f
  clear H1 H2 H3 H4 HF HS1 HB1 HB2 HB3 HB4 HC1 HC4
  obtain ⟨res, hres⟩ : ∃ res, decide (r1 ≤ m0 ∧ r2 ≤ m1 ∧ r3 ≤ m2) = res := ⟨_, rfl⟩
  have HRES := Lib.hid hres
  clear hres
  go_upto_region 6 with (fail)
  go_cut [10] (fun t W => t = .bool res ∧ W = w4.alloc (.cells #[.int .i64 r1, .int .i64 r2, .int .i64 r3, .int .i64 r4] 33))
  case first =>
    clear c0' c1' c2' d0' d1' d2' d3' e3' H5 HBB HO H HS2
    by_cases g1 : r1 ≤ m0 <;> by_cases g2 : r2 ≤ m1 <;> by_cases g3 : r3 ≤ m2
    all_goals
      go_wp2_with fail
      go_meet
      exact ⟨by rw [← HRES.out]; simp [g1, g2, g3], rfl⟩
  case rest =>
    obtain ⟨rfl, rfl⟩ := hcut
    generalize w4.alloc (.cells #[.int .i64 r1, .int .i64 r2, .int .i64 r3, .int .i64 r4] 33) = w5 at *
    go_wp2_with fail
    go_region_held3 (fun w' => St w5 w.heap.size w3.heap.size w4.heap.size q0 q1 q2 m0 m1 m2 r1 r2 r3 r4 w')
      (first | exact ⟨(Below.refl _ _).drew, c0', c1', c2', c3', c4', c5', d0', d1', d2', d3', e0', e1', e2', e3'⟩ | exact St.keep ‹_› hb hz5 hz6 hz7)
      (first
        | (go_at_call 10; refine (bound_Rounds.calls _ _ _ _ _ _ _ rfl).mono ?_; rintro e w' ⟨rfl, hb⟩)
        | (go_at_call 11; refine (haymowref16_Rounds.calls _ _ _ _ _ rfl).mono ?_; rintro e w' ⟨rfl, hd⟩; have hb := hd.below)
        | (go_at_call 8; refine (haymowlaw21_of.calls _ A0 c0 l _ _ (Kd.C_below H5.out (And.left (show St w5 w.heap.size w3.heap.size w4.heap.size q0 q1 q2 m0 m1 m2 r1 r2 r3 r4 _ from ‹_›))) hc HO.out).mono ?_; rintro e w' ⟨v, rfl, hv, hb⟩; obtain ⟨A3, c3, rfl, hc3, hr3⟩ := Kd.R_reads hv)
        | (go_at_call 12; refine (enough_any _ _ _ _ _ _ _ _ _ _ _ _ _ _ _ _ HRES.out hr3 hc3 HS2.out).mono ?_; rintro e w' ⟨rfl, hb⟩)
        | (go_at_call 6; refine (haymowlaw21_awake.calls true _ HA.out).mono ?_; rintro e w' ⟨rfl, hb⟩))
    go_wp2
    go_ret
    exact ⟨rfl, HBB.out.trans ((And.left (show St w5 w.heap.size w3.heap.size w4.heap.size q0 q1 q2 m0 m1 m2 r1 r2 r3 r4 _ from ‹_›)).mono (by omega))⟩

theorem walk (w : World) (A0 : Option Addr) (c0 : Nat) (l0 : List (S33)) (hr0 : Kd.C k33 w A0 l0.length l0) (hc0 : l0.length ≤ c0) (w0 : (∀ e ∈ l0, w33 e)) (a1 : Int) (w1 : (Lit.int .u8 a1).wf = true) (v2 : Array Value) (x2 : S25) (hk2 : k25.K w x2 v2.toList) (w2 : w25 x2) :
    Calls Try.prog 3 #[.slice A0 l0.length c0, .int .u8 a1, .agg v2] w fun e w' => e = .returned (.bool true) ∧ Below w.heap.size w w' := by
  by_cases h : 100 < l0.length
  · exact walk_long w A0 l0.length c0 _ v2 h hr0.2.1
  · obtain ⟨b, hb⟩ := right_some l0 (by omega) l0.length (l0.length + 1) 0 (by omega) (by omega) (by omega) (by omega)
    have hf : haymowref21_Right.f (l0.length + 1) l0 = some b := by unfold haymowref21_Right.f; rw [if_neg (by omega), hb]
    cases b with
    | false => exact walk_wrong w A0 c0 l0 hr0 hc0 _ v2 (by omega) hf
    | true =>
      obtain ⟨_, _, e0, rfl, _, _, rfl, rfl, _, _, rfl, rfl, _, _, rfl, rfl, _, _, rfl, rfl, rfl⟩ := hk2
      obtain rfl : v2 = #[.int .i64 x2.f0, .int .i64 x2.f1, .int .i64 x2.f2, .int .i64 x2.f3.1, .int .i64 x2.f3.2.1, .int .i64 x2.f3.2.2] := by
        apply Array.ext'
        simpa using e0
      have hb : 0 ≤ a1 ∧ a1 ≤ 255 := by
        simp [Lit.wf, IntKind.min, IntKind.max, IntKind.bits, IntKind.signed] at w1
        omega
      exact walk_main w A0 c0 l0 hr0 hc0 a1 hb.1 hb.2 _ _ _ _ _ _ (by omega) hf
end Go.Proofs.Ytmnfichigbpdgaa.RBoundSums
