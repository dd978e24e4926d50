/- The walk of haymowlaw21.BoundGrows: it returns true and turns nothing that was there, for every argument that can be read. -/
import Derived.Test.YtmnfichigbpdgaaBoundGrowsPure
import Derived.Test.YtmnfichigbpdgaaBoundGrowsK
import Derived.Test.YtmnfichigbpdgaaA
import Derived.Deep.RegionHeld3
import Derived.Deep.DeepCutAuto
namespace Go.Proofs.Ytmnfichigbpdgaa.RBoundGrows
set_option linter.unusedVariables false
set_option linter.unusedSimpArgs false
open Go.RowKit Go.Proofs.YtmnfichigbpdgaaW.PrintWords Go.Proofs.Ytmnfichigbpdgaa.PBoundSums Go.Proofs.Ytmnfichigbpdgaa.KBoundGrows

set_option maxHeartbeats 1000000 in
theorem walk_long (w : World) (A0 : Option Addr) (n c0 : Nat) (v : Value) (v2 : Array Value) (h : 100 < n) (hn : n ≤ 9223372036854775807) :
    Calls Try.prog 4 #[.slice A0 n c0, v, .agg v2] w fun e w' => e = .returned (.bool true) ∧ Below w.heap.size w w' := by
  go_enter Try.func4, Try.ntmps4
  go_wp2
  go_ret
  exact ⟨rfl, (Below.refl _ _).alloc (Nat.le_refl _) _⟩

set_option maxHeartbeats 1000000 in
theorem walk_wrong (w : World) (A0 : Option Addr) (c0 : Nat) (l : List S33) (hr : Kd.C k33 w A0 l.length l) (hc : l.length ≤ c0) (v : Value) (v2 : Array Value) (h : l.length ≤ 100) (hf : haymowref21_Right.f (l.length + 1) l = some false) :
    Calls Try.prog 4 #[.slice A0 l.length c0, v, .agg v2] w fun e w' => e = .returned (.bool true) ∧ Below w.heap.size w w' := by
  have H := Lib.hid hr
  have HF := Lib.hid hf
  clear hr hf
  go_enter Try.func4, Try.ntmps4
  go_wp2_with fail
  refine (haymowref21_Right.calls _ A0 c0 l false _ (Kd.C_below H.out ((Below.refl _ _).alloc (Nat.le_refl _) _)) hc HF.out).mono ?_
  rintro e w1 ⟨rfl, hb1⟩
  have HB := Lib.hid hb1
  have hz := hb1.size
  clear hb1
  go_wp2_with fail
  refine (haymowlaw21_awake.calls true _ awake_f).mono ?_
  rintro e w2 ⟨rfl, hb2⟩
  have HB2 := Lib.hid hb2
  clear hb2
  go_wp2
  go_ret
  exact ⟨rfl, (((Below.refl _ _).alloc (Nat.le_refl _) _).trans (HB.out.mono (by simp))).trans (HB2.out.mono (by simp at hz; omega))⟩

set_option maxHeartbeats 4000000 in
set_option maxRecDepth 100000 in
theorem walk_main (w : World) (A0 : Option Addr) (c0 : Nat) (l : List S33) (hr : Kd.C k33 w A0 l.length l) (hc : l.length ≤ c0) (a1 : Int) (h1 : 0 ≤ a1) (h2 : a1 ≤ 255) (m0 m1 m2 : Int) (u0 : 0 ≤ m0 ∧ m0 ≤ 65535) (u1 : 0 ≤ m1 ∧ m1 ≤ 65535) (u2 : 0 ≤ m2 ∧ m2 ≤ 65535)
    (h : l.length ≤ 100) (hf : haymowref21_Right.f (l.length + 1) l = some true) :
    Calls Try.prog 4 #[.slice A0 l.length c0, .int .u8 a1, .agg #[.int .u16 m0, .int .u16 m1, .int .u16 m2]] w fun e w' => e = .returned (.bool true) ∧ Below w.heap.size w w' := by
  obtain ⟨n, hn⟩ : ∃ n : Nat, a1 % ((l.length : Int) + 1) = n := ⟨(a1 % ((l.length : Int) + 1)).toNat, by have := Int.emod_nonneg a1 (show ((l.length : Int) + 1) ≠ 0 by omega); omega⟩
  have hnl : n ≤ l.length := by have := Int.emod_lt_of_pos a1 (show 0 < ((l.length : Int) + 1) by omega); omega
  obtain ⟨r1, r2, r3, r4, s1, s2, s3, s4, x, y, hs1, hs2, q1, q2, q3, hx, hy, hxy⟩ := grows l n h (right_all l (by omega) _ hf)
  have HO := Lib.hid (of_f l (by omega))
  have HO2 := Lib.hid (of_f (l.take n) (by rw [List.length_take]; omega))
  generalize l.map cv = l2 at HO hs1
  generalize (l.take n).map cv = l3 at HO2 hs2
  have HT := Lib.hid (fun (W : World) (hW : Kd.C k33 W A0 l.length l) => Kd.C_take hW hnl)
  have hlt : (l.take n).length = n := by rw [List.length_take]; omega
  generalize l.take n = lt at *
  subst hlt
  have HN := Lib.hid hn
  have H := Lib.hid hr
  have HF := Lib.hid hf
  have HS1 := Lib.hid hs1
  have HS2 := Lib.hid hs2
  have HX := Lib.hid hx
  have HY := Lib.hid hy
  clear hr hf hs1 hs2 hx hy hn
  go_enter Try.func4, Try.ntmps4
  go_wp2_with fail
  refine (haymowref21_Right.calls _ A0 c0 l true _ (Kd.C_below H.out ((Below.refl _ _).alloc (Nat.le_refl _) _)) hc HF.out).mono ?_
  rintro e w1 ⟨rfl, hb1⟩
  have H1 := Lib.hid (Kd.C_below (Kd.C_below H.out ((Below.refl _ _).alloc (Nat.le_refl _) _)) hb1)
  have HB1 : Hid (Below w.heap.size w w1) := ((Below.refl _ _).alloc (Nat.le_refl _) _).trans (hb1.mono (by simp))
  have hz1 : w.heap.size + 1 ≤ w1.heap.size := by have := hb1.size; simpa using this
  have hcell : ∀ j v, (#[Value.int .u16 m0, .int .u16 m1, .int .u16 m2] : Array Value)[j]? = some v → w1.cell? ⟨w.heap.size, j, none⟩ = some v := by
    intro j v hv
    rw [hb1.cell (p := ⟨w.heap.size, j, none⟩) (by simp), World.cell?_alloc_new]
    exact hv
  have c0' := hcell 0 _ rfl; have c1' := hcell 1 _ rfl; have c2' := hcell 2 _ rfl
  clear hb1 hcell
  go_wp2_with fail
  rw [HN.out]
  have H5 := Lib.hid (Kd.C_below H1.out ((Below.refl _ _).alloc (Nat.le_refl _) (.cells #[.int .i64 2, .int .i64 1, .int .i64 1, .int .i64 m0, .int .i64 m1, .int .i64 m2] 38)))
  have hB5 : Hid (Below w.heap.size w (w1.alloc (.cells #[.int .i64 2, .int .i64 1, .int .i64 1, .int .i64 m0, .int .i64 m1, .int .i64 m2] 38))) := HB1.out.alloc (by omega) _
  have hcell5 : Hid ((w1.alloc (.cells #[.int .i64 2, .int .i64 1, .int .i64 1, .int .i64 m0, .int .i64 m1, .int .i64 m2] 38)).heap[w1.heap.size]? = some (.cells #[.int .i64 2, .int .i64 1, .int .i64 1, .int .i64 m0, .int .i64 m1, .int .i64 m2] 38 (0, 0))) := heap_alloc_new w1 _
  have hz5 : w1.heap.size < (w1.alloc (.cells #[.int .i64 2, .int .i64 1, .int .i64 1, .int .i64 m0, .int .i64 m1, .int .i64 m2] 38)).heap.size := by simp
  have hz6 : w.heap.size ≤ (w1.alloc (.cells #[.int .i64 2, .int .i64 1, .int .i64 1, .int .i64 m0, .int .i64 m1, .int .i64 m2] 38)).heap.size := by simp; omega
  generalize w1.alloc (.cells #[.int .i64 2, .int .i64 1, .int .i64 1, .int .i64 m0, .int .i64 m1, .int .i64 m2] 38) = w5 at *
  have hnl1 : (lt.length : Int) ≤ c0 := by omega
  have hnl0 : (0 : Int) ≤ lt.length := by omega
  generalize hg : w1.heap.size = g at *
  clear H1 HB1 hz1 c0' c1' c2' H HF hg u0 u1 u2
  go_region_held3 (fun w' => Below w5.heap.size w5 w')
    (first | exact (Below.refl _ _).drew | exact Below.trans (show Below w5.heap.size w5 _ from ‹_›) (hb.mono (show Below w5.heap.size w5 _ from ‹_›).size))
    (first
      | (go_at_call_of 8 (Value.slice A0 l.length c0); refine (haymowlaw21_of.calls _ A0 c0 l _ _ (Kd.C_below H5.out (show Below w5.heap.size w5 _ from ‹_›)) hc HO.out).mono ?_; rintro e w' ⟨v, rfl, hv, hb⟩; have hb1 := hb; obtain ⟨A3, c3, rfl, hc3, hr3⟩ := Kd.R_reads hv)
      | (go_at_call_of 8 (Value.slice A0 lt.length c0); refine (haymowlaw21_of.calls _ A0 c0 lt _ _ (HT.out _ (Kd.C_below H5.out (show Below w5.heap.size w5 _ from ‹_›))) (by omega) HO2.out).mono ?_; rintro e w'' ⟨v, rfl, hv2, hb⟩; obtain ⟨A4, c4, rfl, hc4, hr4⟩ := Kd.R_reads hv2))
  have hz7 : w5.heap.size ≤ w'.heap.size := hb1.size
  have hz8 := hb.size
  have hB7 : Hid (Below w.heap.size w w'') := (hB5.out.trans ((show Below w5.heap.size w5 w' from ⟨hb1.os, hb1.tape, hb1.output, hb1.size, hb1.block⟩).mono hz6)).trans (hb.mono (by omega))
  have hcell : ∀ j v, (#[Value.int .i64 2, .int .i64 1, .int .i64 1, .int .i64 m0, .int .i64 m1, .int .i64 m2] : Array Value)[j]? = some v → w''.cell? ⟨g, j, none⟩ = some v := by
    intro j v hv
    have e1 := hb.block g (by omega)
    have e2 := hb1.block g hz5
    have e3 : w''.heap[g]? = some (.cells #[.int .i64 2, .int .i64 1, .int .i64 1, .int .i64 m0, .int .i64 m1, .int .i64 m2] 38 (0, 0)) := by rw [e1, e2]; exact hcell5.out
    simp only [World.cell?, e3]
    exact hv
  have d0 := hcell 0 _ rfl; have d1 := hcell 1 _ rfl; have d2 := hcell 2 _ rfl; have d3 := hcell 3 _ rfl; have d4 := hcell 4 _ rfl; have d5 := hcell 5 _ rfl
  have HR3 := Lib.hid (Kd.C_below hr3 hb)
  have HR4 := Lib.hid hr4
  clear hcell hb hb1 hr3 hr4 hv hv2 H5 hcell5 hB5
  obtain ⟨E1, he1⟩ : ∃ E1, decide (r1 ≤ m0 ∧ r2 ≤ m1 ∧ r3 ≤ m2) = E1 := ⟨_, rfl⟩
  obtain ⟨E2, he2⟩ : ∃ E2, decide (s1 ≤ m0 ∧ s2 ≤ m1 ∧ s3 ≤ m2) = E2 := ⟨_, rfl⟩
  have hE : E1 = true → E2 = true := by
    intro h1; subst h1; rw [← he2]; simp at he1 ⊢; omega
  have HE1 := Lib.hid he1
  have HE2 := Lib.hid he2
  have HXY := Lib.hid hxy
  clear he1 he2 q1 q2 q3 hxy
  go_wp2_with fail
  refine (enough_any _ _ _ _ _ _ _ _ _ _ _ _ _ _ _ E1 HE1.out HR3.out hc3 HS1.out).mono ?_
  rintro e wa ⟨rfl, hba⟩
  have da := hba.size
  have hBa : Hid (Below w.heap.size w wa) := hB7.out.trans (hba.mono (by omega))
  have HR3a := Lib.hid (Kd.C_below HR3.out hba)
  have HR4a := Lib.hid (Kd.C_below HR4.out hba)
  have hlt : ∀ (x : Nat) (o : Nat) (v : Value), w''.cell? ⟨x, o, none⟩ = some v → x < w''.heap.size := fun x o v hv => World.block_lt_of_cell? _ _ hv
  have hgz := hlt _ _ _ d0
  have f0 := (hba.cell (p := ⟨g, 0, none⟩) hgz).trans d0; have f1 := (hba.cell (p := ⟨g, 1, none⟩) hgz).trans d1; have f2 := (hba.cell (p := ⟨g, 2, none⟩) hgz).trans d2
  have f3 := (hba.cell (p := ⟨g, 3, none⟩) hgz).trans d3; have f4 := (hba.cell (p := ⟨g, 4, none⟩) hgz).trans d4; have f5 := (hba.cell (p := ⟨g, 5, none⟩) hgz).trans d5
  clear hba d0 d1 d2 d3 d4 d5 hlt HR3 HR4 hB7
  have HLE : Hid (decide (y ≤ x) = true) := decide_eq_true HXY.out
  cases E1 with
  | true =>
    obtain rfl := hE rfl
    clear hE
    go_wp2_with fail
    refine (enough_any _ _ _ _ _ _ _ _ _ _ _ _ _ _ _ true HE2.out HR4a.out hc4 HS2.out).mono ?_
    rintro e wb ⟨rfl, hbb⟩
    have db := hbb.size
    have hBb : Hid (Below w.heap.size w wb) := hBa.out.trans (hbb.mono (by omega))
    have HR3b := Lib.hid (Kd.C_below HR3a.out hbb)
    have HR4b := Lib.hid (Kd.C_below HR4a.out hbb)
    clear hbb HR3a HR4a hBa f0 f1 f2 f3 f4 f5
    go_wp2_with fail
    refine (bound_Sum.calls _ A3 c3 _ _ _ _ _ _ HR3b.out hc3 HS1.out).mono ?_
    rintro e wc ⟨rfl, hbc⟩
    have dc := hbc.size
    have hBc : Hid (Below w.heap.size w wc) := hBb.out.trans (hbc.mono (by omega))
    have HR4c := Lib.hid (Kd.C_below HR4b.out hbc)
    clear hbc HR3b HR4b hBb
    go_wp2_with fail
    refine (bound_Rounds.calls _ _ _ _ _ _ _ HX.out).mono ?_
    rintro e wd ⟨rfl, hbd⟩
    have dd := hbd.size
    have hBd : Hid (Below w.heap.size w wd) := hBc.out.trans (hbd.mono (by omega))
    have HR4d := Lib.hid (Kd.C_below HR4c.out hbd)
    clear hbd HR4c hBc
    go_wp2_with fail
    refine (bound_Sum.calls _ A4 c4 _ _ _ _ _ _ HR4d.out hc4 HS2.out).mono ?_
    rintro e we ⟨rfl, hbe⟩
    have de := hbe.size
    have hBe : Hid (Below w.heap.size w we) := hBd.out.trans (hbe.mono (by omega))
    clear hbe HR4d hBd
    go_wp2_with fail
    refine (bound_Rounds.calls _ _ _ _ _ _ _ HY.out).mono ?_
    rintro e wf ⟨rfl, hbf⟩
    have df := hbf.size
    have hBf : Hid (Below w.heap.size w wf) := hBe.out.trans (hbf.mono (by omega))
    clear hbf hBe
    have hle := HXY.out
    go_wp2_with fail
    refine (haymowlaw21_awake.calls true _ awake_f).mono ?_
    rintro e wh ⟨rfl, hbh⟩
    have hBh : Hid (Below w.heap.size w wh) := hBf.out.trans (hbh.mono (by omega))
    clear hbh hBf
    go_wp2
    go_ret
    exact ⟨rfl, hBh.out⟩
  | false =>
    clear hE
    go_wp2_with fail
    refine (bound_Sum.calls _ A3 c3 _ _ _ _ _ _ HR3a.out hc3 HS1.out).mono ?_
    rintro e wc ⟨rfl, hbc⟩
    have dc := hbc.size
    have hBc : Hid (Below w.heap.size w wc) := hBa.out.trans (hbc.mono (by omega))
    have HR4c := Lib.hid (Kd.C_below HR4a.out hbc)
    clear hbc HR3a HR4a hBa f0 f1 f2 f3 f4 f5
    go_wp2_with fail
    refine (bound_Rounds.calls _ _ _ _ _ _ _ HX.out).mono ?_
    rintro e wd ⟨rfl, hbd⟩
    have dd := hbd.size
    have hBd : Hid (Below w.heap.size w wd) := hBc.out.trans (hbd.mono (by omega))
    have HR4d := Lib.hid (Kd.C_below HR4c.out hbd)
    clear hbd HR4c hBc
    go_wp2_with fail
    refine (bound_Sum.calls _ A4 c4 _ _ _ _ _ _ HR4d.out hc4 HS2.out).mono ?_
    rintro e we ⟨rfl, hbe⟩
    have de := hbe.size
    have hBe : Hid (Below w.heap.size w we) := hBd.out.trans (hbe.mono (by omega))
    clear hbe HR4d hBd
    go_wp2_with fail
    refine (bound_Rounds.calls _ _ _ _ _ _ _ HY.out).mono ?_
    rintro e wf ⟨rfl, hbf⟩
    have df := hbf.size
    have hBf : Hid (Below w.heap.size w wf) := hBe.out.trans (hbf.mono (by omega))
    clear hbf hBe
    have hle := HXY.out
    go_wp2_with fail
    refine (haymowlaw21_awake.calls true _ awake_f).mono ?_
    rintro e wh ⟨rfl, hbh⟩
    have hBh : Hid (Below w.heap.size w wh) := hBf.out.trans (hbh.mono (by omega))
    clear hbh hBf
    go_wp2
    go_ret
    exact ⟨rfl, hBh.out⟩

theorem walk (w : World) (A0 : Option Addr) (c0 : Nat) (l0 : List (S33)) (hr0 : Kd.C k33 w A0 l0.length l0) (hc0 : l0.length ≤ c0) (w0 : (∀ e ∈ l0, w33 e)) (a1 : Int) (w1 : (Lit.int .u8 a1).wf = true) (v2 : Array Value) (x2 : Int × Int × Int) (hk2 : (Kd.pair (Kd.int .u16) (Kd.pair (Kd.int .u16) (Kd.int .u16))).K w x2 v2.toList) (w2 : ((Lit.int .u16 x2.1).wf = true ∧ ((Lit.int .u16 x2.2.1).wf = true ∧ (Lit.int .u16 x2.2.2).wf = true))) :
    Calls Try.prog 4 #[.slice A0 l0.length c0, .int .u8 a1, .agg v2] w fun e w' => e = .returned (.bool true) ∧ Below w.heap.size w w' := by
  by_cases h : 100 < l0.length
  · exact walk_long w A0 l0.length c0 _ v2 h hr0.2.1
  · obtain ⟨b, hb⟩ := right_some l0 (by omega) l0.length (l0.length + 1) 0 (by omega) (by omega) (by omega) (by omega)
    have hf : haymowref21_Right.f (l0.length + 1) l0 = some b := by unfold haymowref21_Right.f; rw [if_neg (by omega), hb]
    cases b with
    | false => exact walk_wrong w A0 c0 l0 hr0 hc0 _ v2 (by omega) hf
    | true =>
      obtain ⟨_, _, e0, rfl, _, _, rfl, rfl, rfl⟩ := hk2
      obtain rfl : v2 = #[.int .u16 x2.1, .int .u16 x2.2.1, .int .u16 x2.2.2] := by
        apply Array.ext'
        simpa using e0
      simp [Lit.wf, IntKind.min, IntKind.max, IntKind.bits, IntKind.signed] at w1 w2
      exact walk_main w A0 c0 l0 hr0 hc0 a1 w1.1 (by omega) _ _ _ ⟨by omega, by omega⟩ ⟨by omega, by omega⟩ ⟨by omega, by omega⟩ (by omega) hf
end Go.Proofs.Ytmnfichigbpdgaa.RBoundGrows
