/- The walk of haymowlaw21.BoundLeast: it returns true and turns nothing that was there, for every argument that can be read. -/
import Derived.Test.YtponjobacdimeaaGreatB11
import Derived.Test.YtponjobacdimeaaGreatBoundLeastK
import Derived.Test.YtponjobacdimeaaGreatPureA
import Derived.Test.YtponjobacdimeaaGreatPureB
import Derived.Deep.RegionHeld3
import Derived.ChangeKeysEq
namespace Go.Proofs.YtponjobacdimeaaGreat.RBoundLeast
set_option linter.unusedVariables false
set_option linter.unusedSimpArgs false
open Go.RowKit Go.Proofs.YtponjobacdimeaaGreatW.PrintWords Go.Proofs.YtponjobacdimeaaGreat.PBoundLeast Go.Proofs.YtponjobacdimeaaGreat.KBoundLeast Go.Proofs.YtponjobacdimeaaGreat.Core
abbrev argV (W K R : Int) (A : Option Addr) (n c : Nat) : Array Value := #[.int .i64 W, .int .i64 K, .int .i64 R, .slice A n c]
set_option maxHeartbeats 1000000 in
theorem walk_big (w : World) (W K R : Int) (A0 : Option Addr) (n c0 : Nat) (g1 : decide (W > 8) = true) (g2 : decide (R > 100) = true) :
    Calls Tryz.prog 3 #[.agg (argV W K R A0 n c0)] w fun e w' => e = .returned (.bool true) ∧ Below w.heap.size w w' := by
  have HB : Hid (Below w.heap.size w (w.alloc (.cells (argV W K R A0 n c0) 24))) := (Below.refl _ _).alloc (Nat.le_refl _) _
  go_enter Tryz.func3, Tryz.ntmps3
  go_wp2_with fail
  go_quiet (fail)
  go_wp2_with fail
  go_ret
  exact ⟨rfl, HB.out.trans ((pw_below_drewN (Below.refl _ _) _).mono HB.out.size)⟩
/-- What is drawn ahead of the second statement. -/
abbrev NotBig (W R : Int) : Prop := (decide (W > 8) = true ∧ decide (R > 100) = false) ∨ decide (W > 8) = false
set_option maxHeartbeats 1000000 in
theorem walk_long (w : World) (W K R : Int) (A0 : Option Addr) (n c0 : Nat) (g : NotBig W R) (h : 100 < n) (hn : n ≤ 9223372036854775807) :
    Calls Tryz.prog 3 #[.agg (argV W K R A0 n c0)] w fun e w' => e = .returned (.bool true) ∧ Below w.heap.size w w' := by
  have HB : Hid (Below w.heap.size w (w.alloc (.cells (argV W K R A0 n c0) 24))) := (Below.refl _ _).alloc (Nat.le_refl _) _
  have h3 : decide ((n : Int) > 100) = true := decide_eq_true (by omega)
  rcases g with ⟨g1, g2⟩ | g1
  all_goals
    go_enter Tryz.func3, Tryz.ntmps3
    go_wp2_with fail
    go_quiet (fail)
    go_wp2_with fail
    go_ret
    exact ⟨rfl, HB.out.trans ((pw_below_drewN (Below.refl _ _) _).mono HB.out.size)⟩
set_option maxHeartbeats 1000000 in
theorem walk_wrong (w : World) (W K R : Int) (A0 : Option Addr) (c0 : Nat) (l : List S36) (g : NotBig W R) (hr : Kd.C k36 w A0 l.length l) (hc : l.length ≤ c0) (h : l.length ≤ 100) (hf : haymowref21_Right.f (l.length + 1) l = some false) :
    Calls Tryz.prog 3 #[.agg (argV W K R A0 l.length c0)] w fun e w' => e = .returned (.bool true) ∧ Below w.heap.size w w' := by
  have HB : Hid (Below w.heap.size w (w.alloc (.cells (argV W K R A0 l.length c0) 24))) := (Below.refl _ _).alloc (Nat.le_refl _) _
  have h3 : decide ((l.length : Int) > 100) = false := decide_eq_false (by omega)
  have HRI := Lib.hid (fun X hX => haymowref21_Right.calls _ A0 c0 l false X hX hc hf)
  have H := Lib.hid (Kd.C_below hr ((Below.refl _ _).alloc (Nat.le_refl _) (.cells (argV W K R A0 l.length c0) 24)))
  clear hr hf h hc
  obtain ⟨len, hlen⟩ : ∃ x, x = l.length := ⟨_, rfl⟩
  rw [← hlen] at HB h3 HRI H ⊢
  clear hlen
  rcases g with ⟨g1, g2⟩ | g1
  all_goals
    go_enter Tryz.func3, Tryz.ntmps3
    go_wp2_with fail
    go_quiet (fail)
    obtain ⟨W1, hW1⟩ : ∃ X : World, X = (w.alloc (.cells (argV W K R A0 len c0) 24)).drewN nq := ⟨_, rfl⟩
    have HB1 : Hid (Below w.heap.size w W1) := by rw [hW1]; exact HB.out.trans ((pw_below_drewN (Below.refl _ _) _).mono HB.out.size)
    have H1 : Hid (Kd.C k36 W1 A0 len l) := by rw [hW1]; exact Kd.C_below H.out (pw_below_drewN (Below.refl _ _) _)
    rw [← hW1]
    clear hW1 HB H
    go_wp2_with fail
    refine (HRI.out _ H1.out).mono ?_
    rintro e w1 ⟨rfl, hb1⟩
    have HB2 : Hid (Below w.heap.size w w1) := HB1.out.trans (hb1.mono HB1.out.size)
    clear hb1
    go_wp2_with fail
    refine (haymowlaw21_awake.calls true _ awake_f).mono ?_
    rintro e w2 ⟨rfl, hb2⟩
    have HB3 : Hid (Below w.heap.size w w2) := HB2.out.trans (hb2.mono HB2.out.size)
    clear hb2
    go_wp2_with fail
    go_ret
    exact ⟨rfl, HB3.out⟩
theorem info3 : (Tryz.prog.info? 3).isSome = true := by kernel_rfl
theorem cells3 : Tryz.prog.cellsOf 3 = 1 := by kernel_rfl
theorem eq27 (a b c : Int) (X : World) : (Op.equalIn 9999 27 (.agg #[.int .i64 a, .int .i64 b, .int .i64 c]) (.agg #[.int .i64 a, .int .i64 b, .int .i64 c])).run Tryz.prog X = .ok true X := by
  obtain ⟨i, hi⟩ := Option.isSome_iff_exists.1 info3
  have e3 : ∀ (x : Int) (Y : World), (Op.equalIn 9998 3 (.int .i64 x) (.int .i64 x)).run Tryz.prog Y = .ok true Y := fun x Y => by
    rw [run_equalIn_int (d := 9997) (h := Tryz.underlying3)]
    simp
  have p3 : ∀ (j : Nat) (v : Value) (Y : World), (#[Value.int .i64 a, .int .i64 b, .int .i64 c] : Array Value)[j]? = some v → (part 3 #[.int .i64 a, .int .i64 b, .int .i64 c] (j * 1)).run Tryz.prog Y = .ok v Y := fun j v Y h => by
    have : j < 3 := by
      have := (Array.getElem?_eq_some_iff.1 h).1
      simpa using this
    obtain rfl | rfl | rfl : j = 0 ∨ j = 1 ∨ j = 2 := by omega
    all_goals
      simp at h
      subst h
      simp [part, Tryz.isAgg3, Tryz.sizeOf3]
  rw [run_equalIn_array (d := 9998) (w := X) #[.int .i64 a, .int .i64 b, .int .i64 c] #[.int .i64 a, .int .i64 b, .int .i64 c] Tryz.underlying27 hi, cells3]
  rw [show List.range 3 = [0, 1, 2] from rfl]
  have q0 := fun Y => p3 0 (.int .i64 a) Y rfl
  have q1 := fun Y => p3 1 (.int .i64 b) Y rfl
  have q2 := fun Y => p3 2 (.int .i64 c) Y rfl
  simp only [Op.eqItems, Sem.run_bind, q0, q1, q2, Result.andThen_ok, e3, Bool.not_true, Bool.false_eq_true, if_false, Sem.run_pure]
/-- The cells that the last statement reads. -/
abbrev St (w5 : World) (b c : Nat) (W K R r1 r2 r3 : Int) (w' : World) : Prop :=
  Below w5.heap.size w5 w' ∧ w'.cell? ⟨b, 0, none⟩ = some (.int .i64 W) ∧ w'.cell? ⟨b, 1, none⟩ = some (.int .i64 K) ∧ w'.cell? ⟨b, 2, none⟩ = some (.int .i64 R)
    ∧ w'.cell? ⟨b, 3, none⟩ = some (.int .i64 r1) ∧ w'.cell? ⟨b, 4, none⟩ = some (.int .i64 r2) ∧ w'.cell? ⟨b, 5, none⟩ = some (.int .i64 r3)
    ∧ w'.cell? ⟨c, 3, none⟩ = some (.int .i64 r1) ∧ w'.cell? ⟨c, 4, none⟩ = some (.int .i64 r2) ∧ w'.cell? ⟨c, 5, none⟩ = some (.int .i64 r3)
theorem St.keep {w5 : World} {b c : Nat} {W K R r1 r2 r3 : Int} {w w' : World} (h : St w5 b c W K R r1 r2 r3 w) (hb : Below w.heap.size w w') (hB : b < w5.heap.size) (hC : c < w5.heap.size) : St w5 b c W K R r1 r2 r3 w' := by
  obtain ⟨h0, h1, h2, h3, h4, h5, h6, h7, h8, h9⟩ := h
  have hz := h0.size
  have k : ∀ (x o : Nat), x < w5.heap.size → w'.cell? ⟨x, o, none⟩ = w.cell? ⟨x, o, none⟩ := fun x o hx => hb.cell (p := ⟨x, o, none⟩) (by show x < _; omega)
  simp only [St, k _ _ hB, k _ _ hC]
  exact ⟨h0.trans (hb.mono hz), h1, h2, h3, h4, h5, h6, h7, h8, h9⟩
set_option maxHeartbeats 4000000 in
set_option maxRecDepth 100000 in
theorem walk_main (w : World) (W K R : Int) (A0 : Option Addr) (c0 : Nat) (l : List S36) (g : NotBig W R) (hr : Kd.C k36 w A0 l.length l) (hc : l.length ≤ c0) (h : l.length ≤ 100) (hf : haymowref21_Right.f (l.length + 1) l = some true) :
    Calls Tryz.prog 3 #[.agg (argV W K R A0 l.length c0)] w fun e w' => e = .returned (.bool true) ∧ Below w.heap.size w w' := by
  have HB : Hid (Below w.heap.size w (w.alloc (.cells (argV W K R A0 l.length c0) 24))) := (Below.refl _ _).alloc (Nat.le_refl _) _
  have h3 : decide ((l.length : Int) > 100) = false := decide_eq_false (by omega)
  have HRI := Lib.hid (fun X hX => haymowref21_Right.calls _ A0 c0 l true X hX hc hf)
  obtain ⟨r1, r2, r3, r4, hs1, hs2⟩ := sums_f l (by omega)
  have HO0 := Lib.hid (of_f l (by omega))
  generalize l.map cv = l2 at HO0 hs2
  have HO := Lib.hid (fun X hX => haymowlaw21_of.calls _ A0 c0 l _ X hX hc HO0.out)
  have HS := Lib.hid (fun X hX => haymowref21_Sum.calls _ A0 c0 l _ _ _ _ X hX hc hs1)
  have HL := Lib.hid (fun A c X hX hcc => least_any _ W K R r1 r2 r3 r4 A c l2 X hX hcc hs2)
  have HWR := Lib.hid (fun X => wrong_any W K R r1 r2 r3 X)
  have HEN := Lib.hid (fun A c X hX hcc => enough_any _ r1 r2 r3 W K R r1 r2 r3 r4 A c l2 X true (decide_eq_true ⟨Int.le_refl _, Int.le_refl _, Int.le_refl _⟩) hX hcc hs2)
  have H := Lib.hid (Kd.C_below hr ((Below.refl _ _).alloc (Nat.le_refl _) (.cells (argV W K R A0 l.length c0) 24)))
  obtain ⟨er, her⟩ : ∃ x, x = errC W K R r1 r2 r3 := ⟨_, rfl⟩
  rw [← her] at HL HWR
  replace her : er = errC W K R r1 r2 r3 := her
  clear hr hf h hc hs1 hs2 HO0
  obtain ⟨len, hlen⟩ : ∃ x, x = l.length := ⟨_, rfl⟩
  rw [← hlen] at HB h3 HRI H HO HS ⊢
  clear hlen her
  have aw : Hid (haymowlaw21_awake.f = some true) := awake_f
  rcases g with ⟨g1, g2⟩ | g1
  all_goals
    go_enter Tryz.func3, Tryz.ntmps3
    go_wp2_with fail
    go_quiet (fail)
    obtain ⟨W1, hW1⟩ : ∃ X : World, X = (w.alloc (.cells (argV W K R A0 len c0) 24)).drewN nq := ⟨_, rfl⟩
    have HB1 : Hid (Below w.heap.size w W1) := by rw [hW1]; exact HB.out.trans ((pw_below_drewN (Below.refl _ _) _).mono HB.out.size)
    have H1 : Hid (Kd.C k36 W1 A0 len l) := by rw [hW1]; exact Kd.C_below H.out (pw_below_drewN (Below.refl _ _) _)
    rw [← hW1]
    clear hW1 HB H
    go_wp2_with fail
    refine (HRI.out _ H1.out).mono ?_
    rintro e w1 ⟨rfl, hb1⟩
    have HB2 : Hid (Below w.heap.size w w1) := HB1.out.trans (hb1.mono HB1.out.size)
    have H2 : Hid (Kd.C k36 w1 A0 len l) := Kd.C_below H1.out hb1
    clear hb1
    go_wp2_with fail
    refine (HO.out _ H2.out).mono ?_
    rintro e w2 ⟨v, rfl, hv, hb2⟩
    obtain ⟨A2, c2, rfl, hc2, hr2⟩ := Kd.R_reads hv
    have HB3 : Hid (Below w.heap.size w w2) := HB2.out.trans (hb2.mono HB2.out.size)
    have H3 : Hid (Kd.C k36 w2 A0 len l) := Kd.C_below H2.out hb2
    have HR2 := Lib.hid hr2
    have HC2 := Lib.hid hc2
    clear hb2 hv hr2 hc2
    go_wp2_with fail
    refine (HL.out A2 c2 _ HR2.out HC2.out).mono ?_
    rintro e w3 ⟨rfl, hb3⟩
    have HB4 : Hid (Below w.heap.size w w3) := HB3.out.trans (hb3.mono HB3.out.size)
    have H4 : Hid (Kd.C k36 w3 A0 len l) := Kd.C_below H3.out hb3
    clear hb3
    by_cases he : er = 0
    · have el : leastV W K R r1 r2 r3 er = .tuple #[.agg (ints [W, K, R, r1, r2, r3]), .int .i64 0] := by unfold leastV; rw [he]; rfl
      rw [el]
      subst he
      clear el
      obtain ⟨W4, hW4⟩ : ∃ X : World, X = w3.alloc (.cells #[.int .i64 W, .int .i64 K, .int .i64 R, .int .i64 r1, .int .i64 r2, .int .i64 r3] 29) := ⟨_, rfl⟩
      have ha4 : Below w3.heap.size w3 W4 := by rw [hW4]; exact (Below.refl _ _).alloc (Nat.le_refl _) _
      have HB5 : Hid (Below w.heap.size w W4) := HB4.out.trans (ha4.mono HB4.out.size)
      have H5 : Hid (Kd.C k36 W4 A0 len l) := Kd.C_below H4.out ha4
      have HG5 : Hid (W4.heap[w3.heap.size]? = some (.cells (ints [W, K, R, r1, r2, r3]) 29 (0, 0))) := by rw [hW4]; exact heap_alloc_new _ _
      clear ha4
      go_wp2_with fail
      rw [← hW4]
      clear hW4
      obtain ⟨gc, hgc⟩ : ∃ x, x = w3.heap.size := ⟨_, rfl⟩
      rw [← hgc] at HG5 ⊢
      clear hgc
      refine (HS.out _ H5.out).mono ?_
      rintro e w5 ⟨rfl, hb5⟩
      have HB6 : Hid (Below w.heap.size w w5) := HB5.out.trans (hb5.mono HB5.out.size)
      have H6 : Hid (Kd.C k36 w5 A0 len l) := Kd.C_below H5.out hb5
      have HG6 : Hid (w5.heap[gc]? = some (.cells (ints [W, K, R, r1, r2, r3]) 29 (0, 0))) := blk_below HG5.out hb5
      clear hb5
      obtain ⟨W6, hW6⟩ : ∃ X : World, X = (w5.alloc (.cells #[.int .i64 r1, .int .i64 r2, .int .i64 r3, .int .i64 r4] 36)).alloc (.cells #[.int .i64 W, .int .i64 K, .int .i64 R, .int .i64 r1, .int .i64 r2, .int .i64 r3] 38) := ⟨_, rfl⟩
      have ha6 : Below w5.heap.size w5 W6 := by rw [hW6]; exact ((Below.refl _ _).alloc (Nat.le_refl _) _).alloc (by rw [World.size_alloc]; omega) _
      have HB7 : Hid (Below w.heap.size w W6) := HB6.out.trans (ha6.mono HB6.out.size)
      have H7 : Hid (Kd.C k36 W6 A0 len l) := Kd.C_below H6.out ha6
      have HG7 : Hid (W6.heap[gc]? = some (.cells (ints [W, K, R, r1, r2, r3]) 29 (0, 0)) ∧ W6.heap[w5.heap.size + 1]? = some (.cells (ints [W, K, R, r1, r2, r3]) 38 (0, 0))) := by
        refine ⟨blk_below HG6.out ha6, ?_⟩
        rw [hW6, show w5.heap.size + 1 = (w5.alloc (.cells (ints [r1, r2, r3, r4]) 36)).heap.size from (World.size_alloc ..).symm]
        exact heap_alloc_new _ _
      clear ha6
      go_wp2_with fail
      rw [← hW6]
      clear hW6
      obtain ⟨gw, hgw⟩ : ∃ x, x = w5.heap.size + 1 := ⟨_, rfl⟩
      rw [← hgw] at HG7 ⊢
      clear hgw
      refine (HWR.out _).mono ?_
      rintro e w7 ⟨rfl, hb7⟩
      have HB8 : Hid (Below w.heap.size w w7) := HB7.out.trans (hb7.mono HB7.out.size)
      have H8 : Hid (Kd.C k36 w7 A0 len l) := Kd.C_below H7.out hb7
      have HG8 : Hid (w7.heap[gc]? = some (.cells (ints [W, K, R, r1, r2, r3]) 29 (0, 0)) ∧ w7.heap[gw]? = some (.cells (ints [W, K, R, r1, r2, r3]) 38 (0, 0))) := ⟨blk_below HG7.out.1 hb7, blk_below HG7.out.2 hb7⟩
      clear hb7
      have k0 := cell_ints HG8.out.1 0 _ rfl
      have k1 := cell_ints HG8.out.1 1 _ rfl
      have k2 := cell_ints HG8.out.1 2 _ rfl
      have k3 := cell_ints HG8.out.1 3 _ rfl
      have k4 := cell_ints HG8.out.1 4 _ rfl
      have k5 := cell_ints HG8.out.1 5 _ rfl
      have eq := fun X => eq27 r1 r2 r3 X
      have m3 := cell_ints HG8.out.2 3 _ rfl
      have m4 := cell_ints HG8.out.2 4 _ rfl
      have m5 := cell_ints HG8.out.2 5 _ rfl
      have hgc : gc < w7.heap.size := (Array.getElem?_eq_some_iff.1 HG8.out.1).1
      have hgw : gw < w7.heap.size := (Array.getElem?_eq_some_iff.1 HG8.out.2).1
      go_wp2_with fail
      go_region_held3 (fun X => St w7 gc gw W K R r1 r2 r3 X)
        (first | exact ⟨(Below.refl _ _).drew, k0, k1, k2, k3, k4, k5, m3, m4, m5⟩ | exact St.keep ‹_› hb hgc hgw)
        (first
          | (go_at_call 7; refine (HO.out _ (Kd.C_below H8.out (And.left (show St w7 gc gw W K R r1 r2 r3 _ from ‹_›)))).mono ?_; rintro e w' ⟨v, rfl, hv, hb⟩; obtain ⟨A3, c3, rfl, hc3, hr3⟩ := Kd.R_reads hv)
          | (go_at_call 10; refine (HEN.out A3 c3 _ hr3 hc3).mono ?_; rintro e w' ⟨rfl, hb⟩)
          | (go_at_call 5; refine (haymowlaw21_awake.calls true _ aw.out).mono ?_; rintro e w' ⟨rfl, hb⟩))
      go_wp2_with fail
      go_ret
      exact ⟨rfl, HB8.out.trans ((And.left (show St w7 gc gw W K R r1 r2 r3 _ from ‹_›)).mono HB8.out.size)⟩
    have e1 : (er != 0) = true := bne_iff_ne.2 he
    have el : leastV W K R r1 r2 r3 er = .tuple #[.agg (ints [0, 0, 0, 0, 0, 0]), .int .i64 er] := by unfold leastV; rw [if_neg he]
    rw [el]
    clear el he
    obtain ⟨W4, hW4⟩ : ∃ X : World, X = w3.alloc (.cells #[.int .i64 0, .int .i64 0, .int .i64 0, .int .i64 0, .int .i64 0, .int .i64 0] 29) := ⟨_, rfl⟩
    have ha4 : Below w3.heap.size w3 W4 := by rw [hW4]; exact (Below.refl _ _).alloc (Nat.le_refl _) _
    have HB5 : Hid (Below w.heap.size w W4) := HB4.out.trans (ha4.mono HB4.out.size)
    have H5 : Hid (Kd.C k36 W4 A0 len l) := Kd.C_below H4.out ha4
    have HG5 : Hid (W4.heap[w3.heap.size]? = some (.cells (ints [0, 0, 0, 0, 0, 0]) 29 (0, 0))) := by rw [hW4]; exact heap_alloc_new _ _
    clear ha4
    go_wp2_with fail
    rw [← hW4]
    clear hW4
    obtain ⟨gc, hgc⟩ : ∃ x, x = w3.heap.size := ⟨_, rfl⟩
    rw [← hgc] at HG5 ⊢
    clear hgc
    refine (HS.out _ H5.out).mono ?_
    rintro e w5 ⟨rfl, hb5⟩
    have HB6 : Hid (Below w.heap.size w w5) := HB5.out.trans (hb5.mono HB5.out.size)
    have H6 : Hid (Kd.C k36 w5 A0 len l) := Kd.C_below H5.out hb5
    have HG6 : Hid (w5.heap[gc]? = some (.cells (ints [0, 0, 0, 0, 0, 0]) 29 (0, 0))) := blk_below HG5.out hb5
    clear hb5
    obtain ⟨W6, hW6⟩ : ∃ X : World, X = (w5.alloc (.cells #[.int .i64 r1, .int .i64 r2, .int .i64 r3, .int .i64 r4] 36)).alloc (.cells #[.int .i64 W, .int .i64 K, .int .i64 R, .int .i64 r1, .int .i64 r2, .int .i64 r3] 38) := ⟨_, rfl⟩
    have ha6 : Below w5.heap.size w5 W6 := by rw [hW6]; exact ((Below.refl _ _).alloc (Nat.le_refl _) _).alloc (by rw [World.size_alloc]; omega) _
    have HB7 : Hid (Below w.heap.size w W6) := HB6.out.trans (ha6.mono HB6.out.size)
    have H7 : Hid (Kd.C k36 W6 A0 len l) := Kd.C_below H6.out ha6
    have HG7 : Hid (W6.heap[gc]? = some (.cells (ints [0, 0, 0, 0, 0, 0]) 29 (0, 0)) ∧ W6.heap[w5.heap.size + 1]? = some (.cells (ints [W, K, R, r1, r2, r3]) 38 (0, 0))) := by
      refine ⟨blk_below HG6.out ha6, ?_⟩
      rw [hW6, show w5.heap.size + 1 = (w5.alloc (.cells (ints [r1, r2, r3, r4]) 36)).heap.size from (World.size_alloc ..).symm]
      exact heap_alloc_new _ _
    clear ha6
    go_wp2_with fail
    rw [← hW6]
    clear hW6
    obtain ⟨gw, hgw⟩ : ∃ x, x = w5.heap.size + 1 := ⟨_, rfl⟩
    rw [← hgw] at HG7 ⊢
    clear hgw
    refine (HWR.out _).mono ?_
    rintro e w7 ⟨rfl, hb7⟩
    have HB8 : Hid (Below w.heap.size w w7) := HB7.out.trans (hb7.mono HB7.out.size)
    have H8 : Hid (Kd.C k36 w7 A0 len l) := Kd.C_below H7.out hb7
    have HG8 : Hid (w7.heap[gc]? = some (.cells (ints [0, 0, 0, 0, 0, 0]) 29 (0, 0)) ∧ w7.heap[gw]? = some (.cells (ints [W, K, R, r1, r2, r3]) 38 (0, 0))) := ⟨blk_below HG7.out.1 hb7, blk_below HG7.out.2 hb7⟩
    clear hb7
    have k0 := cell_ints HG8.out.1 0 _ rfl
    have k1 := cell_ints HG8.out.1 1 _ rfl
    have k2 := cell_ints HG8.out.1 2 _ rfl
    have k3 := cell_ints HG8.out.1 3 _ rfl
    have k4 := cell_ints HG8.out.1 4 _ rfl
    have k5 := cell_ints HG8.out.1 5 _ rfl
    have eq := fun X => eq27 0 0 0 X
    go_wp2_with fail
    refine (haymowlaw21_awake.calls true _ aw.out).mono ?_
    rintro e w8 ⟨rfl, hb8⟩
    have HB9 : Hid (Below w.heap.size w w8) := HB8.out.trans (hb8.mono HB8.out.size)
    clear hb8
    go_wp2_with fail
    go_ret
    exact ⟨rfl, HB9.out⟩
theorem walk (w : World) (v0 : Array Value) (x0 : S24) (hk0 : k24.K w x0 v0.toList) (w0 : w24 x0) :
    Calls Tryz.prog 3 #[.agg v0] w fun e w' => e = .returned (.bool true) ∧ Below w.heap.size w w' := by
  obtain ⟨_, _, e0, rfl, _, _, rfl, rfl, _, _, rfl, rfl, A0, c0, rfl, hc, hr⟩ := hk0
  obtain rfl : v0 = argV x0.f0 x0.f1 x0.f2 A0 x0.f3.length c0 := by
    apply Array.ext'
    simpa using e0
  change x0.f3.length ≤ c0 at hc
  change Kd.C k36 w A0 x0.f3.length x0.f3 at hr
  by_cases hbig : decide (x0.f0 > 8) = true ∧ decide (x0.f2 > 100) = true
  · exact walk_big w _ _ _ A0 _ c0 hbig.1 hbig.2
  have g : NotBig x0.f0 x0.f2 := by
    cases h1 : decide (x0.f0 > 8) with
    | false => exact .inr h1
    | true =>
      refine .inl ⟨h1, ?_⟩
      cases h2 : decide (x0.f2 > 100) with
      | false => first | rfl | exact h2
      | true => exact absurd ⟨h1, h2⟩ hbig
  by_cases h : 100 < x0.f3.length
  · exact walk_long w _ _ _ A0 _ c0 g h hr.2.1
  · obtain ⟨b, hb⟩ := right_some x0.f3 (by omega) x0.f3.length (x0.f3.length + 1) 0 (by omega) (by omega) (by omega) (by omega)
    have hf : haymowref21_Right.f (x0.f3.length + 1) x0.f3 = some b := by unfold haymowref21_Right.f; rw [if_neg (by omega), hb]
    cases b with
    | false => exact walk_wrong w _ _ _ A0 c0 x0.f3 g hr hc (by omega) hf
    | true => exact walk_main w _ _ _ A0 c0 x0.f3 g hr hc (by omega) hf
end Go.Proofs.YtponjobacdimeaaGreat.RBoundLeast
