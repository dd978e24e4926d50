/- The walk of haymowlaw05.PathThree: it returns true and turns nothing that was there, for every argument that can be read. Written by gen_path_three.py. -/
import Derived.Test.YtakkfilcecegeaaDoorC3
import Derived.Test.YtakkfilcecegeaaDoorPathThreeK
namespace Go.Proofs.YtakkfilcecegeaaDoor.RPathThree
open Go.RowKit Go.Proofs.YtakkfilcecegeaaDoorW.PrintWords Go.Proofs.YtakkfilcecegeaaDoorW.PrintMore Go.Proofs.YtakkfilcecegeaaDoor.P1 Go.Proofs.YtakkfilcecegeaaDoor.Core Go.Proofs.YtakkfilcecegeaaDoor
set_option linter.unusedVariables false
set_option linter.unusedSimpArgs false
set_option maxHeartbeats 1000000 in
theorem walk_long (w : World) (A0 A1 A2 : Option Addr) (c0 c1 c2 n0 n1 n2 : Nat) (h : 50 < n0 ∨ 50 < n1 ∨ 50 < n2) :
    Calls Tryd.prog 5 #[.slice A0 n0 c0, .slice A1 n1 c1, .slice A2 n2 c2] w fun e w' => e = .returned (.bool true) ∧ Below w.heap.size w w' := by
  by_cases h0 : 50 < n0
  · have d0 : (decide ((n0 : Int) > 50)) = true := by simp; omega
    clear h
    go_enter Tryd.func5, Tryd.ntmps5
    go_wp2
    go_ret
    exact ⟨rfl, Below.refl _ _⟩
  have d0 : (decide ((n0 : Int) > 50)) = false := by simp; omega
  by_cases h1 : 50 < n1
  · have d1 : (decide ((n1 : Int) > 50)) = true := by simp; omega
    clear h
    go_enter Tryd.func5, Tryd.ntmps5
    go_wp2
    go_ret
    exact ⟨rfl, Below.refl _ _⟩
  have d1 : (decide ((n1 : Int) > 50)) = false := by simp; omega
  have d2 : (decide ((n2 : Int) > 50)) = true := by simp; omega
  clear h
  go_enter Tryd.func5, Tryd.ntmps5
  go_wp2
  go_ret
  exact ⟨rfl, Below.refl _ _⟩
/-- What is called, in any world that the walk comes to. -/
structure Ctx (w : World) (A0 A1 A2 : Option Addr) (c0 c1 c2 na nb nc : Nat) (r r' s t : Int) (q : Bool) (u v : Nat → Bool) : Prop where
  ab : ∀ W, Below w.heap.size w W → Calls Tryd.prog 7 #[.slice A0 na c0, .slice A1 nb c1] W fun e W' => e = .returned (.int .i64 r) ∧ Below w.heap.size w W'
  ba : ∀ W, Below w.heap.size w W → Calls Tryd.prog 7 #[.slice A1 nb c1, .slice A0 na c0] W fun e W' => e = .returned (.int .i64 r') ∧ Below w.heap.size w W'
  bc : ∀ W, Below w.heap.size w W → Calls Tryd.prog 7 #[.slice A1 nb c1, .slice A2 nc c2] W fun e W' => e = .returned (.int .i64 s) ∧ Below w.heap.size w W'
  ac : ∀ W, Below w.heap.size w W → Calls Tryd.prog 7 #[.slice A0 na c0, .slice A2 nc c2] W fun e W' => e = .returned (.int .i64 t) ∧ Below w.heap.size w W'
  same : ∀ W, Below w.heap.size w W → Calls Tryd.prog 12 #[.slice A0 na c0, .slice A1 nb c1] W fun e W' => e = .returned (.bool q) ∧ Below w.heap.size w W'
  cu : ∀ k W, k ≤ na → Below w.heap.size w W → Calls Tryd.prog 10 #[.slice A2 nc c2, .slice A0 k c0] W fun e W' => e = .returned (.bool (u k)) ∧ Below w.heap.size w W'
  bu : ∀ k W, k ≤ na → Below w.heap.size w W → Calls Tryd.prog 10 #[.slice A1 nb c1, .slice A0 k c0] W fun e W' => e = .returned (.bool (v k)) ∧ Below w.heap.size w W'
  aw : ∀ W, Below w.heap.size w W → Calls Tryd.prog 8 #[] W fun e W' => e = .returned (.bool true) ∧ Below w.heap.size w W'
set_option maxHeartbeats 4000000 in
set_option maxRecDepth 100000 in
theorem walk_1 (w : World) (A0 A1 A2 : Option Addr) (c0 c1 c2 na nb nc : Nat) (r r' s t : Int) (q : Bool) (u v : Nat → Bool) (C : Ctx w A0 A1 A2 c0 c1 c2 na nb nc r r' s t q u v) (hac : na ≤ c0) (ha : na ≤ 50) (hb : nb ≤ 50) (hc : nc ≤ 50)
    (b1 : -1 ≤ r') (b2 : r' ≤ 1) (hneg : (r != -r') = false) (hq : ((r == 0) == q) = true) (d1 : (decide (r ≤ 0)) = true) (d2 : (decide (s ≤ 0)) = true) (d3 : (decide (t > 0)) = false) (hv : ∀ k, k ≤ na → u k = true → v k = true) :
    Calls Tryd.prog 5 #[.slice A0 na c0, .slice A1 nb c1, .slice A2 nc c2] w fun e w' => e = .returned (.bool true) ∧ Below w.heap.size w w' := by
  have HC := Lib.hid C
  obtain ⟨i3, hi3⟩ : ∃ i, Tryd.prog.info? 3 = some i := by
    have : (Tryd.prog.info? 3).isSome = true := by kernel_rfl
    exact Option.isSome_iff_exists.1 this
  have HI3 := Lib.hid hi3
  have e0 : (decide ((na : Int) > 50)) = false := by simp; omega
  have e1 : (decide ((nb : Int) > 50)) = false := by simp; omega
  have e2 : (decide ((nc : Int) > 50)) = false := by simp; omega
  have HV := Lib.hid hv
  clear hv
  clear C hi3
  have B0 : Hid (Below w.heap.size w w) := Below.refl _ _
  go_enter Tryd.func5, Tryd.ntmps5
  go_wp2_with fail
  refine (HC.out.ab _ B0.out).mono ?_
  rintro e w1 ⟨rfl, hd⟩
  have B1 := Lib.hid hd
  clear hd B0
  go_wp2_with fail
  refine (HC.out.ba _ B1.out).mono ?_
  rintro e w2 ⟨rfl, hd⟩
  have B2 := Lib.hid hd
  clear hd B1
  go_wp2_with fail
  refine (HC.out.ab _ B2.out).mono ?_
  rintro e w3 ⟨rfl, hd⟩
  have B3 := Lib.hid hd
  clear hd B2
  go_wp2_with fail
  refine (HC.out.bc _ B3.out).mono ?_
  rintro e w4 ⟨rfl, hd⟩
  have B4 := Lib.hid hd
  clear hd B3
  go_wp2_with fail
  refine (HC.out.ac _ B4.out).mono ?_
  rintro e w5 ⟨rfl, hd⟩
  have B5 := Lib.hid hd
  clear hd B4
  obtain ⟨wz, rfl⟩ : ∃ wz, wz = w5 := ⟨_, rfl⟩
  go_wp2_with fail
  go_loopg [7] (na + 1) (fun k x W => ∃ j : Nat, j + k = na + 1 ∧ x = .int .i64 j ∧ Hid (Below w.heap.size w W))
  case atStart => exact ⟨0, by omega, rfl, B5⟩
  case round =>
    obtain ⟨j, hjk, rfl, hB⟩ := hrel
    have HJ := Lib.hid hjk
    clear hjk B5
    by_cases hlt : j ≤ na
    · have htj := cut_to (P := Tryd.prog) 22 3 .i64 Tryd.underlying22 HI3.out A0 na c0 (j : Int) (by omega) (by omega) hac
      rw [Int.toNat_natCast] at htj
      have hcu := HC.out.cu j wr hlt hB.out
      have hvj := HV.out j hlt
      cases huj : u j with
      | false =>
        rw [huj] at hcu
        have HCU := Lib.hid hcu
        clear hcu huj hvj
        go_wp2_with fail
        refine HCU.out.mono ?_
        rintro e w1 ⟨rfl, hd⟩
        have BN := Lib.hid hd
        clear hd HCU hB
        go_wp2_with fail
        go_roundg (na + 1 - (j + 1))
        case measure => have := HJ.out; omega
        case rel => exact ⟨j + 1, by omega, by go_num, BN⟩
      | true =>
        rw [huj] at hcu
        have HCU := Lib.hid hcu
        have HVJ := Lib.hid (hvj huj)
        clear hvj
        clear hcu huj
        go_wp2_with fail
        refine HCU.out.mono ?_
        rintro e w1 ⟨rfl, hd⟩
        have B1 := Lib.hid hd
        clear hd HCU hB
        go_wp2_with fail
        refine (HC.out.ab _ B1.out).mono ?_
        rintro e w2 ⟨rfl, hd⟩
        have B2 := Lib.hid hd
        clear hd B1
        go_wp2_with fail
        refine (HC.out.bc _ B2.out).mono ?_
        rintro e w3 ⟨rfl, hd⟩
        have B3 := Lib.hid hd
        clear hd B2
        go_wp2_with fail
        refine (HC.out.bu j _ hlt B3.out).mono ?_
        rw [HVJ.out]
        rintro e w4 ⟨rfl, hd⟩
        have B4 := Lib.hid hd
        clear hd B3
        go_wp2_with fail
        go_roundg (na + 1 - (j + 1))
        case measure => have := HJ.out; omega
        case rel => exact ⟨j + 1, by omega, by go_num, B4⟩
    · go_wp2_with fail
      refine (HC.out.ab _ hB.out).mono ?_
      rintro e w1 ⟨rfl, hd⟩
      have B1 := Lib.hid hd
      clear hd hB
      go_wp2_with fail
      refine (HC.out.same _ B1.out).mono ?_
      rintro e w2 ⟨rfl, hd⟩
      have B2 := Lib.hid hd
      clear hd B1
      go_wp2_with fail
      refine (HC.out.aw _ B2.out).mono ?_
      rintro e w3 ⟨rfl, hd⟩
      have B3 := Lib.hid hd
      clear hd B2
      go_wp2_with fail
      go_ret
      exact ⟨rfl, B3.out⟩
set_option maxHeartbeats 4000000 in
set_option maxRecDepth 100000 in
theorem walk_2 (w : World) (A0 A1 A2 : Option Addr) (c0 c1 c2 na nb nc : Nat) (r r' s t : Int) (q : Bool) (u v : Nat → Bool) (C : Ctx w A0 A1 A2 c0 c1 c2 na nb nc r r' s t q u v) (hac : na ≤ c0) (ha : na ≤ 50) (hb : nb ≤ 50) (hc : nc ≤ 50)
    (b1 : -1 ≤ r') (b2 : r' ≤ 1) (hneg : (r != -r') = false) (hq : ((r == 0) == q) = true) (d1 : (decide (r ≤ 0)) = true) (d2 : (decide (s ≤ 0)) = false) :
    Calls Tryd.prog 5 #[.slice A0 na c0, .slice A1 nb c1, .slice A2 nc c2] w fun e w' => e = .returned (.bool true) ∧ Below w.heap.size w w' := by
  have HC := Lib.hid C
  obtain ⟨i3, hi3⟩ : ∃ i, Tryd.prog.info? 3 = some i := by
    have : (Tryd.prog.info? 3).isSome = true := by kernel_rfl
    exact Option.isSome_iff_exists.1 this
  have HI3 := Lib.hid hi3
  have e0 : (decide ((na : Int) > 50)) = false := by simp; omega
  have e1 : (decide ((nb : Int) > 50)) = false := by simp; omega
  have e2 : (decide ((nc : Int) > 50)) = false := by simp; omega
  clear C hi3
  have B0 : Hid (Below w.heap.size w w) := Below.refl _ _
  go_enter Tryd.func5, Tryd.ntmps5
  go_wp2_with fail
  refine (HC.out.ab _ B0.out).mono ?_
  rintro e w1 ⟨rfl, hd⟩
  have B1 := Lib.hid hd
  clear hd B0
  go_wp2_with fail
  refine (HC.out.ba _ B1.out).mono ?_
  rintro e w2 ⟨rfl, hd⟩
  have B2 := Lib.hid hd
  clear hd B1
  go_wp2_with fail
  refine (HC.out.ab _ B2.out).mono ?_
  rintro e w3 ⟨rfl, hd⟩
  have B3 := Lib.hid hd
  clear hd B2
  go_wp2_with fail
  refine (HC.out.bc _ B3.out).mono ?_
  rintro e w4 ⟨rfl, hd⟩
  have B4 := Lib.hid hd
  clear hd B3
  obtain ⟨wz, rfl⟩ : ∃ wz, wz = w4 := ⟨_, rfl⟩
  go_wp2_with fail
  go_loopg [7] (na + 1) (fun k x W => ∃ j : Nat, j + k = na + 1 ∧ x = .int .i64 j ∧ Hid (Below w.heap.size w W))
  case atStart => exact ⟨0, by omega, rfl, B4⟩
  case round =>
    obtain ⟨j, hjk, rfl, hB⟩ := hrel
    have HJ := Lib.hid hjk
    clear hjk B4
    by_cases hlt : j ≤ na
    · have htj := cut_to (P := Tryd.prog) 22 3 .i64 Tryd.underlying22 HI3.out A0 na c0 (j : Int) (by omega) (by omega) hac
      rw [Int.toNat_natCast] at htj
      have hcu := HC.out.cu j wr hlt hB.out
      cases huj : u j with
      | false =>
        rw [huj] at hcu
        have HCU := Lib.hid hcu
        clear hcu huj
        go_wp2_with fail
        refine HCU.out.mono ?_
        rintro e w1 ⟨rfl, hd⟩
        have BN := Lib.hid hd
        clear hd HCU hB
        go_wp2_with fail
        go_roundg (na + 1 - (j + 1))
        case measure => have := HJ.out; omega
        case rel => exact ⟨j + 1, by omega, by go_num, BN⟩
      | true =>
        rw [huj] at hcu
        have HCU := Lib.hid hcu
        clear hcu huj
        go_wp2_with fail
        refine HCU.out.mono ?_
        rintro e w1 ⟨rfl, hd⟩
        have B1 := Lib.hid hd
        clear hd HCU hB
        go_wp2_with fail
        refine (HC.out.ab _ B1.out).mono ?_
        rintro e w2 ⟨rfl, hd⟩
        have B2 := Lib.hid hd
        clear hd B1
        go_wp2_with fail
        refine (HC.out.bc _ B2.out).mono ?_
        rintro e w3 ⟨rfl, hd⟩
        have B3 := Lib.hid hd
        clear hd B2
        go_wp2_with fail
        go_roundg (na + 1 - (j + 1))
        case measure => have := HJ.out; omega
        case rel => exact ⟨j + 1, by omega, by go_num, B3⟩
    · go_wp2_with fail
      refine (HC.out.ab _ hB.out).mono ?_
      rintro e w1 ⟨rfl, hd⟩
      have B1 := Lib.hid hd
      clear hd hB
      go_wp2_with fail
      refine (HC.out.same _ B1.out).mono ?_
      rintro e w2 ⟨rfl, hd⟩
      have B2 := Lib.hid hd
      clear hd B1
      go_wp2_with fail
      refine (HC.out.aw _ B2.out).mono ?_
      rintro e w3 ⟨rfl, hd⟩
      have B3 := Lib.hid hd
      clear hd B2
      go_wp2_with fail
      go_ret
      exact ⟨rfl, B3.out⟩
set_option maxHeartbeats 4000000 in
set_option maxRecDepth 100000 in
theorem walk_3 (w : World) (A0 A1 A2 : Option Addr) (c0 c1 c2 na nb nc : Nat) (r r' s t : Int) (q : Bool) (u v : Nat → Bool) (C : Ctx w A0 A1 A2 c0 c1 c2 na nb nc r r' s t q u v) (hac : na ≤ c0) (ha : na ≤ 50) (hb : nb ≤ 50) (hc : nc ≤ 50)
    (b1 : -1 ≤ r') (b2 : r' ≤ 1) (hneg : (r != -r') = false) (hq : ((r == 0) == q) = true) (d1 : (decide (r ≤ 0)) = false) :
    Calls Tryd.prog 5 #[.slice A0 na c0, .slice A1 nb c1, .slice A2 nc c2] w fun e w' => e = .returned (.bool true) ∧ Below w.heap.size w w' := by
  have HC := Lib.hid C
  obtain ⟨i3, hi3⟩ : ∃ i, Tryd.prog.info? 3 = some i := by
    have : (Tryd.prog.info? 3).isSome = true := by kernel_rfl
    exact Option.isSome_iff_exists.1 this
  have HI3 := Lib.hid hi3
  have e0 : (decide ((na : Int) > 50)) = false := by simp; omega
  have e1 : (decide ((nb : Int) > 50)) = false := by simp; omega
  have e2 : (decide ((nc : Int) > 50)) = false := by simp; omega
  clear C hi3
  have B0 : Hid (Below w.heap.size w w) := Below.refl _ _
  go_enter Tryd.func5, Tryd.ntmps5
  go_wp2_with fail
  refine (HC.out.ab _ B0.out).mono ?_
  rintro e w1 ⟨rfl, hd⟩
  have B1 := Lib.hid hd
  clear hd B0
  go_wp2_with fail
  refine (HC.out.ba _ B1.out).mono ?_
  rintro e w2 ⟨rfl, hd⟩
  have B2 := Lib.hid hd
  clear hd B1
  go_wp2_with fail
  refine (HC.out.ab _ B2.out).mono ?_
  rintro e w3 ⟨rfl, hd⟩
  have B3 := Lib.hid hd
  clear hd B2
  obtain ⟨wz, rfl⟩ : ∃ wz, wz = w3 := ⟨_, rfl⟩
  go_wp2_with fail
  go_loopg [7] (na + 1) (fun k x W => ∃ j : Nat, j + k = na + 1 ∧ x = .int .i64 j ∧ Hid (Below w.heap.size w W))
  case atStart => exact ⟨0, by omega, rfl, B3⟩
  case round =>
    obtain ⟨j, hjk, rfl, hB⟩ := hrel
    have HJ := Lib.hid hjk
    clear hjk B3
    by_cases hlt : j ≤ na
    · have htj := cut_to (P := Tryd.prog) 22 3 .i64 Tryd.underlying22 HI3.out A0 na c0 (j : Int) (by omega) (by omega) hac
      rw [Int.toNat_natCast] at htj
      have hcu := HC.out.cu j wr hlt hB.out
      cases huj : u j with
      | false =>
        rw [huj] at hcu
        have HCU := Lib.hid hcu
        clear hcu huj
        go_wp2_with fail
        refine HCU.out.mono ?_
        rintro e w1 ⟨rfl, hd⟩
        have BN := Lib.hid hd
        clear hd HCU hB
        go_wp2_with fail
        go_roundg (na + 1 - (j + 1))
        case measure => have := HJ.out; omega
        case rel => exact ⟨j + 1, by omega, by go_num, BN⟩
      | true =>
        rw [huj] at hcu
        have HCU := Lib.hid hcu
        clear hcu huj
        go_wp2_with fail
        refine HCU.out.mono ?_
        rintro e w1 ⟨rfl, hd⟩
        have B1 := Lib.hid hd
        clear hd HCU hB
        go_wp2_with fail
        refine (HC.out.ab _ B1.out).mono ?_
        rintro e w2 ⟨rfl, hd⟩
        have B2 := Lib.hid hd
        clear hd B1
        go_wp2_with fail
        go_roundg (na + 1 - (j + 1))
        case measure => have := HJ.out; omega
        case rel => exact ⟨j + 1, by omega, by go_num, B2⟩
    · go_wp2_with fail
      refine (HC.out.ab _ hB.out).mono ?_
      rintro e w1 ⟨rfl, hd⟩
      have B1 := Lib.hid hd
      clear hd hB
      go_wp2_with fail
      refine (HC.out.same _ B1.out).mono ?_
      rintro e w2 ⟨rfl, hd⟩
      have B2 := Lib.hid hd
      clear hd B1
      go_wp2_with fail
      refine (HC.out.aw _ B2.out).mono ?_
      rintro e w3 ⟨rfl, hd⟩
      have B3 := Lib.hid hd
      clear hd B2
      go_wp2_with fail
      go_ret
      exact ⟨rfl, B3.out⟩
theorem ctx (w : World) (a b c : List Int) (A0 A1 A2 : Option Addr) (c0 c1 c2 : Nat) (h0 : (Kd.int .i64).C w A0 a.length a) (g0 : a.length ≤ c0) (h1 : (Kd.int .i64).C w A1 b.length b) (g1 : b.length ≤ c1) (h2 : (Kd.int .i64).C w A2 c.length c) (g2 : c.length ≤ c2) (ha : a.length ≤ 50) (hb : b.length ≤ 50) (hc : c.length ≤ 50) :
    Ctx w A0 A1 A2 c0 c1 c2 a.length b.length c.length (cmpL a b) (cmpL b a) (cmpL b c) (cmpL a c) (cmpL a b == 0) (fun k => undL c (a.take k)) (fun k => undL b (a.take k)) where
  ab W hW := (Compare_any a b A0 A1 c0 c1 W (Kd.C_below h0 hW) g0 (Kd.C_below h1 hW) g1 (by omega) (by omega)).mono (by rintro e W' ⟨rfl, hd⟩; exact ⟨rfl, hW.trans (hd.below.mono hW.size)⟩)
  ba W hW := (Compare_any b a A1 A0 c1 c0 W (Kd.C_below h1 hW) g1 (Kd.C_below h0 hW) g0 (by omega) (by omega)).mono (by rintro e W' ⟨rfl, hd⟩; exact ⟨rfl, hW.trans (hd.below.mono hW.size)⟩)
  bc W hW := (Compare_any b c A1 A2 c1 c2 W (Kd.C_below h1 hW) g1 (Kd.C_below h2 hW) g2 (by omega) (by omega)).mono (by rintro e W' ⟨rfl, hd⟩; exact ⟨rfl, hW.trans (hd.below.mono hW.size)⟩)
  ac W hW := (Compare_any a c A0 A2 c0 c2 W (Kd.C_below h0 hW) g0 (Kd.C_below h2 hW) g2 (by omega) (by omega)).mono (by rintro e W' ⟨rfl, hd⟩; exact ⟨rfl, hW.trans (hd.below.mono hW.size)⟩)
  same W hW := (haymowlaw05_same.calls _ A0 c0 a A1 c1 b _ W (Kd.C_below h0 hW) g0 (Kd.C_below h1 hW) g1 (same_f a b (by omega) (by omega))).mono (by rintro e W' ⟨rfl, hd⟩; exact ⟨rfl, hW.trans (hd.below.mono hW.size)⟩)
  cu k W hk hW := by
    have lk : (a.take k).length = k := by rw [List.length_take]; omega
    have h := Under_any c (a.take k) A2 A0 c2 c0 W (Kd.C_below h2 hW) g2 (Kd.C_take (Kd.C_below h0 hW) hk) (by omega) (by omega) (by omega)
    rw [lk] at h
    exact h.mono (by rintro e W' ⟨rfl, hd⟩; exact ⟨rfl, hW.trans (hd.below.mono hW.size)⟩)
  bu k W hk hW := by
    have lk : (a.take k).length = k := by rw [List.length_take]; omega
    have h := Under_any b (a.take k) A1 A0 c1 c0 W (Kd.C_below h1 hW) g1 (Kd.C_take (Kd.C_below h0 hW) hk) (by omega) (by omega) (by omega)
    rw [lk] at h
    exact h.mono (by rintro e W' ⟨rfl, hd⟩; exact ⟨rfl, hW.trans (hd.below.mono hW.size)⟩)
  aw W hW := (awake_any W).mono (by rintro e W' ⟨rfl, hd⟩; exact ⟨rfl, hW.trans (hd.mono hW.size)⟩)
theorem walk (w : World) (A0 : Option Addr) (c0 : Nat) (l0 : List (Int)) (hr0 : Kd.C (Kd.int .i64) w A0 l0.length l0) (hc0 : l0.length ≤ c0) (w0 : (∀ e ∈ l0, (Lit.int .i64 e).wf = true)) (A1 : Option Addr) (c1 : Nat) (l1 : List (Int)) (hr1 : Kd.C (Kd.int .i64) w A1 l1.length l1) (hc1 : l1.length ≤ c1) (w1 : (∀ e ∈ l1, (Lit.int .i64 e).wf = true)) (A2 : Option Addr) (c2 : Nat) (l2 : List (Int)) (hr2 : Kd.C (Kd.int .i64) w A2 l2.length l2) (hc2 : l2.length ≤ c2) (w2 : (∀ e ∈ l2, (Lit.int .i64 e).wf = true)) :
    Calls Tryd.prog 5 #[.slice A0 l0.length c0, .slice A1 l1.length c1, .slice A2 l2.length c2] w fun e w' => e = .returned (.bool true) ∧ Below w.heap.size w w' := by
  by_cases h : 50 < l0.length ∨ 50 < l1.length ∨ 50 < l2.length
  · exact walk_long w A0 A1 A2 c0 c1 c2 _ _ _ h
  · have C := ctx w l0 l1 l2 A0 A1 A2 c0 c1 c2 hr0 hc0 hr1 hc1 hr2 hc2 (by omega) (by omega) (by omega)
    have rg := cmpL_range l1 l0
    have ng := cmpL_neg l0 l1
    have hneg : (cmpL l0 l1 != -cmpL l1 l0) = false := by rw [ng]; simp
    have hq : ((cmpL l0 l1 == 0) == (cmpL l0 l1 == 0)) = true := by simp
    by_cases d1 : cmpL l0 l1 ≤ 0
    · by_cases d2 : cmpL l1 l2 ≤ 0
      · have d3 := cmpL_trans d1 d2
        exact walk_1 w A0 A1 A2 c0 c1 c2 _ _ _ _ _ _ _ _ _ _ C hc0 (by omega) (by omega) (by omega) (by omega) (by omega) hneg hq (by simpa using d1) (by simpa using d2) (by simp; omega) (fun k hk hu => undL_between k hk hu d1 d2)
      · exact walk_2 w A0 A1 A2 c0 c1 c2 _ _ _ _ _ _ _ _ _ _ C hc0 (by omega) (by omega) (by omega) (by omega) (by omega) hneg hq (by simpa using d1) (by simpa using d2)
    · exact walk_3 w A0 A1 A2 c0 c1 c2 _ _ _ _ _ _ _ _ _ _ C hc0 (by omega) (by omega) (by omega) (by omega) (by omega) hneg hq (by simpa using d1)
end Go.Proofs.YtakkfilcecegeaaDoor.RPathThree
