/- AsmPrints returns true whatever its arguments are: the walk. Printed by gen_q1.py. -/
import Derived.Test.YtcchoeomeklgmaaGreatDoorQ1
import Derived.Test.YtcchoeomeklgmaaGreatDoorAsmPrintsK
namespace Go.Proofs.YtcchoeomeklgmaaGreatDoor.RAsmPrints
open Go.RowKit Go.Shelf Go.Proofs.YtcchoeomeklgmaaGreatDoorW.PrintWords Go.Proofs.YtcchoeomeklgmaaGreatDoorW.PrintMore Go.Proofs.YtcchoeomeklgmaaGreatDoor.P1 Go.Proofs.YtcchoeomeklgmaaGreatDoor Core Go.Proofs.YtcchoeomeklgmaaGreatDoor.KAsmPrints
open Go.Proofs.YtcchoeomeklgmaaGreatDoor.PAsmPrints (S59 k59 z59 S39 k39 z39 S49 k49 S56 k56)
set_option linter.unusedVariables false
set_option linter.unusedSimpArgs false
set_option maxRecDepth 100000 in
set_option maxHeartbeats 8000000 in
theorem walk_p (w : World) (hT : TabB w) (p : List Core.Fn) (h4 : Four p) (A : Option Addr) (c : Nat) (hC : Kd.C k39 w A p.length (p.map RT.toP)) (hc : p.length ≤ c) :
    Calls Tryz.prog 3 #[.slice A p.length c] w fun e w' => e = .returned (.bool true) ∧ Below w.heap.size w w' := by
  have HLI := Lib.hid (light_any p A c w hC hc)
  have HOF := Lib.hid (fun (h : lightB p = true) W (hb : Below w.heap.size w W) => of_any p h A c W (Kd.C_below hC hb) hc)
  have HPR := Lib.hid (fun A2 c2 W (hb : Below w.heap.size w W) (hC2 : Kd.C k49 W A2 p.length (p.map toP)) => print_any p h4 A2 c2 W hC2 (hT.below hb))
  have HRC := Lib.hid (fun W (hb : Below w.heap.size w W) => rcheck_any p A c W (Kd.C_below hC hb))
  have HRP := Lib.hid (fun (h : validB p = true) W (hb : Below w.heap.size w W) => rprint_any p (valid_told h h4) A c W (Kd.C_below hC hb))
  have HAW := Lib.hid (fun W (hb : Below w.heap.size w W) => awake4_any W (hT.below hb).1)
  obtain ⟨n, hn⟩ : ∃ n, n = p.length := ⟨_, rfl⟩
  rw [← hn] at HLI HOF HPR HRC HRP ⊢
  clear hn hC hc hT
  cases hl : lightB p with
  | false =>
    rw [hl] at HLI
    clear hl HOF
    go_enter Tryz.func3, Tryz.ntmps3
    go_wp2_with fail
    refine HLI.out.mono ?_
    rintro _ w1 ⟨rfl, hb1⟩
    have HB1 := Lib.hid hb1
    clear hb1
    go_wp2_with fail
    go_ret
    exact ⟨rfl, HB1.out⟩
  | true =>
    have HO2 := Lib.hid (HOF.out hl)
    rw [hl] at HLI
    clear hl HOF
    go_enter Tryz.func3, Tryz.ntmps3
    go_wp2_with fail
    refine HLI.out.mono ?_
    rintro _ w1 ⟨rfl, hb1⟩
    have HB1 := Lib.hid hb1
    clear hb1
    go_wp2_with fail
    refine (HO2.out _ HB1.out).mono ?_
    rintro _ w2 ⟨A2, c2, rfl, hc2, hC2, hb2⟩
    have HB2 : Hid (Below w.heap.size w w2) := HB1.out.trans (hb2.mono HB1.out.size)
    have HP2 := Lib.hid (HPR.out A2 c2 w2 HB2.out hC2)
    clear hc2 hC2 hb2
    go_wp2_with fail
    refine HP2.out.mono ?_
    rintro e w3 ⟨he, hb3⟩
    have HB3 : Hid (Below w.heap.size w w3) := HB2.out.trans (hb3.mono HB2.out.size)
    clear hb3
    cases hv : validB p with
    | false =>
      rw [hv, if_neg (by simp), if_neg (by simp)] at he
      rw [hv] at HRC
      subst he
      clear hv HRP
      go_wp2_with fail
      refine (HRC.out _ HB3.out).mono ?_
      rintro e w4 ⟨fx, ax, er, rfl, hiff, hb4⟩
      have her : er ≠ 0 := fun h => by
        have := hiff.2 h
        cases this
      have e1 : (er != 0) = true := bne_iff_ne.2 her
      have HB4 : Hid (Below w.heap.size w w4) := HB3.out.trans (hb4.mono HB3.out.size)
      clear hiff hb4 her
      go_wp2_with fail
      refine (HAW.out _ HB4.out).mono ?_
      rintro _ w5 ⟨rfl, hb5⟩
      have HB5 : Hid (Below w.heap.size w w5) := HB4.out.trans (hb5.mono HB4.out.size)
      clear hb5
      go_wp2_with fail
      go_ret
      exact ⟨rfl, HB5.out⟩
    | true =>
      rw [hv, if_pos rfl, if_pos rfl] at he
      have HRQ := Lib.hid (HRP.out hv)
      rw [hv] at HRC
      obtain ⟨TX, hTX⟩ : ∃ B, B = bx (textT p) := ⟨_, rfl⟩
      rw [← hTX] at he HRQ
      subst he
      clear hv HRP hTX
      go_wp2_with fail
      refine (HRC.out _ HB3.out).mono ?_
      rintro e w4 ⟨fx, ax, er, rfl, hiff, hb4⟩
      obtain rfl : er = 0 := hiff.1 rfl
      have HB4 : Hid (Below w.heap.size w w4) := HB3.out.trans (hb4.mono HB3.out.size)
      clear hiff hb4
      go_wp2_with fail
      refine (HRQ.out _ HB4.out).mono ?_
      rintro _ w5 ⟨rfl, hb5⟩
      have HB5 : Hid (Below w.heap.size w w5) := HB4.out.trans (hb5.mono HB4.out.size)
      have hbe : (TX.toList == TX.toList) = true := beq_self_eq_true _
      clear hb5
      go_wp2_with fail
      refine (HAW.out _ HB5.out).mono ?_
      rintro _ w6 ⟨rfl, hb6⟩
      have HB6 : Hid (Below w.heap.size w w6) := HB5.out.trans (hb6.mono HB5.out.size)
      clear hb6
      go_wp2_with fail
      go_ret
      exact ⟨rfl, HB6.out⟩
theorem walk (w : World) (hT : TabB w) (A0 : Option Addr) (c0 : Nat) (l0 : List (S39)) (hr0 : Kd.C k39 w A0 l0.length l0) (hc0 : l0.length ≤ c0) (w0 : (∀ e ∈ l0, w39 e)) :
    Calls Tryz.prog 3 #[.slice A0 l0.length c0] w fun e w' => e = .returned (.bool true) ∧ Below w.heap.size w w' := by
  have hm := map_of l0
  have hl : (l0.map fnOf).length = l0.length := List.length_map _
  have h := walk_p w hT (l0.map fnOf) (four_of l0) A0 c0 (by rw [hm, hl]; exact hr0) (by rw [hl]; exact hc0)
  rwa [hl] at h
end Go.Proofs.YtcchoeomeklgmaaGreatDoor.RAsmPrints
