/- AsmBack returns true whatever its arguments are: the walk. Printed by gen_q3.py. -/
import Derived.Test.YtcchoeomeklgmaaGreatDoorQ3
import Derived.Test.YtcchoeomeklgmaaGreatDoorAsmBackK
namespace Go.Proofs.YtcchoeomeklgmaaGreatDoor.RAsmBack
open Go.RowKit Go.Shelf Go.Proofs.YtcchoeomeklgmaaGreatDoorW.PrintWords Go.Proofs.YtcchoeomeklgmaaGreatDoorW.PrintMore Go.Proofs.YtcchoeomeklgmaaGreatDoor.P1 Go.Proofs.YtcchoeomeklgmaaGreatDoor Core Go.Proofs.YtcchoeomeklgmaaGreatDoor.KAsmBack
open Go.Proofs.YtcchoeomeklgmaaGreatDoor.PAsmPrints (S59 k59 z59 S39 k39 z39 S49 k49 S56 k56 at_T39)
set_option linter.unusedVariables false
set_option linter.unusedSimpArgs false
set_option maxRecDepth 100000 in
set_option maxHeartbeats 16000000 in
theorem walk_p (w : World) (hT : TabB w) (p : List Core.Fn) (hp4 : Four p) (A : Option Addr) (c : Nat) (hC : Kd.C k39 w A p.length (p.map RT.toP)) (hc : p.length ≤ c) (nl : List UInt8) (NT : ByteArray) (hNT : NT = bx nl) (hnt : nl.length ≤ 9223372036854775807) :
    Calls Tryz.prog 4 #[.slice A p.length c, .string NT] w fun e w' => e = .returned (.bool true) ∧ Below w.heap.size w w' := by
  have HLP := Lib.hid (light_any p A c w hC hc)
  have HOP := Lib.hid (fun (h : lightB p = true) W (hb : Below w.heap.size w W) => of_any p h A c W (Kd.C_below hC hb) hc)
  have HPP := Lib.hid (fun A2 c2 W (hb : Below w.heap.size w W) (hC2 : Kd.C k49 W A2 p.length (p.map toP)) => print_any p hp4 A2 c2 W hC2 (hT.below hb))
  have HTO := Lib.hid (fun (h : Few p) A2 c2 W (hb : Below w.heap.size w W) (hC2 : Kd.C k49 W A2 p.length (p.map toP)) (hc2 : p.length ≤ c2) => told_any p h A2 A c2 c W hC2 hc2 (Kd.C_below hC hb) hc)
  have HPA := Lib.hid (fun (l : List UInt8) (hl : l.length ≤ 65536) W (hb : Below w.heap.size w W) => parse_any l hl W (hT.below hb).1)
  have HAW := Lib.hid (fun W (hb : Below w.heap.size w W) => awake4_any W (hT.below hb).1)
  have HF : Hid (Four p) := hp4
  have HRD : Hid (∀ (W : World) (base : Nat) (u : Value), PrgP W base u p → ∃ A2 c2, u = .slice A2 p.length c2 ∧ p.length ≤ c2 ∧ Kd.C k49 W A2 p.length (p.map toP)) := fun W base u h => by
    obtain ⟨A2, c2, hu, hc2, hC2⟩ := Kd.S_reads h
    rw [List.length_map] at hu hc2 hC2
    exact ⟨A2, c2, hu, hc2, hC2⟩
  obtain ⟨n, hn⟩ : ∃ n, n = p.length := ⟨_, rfl⟩
  rw [← hn] at HLP HOP HPP HTO HRD ⊢
  have hns : NT.size = nl.length := by rw [hNT, bx_size]
  have HNT := Lib.hid hNT
  have HNS := Lib.hid hns
  obtain ⟨ns, hns2⟩ : ∃ ns, ns = NT.size := ⟨_, rfl⟩
  have hnsz : NT.size = ns := hns2.symm
  have HNS2 : Hid (ns = nl.length) := hns2.trans hns
  have hnsb : ns ≤ 9223372036854775807 := by omega
  clear hn hC hc hT hp4 hns hns2 hNT hnt
  cases hl : lightB p with
  | false =>
    rw [hl] at HLP
    clear hl HOP
    go_enter Tryz.func4, Tryz.ntmps4
    go_wp2_with fail
    refine HLP.out.mono ?_
    rintro _ w1 ⟨rfl, hb1⟩
    have HB1 := Lib.hid hb1
    clear hb1
    go_wp2_with fail
    go_ret
    exact ⟨rfl, HB1.out⟩
  | true =>
    have HO2 := Lib.hid (HOP.out hl)
    rw [hl] at HLP
    clear hl HOP
    by_cases h20 : ns ≤ 20
    · have d20 : decide ((ns : Int) > 20) = false := decide_eq_false (by omega)
      go_enter Tryz.func4, Tryz.ntmps4
      go_wp2_with fail
      refine HLP.out.mono ?_
      rintro _ w1 ⟨rfl, hb1⟩
      have HB1 := Lib.hid hb1
      clear hb1
      go_wp2_with fail
      go_loopg [5] ns (fun d i W => ∃ (j : Nat), j + d = ns ∧ i = .int .i64 j ∧ Hid (∀ m, m < j → nl.getD m 0 ≠ 10) ∧ Hid (Below w.heap.size w W))
      case atStart => exact ⟨0, by omega, rfl, fun m hm => absurd hm (by omega), HB1.out⟩
      case round =>
        obtain ⟨j, hjd, rfl, hno, hB⟩ := hrel
        have HJD := Lib.hid hjd
        by_cases hj : j < ns
        · have hj1 : (j : Int) < (ns : Int) := by omega
          have hj2 : decide ((j : Int) < (ns : Int)) = true := decide_eq_true hj1
          have hj0 : (0 : Int) ≤ (j : Int) := by omega
          have hjw : wrap64 ((j : Int) + 1) = ((j + 1 : Nat) : Int) := by unfold wrap64; omega
          have hjl : j < nl.length := by rw [← HNS2.out]; exact hj
          have hch : ∀ h : j < NT.size, NT[j]'h = nl.getD j 0 := fun h => by rw [bx_get nl NT HNT.out j hjl h, List.getD, List.getElem?_eq_getElem hjl]; rfl
          have HNX : Hid (nl.getD j 0 ≠ 10 → ∀ m, m < j + 1 → nl.getD m 0 ≠ 10) := fun h m hm => by
            by_cases hmj : m < j
            · exact hno.out m hmj
            · obtain rfl : m = j := by omega
              exact h
          obtain ⟨ch, hcc⟩ : ∃ x, nl.getD j 0 = x := ⟨_, rfl⟩
          rw [hcc] at hch HNX
          clear hjd hcc hjl hno
          by_cases h10 : ch = 10
          · subst h10
            go_wp2_with fail
            go_ret
            exact ⟨rfl, hB.out⟩
          · have n10 : (((ch.toNat : Nat) : Int) == 10) = false := u8_nek (by decide) h10
            have HN1 := Lib.hid (HNX.out h10)
            clear h10
            go_wp2_with fail
            go_roundg (ns - (j + 1))
            case measure => exact step_lt HJD.out hj
            case rel => exact ⟨j + 1, step_eq hj, by go_num, HN1.out, hB.out⟩
        · have hj1 : ¬ (j : Int) < (ns : Int) := by omega
          have hj2 : decide ((j : Int) < (ns : Int)) = false := decide_eq_false hj1
          have hjs : j = ns := by omega
          have HN10 : Hid ((10 : UInt8) ∉ nl) := fun hm => by
            obtain ⟨m, hm, he⟩ := List.mem_iff_getElem.1 hm
            have := hno.out m (by rw [hjs, HNS2.out]; exact hm)
            rw [List.getD, List.getElem?_eq_getElem hm] at this
            exact this he
          clear hjd hjs HJD hno
          go_wp2_with fail
          refine (HO2.out _ hB.out).mono ?_
          rintro _ w3 ⟨A2, c2, rfl, hc2, hC2, hb3⟩
          have HB3 : Hid (Below w.heap.size w w3) := hB.out.trans (hb3.mono hB.out.size)
          have HP3 := Lib.hid (HPP.out A2 c2 w3 HB3.out hC2)
          clear hc2 hC2 hb3
          go_wp2_with fail
          refine HP3.out.mono ?_
          rintro e w4 ⟨he, hb4⟩
          have HB4 : Hid (Below w.heap.size w w4) := HB3.out.trans (hb4.mono HB3.out.size)
          clear hb4
          cases hv : validB p with
          | false =>
            rw [hv, if_neg (by simp), if_neg (by simp)] at he
            subst he
            clear hv
            go_wp2_with fail
            refine (HAW.out _ HB4.out).mono ?_
            rintro _ w7 ⟨rfl, hb7⟩
            have HB7 : Hid (Below w.heap.size w w7) := HB4.out.trans (hb7.mono HB4.out.size)
            clear hb7
            go_wp2_with fail
            go_ret
            exact ⟨rfl, HB7.out⟩
          | true =>
            rw [hv, if_pos rfl, if_pos rfl] at he
            have HTD : Hid (Core.Told p) := valid_told hv HF.out
            have HTS : Hid ((textT p).length ≤ 65536) := text_short p hv HF.out
            have HT5 := Lib.hid (HTO.out (told_few HTD.out))
            have hpa := fun W hb => HPA.out (textT p) HTS.out W hb
            rw [text_back p (told_good HTD.out)] at hpa
            obtain ⟨S, hS⟩ : ∃ S, S = bx (textT p) := ⟨_, rfl⟩
            change ∀ W, Below w.heap.size w W → Calls Tryz.prog 12 #[.string (bx (textT p))] W (GivesT W (.ok p)) at hpa
            rw [← hS] at he hpa
            have HPA2 := Lib.hid hpa
            have HS := Lib.hid hS
            have hsl : S.size = (textT p).length := by rw [hS, bx_size]
            obtain ⟨sz, hsz⟩ : ∃ s, s = S.size := ⟨_, rfl⟩
            have HSL : Hid (sz = (textT p).length) := hsz.trans hsl
            have hsz1 : sz ≤ 65536 := by rw [hsz, hsl]; exact HTS.out
            have hsz2 : S.size = sz := hsz.symm
            subst he
            clear hv hpa hS hsl hsz HTO
            go_wp2_with fail
            refine (HPA2.out _ HB4.out).mono ?_
            rintro e w5 ⟨u, rfl, hpr, hb5⟩
            have HB5 : Hid (Below w.heap.size w w5) := HB4.out.trans (hb5.mono HB4.out.size)
            obtain ⟨A5, c5, hu5, hc5, hC5⟩ := HRD.out w5 _ u hpr
            subst hu5
            have HC5 := Lib.hid hC5
            have HC5c := Lib.hid hc5
            obtain ⟨NT1, hNT1⟩ : ∃ X, (⟨#[35]⟩ : ByteArray) ++ NT = X := ⟨_, rfl⟩
            have hNT1s : NT1.size = 1 + ns := by rw [← hNT1, ByteArray.size_append, hnsz]; rfl
            obtain ⟨NT2, hNT2⟩ : ∃ X, NT1 ++ ⟨#[10, 32, 9]⟩ = X := ⟨_, rfl⟩
            have HN2 : Hid (NT2 = bx ([35] ++ nl ++ [10, 32, 9])) := by
              show _ = _
              rw [← hNT2, ← hNT1, HNT.out, show (⟨#[35]⟩ : ByteArray) = bx [35] from rfl, show (⟨#[10, 32, 9]⟩ : ByteArray) = bx [10, 32, 9] from rfl, bx_app, bx_app]
            obtain ⟨NT3, hNT3⟩ : ∃ X, (⟨#[13, 32, 35]⟩ : ByteArray) ++ NT = X := ⟨_, rfl⟩
            have hNT3s : NT3.size = 3 + ns := by rw [← hNT3, ByteArray.size_append, hnsz]; rfl
            obtain ⟨NT4, hNT4⟩ : ∃ X, NT3 ++ ⟨#[10, 10]⟩ = X := ⟨_, rfl⟩
            have hNT4s : NT4.size = 3 + ns + 2 := by rw [← hNT4, ByteArray.size_append, hNT3s]; rfl
            have HN4 : Hid (NT4 = bx ([13, 32, 35] ++ nl ++ [10, 10])) := by
              show _ = _
              rw [← hNT4, ← hNT3, HNT.out, show (⟨#[13, 32, 35]⟩ : ByteArray) = bx [13, 32, 35] from rfl, show (⟨#[10, 10]⟩ : ByteArray) = bx [10, 10] from rfl, bx_app, bx_app]
            have HNT3 := Lib.hid hNT3
            have HNT4 := Lib.hid hNT4
            have hz1 : 1 + ns ≤ 9223372036854775807 := by omega
            have hz1b : 1 + NT.size ≤ 9223372036854775807 := by omega
            have hz2 : NT1.size + 3 ≤ 9223372036854775807 := by omega
            have hz2b : 1 + ns + 3 ≤ 9223372036854775807 := by omega
            clear hpr hb5 hC5 hc5 hNT3 hNT4
            go_wp2_with fail
            clear hNT1 hNT2 hz1 hz1b hz2 hz2b hNT1s
            go_loopg [11, 12] sz (fun d s i W => ∃ (j : Nat) (X : ByteArray), j + d = sz ∧ i = .int .i64 j ∧ s = .string X ∧ Hid (X = bx ([35] ++ nl ++ [10, 32, 9] ++ spreadN nl ((textT p).take j))) ∧ Hid (Below w5.heap.size w5 W))
            case atStart => exact ⟨0, NT2, by omega, rfl, rfl, by show _ = _; rw [HN2.out]; simp [spreadN], Below.refl _ _⟩
            case round =>
              obtain ⟨j, X, hjd, rfl, rfl, hX, hB6⟩ := hrel
              have HJD := Lib.hid hjd
              have hXs : X.size ≤ 2000000 := by
                have h1 := spreadN_len nl (by rw [← HNS2.out]; exact h20) ((textT p).take j)
                rw [List.length_take] at h1
                have h2 := HTS.out
                have h3 := HNS2.out
                rw [hX.out, bx_size]
                simp only [List.length_append, List.length_cons, List.length_nil]
                omega
              by_cases hj : j < sz
              · have hj1 : (j : Int) < (sz : Int) := by omega
                have hj2 : decide ((j : Int) < (sz : Int)) = true := decide_eq_true hj1
                have hj0 : (0 : Int) ≤ (j : Int) := by omega
                have hjw : wrap64 ((j : Int) + 1) = ((j + 1 : Nat) : Int) := by unfold wrap64; omega
                have hjl : j < (textT p).length := by rw [← HSL.out]; exact hj
                have hch : ∀ h : j < S.size, S[j]'h = (textT p)[j] := fun h => bx_get (textT p) S HS.out j hjl h
                have hst := spreadN_step nl (textT p) j hjl
                obtain ⟨ch, hcc⟩ : ∃ x, (textT p)[j] = x := ⟨_, rfl⟩
                rw [hcc] at hch hst
                have HST := Lib.hid hst
                have hex : S.extract j (j + 1) = bx [ch] := ext_one S j (by rw [hsz2]; exact hj) ch (hch (by rw [hsz2]; exact hj))
                have HEX := Lib.hid hex
                clear hjd hcc hst hjl hex
                by_cases h32 : ch = 32
                · subst h32
                  have HX2 : Hid (X ++ ⟨#[32, 32, 9]⟩ = bx ([35] ++ nl ++ [10, 32, 9] ++ spreadN nl ((textT p).take (j + 1)))) := by
                    show _ = _
                    rw [HST.out, if_pos rfl, hX.out, show (⟨#[32, 32, 9]⟩ : ByteArray) = bx [32, 32, 9] from rfl, bx_app]
                    simp
                  have hz : X.size + 3 ≤ 9223372036854775807 := by omega
                  go_wp2_with fail
                  go_roundg (sz - (j + 1))
                  case measure => exact step_lt HJD.out hj
                  case rel => exact ⟨j + 1, _, step_eq hj, by go_num, rfl, HX2.out, hB6.out⟩
                · have n32 : (((ch.toNat : Nat) : Int) == 32) = false := u8_nek (by decide) h32
                  by_cases h10 : ch = 10
                  · subst h10
                    have HX2 : Hid (X ++ NT4 = bx ([35] ++ nl ++ [10, 32, 9] ++ spreadN nl ((textT p).take (j + 1)))) := by
                      show _ = _
                      rw [HST.out, if_neg h32, if_pos rfl, hX.out, HN4.out, bx_app]
                      simp
                    have hn3 := HNT3.out
                    have hn4 := HNT4.out
                    have hz : X.size + NT4.size ≤ 9223372036854775807 := by omega
                    have hz3 : 3 + ns ≤ 9223372036854775807 := by omega
                    have hz4 : 3 + ns + 2 ≤ 9223372036854775807 := by omega
                    have hz5 : X.size + (3 + ns + 2) ≤ 9223372036854775807 := by omega
                    go_wp2_with fail
                    go_roundg (sz - (j + 1))
                    case measure => exact step_lt HJD.out hj
                    case rel => exact ⟨j + 1, _, step_eq hj, by go_num, rfl, HX2.out, hB6.out⟩
                  · have n10 : (((ch.toNat : Nat) : Int) == 10) = false := u8_nek (by decide) h10
                    have HX2 : Hid (X ++ bx [ch] = bx ([35] ++ nl ++ [10, 32, 9] ++ spreadN nl ((textT p).take (j + 1)))) := by
                      show _ = _
                      rw [HST.out, if_neg h32, if_neg h10, hX.out, bx_app]
                      simp
                    obtain ⟨X1, hX1⟩ : ∃ X1, X1 = bx [ch] := ⟨_, rfl⟩
                    have hex2 := HEX.out
                    rw [← hX1] at HX2 hex2
                    have hX1s : X1.size = 1 := by rw [hX1]; rfl
                    have hz : X.size + 1 ≤ 9223372036854775807 := by omega
                    have hjz : j + 1 ≤ sz := by omega
                    have hji : (j : Int) + 1 ≤ (sz : Int) := by omega
                    have hjj : (j : Int) ≤ (j : Int) + 1 := by omega
                    have hj00 : (0 : Int) ≤ (j : Int) + 1 := by omega
                    clear hX1 h32 h10
                    go_wp2_with fail
                    go_roundg (sz - (j + 1))
                    case measure => exact step_lt HJD.out hj
                    case rel => exact ⟨j + 1, _, step_eq hj, by go_num, rfl, HX2.out, hB6.out⟩
              · have hj1 : ¬ (j : Int) < (sz : Int) := by omega
                have hj2 : decide ((j : Int) < (sz : Int)) = false := decide_eq_false hj1
                have hjs : j = sz := by omega
                have hXT : X = bx ([35] ++ nl ++ [10, 32, 9] ++ spreadN nl (textT p)) := by
                  have h := hX.out
                  rwa [hjs, HSL.out, List.take_length] at h
                have HXT := Lib.hid hXT
                have HB6 : Hid (Below w.heap.size w wr) := HB5.out.trans (hB6.out.mono HB5.out.size)
                have HC6 : Hid (Kd.C k49 wr A5 n (p.map toP)) := Kd.C_below HC5.out hB6.out
                obtain ⟨xs, hxs⟩ : ∃ x, x = X.size := ⟨_, rfl⟩
                have hxs2 : X.size = xs := hxs.symm
                have HXS := Lib.hid hxs
                clear hjd hjs hXT hB6 HJD hxs
                by_cases hbig : xs ≤ 65536
                · have dbig : decide ((xs : Int) > 65536) = false := decide_eq_false (by omega)
                  have hpn := fun W hb => HPA.out ([35] ++ nl ++ [10, 32, 9] ++ spreadN nl (textT p)) (by rw [HXS.out, HXT.out, bx_size] at hbig; exact hbig) W hb
                  rw [noted_parse nl HN10.out p (told_good HTD.out)] at hpn
                  change ∀ W, Below w.heap.size w W → Calls Tryz.prog 12 #[.string (bx ([35] ++ nl ++ [10, 32, 9] ++ spreadN nl (textT p)))] W (GivesT W (.ok p)) at hpn
                  rw [← HXT.out] at hpn
                  have HPN := Lib.hid hpn
                  clear hpn hbig
                  go_wp2_with fail
                  refine (HPN.out _ HB6.out).mono ?_
                  rintro e w7 ⟨u7, rfl, hpr7, hb7⟩
                  have HB7 : Hid (Below w.heap.size w w7) := HB6.out.trans (hb7.mono HB6.out.size)
                  obtain ⟨A7, c7, hu7, hc7, hC7⟩ := HRD.out w7 _ u7 hpr7
                  subst hu7
                  have HC7 := Lib.hid hC7
                  have HC7c := Lib.hid hc7
                  have HC67 : Hid (Kd.C k49 w7 A5 n (p.map toP)) := Kd.C_below HC6.out hb7
                  clear hpr7 hb7 hC7 hc7
                  go_wp2_with fail
                  refine (HT5.out A5 c5 w7 HB7.out HC67.out HC5c.out).mono ?_
                  rintro _ w8 ⟨rfl, hb8⟩
                  have HB8 : Hid (Below w.heap.size w w8) := HB7.out.trans (hb8.mono HB7.out.size)
                  have HC78 : Hid (Kd.C k49 w8 A7 n (p.map toP)) := Kd.C_below HC7.out hb8
                  clear hb8
                  go_wp2_with fail
                  refine (HT5.out A7 c7 w8 HB8.out HC78.out HC7c.out).mono ?_
                  rintro _ w9 ⟨rfl, hb9⟩
                  have HB9 : Hid (Below w.heap.size w w9) := HB8.out.trans (hb9.mono HB8.out.size)
                  clear hb9
                  go_wp2_with fail
                  refine (HAW.out _ HB9.out).mono ?_
                  rintro _ w10 ⟨rfl, hb10⟩
                  have HB10 : Hid (Below w.heap.size w w10) := HB9.out.trans (hb10.mono HB9.out.size)
                  clear hb10
                  go_wp2_with fail
                  go_ret
                  exact ⟨rfl, HB10.out⟩
                · have dbig : decide ((xs : Int) > 65536) = true := decide_eq_true (by omega)
                  clear hbig
                  go_wp2_with fail
                  refine (HT5.out A5 c5 wr HB6.out HC6.out HC5c.out).mono ?_
                  rintro _ w8 ⟨rfl, hb8⟩
                  have HB8 : Hid (Below w.heap.size w w8) := HB6.out.trans (hb8.mono HB6.out.size)
                  clear hb8
                  go_wp2_with fail
                  refine (HAW.out _ HB8.out).mono ?_
                  rintro _ w10 ⟨rfl, hb10⟩
                  have HB10 : Hid (Below w.heap.size w w10) := HB8.out.trans (hb10.mono HB8.out.size)
                  clear hb10
                  go_wp2_with fail
                  go_ret
                  exact ⟨rfl, HB10.out⟩
    · have d20 : decide ((ns : Int) > 20) = true := decide_eq_true (by omega)
      clear h20
      go_enter Tryz.func4, Tryz.ntmps4
      go_wp2_with fail
      refine HLP.out.mono ?_
      rintro _ w1 ⟨rfl, hb1⟩
      have HB1 := Lib.hid hb1
      clear hb1
      go_wp2_with fail
      go_ret
      exact ⟨rfl, HB1.out⟩
theorem walk (w : World) (hT : TabB w) (A0 : Option Addr) (c0 : Nat) (l0 : List (S39)) (hr0 : Kd.C k39 w A0 l0.length l0) (hc0 : l0.length ≤ c0) (w0 : (∀ e ∈ l0, w39 e)) (a1 : ByteArray) (w1 : a1.size ≤ maxLen) :
    Calls Tryz.prog 4 #[.slice A0 l0.length c0, .string a1] w fun e w' => e = .returned (.bool true) ∧ Below w.heap.size w w' := by
  have hm := map_of l0
  have hl : (l0.map fnOf).length = l0.length := List.length_map _
  have h := walk_p w hT (l0.map fnOf) (four_of l0) A0 c0 (by rw [hm, hl]; exact hr0) (by rw [hl]; exact hc0) a1.data.toList a1 (by cases a1 with | mk d => simp [bx]) (by have h : a1.data.toList.length = a1.size := Array.length_toList; rw [h]; unfold maxLen at w1; exact w1)
  rwa [hl] at h
end Go.Proofs.YtcchoeomeklgmaaGreatDoor.RAsmBack
