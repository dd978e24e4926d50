/- AsmCounts returns true whatever its arguments are: the walk. Printed by gen_q2.py. -/
import Derived.Test.YtcchoeomeklgmaaGreatDoorQ2
import Derived.Test.YtcchoeomeklgmaaGreatDoorAsmCountsK
namespace Go.Proofs.YtcchoeomeklgmaaGreatDoor.RAsmCounts
open Go.RowKit Go.Shelf Go.Proofs.YtcchoeomeklgmaaGreatDoorW.PrintWords Go.Proofs.YtcchoeomeklgmaaGreatDoorW.PrintMore Go.Proofs.YtcchoeomeklgmaaGreatDoor.P1 Go.Proofs.YtcchoeomeklgmaaGreatDoor Core Go.Proofs.YtcchoeomeklgmaaGreatDoor.KAsmCounts
open Go.Proofs.YtcchoeomeklgmaaGreatDoor.PAsmPrints (S59 k59 z59 S39 k39 z39 S49 k49 S56 k56 at_T39)
set_option linter.unusedVariables false
set_option linter.unusedSimpArgs false
theorem bx_beq (a b : List UInt8) : ((bx a).toList == (bx b).toList) = (a == b) := by simp [bx]
theorem text_len (p : List Core.Fn) (h : Core.Told p) : (textT p).length ≤ 100000 := by
  have := told_len h p.length (Nat.le_refl _)
  rw [List.take_length] at this
  have := h.1
  omega
theorem count_step (l : List UInt8) (j : Nat) (h : j < l.length) : (l.take (j + 1)).count 10 = (l.take j).count 10 + (if l[j] = 10 then 1 else 0) := by
  rw [List.take_succ_eq_append_getElem h, List.count_append]
  congr 1
  rw [List.count_singleton]
  by_cases e : l[j] = 10
  · rw [if_pos e, e]; rfl
  · rw [if_neg e, if_neg (by simpa using e)]
theorem sum_step (p : List Core.Fn) (j : Nat) (h : j < p.length) : ((p.take (j + 1)).map fun f => f.2.length).sum = ((p.take j).map fun f => f.2.length).sum + (p.getD j (0, [])).2.length := by
  rw [List.take_succ_eq_append_getElem h, List.map_append, List.sum_append, List.getD, List.getElem?_eq_getElem h]
  simp
theorem sum_le (p : List Core.Fn) (h : ∀ f ∈ p, f.2.length ≤ 70) : (p.map fun f => f.2.length).sum ≤ 70 * p.length := by
  induction p with
  | nil => simp
  | cons f p ih =>
    have h1 := h f List.mem_cons_self
    have h2 := ih (fun x hx => h x (List.mem_cons_of_mem _ hx))
    simp only [List.map_cons, List.sum_cons, List.length_cons]
    omega
set_option maxRecDepth 100000 in
set_option maxHeartbeats 16000000 in
theorem walk_p (w : World) (hT : TabB w) (p q : List Core.Fn) (hp4 : Four p) (hq4 : Four q) (A : Option Addr) (c : Nat) (hC : Kd.C k39 w A p.length (p.map RT.toP)) (hc : p.length ≤ c) (A' : Option Addr) (c' : Nat) (hC' : Kd.C k39 w A' q.length (q.map RT.toP)) (hc' : q.length ≤ c') :
    Calls Tryz.prog 5 #[.slice A p.length c, .slice A' q.length c'] w fun e w' => e = .returned (.bool true) ∧ Below w.heap.size w w' := by
  have HLP := Lib.hid (fun W (hb : Below w.heap.size w W) => light_any p A c W (Kd.C_below hC hb) hc)
  have HLQ := Lib.hid (fun W (hb : Below w.heap.size w W) => light_any q A' c' W (Kd.C_below hC' hb) hc')
  have HOP := Lib.hid (fun (h : lightB p = true) W (hb : Below w.heap.size w W) => of_any p h A c W (Kd.C_below hC hb) hc)
  have HOQ := Lib.hid (fun (h : lightB q = true) W (hb : Below w.heap.size w W) => of_any q h A' c' W (Kd.C_below hC' hb) hc')
  have HPP := Lib.hid (fun A2 c2 W (hb : Below w.heap.size w W) (hC2 : Kd.C k49 W A2 p.length (p.map toP)) => print_any p hp4 A2 c2 W hC2 (hT.below hb))
  have HPQ := Lib.hid (fun A2 c2 W (hb : Below w.heap.size w W) (hC2 : Kd.C k49 W A2 q.length (q.map toP)) => print_any q hq4 A2 c2 W hC2 (hT.below hb))
  have HTO := Lib.hid (fun (h : lightB q = true) (h2 : lightB p = true) A2 c2 W (hb : Below w.heap.size w W) (hC2 : Kd.C k49 W A2 p.length (p.map toP)) (hc2 : p.length ≤ c2) => told_gen p q hp4 hq4 h (by have := (light_parts h2).1; omega) (fun f hf => by have := (light_parts h2).2 f hf; omega) A2 A' c2 c' W hC2 hc2 (Kd.C_below hC' hb) hc')
  have HAW := Lib.hid (fun W (hb : Below w.heap.size w W) => awake4_any W (hT.below hb).1)
  have HCC := Lib.hid (fun W (hb : Below w.heap.size w W) => Kd.C_below hC hb)
  have HF : Hid (Four p ∧ Four q) := ⟨hp4, hq4⟩
  obtain ⟨n, hn⟩ : ∃ n, n = p.length := ⟨_, rfl⟩
  obtain ⟨n2, hn2⟩ : ∃ n, n = q.length := ⟨_, rfl⟩
  rw [← hn] at HLP HOP HPP HTO HCC ⊢
  rw [← hn2] at HLQ HOQ HPQ HTO ⊢
  have HN := Lib.hid hn
  clear hn hn2 hC hc hC' hc' hT hp4 hq4
  cases hl : lightB p with
  | false =>
    rw [hl] at HLP
    clear hl HOP HOQ HTO
    go_enter Tryz.func5, Tryz.ntmps5
    go_wp2_with fail
    refine (HLP.out _ (Below.refl _ _)).mono ?_
    rintro _ w1 ⟨rfl, hb1⟩
    have HB1 := Lib.hid hb1
    clear hb1
    go_wp2_with fail
    go_ret
    exact ⟨rfl, HB1.out⟩
  | true =>
    have HO2 := Lib.hid (HOP.out hl)
    have HTT := Lib.hid (fun h => HTO.out h hl)
    have HLL := Lib.hid (light_parts hl)
    rw [hl] at HLP
    clear hl HOP HTO
    cases hm : lightB q with
    | false =>
      rw [hm] at HLQ
      clear hm HOQ HTT HO2
      go_enter Tryz.func5, Tryz.ntmps5
      go_wp2_with fail
      refine (HLP.out _ (Below.refl _ _)).mono ?_
      rintro _ w1 ⟨rfl, hb1⟩
      have HB1 := Lib.hid hb1
      clear hb1
      go_wp2_with fail
      refine (HLQ.out _ HB1.out).mono ?_
      rintro _ w2 ⟨rfl, hb2⟩
      have HB2 : Hid (Below w.heap.size w w2) := HB1.out.trans (hb2.mono HB1.out.size)
      clear hb2
      go_wp2_with fail
      go_ret
      exact ⟨rfl, HB2.out⟩
    | true =>
      have HO3 := Lib.hid (HOQ.out hm)
      have HT3 := Lib.hid (HTT.out hm)
      rw [hm] at HLQ
      clear hm HOQ HTT
      go_enter Tryz.func5, Tryz.ntmps5
      go_wp2_with fail
      refine (HLP.out _ (Below.refl _ _)).mono ?_
      rintro _ w1 ⟨rfl, hb1⟩
      have HB1 := Lib.hid hb1
      clear hb1
      go_wp2_with fail
      refine (HLQ.out _ HB1.out).mono ?_
      rintro _ w2 ⟨rfl, hb2⟩
      have HB2 : Hid (Below w.heap.size w w2) := HB1.out.trans (hb2.mono HB1.out.size)
      clear hb2
      go_wp2_with fail
      refine (HO2.out _ HB2.out).mono ?_
      rintro _ w3 ⟨A2, c2, rfl, hc2, hC2, hb3⟩
      have HB3 : Hid (Below w.heap.size w w3) := HB2.out.trans (hb3.mono HB2.out.size)
      have HP3 := Lib.hid (HPP.out A2 c2 w3 HB3.out hC2)
      clear hc2 hC2 hb3
      go_wp2_with fail
      refine HP3.out.mono ?_
      rintro e w4 ⟨he, hb4⟩
      have HB4 : Hid (Below w.heap.size w w4) := HB3.out.trans (hb4.mono HB3.out.size)
      obtain ⟨SP, hSP⟩ : ∃ S, S = (if validB p = true then bx (textT p) else (⟨#[]⟩ : ByteArray)) := ⟨_, rfl⟩
      rw [← hSP] at he
      have HSP := Lib.hid hSP
      obtain ⟨EP, hEP⟩ : ∃ E : Int, E = (if validB p = true then 0 else 4) := ⟨_, rfl⟩
      rw [← hEP] at he
      have HEP := Lib.hid hEP
      subst he
      clear hb4 hSP hEP
      go_wp2_with fail
      refine (HO3.out _ HB4.out).mono ?_
      rintro _ w5 ⟨A3, c3, rfl, hc3, hC3, hb5⟩
      have HB5 : Hid (Below w.heap.size w w5) := HB4.out.trans (hb5.mono HB4.out.size)
      have HP5 := Lib.hid (HPQ.out A3 c3 w5 HB5.out hC3)
      clear hc3 hC3 hb5
      go_wp2_with fail
      refine HP5.out.mono ?_
      rintro e w6 ⟨he, hb6⟩
      have HB6 : Hid (Below w.heap.size w w6) := HB5.out.trans (hb6.mono HB5.out.size)
      obtain ⟨SQ, hSQ⟩ : ∃ S, S = (if validB q = true then bx (textT q) else (⟨#[]⟩ : ByteArray)) := ⟨_, rfl⟩
      rw [← hSQ] at he
      have HSQ := Lib.hid hSQ
      obtain ⟨EQ, hEQ⟩ : ∃ E : Int, E = (if validB q = true then 0 else 4) := ⟨_, rfl⟩
      rw [← hEQ] at he
      have HEQ := Lib.hid hEQ
      subst he
      clear hb6 hSQ hEQ HPP HPQ
      cases hv : validB p with
      | false =>
        have h1 : EP = 4 := by rw [HEP.out, hv, if_neg (by simp)]
        subst h1
        clear hv
        go_wp2_with fail
        refine (HAW.out _ HB6.out).mono ?_
        rintro _ w7 ⟨rfl, hb7⟩
        have HB7 : Hid (Below w.heap.size w w7) := HB6.out.trans (hb7.mono HB6.out.size)
        clear hb7
        go_wp2_with fail
        go_ret
        exact ⟨rfl, HB7.out⟩
      | true =>
        have h1 : EP = 0 := by rw [HEP.out, hv, if_pos rfl]
        subst h1
        have HVP := Lib.hid hv
        clear hv
        cases hv : validB q with
        | false =>
          have h1 : EQ = 4 := by rw [HEQ.out, hv, if_neg (by simp)]
          subst h1
          clear hv
          go_wp2_with fail
          refine (HAW.out _ HB6.out).mono ?_
          rintro _ w7 ⟨rfl, hb7⟩
          have HB7 : Hid (Below w.heap.size w w7) := HB6.out.trans (hb7.mono HB6.out.size)
          clear hb7
          go_wp2_with fail
          go_ret
          exact ⟨rfl, HB7.out⟩
        | true =>
          have h1 : EQ = 0 := by rw [HEQ.out, hv, if_pos rfl]
          subst h1
          have HTP : Hid (Core.Told p ∧ Core.Told q) := ⟨valid_told HVP.out HF.out.1, valid_told hv HF.out.2⟩
          have HSP1 : Hid (SP = bx (textT p)) := by show _ = _; rw [HSP.out, HVP.out, if_pos rfl]
          have HSQ1 : Hid (SQ = bx (textT q)) := by show _ = _; rw [HSQ.out, hv, if_pos rfl]
          have HBE : Hid ((SP.toList == SQ.toList) = decide (p = q)) := by
            show _ = _
            rw [HSP1.out, HSQ1.out, bx_beq]
            by_cases e : p = q
            · rw [e, decide_eq_true rfl]; simp
            · rw [decide_eq_false e, beq_eq_false_iff_ne]
              exact fun h => e (text_inj p q (told_good HTP.out.1) (told_good HTP.out.2) h)
          obtain ⟨sz, hsz⟩ : ∃ s, s = SP.size := ⟨_, rfl⟩
          have HSZ := Lib.hid hsz
          have hsl : sz = (textT p).length := by rw [hsz, HSP1.out, bx_size]
          have HSL := Lib.hid hsl
          have hsz1 : sz ≤ 100000 := by rw [hsl]; exact text_len p HTP.out.1
          have hsz2 : SP.size = sz := hsz.symm
          clear hv HSP HSQ HEP HEQ HO3 HLQ HLP hsl hsz
          go_wp2_with fail
          go_loopg [9, 11] sz (fun d s i W => ∃ (j nn : Nat), j + d = sz ∧ i = .int .i64 j ∧ s = .int .i64 (nn : Int) ∧ Hid (nn = ((textT p).take j).count 10) ∧ Hid (Below w.heap.size w W))
          case atStart => exact ⟨0, 0, by omega, rfl, rfl, by show _ = _; simp, HB6.out⟩
          case round =>
            obtain ⟨j, nn, hjd, rfl, rfl, hnn, hB⟩ := hrel
            have hnl : nn ≤ sz := by
              rw [hnn.out, HSL.out]
              exact Nat.le_trans List.count_le_length (by rw [List.length_take]; exact Nat.min_le_right _ _)
            by_cases hj : j < sz
            · have hj1 : (j : Int) < (sz : Int) := by omega
              have hj2 : decide ((j : Int) < (sz : Int)) = true := decide_eq_true hj1
              have hj0 : (0 : Int) ≤ (j : Int) := by omega
              have hjw : wrap64 ((j : Int) + 1) = ((j + 1 : Nat) : Int) := by unfold wrap64; omega
              have hnw : wrap64 ((nn : Int) + 1) = ((nn + 1 : Nat) : Int) := by unfold wrap64; omega
              have hjl : j < (textT p).length := by rw [← HSL.out]; exact hj
              have hch : ∀ h : j < SP.size, SP[j]'h = (textT p)[j] := fun h => bx_get (textT p) SP HSP1.out j hjl h
              have hcs := count_step (textT p) j hjl
              obtain ⟨ch, hcc⟩ : ∃ x, (textT p)[j] = x := ⟨_, rfl⟩
              rw [hcc] at hch hcs
              have HJD := Lib.hid hjd
              have HCS := Lib.hid hcs
              clear hjd hcc hcs hjl
              by_cases h10 : ch = 10
              · subst h10
                have HN2 : Hid (nn + 1 = ((textT p).take (j + 1)).count 10) := by show _ = _; rw [HCS.out, if_pos rfl, hnn.out]
                go_wp2_with fail
                go_roundg (sz - (j + 1))
                case measure => exact step_lt HJD.out hj
                case rel => exact ⟨j + 1, nn + 1, step_eq hj, by go_num, by go_num, HN2.out, hB.out⟩
              · have n10 : (((ch.toNat : Nat) : Int) == 10) = false := u8_nek (by decide) h10
                have HN2 : Hid (nn = ((textT p).take (j + 1)).count 10) := by show _ = _; rw [HCS.out, if_neg h10, hnn.out, Nat.add_zero]
                clear h10
                go_wp2_with fail
                go_roundg (sz - (j + 1))
                case measure => exact step_lt HJD.out hj
                case rel => exact ⟨j + 1, nn, step_eq hj, by go_num, rfl, HN2.out, hB.out⟩
            · have hj1 : ¬ (j : Int) < (sz : Int) := by omega
              have hj2 : decide ((j : Int) < (sz : Int)) = false := decide_eq_false hj1
              have hjs : j = sz := by omega
              have HNN : Hid (nn = p.length + (p.map fun f => f.2.length).sum) := by
                show _ = _
                rw [hnn.out, hjs, HSL.out, List.take_length]
                unfold textT
                rw [count_join _ (fun l hl => (linesT_ok p (told_good HTP.out.1).2 l hl).1), linesT_len]
              have hn20 : n ≤ 20 := by rw [HN.out]; exact HTP.out.1.1
              clear hjd hjs hnn
              go_wp2_with fail
              go_loopg [10, 12] n (fun d s i W => ∃ (r mm : Nat), r + d = n ∧ i = .int .i64 r ∧ s = .int .i64 (mm : Int) ∧ Hid (mm = n + ((p.take r).map fun f => f.2.length).sum) ∧ Hid (Below w.heap.size w W))
              case atStart => exact ⟨0, n, by omega, rfl, rfl, by show _ = _; simp, hB.out⟩
              case round =>
                obtain ⟨r, mm, hrd, rfl, rfl, hmm, hB2⟩ := hrel
                have hml : mm ≤ 10000 := by
                  rw [hmm.out]
                  have h1 := sum_le (p.take r) (fun f hf => HLL.out.2 f (List.mem_of_mem_take hf))
                  rw [List.length_take] at h1
                  have := HLL.out.1
                  omega
                by_cases hr : r < n
                · have hr1 : (r : Int) < (n : Int) := by omega
                  have hr2 : decide ((r : Int) < (n : Int)) = true := decide_eq_true hr1
                  have hr0 : (0 : Int) ≤ (r : Int) := by omega
                  have hrw : wrap64 ((r : Int) + 1) = ((r + 1 : Nat) : Int) := by unfold wrap64; omega
                  have hrp : r < p.length := by rw [← HN.out]; exact hr
                  obtain ⟨ad, A1, c1, hA, f0, f1, hl, hC1⟩ := at_T39 (HCC.out wr hB2.out) r hr0 hr1
                  subst hA
                  rw [rd39 p r hrp, Int.toNat_natCast] at f1
                  have hss := sum_step p r hrp
                  have hf70 : (p.getD r (0, [])).2.length ≤ 70 := by
                    rw [List.getD, List.getElem?_eq_getElem hrp]
                    exact HLL.out.2 _ (List.getElem_mem hrp)
                  obtain ⟨f, hf⟩ : ∃ f, p.getD r (0, []) = f := ⟨_, rfl⟩
                  rw [hf] at f1 hss hf70
                  rw [show (RT.toP f).f1.length = f.2.length by simp [RT.toP]] at f1
                  obtain ⟨cl, hcl⟩ : ∃ cl, cl = f.2.length := ⟨_, rfl⟩
                  rw [← hcl] at f1 hss hf70
                  have hmw : wrap64 ((mm : Int) + (cl : Int)) = ((mm + cl : Nat) : Int) := by unfold wrap64; omega
                  have HM2 : Hid (mm + cl = n + ((p.take (r + 1)).map fun f => f.2.length).sum) := by show _ = _; rw [hss, hmm.out]; omega
                  have HRD := Lib.hid hrd
                  clear hrd hrp f0 hl hC1 hss hf hcl
                  go_wp2_with fail
                  go_roundg (n - (r + 1))
                  case measure => exact step_lt HRD.out hr
                  case rel => exact ⟨r + 1, mm + cl, step_eq hr, by go_num, by go_num, HM2.out, hB2.out⟩
                · have hr1 : ¬ (r : Int) < (n : Int) := by omega
                  have hr2 : decide ((r : Int) < (n : Int)) = false := decide_eq_false hr1
                  obtain rfl : nn = mm := by
                    rw [HNN.out, hmm.out, List.take_of_length_le (by have := HN.out; omega), ← HN.out]
                  have hbe : (((nn : Nat) : Int) == ((nn : Nat) : Int)) = true := beq_self_eq_true _
                  clear hrd hmm HNN
                  cases hd : decide (p = q) with
                  | true =>
                    have hse : (SP.toList == SQ.toList) = true := by rw [HBE.out, hd]
                    rw [hd] at HT3
                    clear hd
                    go_wp2_with fail
                    refine (HO2.out _ hB2.out).mono ?_
                    rintro _ w7 ⟨A4, c4, rfl, hc4, hC4, hb7⟩
                    have HB7 : Hid (Below w.heap.size w w7) := hB2.out.trans (hb7.mono hB2.out.size)
                    have HT7 := Lib.hid (HT3.out A4 c4 w7 HB7.out hC4 hc4)
                    clear hc4 hC4 hb7
                    go_wp2_with fail
                    refine HT7.out.mono ?_
                    rintro _ w8 ⟨rfl, hb8⟩
                    have HB8 : Hid (Below w.heap.size w w8) := HB7.out.trans (hb8.mono HB7.out.size)
                    clear hb8
                    go_wp2_with fail
                    refine (HAW.out _ HB8.out).mono ?_
                    rintro _ w9 ⟨rfl, hb9⟩
                    have HB9 : Hid (Below w.heap.size w w9) := HB8.out.trans (hb9.mono HB8.out.size)
                    clear hb9
                    go_wp2_with fail
                    go_ret
                    exact ⟨rfl, HB9.out⟩
                  | false =>
                    have hse : (SP.toList == SQ.toList) = false := by rw [HBE.out, hd]
                    rw [hd] at HT3
                    clear hd
                    go_wp2_with fail
                    refine (HO2.out _ hB2.out).mono ?_
                    rintro _ w7 ⟨A4, c4, rfl, hc4, hC4, hb7⟩
                    have HB7 : Hid (Below w.heap.size w w7) := hB2.out.trans (hb7.mono hB2.out.size)
                    have HT7 := Lib.hid (HT3.out A4 c4 w7 HB7.out hC4 hc4)
                    clear hc4 hC4 hb7
                    go_wp2_with fail
                    refine HT7.out.mono ?_
                    rintro _ w8 ⟨rfl, hb8⟩
                    have HB8 : Hid (Below w.heap.size w w8) := HB7.out.trans (hb8.mono HB7.out.size)
                    clear hb8
                    go_wp2_with fail
                    refine (HAW.out _ HB8.out).mono ?_
                    rintro _ w9 ⟨rfl, hb9⟩
                    have HB9 : Hid (Below w.heap.size w w9) := HB8.out.trans (hb9.mono HB8.out.size)
                    clear hb9
                    go_wp2_with fail
                    go_ret
                    exact ⟨rfl, HB9.out⟩
theorem walk (w : World) (hT : TabB w) (A0 : Option Addr) (c0 : Nat) (l0 : List (S39)) (hr0 : Kd.C k39 w A0 l0.length l0) (hc0 : l0.length ≤ c0) (w0 : (∀ e ∈ l0, w39 e)) (A1 : Option Addr) (c1 : Nat) (l1 : List (S39)) (hr1 : Kd.C k39 w A1 l1.length l1) (hc1 : l1.length ≤ c1) (w1 : (∀ e ∈ l1, w39 e)) :
    Calls Tryz.prog 5 #[.slice A0 l0.length c0, .slice A1 l1.length c1] w fun e w' => e = .returned (.bool true) ∧ Below w.heap.size w w' := by
  have hm := map_of l0
  have hl : (l0.map fnOf).length = l0.length := List.length_map _
  have hm1 := map_of l1
  have hl1 : (l1.map fnOf).length = l1.length := List.length_map _
  have h := walk_p w hT (l0.map fnOf) (l1.map fnOf) (four_of l0) (four_of l1) A0 c0 (by rw [hm, hl]; exact hr0) (by rw [hl]; exact hc0) A1 c1 (by rw [hm1, hl1]; exact hr1) (by rw [hl1]; exact hc1)
  rwa [hl, hl1] at h
end Go.Proofs.YtcchoeomeklgmaaGreatDoor.RAsmCounts
