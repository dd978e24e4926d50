/- told at any two programs: the walk. Printed by gen_q2.py. -/
import Derived.Test.YtcchoeomeklgmaaGreatDoorQ1
namespace Go.Proofs.YtcchoeomeklgmaaGreatDoor.Core
open Go.RowKit Go.Shelf Go.Proofs.YtcchoeomeklgmaaGreatDoorW.PrintWords Go.Proofs.YtcchoeomeklgmaaGreatDoorW.PrintMore Go.Proofs.YtcchoeomeklgmaaGreatDoor.P1 Go.Proofs.YtcchoeomeklgmaaGreatDoor
open Go.Proofs.YtcchoeomeklgmaaGreatDoor.PAsmPrints (S56 k56 z56 S49 k49 z49 at_T49 at_T56 rd_T49 rd_T56 S59 k59 z59 S39 k39 z39 at_T39 at_T59 rd_T39 rd_T59)
set_option linter.unusedVariables false
set_option linter.unusedSimpArgs false
theorem last_eq {m j : Nat} (h1 : m < j + 1) (h2 : ¬ m < j) : m = j := by omega
theorem four_ext {a b : Int × List Int} (ha : a.2.length = 4) (hb : b.2.length = 4) (h : toI a = toI b) : a = b := by
  rw [← four_is a ha, ← four_is b hb]
  unfold toI at h
  simp only [S56.mk.injEq] at h
  rw [h.1, h.2.1, h.2.2.1, h.2.2.2.1, h.2.2.2.2]
theorem prog_ext {p q : List Fn} (hl : p.length = q.length) (h : ∀ m, m < p.length → p.getD m (0, []) = q.getD m (0, [])) : p = q := by
  refine List.ext_getElem hl fun m h1 h2 => ?_
  have := h m h1
  simpa [List.getD, List.getElem?_eq_getElem h1, List.getElem?_eq_getElem h2] using this
theorem code_ext {p q : List (Int × List Int)} (hl : p.length = q.length) (h : ∀ m, m < p.length → p.getD m (0, []) = q.getD m (0, [])) : p = q := by
  refine List.ext_getElem hl fun m h1 h2 => ?_
  have := h m h1
  simpa [List.getD, List.getElem?_eq_getElem h1, List.getElem?_eq_getElem h2] using this
theorem four_at {p : List Fn} (h : Four p) (q r : Nat) (hq : q < p.length) (hr : r < (p.getD q (0, [])).2.length) : ((p.getD q (0, [])).2.getD r (0, [])).2.length = 4 := by
  have e : p.getD q (0, []) = p[q] := by rw [List.getD, List.getElem?_eq_getElem hq]; rfl
  rw [e] at hr ⊢
  have e2 : p[q].2.getD r (0, []) = p[q].2[r] := by rw [List.getD, List.getElem?_eq_getElem hr]; rfl
  rw [e2]
  exact h _ (List.getElem_mem hq) _ (List.getElem_mem hr)
set_option maxRecDepth 100000 in
set_option maxHeartbeats 16000000 in
theorem told_gen (p q : List Fn) (hp4 : Four p) (hq4 : Four q) (hq : lightB q = true) (hpl : p.length ≤ 900) (hpc : ∀ f ∈ p, f.2.length ≤ 1000) (A0 A1 : Option Addr) (c0 c1 : Nat) (w : World) (hC0 : Kd.C k49 w A0 p.length (p.map toP)) (hc0 : p.length ≤ c0) (hC1 : Kd.C k39 w A1 q.length (q.map RT.toP)) (hc1 : q.length ≤ c1) :
    Calls Tryz.prog 13 #[.slice A0 p.length c0, .slice A1 q.length c1] w fun e w' => e = .returned (.bool (decide (p = q))) ∧ Below w.heap.size w w' := by
  have HOF := Lib.hid (of_any q hq A1 c1 w hC1 hc1)
  obtain ⟨lq1, lq2⟩ := light_parts hq
  have HF4 : Hid (Four p ∧ Four q) := ⟨hp4, hq4⟩
  have HPC : Hid (∀ m, m < p.length → (p.getD m (0, [])).2.length ≤ 1000) := fun m hm => by
    have e : p.getD m (0, []) = p[m] := by rw [List.getD, List.getElem?_eq_getElem hm]; rfl
    rw [e]
    exact hpc _ (List.getElem_mem hm)
  have HC0 := Lib.hid hC0
  obtain ⟨n, hn⟩ : ∃ n, n = p.length := ⟨_, rfl⟩
  obtain ⟨n2, hn2⟩ : ∃ n, n = q.length := ⟨_, rfl⟩
  obtain ⟨B, hB⟩ : ∃ B, B = decide (p = q) := ⟨_, rfl⟩
  rw [← hB]
  rw [← hn2] at HOF lq1 hc1 ⊢
  rw [← hn] at HC0 hpl hc0 ⊢
  have HN := Lib.hid hn
  have HN2 := Lib.hid hn2
  have HB := Lib.hid hB
  by_cases hnn : n = n2
  · subst hnn
    clear hC0 hC1 hB hn hn2 hp4 hq4 hq hpc lq2
    go_enter Tryz.func13, Tryz.ntmps13
    go_wp2_with fail
    refine HOF.out.mono ?_
    rintro _ w1 ⟨A2, c2, rfl, hc2, hC2, hb1⟩
    have HC2 := Lib.hid hC2
    have HB1 := Lib.hid hb1
    have HC1 : Hid (Kd.C k49 w1 A0 n (p.map toP)) := Kd.C_below HC0.out hb1
    have hnn : ((n : Int) != (n : Int)) = false := by simp
    clear hC2 hb1 HC0
    go_wp2_with fail
    go_loopg [6] n (fun d i W => ∃ qq : Nat, qq + d = n ∧ i = .int .i64 qq ∧ Hid (Below w1.heap.size w1 W) ∧ Hid (∀ m, m < qq → p.getD m (0, []) = q.getD m (0, [])))
    case atStart => exact ⟨0, by omega, rfl, Below.refl _ _, fun m hm => absurd hm (by omega)⟩
    case round =>
      obtain ⟨qq, hqd, rfl, hB, hAL⟩ := hrel
      by_cases hq : qq < n
      · have hq1 : (qq : Int) < (n : Int) := by omega
        have hq2 : decide ((qq : Int) < (n : Int)) = true := decide_eq_true hq1
        have hq0 : (0 : Int) ≤ (qq : Int) := by omega
        have hqw : wrap64 ((qq : Int) + 1) = ((qq + 1 : Nat) : Int) := by unfold wrap64; omega
        have hqp : qq < p.length := by rw [← HN.out]; exact hq
        have hqq : qq < q.length := by rw [← HN2.out]; exact hq
        obtain ⟨ad0, B0, e0, rfl, f00, f01, hl0, hD0⟩ := at_T49 (Kd.C_below HC1.out hB.out) qq hq0 hq1
        obtain ⟨ad2, B2, e2, rfl, f20, f21, hl2, hD2⟩ := at_T49 (Kd.C_below HC2.out hB.out) qq hq0 hq1
        rw [rd49 p qq hqp, Int.toNat_natCast] at f00 f01
        rw [rd49 p qq hqp] at hl0 hD0
        rw [rd49 q qq hqq, Int.toNat_natCast] at f20 f21
        rw [rd49 q qq hqq] at hl2 hD2
        have hm := HPC.out qq hqp
        have HFA : Hid (∀ r, r < (p.getD qq (0, [])).2.length → ((p.getD qq (0, [])).2.getD r (0, [])).2.length = 4) := fun r hr => four_at HF4.out.1 qq r hqp hr
        have HFB : Hid (∀ r, r < (q.getD qq (0, [])).2.length → ((q.getD qq (0, [])).2.getD r (0, [])).2.length = 4) := fun r hr => four_at HF4.out.2 qq r hqq hr
        have HNE : Hid (p.getD qq (0, []) ≠ q.getD qq (0, []) → B = false) := fun h => by
          rw [HB.out]
          exact decide_eq_false (fun e => h (by rw [e]))
        have HALL : Hid (p.getD qq (0, []) = q.getD qq (0, []) → ∀ m, m < qq + 1 → p.getD m (0, []) = q.getD m (0, [])) := fun h m hm => by
          by_cases hmq : m < qq
          · exact hAL.out m hmq
          · obtain rfl : m = qq := last_eq hm hmq
            exact h
        obtain ⟨fp, hfp⟩ : ∃ f, p.getD qq (0, []) = f := ⟨_, rfl⟩
        obtain ⟨fq, hfq⟩ : ∃ f, q.getD qq (0, []) = f := ⟨_, rfl⟩
        rw [hfp] at f00 f01 hl0 hD0 hm HFA HNE HALL
        rw [hfq] at f20 f21 hl2 hD2 HFB HNE HALL
        change _ = some (Value.int .i64 fp.1) at f00
        change _ = some (Value.int .i64 fq.1) at f20
        rw [show (toP fp).f1.length = fp.2.length by simp [toP]] at f01 hl0 hD0
        rw [show (toP fq).f1.length = fq.2.length by simp [toP]] at f21 hl2 hD2
        change Kd.C k56 _ _ _ (fp.2.map toI) at hD0
        change Kd.C k56 _ _ _ (fq.2.map toI) at hD2
        obtain ⟨cl, hcl⟩ : ∃ m, m = fp.2.length := ⟨_, rfl⟩
        obtain ⟨cm, hcm⟩ : ∃ m, m = fq.2.length := ⟨_, rfl⟩
        rw [← hcl] at f01 hl0 hD0 hm
        rw [← hcm] at f21 hl2 hD2
        have HCL := Lib.hid hcl
        have HCM := Lib.hid hcm
        have HD0 := Lib.hid hD0
        have HD2 := Lib.hid hD2
        have HQD := Lib.hid hqd
        clear hfp hfq hcl hcm hD0 hD2 hqd hqp hqq hAL
        by_cases har : fp.1 = fq.1
        · have g00 : (fp.1 != fq.1) = false := by rw [har]; simp
          by_cases hlen : cl = cm
          · subst hlen
            have g01 : ((cl : Int) != (cl : Int)) = false := by simp
            have HX0 := Lib.hid f01
            have HX2 := Lib.hid f21
            have HAR := Lib.hid har
            have HFEQ : Hid ((∀ m, m < cl → fp.2.getD m (0, []) = fq.2.getD m (0, [])) → fp = fq) := fun h => by
              refine Prod.ext har (code_ext (HCL.out.symm.trans HCM.out) (fun m hm => h m (by rw [HCL.out]; exact hm)))
            clear har
            go_wp2_with fail
            go_quiet (fail)
            clear f00 f01 f20 f21 g00
            go_wp2_with fail
            go_loopg [7] cl (fun d i W => ∃ j : Nat, j + d = cl ∧ i = .int .i64 j ∧ Hid (Below wr.heap.size wr W) ∧ Hid (∀ m, m < j → fp.2.getD m (0, []) = fq.2.getD m (0, [])))
            case atStart => exact ⟨0, by omega, rfl, pw_below_drewN (Below.refl _ _) _, fun m hm => absurd hm (by omega)⟩
            case round =>
              obtain ⟨j, hjd, rfl, hB2, hIJ⟩ := hrel
              have x0 := (hB2.out.cell (World.block_lt_of_cell? _ _ HX0.out)).trans HX0.out
              have x2 := (hB2.out.cell (World.block_lt_of_cell? _ _ HX2.out)).trans HX2.out
              by_cases hj : j < cl
              · have hj1 : (j : Int) < (cl : Int) := by omega
                have hj2 : decide ((j : Int) < (cl : Int)) = true := decide_eq_true hj1
                have hj0 : (0 : Int) ≤ (j : Int) := by omega
                have hjw : wrap64 ((j : Int) + 1) = ((j + 1 : Nat) : Int) := by unfold wrap64; omega
                have hjp : j < fp.2.length := by rw [← HCL.out]; exact hj
                have hjq : j < fq.2.length := by rw [← HCM.out]; exact hj
                obtain ⟨ad3, rfl, i0, i1, i2, i3, i4⟩ := at_T56 (Kd.C_below HD0.out hB2.out) j hj0 hj1
                obtain ⟨ad4, rfl, j0, j1, j2, j3, j4⟩ := at_T56 (Kd.C_below HD2.out hB2.out) j hj0 hj1
                rw [rd56 _ j hjp, Int.toNat_natCast] at i0 i1 i2 i3 i4
                rw [rd56 _ j hjq, Int.toNat_natCast] at j0 j1 j2 j3 j4
                have HNE : Hid (toI (fp.2.getD j (0, [])) ≠ toI (fq.2.getD j (0, [])) → B = false) := fun h => HNE.out (fun e => h (by rw [e]))
                have HEQ : Hid (toI (fp.2.getD j (0, [])) = toI (fq.2.getD j (0, [])) → ∀ m, m < j + 1 → fp.2.getD m (0, []) = fq.2.getD m (0, [])) := fun h m hm => by
                  by_cases hmj : m < j
                  · exact hIJ.out m hmj
                  · obtain rfl : m = j := last_eq hm hmj
                    exact four_ext (HFA.out m hjp) (HFB.out m hjq) h
                obtain ⟨y, hy⟩ : ∃ y, toI (fp.2.getD j (0, [])) = y := ⟨_, rfl⟩
                obtain ⟨u, hu⟩ : ∃ y, toI (fq.2.getD j (0, [])) = y := ⟨_, rfl⟩
                rw [hy] at i0 i1 i2 i3 i4 HNE HEQ
                rw [hu] at j0 j1 j2 j3 j4 HNE HEQ
                obtain ⟨y0, y1, y2, y3, y4⟩ := y
                obtain ⟨u0, u1, u2, u3, u4⟩ := u
                simp only at i0 i1 i2 i3 i4 j0 j1 j2 j3 j4
                have HNE : Hid (¬ (y0 = u0 ∧ y1 = u1 ∧ y2 = u2 ∧ y3 = u3 ∧ y4 = u4) → B = false) := fun h => HNE.out (fun e => h (by simpa using e))
                have HJD := Lib.hid hjd
                clear hy hu hjp hjq hIJ x0 x2
                have x0 := (hB2.out.cell (World.block_lt_of_cell? _ _ HX0.out)).trans HX0.out
                have x2 := (hB2.out.cell (World.block_lt_of_cell? _ _ HX2.out)).trans HX2.out
                by_cases e0 : y0 = u0
                · subst e0
                  by_cases e1 : y1 = u1
                  · subst e1
                    by_cases e2 : y2 = u2
                    · subst e2
                      by_cases e3 : y3 = u3
                      · subst e3
                        by_cases e4 : y4 = u4
                        · subst e4
                          have HIJ : Hid (∀ m, m < j + 1 → fp.2.getD m (0, []) = fq.2.getD m (0, [])) := HEQ.out rfl
                          clear hjd
                          go_wp2_with fail
                          go_quiet (fail)
                          go_wp2_with fail
                          go_roundg (cl - (j + 1))
                          case measure => exact step_lt HJD.out hj
                          case rel => exact ⟨j + 1, step_eq hj, by go_num, pw_below_drewN hB2.out _, HIJ.out⟩
                        · have b4 : (y4 == u4) = false := beq_eq_false_iff_ne.2 e4
                          have HBF := Lib.hid (HNE.out (by simp; omega))
                          clear HNE HEQ e4
                          clear hjd
                          go_wp2_with fail
                          go_quiet (fail)
                          go_wp2_with fail
                          go_ret
                          rw [HBF.out]
                          exact ⟨rfl, HB1.out.trans ((hB.out.trans ((pw_below_drewN hB2.out _).mono hB.out.size)).mono HB1.out.size)⟩
                      · have b3 : (y3 == u3) = false := beq_eq_false_iff_ne.2 e3
                        have HBF := Lib.hid (HNE.out (by simp; omega))
                        clear HNE HEQ e3
                        clear hjd
                        go_wp2_with fail
                        go_quiet (fail)
                        go_wp2_with fail
                        go_ret
                        rw [HBF.out]
                        exact ⟨rfl, HB1.out.trans ((hB.out.trans ((pw_below_drewN hB2.out _).mono hB.out.size)).mono HB1.out.size)⟩
                    · have b2 : (y2 == u2) = false := beq_eq_false_iff_ne.2 e2
                      have HBF := Lib.hid (HNE.out (by simp; omega))
                      clear HNE HEQ e2
                      clear hjd
                      go_wp2_with fail
                      go_quiet (fail)
                      go_wp2_with fail
                      go_ret
                      rw [HBF.out]
                      exact ⟨rfl, HB1.out.trans ((hB.out.trans ((pw_below_drewN hB2.out _).mono hB.out.size)).mono HB1.out.size)⟩
                  · have b1 : (y1 == u1) = false := beq_eq_false_iff_ne.2 e1
                    have HBF := Lib.hid (HNE.out (by simp; omega))
                    clear HNE HEQ e1
                    clear hjd
                    go_wp2_with fail
                    go_quiet (fail)
                    go_wp2_with fail
                    go_ret
                    rw [HBF.out]
                    exact ⟨rfl, HB1.out.trans ((hB.out.trans ((pw_below_drewN hB2.out _).mono hB.out.size)).mono HB1.out.size)⟩
                · have b0 : (y0 == u0) = false := beq_eq_false_iff_ne.2 e0
                  have HBF := Lib.hid (HNE.out (by simp; omega))
                  clear HNE HEQ e0
                  clear hjd
                  go_wp2_with fail
                  go_quiet (fail)
                  go_wp2_with fail
                  go_ret
                  rw [HBF.out]
                  exact ⟨rfl, HB1.out.trans ((hB.out.trans ((pw_below_drewN hB2.out _).mono hB.out.size)).mono HB1.out.size)⟩
              · have hj1 : ¬ (j : Int) < (cl : Int) := by omega
                have hj2 : decide ((j : Int) < (cl : Int)) = false := decide_eq_false hj1
                have hjc : j = cl := by omega
                have HA9 : Hid (∀ m, m < qq + 1 → p.getD m (0, []) = q.getD m (0, [])) := HALL.out (HFEQ.out (fun m hm => hIJ.out m (by rw [hjc]; exact hm)))
                clear hjd hjc
                go_wp2_with fail
                go_roundg (n - (qq + 1))
                case measure => exact step_lt HQD.out hq
                case rel => exact ⟨qq + 1, step_eq hq, by go_num, hB.out.trans (hB2.out.mono hB.out.size), HA9.out⟩
          · have g01 : ((cl : Int) != (cm : Int)) = true := bne_iff_ne.2 (by omega)
            have HBF : Hid (B = false) := HNE.out (fun e => hlen (by rw [HCL.out, HCM.out, e]))
            clear hlen har
            go_wp2_with fail
            go_quiet (fail)
            go_wp2_with fail
            go_ret
            rw [HBF.out]
            exact ⟨rfl, HB1.out.trans ((pw_below_drewN hB.out _).mono HB1.out.size)⟩
        · have g00 : (fp.1 != fq.1) = true := bne_iff_ne.2 har
          have HBF : Hid (B = false) := HNE.out (fun e => har (by rw [e]))
          clear har
          go_wp2_with fail
          go_quiet (fail)
          go_wp2_with fail
          go_ret
          rw [HBF.out]
          exact ⟨rfl, HB1.out.trans ((pw_below_drewN hB.out _).mono HB1.out.size)⟩
      · have hq1 : ¬ (qq : Int) < (n : Int) := by omega
        have hq2 : decide ((qq : Int) < (n : Int)) = false := decide_eq_false hq1
        have hqn : qq = n := by omega
        have HBT : Hid (B = true) := by
          show _ = _
          rw [HB.out]
          exact decide_eq_true (prog_ext (HN.out.symm.trans HN2.out) (fun m hm => hAL.out m (by rw [hqn, HN.out]; exact hm)))
        clear hqd hqn
        go_wp2_with fail
        go_ret
        rw [HBT.out]
        exact ⟨rfl, HB1.out.trans (hB.out.mono HB1.out.size)⟩
  · have HBF : Hid (B = false) := by
      show _ = _
      rw [hB]
      exact decide_eq_false (fun e => hnn (by rw [hn, hn2, e]))
    have hne : ((n : Int) != (n2 : Int)) = true := bne_iff_ne.2 (by omega)
    clear hC0 hC1 hB hn hn2 hp4 hq4 hq hpc lq2 hnn
    go_enter Tryz.func13, Tryz.ntmps13
    go_wp2_with fail
    refine HOF.out.mono ?_
    rintro _ w1 ⟨A2, c2, rfl, hc2, hC2, hb1⟩
    have HB1 := Lib.hid hb1
    clear hC2 hb1
    go_wp2_with fail
    go_ret
    rw [HBF.out]
    exact ⟨rfl, HB1.out⟩
end Go.Proofs.YtcchoeomeklgmaaGreatDoor.Core
