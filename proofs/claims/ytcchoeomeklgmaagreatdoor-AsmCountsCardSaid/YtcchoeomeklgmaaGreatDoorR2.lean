/- The document's check of a program: the walk. Printed by gen_r2.py. -/
import Derived.Test.YtcchoeomeklgmaaGreatDoorR1
namespace Go.Proofs.YtcchoeomeklgmaaGreatDoor.Core
open Go.RowKit Go.Shelf Go.Proofs.YtcchoeomeklgmaaGreatDoorW.PrintWords Go.Proofs.YtcchoeomeklgmaaGreatDoorW.PrintMore Go.Proofs.YtcchoeomeklgmaaGreatDoor.P1 Go.Proofs.YtcchoeomeklgmaaGreatDoor
open Go.Proofs.YtcchoeomeklgmaaGreatDoor.PAsmPrints (S56 k56 z56 S49 k49 z49 at_T49 at_T56 rd_T49 rd_T56 S59 k59 z59 S39 k39 z39 at_T39 at_T59 rd_T39 rd_T59)
set_option linter.unusedVariables false
set_option linter.unusedSimpArgs false
theorem rd39 (p : List Fn) (q : Nat) (hq : q < p.length) : rd_T39 (p.map RT.toP) q = RT.toP (p.getD q (0, [])) := by
  unfold rd_T39
  rw [Int.toNat_natCast, List.getD, List.getElem?_map, List.getD, List.getElem?_eq_getElem hq]
  rfl
theorem rd59 (l : List (Int × List Int)) (r : Nat) (hr : r < l.length) : rd_T59 (l.map RT.toI) r = RT.toI (l.getD r (0, [])) := by
  unfold rd_T59
  rw [Int.toNat_natCast, List.getD, List.getElem?_map, List.getD, List.getElem?_eq_getElem hr]
  rfl
theorem rinstr_at (p : List Fn) (A : Option Addr) (c : Nat) (w : World) (hC : Kd.C k39 w A p.length (p.map RT.toP)) (q : Nat) (hq : q < p.length) (f : Fn) (hf : p.getD q (0, []) = f) (i : Int × List Int) (W : World) (hb : Below w.heap.size w W) :
    Calls Tryz.prog 19 #[.slice A p.length c, .int .i64 q, .agg #[.int .i64 i.1, .int .i64 (i.2.getD 0 0), .int .i64 (i.2.getD 1 0), .int .i64 (i.2.getD 2 0), .int .i64 (i.2.getD 3 0)]] W (GivesE W (instrOk p f i)) := by
  have hC' := Kd.C_below hC hb
  refine rinstr3_any A p.length c f.2.length q i.1 _ _ _ _ (arOf p) W hq ?_ ?_
  · obtain ⟨ad, A1, c1, hA, f0, f1, hl, hC1⟩ := at_T39 hC' q (by omega) (by omega)
    rw [rd39 p q hq, hf, Int.toNat_natCast] at f1
    rw [show (RT.toP f).f1.length = f.2.length by simp [RT.toP]] at f1
    exact ⟨ad, A1, c1, hA, f1⟩
  · intro j hj
    obtain ⟨ad, A1, c1, hA, f0, f1, hl, hC1⟩ := at_T39 hC' j (by omega) (by omega)
    rw [rd39 p j hj, Int.toNat_natCast] at f0
    exact ⟨ad, hA, f0⟩
theorem GivesC.no {w w' : World} {ok : Bool} (a b er : Int) (h0 : er ≠ 0) (hok : ok = false) (hb : Below w.heap.size w w') : GivesC w ok (.returned (.tuple #[.int .i64 a, .int .i64 b, .int .i64 er])) w' := ⟨a, b, er, rfl, ⟨fun h => (by rw [hok] at h; cases h), fun h => absurd h h0⟩, hb⟩
theorem GivesC.yes {w w' : World} {ok : Bool} (hok : ok = true) (hb : Below w.heap.size w w') : GivesC w ok (.returned (.tuple #[.int .i64 0, .int .i64 0, .int .i64 0])) w' := ⟨0, 0, 0, rfl, ⟨fun _ => rfl, fun _ => hok⟩, hb⟩
set_option maxRecDepth 100000 in
set_option maxHeartbeats 16000000 in
theorem rcheck_any (p : List Fn) (A : Option Addr) (c : Nat) (w : World) (hC : Kd.C k39 w A p.length (p.map RT.toP)) :
    Calls Tryz.prog 9 #[.slice A p.length c] w (GivesC w (validB p)) := by
  have HVA : Hid (∀ (q : Nat), q < p.length → ∀ f, p.getD q (0, []) = f → ∀ (i : Int × List Int) (W : World), Below w.heap.size w W → Calls Tryz.prog 19 #[.slice A p.length c, .int .i64 q, .agg #[.int .i64 i.1, .int .i64 (i.2.getD 0 0), .int .i64 (i.2.getD 1 0), .int .i64 (i.2.getD 2 0), .int .i64 (i.2.getD 3 0)]] W (GivesE W (instrOk p f i))) := fun q hq f hf i W hb => rinstr_at p A c w hC q hq f hf i W hb
  obtain ⟨n, hn⟩ : ∃ n, n = p.length := ⟨_, rfl⟩
  obtain ⟨B, hB⟩ : ∃ B, B = validB p := ⟨_, rfl⟩
  rw [← hB]
  rw [← hn] at hC HVA ⊢
  have HN := Lib.hid hn
  have HB := Lib.hid hB
  have HC := Lib.hid hC
  clear hn hB hC
  by_cases hn1 : n ≤ 16 ∧ 1 ≤ n
  · obtain ⟨ha, hb⟩ := hn1
    have g1 : decide ((n : Int) < 1) = false := decide_eq_false (by omega)
    have g2 : decide ((n : Int) > 16) = false := decide_eq_false (by omega)
    go_enter Tryz.func9, Tryz.ntmps9
    go_wp2_with fail
    go_loopg [5] n (fun d i W => ∃ q : Nat, q + d = n ∧ i = .int .i64 q ∧ Hid (Below w.heap.size w W) ∧ Hid (∀ m, m < q → funcOk p (p.getD m (0, [])) = true))
    case atStart => exact ⟨0, by omega, rfl, Below.refl _ _, fun m hm => absurd hm (by omega)⟩
    case round =>
      obtain ⟨q, hqd, rfl, hZ, hok⟩ := hrel
      by_cases hq : q < n
      · have hq1 : (q : Int) < (n : Int) := by omega
        have hq2 : decide ((q : Int) < (n : Int)) = true := decide_eq_true hq1
        have hq0 : (0 : Int) ≤ (q : Int) := by omega
        have hqw : wrap64 ((q : Int) + 1) = ((q + 1 : Nat) : Int) := by unfold wrap64; omega
        have HQD := Lib.hid hqd
        have HQ := Lib.hid hq
        obtain ⟨ad, A1, c1, hA, f0, f1, hl, hC1⟩ := at_T39 HC.out q hq0 hq1
        subst hA
        have hql : q < p.length := by have := HN.out; omega
        rw [rd39 p q hql] at f0 f1 hl hC1
        obtain ⟨f, hf⟩ : ∃ f, p.getD q (0, []) = f := ⟨_, rfl⟩
        rw [hf] at f0 f1 hl hC1
        rw [Int.toNat_natCast] at f0 f1
        have HFQ := Lib.hid hf
        change w.cell? (ad.add (q * 2)) = some (.int .i64 f.1) at f0
        rw [show (RT.toP f).f1.length = f.2.length by simp [RT.toP]] at f1 hl hC1
        obtain ⟨cl, hcl⟩ : ∃ cl, cl = f.2.length := ⟨_, rfl⟩
        have HCL := Lib.hid hcl
        rw [← hcl] at f1 hl hC1
        have HCW : Hid (Kd.C k59 w A1 cl (f.2.map RT.toI)) := hC1
        have HF0 := Lib.hid f0
        have HF1 := Lib.hid f1
        have f0 := (hZ.out.cell (World.block_lt_of_cell? w _ HF0.out)).trans HF0.out
        have f1 := (hZ.out.cell (World.block_lt_of_cell? w _ HF1.out)).trans HF1.out
        have HNO : Hid (funcOk p f = false → B = false) := fun h => by
          rw [HB.out]
          exact valid_no (q := q) hql (by rw [hf]; exact h)
        have HOK10 : Hid (funcOk p f = true → ∀ m, m < q + 1 → funcOk p (p.getD m (0, [])) = true) := fun h m hm => by
          by_cases hmr : m < q
          · exact hok.out m hmr
          · obtain rfl : m = q := by omega
            rw [HFQ.out]
            exact h
        clear hf hC1 hqd hql hcl hok
        by_cases ha : 0 ≤ f.1 ∧ f.1 ≤ 4
        · obtain ⟨ha0, ha1⟩ := ha
          have a1 : decide (f.1 < 0) = false := decide_eq_false (by omega)
          have a2 : decide (f.1 > 4) = false := decide_eq_false (by omega)
          have HAA : Hid (0 ≤ f.1 ∧ f.1 ≤ 4) := ⟨ha0, ha1⟩
          by_cases hlen : 1 ≤ cl ∧ cl ≤ 64
          · obtain ⟨hl1, hl64⟩ := hlen
            have b1 : decide ((cl : Int) < 1) = false := decide_eq_false (by omega)
            have b2 : decide ((cl : Int) > 64) = false := decide_eq_false (by omega)
            have HLC : Hid (1 ≤ cl ∧ cl ≤ 64) := ⟨hl1, hl64⟩
            go_wp2_with fail
            clear f0 f1
            go_loopg [6] cl (fun d i W => ∃ (r : Nat), r + d = cl ∧ i = .int .i64 r ∧ Hid (Below w.heap.size w W) ∧ Hid (∀ m, m < r → instrOk p f (f.2.getD m (0, [])) = true))
            case atStart => exact ⟨0, by omega, rfl, hZ.out, fun m hm => absurd hm (by omega)⟩
            case round =>
              obtain ⟨r, hrd, rfl, hZ4, hok4⟩ := hrel
              have HRD := Lib.hid hrd
              have f1 := (hZ4.out.cell (World.block_lt_of_cell? w _ HF1.out)).trans HF1.out
              by_cases hr : r < cl
              · have hr1 : (r : Int) < (cl : Int) := by omega
                have hr2 : decide ((r : Int) < (cl : Int)) = true := decide_eq_true hr1
                have hr0 : (0 : Int) ≤ (r : Int) := by omega
                have hrw : wrap64 ((r : Int) + 1) = ((r + 1 : Nat) : Int) := by unfold wrap64; omega
                obtain ⟨ad3, hA3, i0, i1, i2, i3, i4⟩ := at_T59 (Kd.C_below HCW.out hZ4.out) r hr0 hr1
                subst hA3
                rw [rd59 _ r (by rw [← HCL.out]; exact hr), Int.toNat_natCast] at i0 i1 i2 i3 i4
                obtain ⟨i, hi⟩ : ∃ i, f.2.getD r (0, []) = i := ⟨_, rfl⟩
                rw [hi] at i0 i1 i2 i3 i4
                change _ = some (Value.int .i64 i.1) at i0
                change _ = some (Value.int .i64 (i.2.getD 0 0)) at i1
                change _ = some (Value.int .i64 (i.2.getD 1 0)) at i2
                change _ = some (Value.int .i64 (i.2.getD 2 0)) at i3
                change _ = some (Value.int .i64 (i.2.getD 3 0)) at i4
                have HVI : Hid (∀ (W : World), Below w.heap.size w W → Calls Tryz.prog 19 #[.slice (some ad) n c, .int .i64 q, .agg #[.int .i64 i.1, .int .i64 (i.2.getD 0 0), .int .i64 (i.2.getD 1 0), .int .i64 (i.2.getD 2 0), .int .i64 (i.2.getD 3 0)]] W (GivesE W (instrOk p f i))) := fun W hb => HVA.out q HQ.out f HFQ.out i W hb
                have HNI : Hid (instrOk p f i = false → B = false) := fun h => HNO.out (func_no (by rw [← HCL.out]; exact hr) (by rw [hi]; exact h))
                have HOK5 : Hid (instrOk p f i = true → ∀ m, m < r + 1 → instrOk p f (f.2.getD m (0, [])) = true) := fun h m hm => by
                  by_cases hmr : m < r
                  · exact hok4.out m hmr
                  · obtain rfl : m = r := by omega
                    rw [hi]
                    exact h
                generalize i.2.getD 0 0 = x1 at *
                generalize i.2.getD 1 0 = x2 at *
                generalize i.2.getD 2 0 = x3 at *
                generalize i.2.getD 3 0 = x4 at *
                obtain ⟨x0, hx0⟩ : ∃ x, i.1 = x := ⟨_, rfl⟩
                rw [hx0] at i0 HVI
                clear hrd hi hx0 hok4
                go_wp2_with fail
                refine (HVI.out _ hZ4.out).mono ?_
                rintro e w5 ⟨er, rfl, hiff, hb5⟩
                have HZ6 := Lib.hid (hZ4.out.trans (hb5.mono hZ4.out.size))
                have HIF := Lib.hid hiff
                clear hb5 hiff HVI
                by_cases her : er = 0
                · have HOK6 := Lib.hid (HOK5.out (HIF.out.1 her))
                  have e1 : (er != 0) = false := by rw [her]; rfl
                  clear i0 i1 i2 i3 i4 HOK5 HNI HIF her f1
                  go_wp2_with fail
                  go_roundg (cl - (r + 1))
                  case measure => exact step_lt HRD.out hr
                  case rel => exact ⟨r + 1, step_eq hr, by go_num, HZ6.out, HOK6.out⟩
                · have HBF : Hid (B = false) := HNI.out (by
                    cases hx : instrOk p f i with
                    | false => rfl
                    | true => exact absurd (HIF.out.2 hx) her)
                  have HER := Lib.hid her
                  have e1 : (er != 0) = true := bne_iff_ne.2 her
                  clear i0 i1 i2 i3 i4 HOK5 HNI HIF her f1
                  go_wp2_with fail
                  go_ret3
                  exact GivesC.no _ _ er HER.out HBF.out HZ6.out
              · have hr1 : ¬ (r : Int) < (cl : Int) := by omega
                have hr2 : decide ((r : Int) < (cl : Int)) = false := decide_eq_false hr1
                obtain rfl : r = cl := by omega
                have hlc := HLC.out
                have hm0 : (0 : Int) ≤ (r : Int) - 1 := by omega
                have hm1 : (r : Int) - 1 < (r : Int) := by omega
                obtain ⟨ad3, hA3, i0, _, _, _, _⟩ := at_T59 (Kd.C_below HCW.out hZ4.out) ((r : Int) - 1) hm0 hm1
                rw [show ((r : Int) - 1) = ((r - 1 : Nat) : Int) by omega, rd59 _ (r - 1) (by rw [← HCL.out]; omega)] at i0
                rw [show ((r - 1 : Nat) : Int) = (r : Int) - 1 by omega] at i0
                obtain ⟨o, ho⟩ : ∃ o, (f.2.getD (r - 1) (0, [])).1 = o := ⟨_, rfl⟩
                change _ = some (Value.int .i64 (f.2.getD (r - 1) (0, [])).1) at i0
                rw [ho] at i0
                have HFO : Hid (funcOk p f = (o == 9 || o == 16 || o == 17)) := by
                  show _ = _
                  rw [func_yes HAA.out (by rw [← HCL.out]; exact hlc) (fun m hm => hok4.out m (by rw [HCL.out]; exact hm))]
                  unfold lastOk
                  rw [← HCL.out, ho]
                have hw1 : IntKind.i64.wrap ((r : Int) - 1) = (r : Int) - 1 := by rw [IntKind.wrap_i64]; omega
                have hw2 : wrap64 ((r : Int) - 1) = (r : Int) - 1 := by unfold wrap64; omega
                have i00 := i0
                rw [show ((r : Int) - 1).toNat = r - 1 by omega] at i00
                subst hA3
                clear hlc ho hrd HRD hok4
                by_cases h9 : o = 9
                · have b9 : (o != 9) = false := by rw [h9]; rfl
                  have c9 : (o == 9) = true := by rw [h9]; rfl
                  clear h9
                  have HOK9 : Hid (∀ m, m < q + 1 → funcOk p (p.getD m (0, [])) = true) := HOK10.out (by rw [HFO.out, c9]; simp)
                  go_wp2_with fail
                  go_quiet (fail)
                  have HZ6 : Hid (Below w.heap.size w (wr.drewN nq)) := pw_below_drewN hZ4.out _
                  clear i0 i00 f1
                  go_wp2_with fail
                  go_roundg (n - (q + 1))
                  case measure => exact step_lt HQD.out hq
                  case rel => exact ⟨q + 1, step_eq hq, by go_num, HZ6.out, HOK9.out⟩
                · have b9 : (o != 9) = true := bne_iff_ne.2 h9
                  have c9 : (o == 9) = false := beq_eq_false_iff_ne.2 h9
                  by_cases h16 : o = 16
                  · have b16 : (o != 16) = false := by rw [h16]; rfl
                    have c16 : (o == 16) = true := by rw [h16]; rfl
                    clear h9 h16
                    have HOK9 : Hid (∀ m, m < q + 1 → funcOk p (p.getD m (0, [])) = true) := HOK10.out (by rw [HFO.out, c9, c16]; simp)
                    go_wp2_with fail
                    go_quiet (fail)
                    have HZ6 : Hid (Below w.heap.size w (wr.drewN nq)) := pw_below_drewN hZ4.out _
                    clear i0 i00 f1
                    go_wp2_with fail
                    go_roundg (n - (q + 1))
                    case measure => exact step_lt HQD.out hq
                    case rel => exact ⟨q + 1, step_eq hq, by go_num, HZ6.out, HOK9.out⟩
                  · have b16 : (o != 16) = true := bne_iff_ne.2 h16
                    have c16 : (o == 16) = false := beq_eq_false_iff_ne.2 h16
                    by_cases h17 : o = 17
                    · have b17 : (o != 17) = false := by rw [h17]; rfl
                      have c17 : (o == 17) = true := by rw [h17]; rfl
                      clear h9 h16 h17
                      have HOK9 : Hid (∀ m, m < q + 1 → funcOk p (p.getD m (0, [])) = true) := HOK10.out (by rw [HFO.out, c9, c16, c17]; simp)
                      go_wp2_with fail
                      go_quiet (fail)
                      have HZ6 : Hid (Below w.heap.size w (wr.drewN nq)) := pw_below_drewN hZ4.out _
                      clear i0 i00 f1
                      go_wp2_with fail
                      go_roundg (n - (q + 1))
                      case measure => exact step_lt HQD.out hq
                      case rel => exact ⟨q + 1, step_eq hq, by go_num, HZ6.out, HOK9.out⟩
                    · have b17 : (o != 17) = true := bne_iff_ne.2 h17
                      have c17 : (o == 17) = false := beq_eq_false_iff_ne.2 h17
                      clear h9 h16 h17
                      have HBF : Hid (B = false) := HNO.out (by rw [HFO.out, c9, c16, c17]; rfl)
                      go_wp2_with fail
                      go_quiet (fail)
                      go_wp2_with fail
                      go_quiet (fail)
                      go_wp2_with fail
                      go_ret3
                      exact GivesC.no _ _ 11 (by decide) HBF.out (pw_below_drewN (pw_below_drewN hZ4.out _) _)
          · have HBF : Hid (B = false) := HNO.out (by
              unfold funcOk
              rw [← HCL.out]
              by_cases h : 1 ≤ cl
              · rw [decide_eq_false (show ¬ cl ≤ 64 by omega)]; simp
              · rw [decide_eq_false h]; simp)
            by_cases h0 : 1 ≤ cl
            · have b1 : decide ((cl : Int) < 1) = false := decide_eq_false (by omega)
              have b2 : decide ((cl : Int) > 64) = true := decide_eq_true (by omega)
              clear hlen h0
              go_wp2_with fail
              go_ret3
              exact GivesC.no _ _ 3 (by decide) HBF.out hZ.out
            · have b1 : decide ((cl : Int) < 1) = true := decide_eq_true (by omega)
              clear hlen h0
              go_wp2_with fail
              go_ret3
              exact GivesC.no _ _ 3 (by decide) HBF.out hZ.out
        · have HBF : Hid (B = false) := HNO.out (by
            unfold funcOk
            by_cases h : 0 ≤ f.1
            · rw [decide_eq_false (show ¬ f.1 ≤ 4 by omega)]; simp
            · rw [decide_eq_false h]; simp)
          by_cases h0 : 0 ≤ f.1
          · have a1 : decide (f.1 < 0) = false := decide_eq_false (by omega)
            have a2 : decide (f.1 > 4) = true := decide_eq_true (by omega)
            clear ha h0
            go_wp2_with fail
            go_ret3
            exact GivesC.no _ _ 6 (by decide) HBF.out hZ.out
          · have a1 : decide (f.1 < 0) = true := decide_eq_true (by omega)
            clear ha h0
            go_wp2_with fail
            go_ret3
            exact GivesC.no _ _ 6 (by decide) HBF.out hZ.out
      · have hqn : q = n := by omega
        have HBT : Hid (B = true) := by
          show _ = _
          rw [HB.out]
          exact valid_yes (by rw [← HN.out]; exact hb) (by rw [← HN.out]; exact ha) (fun m hm => hok.out m (by rw [hqn, HN.out]; exact hm))
        have hq1 : ¬ (q : Int) < (n : Int) := by omega
        have hq2 : decide ((q : Int) < (n : Int)) = false := decide_eq_false hq1
        clear hqn hqd
        go_wp2_with fail
        go_ret3
        exact GivesC.yes HBT.out hZ.out
  · have HBF : Hid (B = false) := by
      show _ = _
      rw [HB.out]
      unfold validB
      rw [← HN.out]
      by_cases h1 : 1 ≤ n
      · rw [decide_eq_false (show ¬ n ≤ 16 by omega)]; simp
      · rw [decide_eq_false h1]; simp
    by_cases h1 : 1 ≤ n
    · have g1 : decide ((n : Int) < 1) = false := decide_eq_false (by omega)
      have g2 : decide ((n : Int) > 16) = true := decide_eq_true (by omega)
      clear hn1 h1
      go_enter Tryz.func9, Tryz.ntmps9
      go_wp2_with fail
      go_ret3
      exact GivesC.no _ _ 3 (by decide) HBF.out (Below.refl _ _)
    · have g1 : decide ((n : Int) < 1) = true := decide_eq_true (by omega)
      clear hn1 h1
      go_enter Tryz.func9, Tryz.ntmps9
      go_wp2_with fail
      go_ret3
      exact GivesC.no _ _ 3 (by decide) HBF.out (Below.refl _ _)
end Go.Proofs.YtcchoeomeklgmaaGreatDoor.Core
