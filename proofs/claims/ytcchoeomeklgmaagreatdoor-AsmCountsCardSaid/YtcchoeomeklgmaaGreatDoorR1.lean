/- The document's check of an instruction: the walk. Printed by gen_r1.py. -/
import Derived.Test.YtcchoeomeklgmaaGreatDoorV6
namespace Go.Proofs.YtcchoeomeklgmaaGreatDoor.Core
open Go.RowKit Go.Shelf Go.Proofs.YtcchoeomeklgmaaGreatDoorW.PrintWords Go.Proofs.YtcchoeomeklgmaaGreatDoorW.PrintMore Go.Proofs.YtcchoeomeklgmaaGreatDoor.P1 Go.Proofs.YtcchoeomeklgmaaGreatDoor
open Go.Proofs.YtcchoeomeklgmaaGreatDoor.PAsmPrints (S56 k56 z56 S49 k49 z49 at_T49 at_T56 rd_T49 rd_T56 S59 k59 z59 S39 k39 z39 at_T39 at_T59 rd_T39 rd_T59)
set_option linter.unusedVariables false
set_option linter.unusedSimpArgs false
/-- What an operation's fields are, by the document. -/
def usesL (op : Nat) : List UInt8 := [[], [114, 48, 48, 110], [114, 114, 48, 48], [114, 114, 114, 48], [114, 114, 114, 48], [114, 114, 114, 48], [114, 114, 114, 48], [114, 114, 114, 48], [114, 114, 114, 48], [48, 48, 48, 116], [114, 48, 48, 116], [114, 114, 102, 48], [48, 48, 48, 48], [104, 114, 102, 48], [114, 104, 48, 48], [114, 48, 48, 48], [48, 48, 48, 99], [114, 48, 48, 48]].getD op []
theorem uses_f (op : Nat) (h : op < 18) : haymowref03_Uses.f (op : Int) = some (bx (usesL op)) := by
  have h2 : ∀ j : Fin 18, haymowref03_Uses.f ((j.val : Nat) : Int) = some (bx (usesL j.val)) := by
    intro ⟨j, hj⟩
    rcases j with _ | _ | _ | _ | _ | _ | _ | _ | _ | _ | _ | _ | _ | _ | _ | _ | _ | _ | j
    all_goals first | rfl | omega
  exact h2 ⟨op, h⟩
theorem ruses_any (op : Nat) (h : op < 18) (w : World) : Calls Tryz.prog 32 #[.int .i64 (op : Int)] w fun e w' => e = .returned (.string (bx (usesL op))) ∧ Below w.heap.size w w' := haymowref03_Uses.calls _ _ w (uses_f op h)
/-- A part's sign, by the document. -/
def chP (p : Int) : UInt8 := if p = 0 then 48 else if p = 1 then 114 else if p = 2 then 104 else if p = 3 then 102 else if p = 4 then 110 else if p = 5 then 116 else 99
theorem uses_shape (o : Nat) (h1 : 1 ≤ o) (h2 : o ≤ 17) : usesL o = [chP (shapeV o).1, chP (shapeV o).2.1, chP (shapeV o).2.2.1, chP (shapeV o).2.2.2.1] ∧ (shapeV o).2.2.2.2 = true := by
  have h3 : ∀ j : Fin 18, 1 ≤ j.val → usesL j.val = [chP (shapeV j.val).1, chP (shapeV j.val).2.1, chP (shapeV j.val).2.2.1, chP (shapeV j.val).2.2.2.1] ∧ (shapeV j.val).2.2.2.2 = true := by decide +kernel
  exact h3 ⟨o, by omega⟩ h1
theorem shape_no (o : Int) (h : o < 1 ∨ 17 < o) : (shapeV o).2.2.2.2 = false := by
  unfold shapeV
  repeat rw [if_neg (by omega)]
theorem bx_get (us : List UInt8) (U : ByteArray) (hU : U = bx us) (j : Nat) (h1 : j < us.length) (h : j < U.size) : U[j]'h = us[j] := by
  subst hU
  rfl
/-- What the document's check of an instruction answers. -/
def GivesE (w : World) (ok : Bool) (e : Ending) (w' : World) : Prop := ∃ er : Int, e = .returned (.int .i64 er) ∧ (er = 0 ↔ ok = true) ∧ Below w.heap.size w w'
theorem GivesE.no {w w' : World} {ok : Bool} (er : Int) (h0 : er ≠ 0) (hok : ok = false) (hb : Below w.heap.size w w') : GivesE w ok (.returned (.int .i64 er)) w' := ⟨er, rfl, ⟨fun h => absurd h h0, fun h => by rw [hok] at h; cases h⟩, hb⟩
theorem GivesE.yes {w w' : World} {ok : Bool} (hok : ok = true) (hb : Below w.heap.size w w') : GivesE w ok (.returned (.int .i64 0)) w' := ⟨0, rfl, ⟨fun _ => hok, fun _ => rfl⟩, hb⟩
/-- The instruction and its fields in blocks. -/
structure RX (w : World) (is F : List Int) (nb : Nat) (W : World) : Prop where
  below : Below w.heap.size w W
  i : W.heap[w.heap.size]? = some (.cells (ints is) 59 (0, 0))
  f : W.heap[nb]? = some (.cells (ints F) 3 (0, 0))
theorem RX.drawn {w : World} {is F : List Int} {nb : Nat} {W W' : World} (h : RX w is F nb W) (hb : Below W.heap.size W W') : RX w is F nb W' :=
  ⟨h.below.trans (hb.mono h.below.size), blk_below h.i hb, blk_below h.f hb⟩
theorem getD4 {P : List Int} {p1 p2 p3 p4 : Int} (hP : P = [p1, p2, p3, p4]) {j : Nat} (hj : j < 4) : P.getD j 0 ∈ [p1, p2, p3, p4] ∧ P[j]? = some (P.getD j 0) := by
  subst hP
  match j, hj with
  | 0, _ => simp
  | 1, _ => simp
  | 2, _ => simp
  | 3, _ => simp
theorem ch_get {U : ByteArray} {p1 p2 p3 p4 : Int} (hU : U = bx [chP p1, chP p2, chP p3, chP p4]) {P : List Int} (hP : P = [p1, p2, p3, p4]) {j : Nat} (hj : j < 4) (h : j < U.size) : U[j]'h = chP (P.getD j 0) := by
  subst hP
  rw [bx_get _ U hU j (by simpa using hj) h]
  match j, hj with
  | 0, _ => rfl
  | 1, _ => rfl
  | 2, _ => rfl
  | 3, _ => rfl
theorem ch_zero {p : Int} (hp : p = 0 ∨ p = 1 ∨ p = 2 ∨ p = 3 ∨ p = 6 ∨ p = 4 ∨ p = 5) : ((((chP p).toNat : Nat) : Int) == 48) = decide (p = 0) := by
  rcases hp with rfl | rfl | rfl | rfl | rfl | rfl | rfl <;> decide
set_option maxRecDepth 100000 in
set_option maxHeartbeats 16000000 in
theorem rinstr3_any (A : Option Addr) (n c cl q : Nat) (o a1 a2 a3 a4 : Int) (ar : Int → Int) (w : World) (hq : q < n)
    (hT : ∃ ad A1 c1, A = some ad ∧ w.cell? ⟨(ad.add (q * 2)).block, (ad.add (q * 2)).off + 1, none⟩ = some (.slice A1 cl c1))
    (hA : ∀ j : Nat, j < n → ∃ ad, A = some ad ∧ w.cell? (ad.add (j * 2)) = some (.int .i64 (ar j))) :
    Calls Tryz.prog 19 #[.slice A n c, .int .i64 q, .agg #[.int .i64 o, .int .i64 a1, .int .i64 a2, .int .i64 a3, .int .i64 a4]] w (GivesE w (instrB n cl ar o a1 a2 a3 a4)) := by
  obtain ⟨B, hB⟩ : ∃ B, B = instrB n cl ar o a1 a2 a3 a4 := ⟨_, rfl⟩
  rw [← hB]
  by_cases ho : 1 ≤ o ∧ o ≤ 17
  · obtain ⟨ho1, ho2⟩ := ho
    have g1 : decide (o < 1) = false := decide_eq_false (by omega)
    have g2 : decide (o > 17) = false := decide_eq_false (by omega)
    have hus := uses_shape o.toNat (by omega) (by omega)
    have hru := fun W => ruses_any o.toNat (by omega) W
    rw [show ((o.toNat : Nat) : Int) = o by omega] at hus hru
    unfold instrB at hB
    have HPS := Lib.hid (shape_is o)
    have HP3 := Lib.hid (shape_three o)
    obtain ⟨sh, hsh⟩ : ∃ s, shapeV o = s := ⟨_, rfl⟩
    rw [hsh] at hus hB HPS HP3
    obtain ⟨p1, p2, p3, p4, is⟩ := sh
    simp only at hus hB HPS HP3
    obtain ⟨hus, rfl⟩ := hus
    obtain ⟨U, hU⟩ : ∃ B, B = bx (usesL o.toNat) := ⟨_, rfl⟩
    have HRU : Hid (∀ W, Calls Tryz.prog 32 #[.int .i64 o] W fun e w' => e = .returned (.string U) ∧ Below W.heap.size W w') := by rw [hU]; exact hru
    rw [hus] at hU
    have hUs : U.size = 4 := by rw [hU]; rfl
    have HU := Lib.hid hU
    have HBB := Lib.hid hB
    have HT := Lib.hid hT
    have HA := Lib.hid hA
    have HQ := Lib.hid hq
    obtain ⟨P, hP⟩ : ∃ P : List Int, P = [p1, p2, p3, p4] := ⟨_, rfl⟩
    obtain ⟨F, hF⟩ : ∃ P : List Int, P = [a1, a2, a3, a4] := ⟨_, rfl⟩
    have HPP := Lib.hid hP
    have HFF := Lib.hid hF
    have HO : Hid (1 ≤ o ∧ o ≤ 17) := ⟨ho1, ho2⟩
    clear hsh hB hT hA hq hus hru hU hP hF ho1 ho2
    go_enter Tryz.func19, Tryz.ntmps19
    go_wp2_with fail
    refine (HRU.out _).mono ?_
    rintro _ W5 ⟨rfl, hb5⟩
    have HX0 : Hid (W5.heap[w.heap.size]? = some (.cells (ints [o, a1, a2, a3, a4]) 59 (0, 0))) := blk_below (heap_alloc_new w _) hb5
    have HB5 : Hid (Below w.heap.size w W5) := ((Below.refl _ _).alloc (Nat.le_refl _) _).trans (hb5.mono (by simp))
    have k0 := cell_ints HX0.out 0 _ rfl
    have k1 := cell_ints HX0.out 1 _ rfl
    have k2 := cell_ints HX0.out 2 _ rfl
    have k3 := cell_ints HX0.out 3 _ rfl
    have k4 := cell_ints HX0.out 4 _ rfl
    clear hb5 g1 g2
    have HR0 : Hid (RX w [o, a1, a2, a3, a4] F W5.heap.size (W5.alloc (.cells #[.int .i64 a1, .int .i64 a2, .int .i64 a3, .int .i64 a4] 3))) := ⟨HB5.out.alloc HB5.out.size _, (Below.heap_alloc _ _ _ (blk_lt HX0.out)).trans HX0.out, by rw [HFF.out]; exact heap_alloc_new W5 _⟩
    go_wp2_with fail
    generalize W5.heap.size = nb at *
    generalize W5.alloc (.cells #[.int .i64 a1, .int .i64 a2, .int .i64 a3, .int .i64 a4] 3) = W6 at *
    clear k0 k1 k2 k3 k4
    go_loopg [9] 4 (fun d i W => ∃ j : Nat, j + d = 4 ∧ i = .int .i64 j ∧ Hid (RX w [o, a1, a2, a3, a4] F nb W) ∧ Hid (∀ m, m < j → zeroB (P.getD m 0) (F.getD m 0) = true))
    case atStart => exact ⟨0, rfl, rfl, HR0.out, fun m hm => absurd hm (by omega)⟩
    case round =>
      obtain ⟨j, hjd, rfl, hV, hZ⟩ := hrel
      have HJD := Lib.hid hjd
      by_cases hj4 : j < 4
      · have hj1 : (j : Int) < 4 := by omega
        have hj2 : decide ((j : Int) < 4) = true := decide_eq_true hj1
        have hj0 : (0 : Int) ≤ (j : Int) := by omega
        have hjw : wrap64 ((j : Int) + 1) = ((j + 1 : Nat) : Int) := by unfold wrap64; omega
        obtain ⟨hpm, hpj0⟩ := getD4 HPP.out hj4
        obtain ⟨_, hvj0⟩ := getD4 HFF.out hj4
        have hch : ∀ h : j < U.size, U[j]'h = chP (P.getD j 0) := fun h => ch_get HU.out HPP.out hj4 h
        have hz := ch_zero (HPS.out _ hpm)
        obtain ⟨pj, hpj⟩ : ∃ x, P.getD j 0 = x := ⟨_, rfl⟩
        obtain ⟨vj, hvj⟩ : ∃ x, F.getD j 0 = x := ⟨_, rfl⟩
        have kf : wr.cell? ⟨nb, j, none⟩ = some (.int .i64 vj) := cell_ints hV.out.f j vj (by rw [← hvj]; exact hvj0)
        have HZ0 := Lib.hid (show ∀ m, m < j + 1 → zeroB pj vj = true → zeroB (P.getD m 0) (F.getD m 0) = true from fun m hm hzz => by
          by_cases hmj : m < j
          · exact hZ.out m hmj
          · obtain rfl : m = j := by omega
            rw [hpj, hvj]
            exact hzz)
        have HBZ : Hid (zeroB pj vj = false → B = false) := fun hz => by
          rw [HBB.out]
          rw [← hpj, ← hvj, HPP.out, HFF.out] at hz
          match j, hj4 with
          | 0, _ => change zeroB p1 a1 = false at hz; rw [hz]; simp
          | 1, _ => change zeroB p2 a2 = false at hz; rw [hz]; simp
          | 2, _ => change zeroB p3 a3 = false at hz; rw [hz]; simp
          | 3, _ => change zeroB p4 a4 = false at hz; rw [hz]; simp
        rw [hpj] at hch hz
        obtain ⟨uc, huc⟩ : ∃ x, chP pj = x := ⟨_, rfl⟩
        rw [huc] at hch hz
        clear hpj hvj hjd hpm hpj0 hvj0 huc
        by_cases hp0 : pj = 0
        · have gp : (((uc.toNat : Nat) : Int) == 48) = true := by rw [hz, decide_eq_true hp0]
          by_cases hv0 : vj = 0
          · have gv : (vj != 0) = false := by rw [hv0]; rfl
            have HZ1 : Hid (∀ m, m < j + 1 → zeroB (P.getD m 0) (F.getD m 0) = true) := fun m hm => HZ0.out m hm (by unfold zeroB; rw [hv0]; simp)
            clear hp0 hv0 hz
            go_wp2_with fail
            go_roundg (4 - (j + 1))
            case measure => exact step_lt HJD.out hj4
            case rel => exact ⟨j + 1, step_eq hj4, by go_num, hV.out, HZ1.out⟩
          · have gv : (vj != 0) = true := by rw [bne_iff_ne]; exact hv0
            have HBF := Lib.hid (HBZ.out (by unfold zeroB; rw [hp0, beq_eq_false_iff_ne.2 hv0]; rfl))
            clear hp0 hv0 hz
            go_wp2_with fail
            go_ret
            exact GivesE.no 4 (by decide) HBF.out hV.out.below
        · have gp : (((uc.toNat : Nat) : Int) == 48) = false := by rw [hz, decide_eq_false hp0]
          have HZ1 : Hid (∀ m, m < j + 1 → zeroB (P.getD m 0) (F.getD m 0) = true) := fun m hm => HZ0.out m hm (by unfold zeroB; rw [bne_iff_ne.2 hp0]; rfl)
          clear hp0 hz
          go_wp2_with fail
          go_roundg (4 - (j + 1))
          case measure => exact step_lt HJD.out hj4
          case rel => exact ⟨j + 1, step_eq hj4, by go_num, hV.out, HZ1.out⟩
      · have HZA : Hid (zeroB p1 a1 = true ∧ zeroB p2 a2 = true ∧ zeroB p3 a3 = true ∧ zeroB p4 a4 = true) := by
          have h := hZ.out
          rw [HPP.out, HFF.out] at h
          exact ⟨h 0 (by omega), h 1 (by omega), h 2 (by omega), h 3 (by omega)⟩
        have hj1 : ¬ (j : Int) < 4 := by omega
        have hj2 : decide ((j : Int) < 4) = false := decide_eq_false hj1
        clear hZ hjd HJD HR0
        go_wp2_with fail
        go_loopg [10] 4 (fun d i W => ∃ j : Nat, j + d = 4 ∧ i = .int .i64 j ∧ Hid (RX w [o, a1, a2, a3, a4] F nb W) ∧ Hid (∀ m, m < j → fieldB n cl (F.getD m 0) (P.getD m 0) = true))
        case atStart => exact ⟨0, rfl, rfl, hV.out, fun m hm => absurd hm (by omega)⟩
        case round =>
          obtain ⟨j, hjd, rfl, hV, hZ⟩ := hrel
          have HJD := Lib.hid hjd
          by_cases hj4 : j < 4
          · have hj1 : (j : Int) < 4 := by omega
            have hj2 : decide ((j : Int) < 4) = true := decide_eq_true hj1
            have hj0 : (0 : Int) ≤ (j : Int) := by omega
            have hjw : wrap64 ((j : Int) + 1) = ((j + 1 : Nat) : Int) := by unfold wrap64; omega
            obtain ⟨hpm, hpj0⟩ := getD4 HPP.out hj4
            obtain ⟨_, hvj0⟩ := getD4 HFF.out hj4
            have hch : ∀ h : j < U.size, U[j]'h = chP (P.getD j 0) := fun h => ch_get HU.out HPP.out hj4 h
            have hpi := HPS.out _ hpm
            obtain ⟨pj, hpj⟩ : ∃ x, P.getD j 0 = x := ⟨_, rfl⟩
            obtain ⟨vj, hvj⟩ : ∃ x, F.getD j 0 = x := ⟨_, rfl⟩
            have kf : wr.cell? ⟨nb, j, none⟩ = some (.int .i64 vj) := cell_ints hV.out.f j vj (by rw [← hvj]; exact hvj0)
            have HZ0 := Lib.hid (show ∀ m, m < j + 1 → fieldB n cl vj pj = true → fieldB n cl (F.getD m 0) (P.getD m 0) = true from fun m hm hz => by
              by_cases hmj : m < j
              · exact hZ.out m hmj
              · obtain rfl : m = j := by omega
                rw [hpj, hvj]
                exact hz)
            have HBZ : Hid (fieldB n cl vj pj = false → B = false) := fun hz => by
              rw [HBB.out]
              rw [← hpj, ← hvj, HPP.out, HFF.out] at hz
              match j, hj4 with
              | 0, _ => change fieldB n cl a1 p1 = false at hz; rw [hz]; simp
              | 1, _ => change fieldB n cl a2 p2 = false at hz; rw [hz]; simp
              | 2, _ => change fieldB n cl a3 p3 = false at hz; rw [hz]; simp
              | 3, _ => change fieldB n cl a4 p4 = false at hz; rw [hz]; simp
            rw [hpj] at hch hpi
            clear hpj hvj hjd hpm hpj0 hvj0
            rcases hpi with rfl | rfl | rfl | rfl | rfl | rfl | rfl
            · have hcc : ∀ h : j < U.size, U[j]'h = 48 := hch
              clear hch
              have HZ1 : Hid (∀ m, m < j + 1 → fieldB n cl (F.getD m 0) (P.getD m 0) = true) := fun m hm => HZ0.out m hm (by simp [fieldB])
              clear HZ0 HBZ
              go_wp2_with fail
              go_quiet (fail)
              go_wp2_with fail
              go_roundg (4 - (j + 1))
              case measure => exact step_lt HJD.out hj4
              case rel => exact ⟨j + 1, step_eq hj4, by go_num, (hV.out.drawn (pw_below_drewN (Below.refl _ _) _)), HZ1.out⟩
            · have hcc : ∀ h : j < U.size, U[j]'h = 114 := hch
              clear hch
              by_cases hlo : vj < 0
              · have b1 : decide (vj < 0) = true := decide_eq_true hlo
                have HBF := Lib.hid (HBZ.out (by simp [fieldB]; omega))
                clear hlo
                clear HZ0 HBZ
                go_wp2_with fail
                go_wp2_with fail
                go_ret
                exact GivesE.no 6 (by decide) HBF.out (hV.out).below
              · have b1 : decide (vj < 0) = false := decide_eq_false hlo
                by_cases hhi : vj > 7
                · have b2 : decide (vj > 7) = true := decide_eq_true hhi
                  have HBF := Lib.hid (HBZ.out (by simp [fieldB]; omega))
                  clear hlo hhi
                  clear HZ0 HBZ
                  go_wp2_with fail
                  go_wp2_with fail
                  go_ret
                  exact GivesE.no 6 (by decide) HBF.out (hV.out).below
                · have b2 : decide (vj > 7) = false := decide_eq_false hhi
                  have HZ1 : Hid (∀ m, m < j + 1 → fieldB n cl (F.getD m 0) (P.getD m 0) = true) := fun m hm => HZ0.out m hm (by simp [fieldB]; omega)
                  clear hlo hhi
                  clear HZ0 HBZ
                  go_wp2_with fail
                  go_quiet (fail)
                  go_wp2_with fail
                  go_roundg (4 - (j + 1))
                  case measure => exact step_lt HJD.out hj4
                  case rel => exact ⟨j + 1, step_eq hj4, by go_num, (hV.out.drawn (pw_below_drewN (Below.refl _ _) _)), HZ1.out⟩
            · have hcc : ∀ h : j < U.size, U[j]'h = 104 := hch
              clear hch
              by_cases hlo : vj < 0
              · have b1 : decide (vj < 0) = true := decide_eq_true hlo
                have HBF := Lib.hid (HBZ.out (by simp [fieldB]; omega))
                clear hlo
                clear HZ0 HBZ
                go_wp2_with fail
                go_wp2_with fail
                go_ret
                exact GivesE.no 6 (by decide) HBF.out (hV.out).below
              · have b1 : decide (vj < 0) = false := decide_eq_false hlo
                by_cases hhi : vj > 3
                · have b2 : decide (vj > 3) = true := decide_eq_true hhi
                  have HBF := Lib.hid (HBZ.out (by simp [fieldB]; omega))
                  clear hlo hhi
                  clear HZ0 HBZ
                  go_wp2_with fail
                  go_wp2_with fail
                  go_ret
                  exact GivesE.no 6 (by decide) HBF.out (hV.out).below
                · have b2 : decide (vj > 3) = false := decide_eq_false hhi
                  have HZ1 : Hid (∀ m, m < j + 1 → fieldB n cl (F.getD m 0) (P.getD m 0) = true) := fun m hm => HZ0.out m hm (by simp [fieldB]; omega)
                  clear hlo hhi
                  clear HZ0 HBZ
                  go_wp2_with fail
                  go_quiet (fail)
                  go_wp2_with fail
                  go_roundg (4 - (j + 1))
                  case measure => exact step_lt HJD.out hj4
                  case rel => exact ⟨j + 1, step_eq hj4, by go_num, (hV.out.drawn (pw_below_drewN (Below.refl _ _) _)), HZ1.out⟩
            · have hcc : ∀ h : j < U.size, U[j]'h = 102 := hch
              clear hch
              by_cases hlo : vj < 0
              · have b1 : decide (vj < 0) = true := decide_eq_true hlo
                have HBF := Lib.hid (HBZ.out (by simp [fieldB]; omega))
                clear hlo
                clear HZ0 HBZ
                go_wp2_with fail
                go_wp2_with fail
                go_ret
                exact GivesE.no 5 (by decide) HBF.out (hV.out).below
              · have b1 : decide (vj < 0) = false := decide_eq_false hlo
                have b0 : 0 ≤ vj := by omega
                by_cases hhi : vj ≥ (n : Int)
                · have b2 : decide (vj ≥ (n : Int)) = true := decide_eq_true hhi
                  have HBF := Lib.hid (HBZ.out (by simp [fieldB]; omega))
                  clear hlo hhi
                  clear HZ0 HBZ
                  go_wp2_with fail
                  go_wp2_with fail
                  go_ret
                  exact GivesE.no 5 (by decide) HBF.out (hV.out).below
                · have b2 : decide (vj ≥ (n : Int)) = false := decide_eq_false hhi
                  have HZ1 : Hid (∀ m, m < j + 1 → fieldB n cl (F.getD m 0) (P.getD m 0) = true) := fun m hm => HZ0.out m hm (by simp [fieldB]; omega)
                  clear hlo hhi
                  clear HZ0 HBZ
                  go_wp2_with fail
                  go_quiet (fail)
                  go_wp2_with fail
                  go_roundg (4 - (j + 1))
                  case measure => exact step_lt HJD.out hj4
                  case rel => exact ⟨j + 1, step_eq hj4, by go_num, (hV.out.drawn (pw_below_drewN (Below.refl _ _) _)), HZ1.out⟩
            · have hcc : ∀ h : j < U.size, U[j]'h = 99 := hch
              clear hch
              by_cases hlo : vj < 16
              · have b1 : decide (vj < 16) = true := decide_eq_true hlo
                have HBF := Lib.hid (HBZ.out (by simp [fieldB]; omega))
                clear hlo
                clear HZ0 HBZ
                go_wp2_with fail
                go_quiet (fail)
                go_wp2_with fail
                go_ret
                exact GivesE.no 6 (by decide) HBF.out ((hV.out.drawn (pw_below_drewN (Below.refl _ _) _))).below
              · have b1 : decide (vj < 16) = false := decide_eq_false hlo
                by_cases hhi : vj > 2147483647
                · have b2 : decide (vj > 2147483647) = true := decide_eq_true hhi
                  have HBF := Lib.hid (HBZ.out (by simp [fieldB]; omega))
                  clear hlo hhi
                  clear HZ0 HBZ
                  go_wp2_with fail
                  go_quiet (fail)
                  go_wp2_with fail
                  go_ret
                  exact GivesE.no 6 (by decide) HBF.out ((hV.out.drawn (pw_below_drewN (Below.refl _ _) _))).below
                · have b2 : decide (vj > 2147483647) = false := decide_eq_false hhi
                  have HZ1 : Hid (∀ m, m < j + 1 → fieldB n cl (F.getD m 0) (P.getD m 0) = true) := fun m hm => HZ0.out m hm (by simp [fieldB]; omega)
                  clear hlo hhi
                  clear HZ0 HBZ
                  go_wp2_with fail
                  go_quiet (fail)
                  go_wp2_with fail
                  go_roundg (4 - (j + 1))
                  case measure => exact step_lt HJD.out hj4
                  case rel => exact ⟨j + 1, step_eq hj4, by go_num, (hV.out.drawn (pw_below_drewN (Below.refl _ _) _)), HZ1.out⟩
            · have hcc : ∀ h : j < U.size, U[j]'h = 110 := hch
              clear hch
              by_cases hlo : vj < -2147483648
              · have b1 : decide (vj < -2147483648) = true := decide_eq_true hlo
                have HBF := Lib.hid (HBZ.out (by simp [fieldB]; omega))
                clear hlo
                clear HZ0 HBZ
                go_wp2_with fail
                go_quiet (fail)
                go_wp2_with fail
                go_ret
                exact GivesE.no 6 (by decide) HBF.out ((hV.out.drawn (pw_below_drewN (Below.refl _ _) _))).below
              · have b1 : decide (vj < -2147483648) = false := decide_eq_false hlo
                by_cases hhi : vj > 2147483647
                · have b2 : decide (vj > 2147483647) = true := decide_eq_true hhi
                  have HBF := Lib.hid (HBZ.out (by simp [fieldB]; omega))
                  clear hlo hhi
                  clear HZ0 HBZ
                  go_wp2_with fail
                  go_quiet (fail)
                  go_wp2_with fail
                  go_ret
                  exact GivesE.no 6 (by decide) HBF.out ((hV.out.drawn (pw_below_drewN (Below.refl _ _) _))).below
                · have b2 : decide (vj > 2147483647) = false := decide_eq_false hhi
                  have HZ1 : Hid (∀ m, m < j + 1 → fieldB n cl (F.getD m 0) (P.getD m 0) = true) := fun m hm => HZ0.out m hm (by simp [fieldB]; omega)
                  clear hlo hhi
                  clear HZ0 HBZ
                  go_wp2_with fail
                  go_quiet (fail)
                  go_wp2_with fail
                  go_roundg (4 - (j + 1))
                  case measure => exact step_lt HJD.out hj4
                  case rel => exact ⟨j + 1, step_eq hj4, by go_num, (hV.out.drawn (pw_below_drewN (Below.refl _ _) _)), HZ1.out⟩
            · have hcc : ∀ h : j < U.size, U[j]'h = 116 := hch
              clear hch
              obtain ⟨ad, A1, c1, hAd, hct⟩ := HT.out
              subst hAd
              have hcw := (hV.out.below.cell (World.block_lt_of_cell? w _ hct)).trans hct
              have hqn : (q : Int) < (n : Int) := by have := HQ.out; omega
              have hq0 : (0 : Int) ≤ (q : Int) := by omega
              clear hct
              by_cases hlo : vj < 0
              · have b1 : decide (vj < 0) = true := decide_eq_true hlo
                have HBF := Lib.hid (HBZ.out (by simp [fieldB]; omega))
                clear hlo
                clear HZ0 HBZ
                go_wp2_with fail
                go_quiet (fail)
                go_wp2_with fail
                go_ret
                exact GivesE.no 6 (by decide) HBF.out ((hV.out.drawn (pw_below_drewN (Below.refl _ _) _))).below
              · have b1 : decide (vj < 0) = false := decide_eq_false hlo
                have b0 : 0 ≤ vj := by omega
                by_cases hhi : vj ≥ (cl : Int)
                · have b2 : decide (vj ≥ (cl : Int)) = true := decide_eq_true hhi
                  have HBF := Lib.hid (HBZ.out (by simp [fieldB]; omega))
                  clear hlo hhi
                  clear HZ0 HBZ
                  go_wp2_with fail
                  go_quiet (fail)
                  go_wp2_with fail
                  go_ret
                  exact GivesE.no 6 (by decide) HBF.out ((hV.out.drawn (pw_below_drewN (Below.refl _ _) _))).below
                · have b2 : decide (vj ≥ (cl : Int)) = false := decide_eq_false hhi
                  have HZ1 : Hid (∀ m, m < j + 1 → fieldB n cl (F.getD m 0) (P.getD m 0) = true) := fun m hm => HZ0.out m hm (by simp [fieldB]; omega)
                  clear hlo hhi
                  clear HZ0 HBZ
                  go_wp2_with fail
                  go_quiet (fail)
                  go_wp2_with fail
                  go_roundg (4 - (j + 1))
                  case measure => exact step_lt HJD.out hj4
                  case rel => exact ⟨j + 1, step_eq hj4, by go_num, (hV.out.drawn (pw_below_drewN (Below.refl _ _) _)), HZ1.out⟩
          · have HFA : Hid (fieldB n cl a1 p1 = true ∧ fieldB n cl a2 p2 = true ∧ fieldB n cl a3 p3 = true ∧ fieldB n cl a4 p4 = true) := by
              have h := hZ.out
              rw [HPP.out, HFF.out] at h
              exact ⟨h 0 (by omega), h 1 (by omega), h 2 (by omega), h 3 (by omega)⟩
            have HB9 : Hid (B = (p3 != 3 || decide (ar a3 ≤ 8 - a2))) := by
              show _ = _
              rw [HBB.out, HZA.out.1, HZA.out.2.1, HZA.out.2.2.1, HZA.out.2.2.2, HFA.out.1, HFA.out.2.1, HFA.out.2.2.1, HFA.out.2.2.2]
              rfl
            have hj1 : ¬ (j : Int) < 4 := by omega
            have hj2 : decide ((j : Int) < 4) = false := decide_eq_false hj1
            have hch : ∀ h : 2 < U.size, U[2]'h = chP p3 := fun h => by rw [ch_get HU.out HPP.out (by omega) h, HPP.out]; rfl
            have hpi := HPS.out p3 (by simp)
            have k0 := cell_ints hV.out.i 0 _ rfl
            have k1 := cell_ints hV.out.i 1 _ rfl
            have k2 := cell_ints hV.out.i 2 _ rfl
            have k3 := cell_ints hV.out.i 3 _ rfl
            have k4 := cell_ints hV.out.i 4 _ rfl
            clear hZ hjd HJD
            by_cases h3 : p3 = 3
            · subst h3
              have hp2 : p2 = 1 := HP3.out rfl
              have hf2 := HFA.out.2.1
              rw [hp2] at hf2
              have hf3 := HFA.out.2.2.1
              have ha2 : 0 ≤ a2 ∧ a2 < 8 := by simpa [fieldB] using hf2
              have ha3 : 0 ≤ a3 ∧ a3 < n := by simpa [fieldB] using hf3
              obtain ⟨m, hm⟩ : ∃ m : Nat, a3 = (m : Int) := ⟨a3.toNat, by omega⟩
              obtain ⟨ad, hAd, hca⟩ := HA.out m (by omega)
              subst hAd
              have hcw : wr.cell? (ad.add (m * 2)) = some (.int .i64 (ar m)) := (hV.out.below.cell (World.block_lt_of_cell? w _ hca)).trans hca
              have hmn : (m : Int) < (n : Int) := by omega
              have hm0 : (0 : Int) ≤ (m : Int) := by omega
              have hw8 : wrap64 (8 - a2) = 8 - a2 := by unfold wrap64; omega
              have hw9 : IntKind.i64.wrap (8 - a2) = 8 - a2 := by rw [IntKind.wrap_i64]; omega
              have hch' : ∀ h : 2 < U.size, U[2]'h = 102 := hch
              rw [hm] at k3 HB9
              obtain ⟨arv, harv⟩ : ∃ x, ar m = x := ⟨_, rfl⟩
              rw [harv] at HB9 hcw
              clear hp2 hf2 hf3 ha2 ha3 hca harv hm hch hpi
              by_cases hle : arv ≤ 8 - a2
              · have gle : decide (arv > 8 - a2) = false := decide_eq_false (by omega)
                have HBT : Hid (B = true) := by show _ = _; rw [HB9.out, decide_eq_true hle]; simp
                clear hle
                go_wp2_with fail
                go_quiet (fail)
                go_wp2_with fail
                go_ret
                exact GivesE.yes HBT.out (hV.out.drawn (pw_below_drewN (Below.refl _ _) _)).below
              · have gle : decide (arv > 8 - a2) = true := decide_eq_true (by omega)
                have HBT : Hid (B = false) := by show _ = _; rw [HB9.out, decide_eq_false hle]; rfl
                clear hle
                go_wp2_with fail
                go_quiet (fail)
                go_wp2_with fail
                go_ret
                exact GivesE.no 6 (by decide) HBT.out (hV.out.drawn (pw_below_drewN (Below.refl _ _) _)).below
            · have HBT : Hid (B = true) := by
                show _ = _
                rw [HB9.out]
                have : (p3 != 3) = true := by rw [bne_iff_ne]; exact h3
                rw [this]
                rfl
              have gp : ((((chP p3).toNat : Nat) : Int) == 102) = false := by
                rcases hpi with h | h | h | h | h | h | h
                all_goals first | exact absurd h h3 | (rw [h]; decide)
              obtain ⟨uc, huc⟩ : ∃ x, chP p3 = x := ⟨_, rfl⟩
              rw [huc] at hch gp
              clear h3 huc hpi
              go_wp2_with fail
              go_quiet (fail)
              go_wp2_with fail
              go_ret
              exact GivesE.yes HBT.out (hV.out.drawn (pw_below_drewN (Below.refl _ _) _)).below
  · have HBF : Hid (B = false) := by
      show _ = _
      rw [hB]
      unfold instrB
      rw [shape_no o (by omega)]
      rfl
    clear hB hT hA hq
    by_cases h1 : 1 ≤ o
    · have g1 : decide (o < 1) = false := decide_eq_false (by omega)
      have g2 : decide (o > 17) = true := decide_eq_true (by omega)
      clear ho h1
      go_enter Tryz.func19, Tryz.ntmps19
      go_wp2_with fail
      go_ret
      exact GivesE.no 4 (by decide) HBF.out ((Below.refl _ _).alloc (Nat.le_refl _) _)
    · have g1 : decide (o < 1) = true := decide_eq_true (by omega)
      clear ho h1
      go_enter Tryz.func19, Tryz.ntmps19
      go_wp2_with fail
      go_ret
      exact GivesE.no 4 (by decide) HBF.out ((Below.refl _ _).alloc (Nat.le_refl _) _)
end Go.Proofs.YtcchoeomeklgmaaGreatDoor.Core
