/- Contracts of functions that only read: what they come to, loop by loop. Lines that the kit's print wrote for this seat, function by function. -/
import Derived.Test.YtcchoeomeklgmaaDoorPAsmParsesx0
namespace Go.Proofs.YtcchoeomeklgmaaDoor.P2
open Go.Proofs.YtcchoeomeklgmaaDoor.PAsmParses Go.RowKit Go.Proofs.YtcchoeomeklgmaaDoorW.PrintWords Go.Proofs.YtcchoeomeklgmaaDoorW.PrintLast Go.Proofs.YtcchoeomeklgmaaDoorW.PrintMore
attribute [local go_sem] max2_int min2_int max_two min_two max_three min_three max_four min_four   -- for this text's walks alone
set_option linter.unusedVariables false
set_option linter.unusedSimpArgs false

/-! ### haymowref04_Words: function 26 -/
mutual
def haymowref04_Words.l0 : Nat → ByteArray → List ByteArray → Int → Option (List ByteArray)
  | 0, _, _, _ => none
  | k + 1, x0, x3, x4 => if x4 < (x0.size : Int) then (if 0 ≤ x4 then (haymowref04_Words.j1 k x0 x3 x4 ((bt x0 x4) != 35)) else (none)) else (haymowref04_Words.j1 k x0 x3 x4 false)
def haymowref04_Words.j1 : Nat → ByteArray → List ByteArray → Int → Bool → Option (List ByteArray)
  | 0, _, _, _, _ => none
  | k + 1, x0, x3, x4, x15 => if x15 = true then (if 0 ≤ x4 then (if x4 < (x0.size : Int) then (if (bt x0 x4) = 32 then (haymowref04_Words.j2 k x0 x3 x4 true) else (if (bt x0 x4) = 9 then (haymowref04_Words.j2 k x0 x3 x4 true) else (haymowref04_Words.j2 k x0 x3 x4 ((bt x0 x4) == 13)))) else (none)) else (none)) else (some x3)
def haymowref04_Words.j2 : Nat → ByteArray → List ByteArray → Int → Bool → Option (List ByteArray)
  | 0, _, _, _, _ => none
  | k + 1, x0, x3, x4, x31 => if x31 = true then (haymowref04_Words.l0 k x0 x3 (wrap64 (x4 + 1))) else (haymowref04_Words.l1 k x0 x3 x4 x4)
def haymowref04_Words.l1 : Nat → ByteArray → List ByteArray → Int → Int → Option (List ByteArray)
  | 0, _, _, _, _ => none
  | k + 1, x0, x3, x4, x5 => if x5 < (x0.size : Int) then (if 0 ≤ x5 then (if (bt x0 x5) = 35 then (if 0 ≤ x4 then (if x4 ≤ x5 then (if x5 ≤ (x0.size : Int) then (if x3.length < 8796093022208 then (haymowref04_Words.l0 k x0 (x3 ++ [x0.extract (x4 : Int).toNat (x5 : Int).toNat]) x5) else (none)) else (none)) else (none)) else (none)) else (if (bt x0 x5) = 32 then (if 0 ≤ x4 then (if x4 ≤ x5 then (if x5 ≤ (x0.size : Int) then (if x3.length < 8796093022208 then (haymowref04_Words.l0 k x0 (x3 ++ [x0.extract (x4 : Int).toNat (x5 : Int).toNat]) x5) else (none)) else (none)) else (none)) else (none)) else (if (bt x0 x5) = 9 then (if 0 ≤ x4 then (if x4 ≤ x5 then (if x5 ≤ (x0.size : Int) then (if x3.length < 8796093022208 then (haymowref04_Words.l0 k x0 (x3 ++ [x0.extract (x4 : Int).toNat (x5 : Int).toNat]) x5) else (none)) else (none)) else (none)) else (none)) else (if (bt x0 x5) = 13 then (if 0 ≤ x4 then (if x4 ≤ x5 then (if x5 ≤ (x0.size : Int) then (if x3.length < 8796093022208 then (haymowref04_Words.l0 k x0 (x3 ++ [x0.extract (x4 : Int).toNat (x5 : Int).toNat]) x5) else (none)) else (none)) else (none)) else (none)) else (haymowref04_Words.l1 k x0 x3 x4 (wrap64 (x5 + 1))))))) else (none)) else (if 0 ≤ x4 then (if x4 ≤ x5 then (if x5 ≤ (x0.size : Int) then (if x3.length < 8796093022208 then (haymowref04_Words.l0 k x0 (x3 ++ [x0.extract (x4 : Int).toNat (x5 : Int).toNat]) x5) else (none)) else (none)) else (none)) else (none))
end
def haymowref04_Words.f (k : Nat) (a0 : ByteArray) : Option (List ByteArray) := haymowref04_Words.l0 k a0 ([] : List ByteArray) 0
theorem haymowref04_Words.mono_l : ∀ k, (∀ y0 y1 y2, LeO (haymowref04_Words.l0 k y0 y1 y2) (haymowref04_Words.l0 (k + 1) y0 y1 y2)) ∧ (∀ y0 y1 y2 y3, LeO (haymowref04_Words.j1 k y0 y1 y2 y3) (haymowref04_Words.j1 (k + 1) y0 y1 y2 y3)) ∧ (∀ y0 y1 y2 y3, LeO (haymowref04_Words.j2 k y0 y1 y2 y3) (haymowref04_Words.j2 (k + 1) y0 y1 y2 y3)) ∧ (∀ y0 y1 y2 y3, LeO (haymowref04_Words.l1 k y0 y1 y2 y3) (haymowref04_Words.l1 (k + 1) y0 y1 y2 y3))
  | 0 => ⟨fun _ _ _ r h => by simp [haymowref04_Words.l0] at h, fun _ _ _ _ r h => by simp [haymowref04_Words.j1] at h, fun _ _ _ _ r h => by simp [haymowref04_Words.j2] at h, fun _ _ _ _ r h => by simp [haymowref04_Words.l1] at h⟩
  | k + 1 => by
    obtain ⟨ih0, ih1, ih2, ih3⟩ := haymowref04_Words.mono_l k
    refine ⟨?_, ?_, ?_, ?_⟩
    · intro y0 y1 y2
      unfold haymowref04_Words.l0
      repeat' first
      | (with_reducible exact ih0 _ _ _)
      | (with_reducible exact ih1 _ _ _ _)
      | (with_reducible exact ih2 _ _ _ _)
      | (with_reducible exact ih3 _ _ _ _)
      | (with_reducible exact LeO.refl _)
      | (with_reducible exact LeO.none _)
      | (with_reducible refine LeO.ite ?_ ?_)
      | (with_reducible refine LeO.bind ?_ (fun _ => ?_))
      | exact ih0 _ _ _
      | exact ih1 _ _ _ _
      | exact ih2 _ _ _ _
      | exact ih3 _ _ _ _
      | exact LeO.none _
      | refine LeO.ite ?_ ?_
      | refine LeO.bind ?_ (fun _ => ?_)
    · intro y0 y1 y2 y3
      unfold haymowref04_Words.j1
      repeat' first
      | (with_reducible exact ih0 _ _ _)
      | (with_reducible exact ih1 _ _ _ _)
      | (with_reducible exact ih2 _ _ _ _)
      | (with_reducible exact ih3 _ _ _ _)
      | (with_reducible exact LeO.refl _)
      | (with_reducible exact LeO.none _)
      | (with_reducible refine LeO.ite ?_ ?_)
      | (with_reducible refine LeO.bind ?_ (fun _ => ?_))
      | exact ih0 _ _ _
      | exact ih1 _ _ _ _
      | exact ih2 _ _ _ _
      | exact ih3 _ _ _ _
      | exact LeO.none _
      | refine LeO.ite ?_ ?_
      | refine LeO.bind ?_ (fun _ => ?_)
    · intro y0 y1 y2 y3
      unfold haymowref04_Words.j2
      repeat' first
      | (with_reducible exact ih0 _ _ _)
      | (with_reducible exact ih1 _ _ _ _)
      | (with_reducible exact ih2 _ _ _ _)
      | (with_reducible exact ih3 _ _ _ _)
      | (with_reducible exact LeO.refl _)
      | (with_reducible exact LeO.none _)
      | (with_reducible refine LeO.ite ?_ ?_)
      | (with_reducible refine LeO.bind ?_ (fun _ => ?_))
      | exact ih0 _ _ _
      | exact ih1 _ _ _ _
      | exact ih2 _ _ _ _
      | exact ih3 _ _ _ _
      | exact LeO.none _
      | refine LeO.ite ?_ ?_
      | refine LeO.bind ?_ (fun _ => ?_)
    · intro y0 y1 y2 y3
      unfold haymowref04_Words.l1
      repeat' first
      | (with_reducible exact ih0 _ _ _)
      | (with_reducible exact ih1 _ _ _ _)
      | (with_reducible exact ih2 _ _ _ _)
      | (with_reducible exact ih3 _ _ _ _)
      | (with_reducible exact LeO.refl _)
      | (with_reducible exact LeO.none _)
      | (with_reducible refine LeO.ite ?_ ?_)
      | (with_reducible refine LeO.bind ?_ (fun _ => ?_))
      | exact ih0 _ _ _
      | exact ih1 _ _ _ _
      | exact ih2 _ _ _ _
      | exact ih3 _ _ _ _
      | exact LeO.none _
      | refine LeO.ite ?_ ?_
      | refine LeO.bind ?_ (fun _ => ?_)
theorem haymowref04_Words.mono : ∀ a0 k, LeO (haymowref04_Words.f k a0) (haymowref04_Words.f (k + 1) a0) := by
  intro a0 k
  obtain ⟨ih0, ih1, ih2, ih3⟩ := haymowref04_Words.mono_l k
  unfold haymowref04_Words.f
  repeat' first
      | (with_reducible exact ih0 _ _ _)
      | (with_reducible exact ih1 _ _ _ _)
      | (with_reducible exact ih2 _ _ _ _)
      | (with_reducible exact ih3 _ _ _ _)
      | (with_reducible exact LeO.refl _)
      | (with_reducible exact LeO.none _)
      | (with_reducible refine LeO.ite ?_ ?_)
      | (with_reducible refine LeO.bind ?_ (fun _ => ?_))
      | exact ih0 _ _ _
      | exact ih1 _ _ _ _
      | exact ih2 _ _ _ _
      | exact ih3 _ _ _ _
      | exact LeO.none _
      | refine LeO.ite ?_ ?_
      | refine LeO.bind ?_ (fun _ => ?_)
set_option maxHeartbeats 8000000 in
set_option maxRecDepth 100000 in
theorem haymowref04_Words.calls (k : Nat) (a0 : ByteArray) (r : List ByteArray) (w : World) (h : haymowref04_Words.f k a0 = some r) :
    Calls Tryd.prog 26 #[.string a0] w fun e w' => ∃ v0_ : Value, e = .returned (v0_) ∧ Kd.R Kd.string 9 w' w.heap.size (fun _ => True) v0_ r ∧ Below w.heap.size w w' := by
  have HB := Aside0.mk (Below.refl w.heap.size w)
  have H : (haymowref04_Words.l0 k a0 ([] : List ByteArray) 0) = some r := h
  clear h
  have H' := Aside0.mk H
  clear H
  go_enter Tryd.func26, Tryd.ntmps26
  go_wp2
  go_loopg [3, 4] k (fun kq v3 v4 w' => ∃ (x3_1 : List ByteArray) (x4_1 : Int), v4 = .int .i64 x4_1 ∧ Aside0 (haymowref04_Words.l0 kq a0 x3_1 x4_1 = some r) ∧ Aside0 (kq ≤ k) ∧ Aside0 (Kd.R Kd.string 9 w' w.heap.size (fun _ => True) v3 x3_1) ∧ Aside0 (Below w.heap.size w w'))
  case atStart => exact ⟨(([] : List ByteArray)), (0), (by first | rfl | (simp; done) | (simp [*]; done)), H', ⟨Nat.le_refl _⟩, ⟨by first | exact Kd.R_nil _ _ _ _ _ | exact Kd.N_nil _ _ _ _ _ | exact Kd.V_nil _ _ _ _ _ | exact Kd.Q_nil _ _ _ _ _ | exact Kd.S_nil _ _ _ _ _⟩, ⟨by repeat (first | (with_reducible first | exact HB.out | apply below_alloc | apply pw_below_drewN | apply below_drew1) | exact HB.out)⟩⟩
  case round =>
    clear H'
    obtain ⟨x3_1, x4_1, rfl, HA, HK1, HO_3, HB⟩ := hrel
    cases gk with
    | zero => exact absurd HA.out (by simp [haymowref04_Words.l0])
    | succ k1 =>
      have H := HA.out
      clear HA
      simp only [haymowref04_Words.l0] at H
      have HC2 := Aside0.mk H
      clear H
      go_upto_region 3 with (fail)
      go_cut [15] (fun v15 wc => ∃ (kq : Nat) (x15_1 : Bool), v15 = .bool x15_1 ∧ Aside0 (haymowref04_Words.j1 kq a0 x3_1 x4_1 x15_1 = some r) ∧ Aside0 (kq ≤ k1) ∧ Aside0 (Kd.R Kd.string 9 wc w.heap.size (fun _ => True) u3 x3_1) ∧ Aside0 (Below w.heap.size w wc))
      case first =>
        have H := HC2.out
        clear HC2
        by_cases c3 : x4_1 < (a0.size : Int)
        · rw [if_pos c3] at H
          have c3b0 : decide (x4_1 < (a0.size : Int)) = true := decide_eq_true c3
          clear c3
          (first | rw [c3b0] | (simp only [i64_w, i32_w]; rw [c3b0]) | skip)
          by_cases c4 : 0 ≤ x4_1
          · rw [if_pos c4] at H
            have c4b0 : decide (0 ≤ x4_1) = true := decide_eq_true c4
            clear c4
            have H' := Aside0.mk H
            clear H
            have p5 : 0 ≤ (x4_1 : Int) := of_decide_eq_true (by first | (with_reducible assumption) | assumption)
            have q5 : x4_1 < (a0.size : Int) := of_decide_eq_true (by first | (with_reducible assumption) | assumption)
            have hx5 := bt_at a0 x4_1
            replace p5 := eq_true p5
            replace q5 := eq_true q5
            go_wp2
            go_meet
            case rel => exact ⟨_, (((bt a0 x4_1) != 35)), (by first | rfl | (simp; done) | (simp [*]; done)), H', ⟨by have := HK1.out; first | omega | exact Nat.le_refl _⟩, ⟨by (with_reducible repeat (first | apply Kd.R_alloc | apply Kd.R_drewN | apply Kd.R_drew)); exact HO_3.out⟩, ⟨by repeat (first | (with_reducible first | exact HB.out | apply below_alloc | apply pw_below_drewN | apply below_drew1) | exact HB.out)⟩⟩
          · rw [if_neg c4] at H
            exact absurd H (by simp)
        · rw [if_neg c3] at H
          have c3b0 : decide (x4_1 < (a0.size : Int)) = false := decide_eq_false c3
          clear c3
          (first | rw [c3b0] | (simp only [i64_w, i32_w]; rw [c3b0]) | skip)
          have H' := Aside0.mk H
          clear H
          go_wp2
          go_meet
          case rel => exact ⟨_, (false), (by first | rfl | (simp; done) | (simp [*]; done)), H', ⟨by have := HK1.out; first | omega | exact Nat.le_refl _⟩, ⟨by (with_reducible repeat (first | apply Kd.R_alloc | apply Kd.R_drewN | apply Kd.R_drew)); exact HO_3.out⟩, ⟨by repeat (first | (with_reducible first | exact HB.out | apply below_alloc | apply pw_below_drewN | apply below_drew1) | exact HB.out)⟩⟩
      case rest =>
        clear HC2
        try clear c2
        try clear p2
        try clear c3
        try clear c3b0
        try clear c4
        try clear c4b0
        try clear p5
        try clear q5
        try clear hx5
        try clear p5
        try clear q5
        obtain ⟨kq, x15_1, rfl, HA, HJ1, HO_3, HB⟩ := hcut
        cases kq with
        | zero => exact absurd HA.out (by simp [haymowref04_Words.j1])
        | succ kj1 =>
          have H := HA.out
          clear HA
          simp only [haymowref04_Words.j1] at H
          by_cases c6 : x15_1 = true
          · subst c6
            have H1 : (if 0 ≤ x4_1 then (if x4_1 < (a0.size : Int) then (if (bt a0 x4_1) = 32 then (haymowref04_Words.j2 kj1 a0 x3_1 x4_1 true) else (if (bt a0 x4_1) = 9 then (haymowref04_Words.j2 kj1 a0 x3_1 x4_1 true) else (haymowref04_Words.j2 kj1 a0 x3_1 x4_1 ((bt a0 x4_1) == 13)))) else (none)) else (none)) = some r := by rw [if_pos rfl] at H; exact H
            clear H
            have H := H1
            clear H1
            have HC7 := Aside0.mk H
            clear H
            go_upto_region 4 with (fail)
            go_cut [31] (fun v31 wc => ∃ (kq : Nat) (x31_6 : Bool), v31 = .bool x31_6 ∧ Aside0 (haymowref04_Words.j2 kq a0 x3_1 x4_1 x31_6 = some r) ∧ Aside0 (kq ≤ kj1) ∧ Aside0 (Kd.R Kd.string 9 wc w.heap.size (fun _ => True) u3 x3_1) ∧ Aside0 (Below w.heap.size w wc))
            case first =>
              have H := HC7.out
              clear HC7
              by_cases c8 : 0 ≤ x4_1
              · rw [if_pos c8] at H
                have c8b0 : decide (0 ≤ x4_1) = true := decide_eq_true c8
                clear c8
                (first | rw [c8b0] | (simp only [i64_w, i32_w]; rw [c8b0]) | skip)
                by_cases c9 : x4_1 < (a0.size : Int)
                · rw [if_pos c9] at H
                  have c9b0 : decide (x4_1 < (a0.size : Int)) = true := decide_eq_true c9
                  clear c9
                  by_cases c11 : (bt a0 x4_1) = 32
                  · rw [if_pos c11] at H
                    have c11b0 : ((bt a0 x4_1) == 32) = true := beq_iff_eq.mpr c11
                    have c11b1 : ((bt a0 x4_1) != 32) = false := bne_eq_false_iff_eq.mpr c11
                    clear c11
                    have H' := Aside0.mk H
                    clear H
                    have p10 : 0 ≤ (x4_1 : Int) := of_decide_eq_true (by first | (with_reducible assumption) | assumption)
                    have q10 : x4_1 < (a0.size : Int) := of_decide_eq_true (by first | (with_reducible assumption) | assumption)
                    have hx10 := bt_at a0 x4_1
                    replace p10 := eq_true p10
                    replace q10 := eq_true q10
                    go_wp2
                    go_meet
                    case rel => exact ⟨_, (true), (by first | rfl | (simp; done) | (simp [*]; done)), H', ⟨by have := HK1.out; have := HJ1.out; first | omega | exact Nat.le_refl _⟩, ⟨by (with_reducible repeat (first | apply Kd.R_alloc | apply Kd.R_drewN | apply Kd.R_drew)); exact HO_3.out⟩, ⟨by repeat (first | (with_reducible first | exact HB.out | apply below_alloc | apply pw_below_drewN | apply below_drew1) | exact HB.out)⟩⟩
                  · rw [if_neg c11] at H
                    have c11b0 : ((bt a0 x4_1) == 32) = false := beq_eq_false_iff_ne.mpr c11
                    have c11b1 : ((bt a0 x4_1) != 32) = true := bne_iff_ne.mpr c11
                    by_cases c13 : (bt a0 x4_1) = 9
                    · rw [if_pos c13] at H
                      have c13b0 : ((bt a0 x4_1) == 9) = true := beq_iff_eq.mpr c13
                      have c13b1 : ((bt a0 x4_1) != 9) = false := bne_eq_false_iff_eq.mpr c13
                      clear c13
                      have H' := Aside0.mk H
                      clear H
                      have p10 : 0 ≤ (x4_1 : Int) := of_decide_eq_true (by first | (with_reducible assumption) | assumption)
                      have q10 : x4_1 < (a0.size : Int) := of_decide_eq_true (by first | (with_reducible assumption) | assumption)
                      have hx10 := bt_at a0 x4_1
                      replace p10 := eq_true p10
                      replace q10 := eq_true q10
                      have p12 : 0 ≤ (x4_1 : Int) := of_decide_eq_true (by first | (with_reducible assumption) | assumption)
                      have q12 : x4_1 < (a0.size : Int) := of_decide_eq_true (by first | (with_reducible assumption) | assumption)
                      have hx12 := bt_at a0 x4_1
                      replace p12 := eq_true p12
                      replace q12 := eq_true q12
                      go_wp2
                      go_meet
                      case rel => exact ⟨_, (true), (by first | rfl | (simp; done) | (simp [*]; done)), H', ⟨by have := HK1.out; have := HJ1.out; first | omega | exact Nat.le_refl _⟩, ⟨by (with_reducible repeat (first | apply Kd.R_alloc | apply Kd.R_drewN | apply Kd.R_drew)); exact HO_3.out⟩, ⟨by repeat (first | (with_reducible first | exact HB.out | apply below_alloc | apply pw_below_drewN | apply below_drew1) | exact HB.out)⟩⟩
                    · rw [if_neg c13] at H
                      have c13b0 : ((bt a0 x4_1) == 9) = false := beq_eq_false_iff_ne.mpr c13
                      have c13b1 : ((bt a0 x4_1) != 9) = true := bne_iff_ne.mpr c13
                      have H' := Aside0.mk H
                      clear H
                      have p10 : 0 ≤ (x4_1 : Int) := of_decide_eq_true (by first | (with_reducible assumption) | assumption)
                      have q10 : x4_1 < (a0.size : Int) := of_decide_eq_true (by first | (with_reducible assumption) | assumption)
                      have hx10 := bt_at a0 x4_1
                      replace p10 := eq_true p10
                      replace q10 := eq_true q10
                      have p12 : 0 ≤ (x4_1 : Int) := of_decide_eq_true (by first | (with_reducible assumption) | assumption)
                      have q12 : x4_1 < (a0.size : Int) := of_decide_eq_true (by first | (with_reducible assumption) | assumption)
                      have hx12 := bt_at a0 x4_1
                      replace p12 := eq_true p12
                      replace q12 := eq_true q12
                      have p14 : 0 ≤ (x4_1 : Int) := of_decide_eq_true (by first | (with_reducible assumption) | assumption)
                      have q14 : x4_1 < (a0.size : Int) := of_decide_eq_true (by first | (with_reducible assumption) | assumption)
                      have hx14 := bt_at a0 x4_1
                      replace p14 := eq_true p14
                      replace q14 := eq_true q14
                      go_wp2
                      go_meet
                      case rel => exact ⟨_, (((bt a0 x4_1) == 13)), (by first | rfl | (simp; done) | (simp [*]; done)), H', ⟨by have := HK1.out; have := HJ1.out; first | omega | exact Nat.le_refl _⟩, ⟨by (with_reducible repeat (first | apply Kd.R_alloc | apply Kd.R_drewN | apply Kd.R_drew)); exact HO_3.out⟩, ⟨by repeat (first | (with_reducible first | exact HB.out | apply below_alloc | apply pw_below_drewN | apply below_drew1) | exact HB.out)⟩⟩
                · rw [if_neg c9] at H
                  exact absurd H (by simp)
              · rw [if_neg c8] at H
                exact absurd H (by simp)
            case rest =>
              clear HC7
              try clear c1
              try clear p1
              try clear q1
              try clear hx1
              try clear c2
              try clear p2
              try clear c3
              try clear c3b0
              try clear c4
              try clear c4b0
              try clear p5
              try clear q5
              try clear hx5
              try clear c6
              try clear c8
              try clear c8b0
              try clear c9
              try clear c9b0
              try clear p10
              try clear q10
              try clear hx10
              try clear c11
              try clear c11b0
              try clear c11b1
              try clear p12
              try clear q12
              try clear hx12
              try clear c13
              try clear c13b0
              try clear c13b1
              try clear p14
              try clear q14
              try clear hx14
              try clear p10
              try clear p12
              try clear p14
              try clear p2
              try clear p5
              try clear q10
              try clear q12
              try clear q14
              try clear q5
              obtain ⟨kq, x31_6, rfl, HA, HJ6, HO_3, HB⟩ := hcut
              cases kq with
              | zero => exact absurd HA.out (by simp [haymowref04_Words.j2])
              | succ kj6 =>
                have H := HA.out
                clear HA
                simp only [haymowref04_Words.j2] at H
                by_cases c15 : x31_6 = true
                · subst c15
                  have H1 : (haymowref04_Words.l0 kj6 a0 x3_1 (wrap64 (x4_1 + 1))) = some r := by rw [if_pos rfl] at H; exact H
                  clear H
                  have H := H1
                  clear H1
                  have H' := Aside0.mk H
                  clear H
                  go_wp2
                  go_roundg kj6
                  case measure => have := HK1.out; have := HJ1.out; have := HJ6.out; omega
                  case rel => exact ⟨(x3_1), (wrap64 (x4_1 + 1)), (by first | rfl | (simp; done) | (simp [*]; done)), H', ⟨by have := HK1.out; have := HJ1.out; have := HJ6.out; omega⟩, ⟨by (with_reducible repeat (first | apply Kd.R_alloc | apply Kd.R_drewN | apply Kd.R_drew)); exact HO_3.out⟩, ⟨by repeat (first | (with_reducible first | exact HB.out | apply below_alloc | apply pw_below_drewN | apply below_drew1) | exact HB.out)⟩⟩
                · replace c15 := Bool.eq_false_iff.mpr c15
                  subst c15
                  have H1 : (haymowref04_Words.l1 kj6 a0 x3_1 x4_1 x4_1) = some r := by rw [if_neg (show ¬ (false = true) by decide)] at H; exact H
                  clear H
                  have H := H1
                  clear H1
                  have H' := Aside0.mk H
                  clear H
                  go_wp2
                  go_loopg [5] kj6 (fun kq v5 w' => ∃ (x5_4 : Int), v5 = .int .i64 x5_4 ∧ Aside0 (haymowref04_Words.l1 kq a0 x3_1 x4_1 x5_4 = some r) ∧ Aside0 (kq ≤ kj6) ∧ Aside0 (Kd.R Kd.string 9 w' w.heap.size (fun _ => True) u3 x3_1) ∧ Aside0 (Below w.heap.size w w'))
                  case atStart => exact ⟨(x4_1), (by first | rfl | (simp; done) | (simp [*]; done)), H', ⟨Nat.le_refl _⟩, ⟨by (with_reducible repeat (first | apply Kd.R_alloc | apply Kd.R_drewN | apply Kd.R_drew)); exact HO_3.out⟩, ⟨by repeat (first | (with_reducible first | exact HB.out | apply below_alloc | apply pw_below_drewN | apply below_drew1) | exact HB.out)⟩⟩
                  case round =>
                    clear H'
                    try clear c1
                    try clear p1
                    try clear q1
                    try clear hx1
                    try clear c2
                    try clear p2
                    try clear c3
                    try clear c3b0
                    try clear c4
                    try clear c4b0
                    try clear p5
                    try clear q5
                    try clear hx5
                    try clear c6
                    try clear p6
                    try clear c8
                    try clear c8b0
                    try clear c9
                    try clear c9b0
                    try clear p10
                    try clear q10
                    try clear hx10
                    try clear c11
                    try clear c11b0
                    try clear c11b1
                    try clear p12
                    try clear q12
                    try clear hx12
                    try clear c13
                    try clear c13b0
                    try clear c13b1
                    try clear p14
                    try clear q14
                    try clear hx14
                    try clear c15
                    try clear p1
                    try clear p10
                    try clear p12
                    try clear p14
                    try clear p2
                    try clear p5
                    try clear q1
                    try clear q10
                    try clear q12
                    try clear q14
                    try clear q5
                    obtain ⟨x5_4, rfl, HA, HK4, HO_3, HB⟩ := hrel
                    cases gk with
                    | zero => exact absurd HA.out (by simp [haymowref04_Words.l1])
                    | succ k4 =>
                      have H := HA.out
                      clear HA
                      simp only [haymowref04_Words.l1] at H
                      by_cases c16 : x5_4 < (a0.size : Int)
                      · rw [if_pos c16] at H
                        have c16b0 : decide (x5_4 < (a0.size : Int)) = true := decide_eq_true c16
                        clear c16
                        by_cases c17 : 0 ≤ x5_4
                        · rw [if_pos c17] at H
                          have c17b0 : decide (0 ≤ x5_4) = true := decide_eq_true c17
                          clear c17
                          by_cases c19 : (bt a0 x5_4) = 35
                          · rw [if_pos c19] at H
                            have c19b0 : ((bt a0 x5_4) == 35) = true := beq_iff_eq.mpr c19
                            have c19b1 : ((bt a0 x5_4) != 35) = false := bne_eq_false_iff_eq.mpr c19
                            clear c19
                            by_cases c20 : 0 ≤ x4_1
                            · rw [if_pos c20] at H
                              have c20b0 := eq_true c20
                              have c20b1 : decide (0 ≤ x4_1) = true := decide_eq_true c20
                              clear c20
                              by_cases c21 : x4_1 ≤ x5_4
                              · rw [if_pos c21] at H
                                have c21b0 := eq_true c21
                                have c21b1 : decide (x4_1 ≤ x5_4) = true := decide_eq_true c21
                                clear c21
                                by_cases c22 : x5_4 ≤ (a0.size : Int)
                                · rw [if_pos c22] at H
                                  have c22b0 := eq_true c22
                                  have c22b1 : decide (x5_4 ≤ (a0.size : Int)) = true := decide_eq_true c22
                                  clear c22
                                  by_cases c23 : x3_1.length < 8796093022208
                                  · rw [if_pos c23] at H
                                    have LMc23 := Aside0.mk c23
                                    clear c23
                                    obtain ⟨y101, hy101⟩ : ∃ y_ : List ByteArray, y_ = (x3_1 ++ [a0.extract (x4_1 : Int).toNat (x5_4 : Int).toNat]) := ⟨_, rfl⟩
                                    replace H : (haymowref04_Words.l0 k4 a0 y101 x5_4) = some r := by first | (rw [hy101]; with_reducible exact H) | (have H2_ := (Option.bind_some _ _).symm.trans H; rw [hy101]; with_reducible exact H2_) | (have H2_ := (Option.bind_some _ _).symm.trans H; with_reducible exact H2_) | with_reducible exact H | (rw [hy101]; exact H) | exact H
                                    have Ny101 := Aside0.mk hy101
                                    clear hy101
                                    have H' := Aside0.mk H
                                    clear H
                                    have p18 : 0 ≤ (x5_4 : Int) := of_decide_eq_true (by first | (with_reducible assumption) | assumption)
                                    have q18 : x5_4 < (a0.size : Int) := of_decide_eq_true (by first | (with_reducible assumption) | assumption)
                                    have hx18 := bt_at a0 x5_4
                                    replace p18 := eq_true p18
                                    replace q18 := eq_true q18
                                    go_wp2_with (first | ((with_reducible refine gate_builtin (b := .append) (xs := #[.tmp 65, .tmp 70]) rfl ?_); at_builtin; refine Kd.R_append Kd.string (w0 := w) w.heap.size rfl (.tmp 65) (.tmp 70) 35 9 (.string ⟨#[]⟩) 16 rfl Tryd.underlying35 info9 rfl (by decide) (by omega) u3 x3_1 (a0.extract (x4_1 : Int).toNat (x5_4 : Int).toNat) [.string (a0.extract (x4_1 : Int).toNat (x5_4 : Int).toNat)] (fun _ => True) (fun _ => False) rfl rfl ?aP (fun _ hk => hk.elim) ?aF ?aO ?aB ?aS ?aL ?_; (case aP => exact rfl); (case aB => exact (by repeat (first | (with_reducible first | exact HB.out | apply below_alloc | apply pw_below_drewN | apply below_drew1) | exact HB.out))); (case aF => exact (fun _ _ => trivial)); (case aO => exact (by (with_reducible repeat (first | apply Kd.R_alloc | apply Kd.R_drewN | apply Kd.R_drew)); exact HO_3.out)); (case aS => exact (below_size (by repeat (first | (with_reducible first | exact HB.out | apply below_alloc | apply pw_below_drewN | apply below_drew1) | exact HB.out)))); (case aL => have := LMc23.out; omega); intro v102 w24 ho hb hg hat; rw [← Ny101.out] at ho; have n0_ := Aside0.mk (hb); have n1_ := Aside0.mk (ho); clear HB; clear HO_3; have HB := n0_; have HO103 := n1_; clear n0_ n1_; clear ho hb hg hat))
                                    go_roundg k4
                                    case measure => have := HK1.out; have := HJ1.out; have := HJ6.out; have := HK4.out; omega
                                    case rel => exact ⟨(y101), (x5_4), (by first | rfl | (simp; done) | (simp [*]; done)), H', ⟨by have := HK1.out; have := HJ1.out; have := HJ6.out; have := HK4.out; omega⟩, ⟨by (with_reducible repeat (first | apply Kd.R_alloc | apply Kd.R_drewN | apply Kd.R_drew)); exact HO103.out⟩, ⟨by repeat (first | (with_reducible first | exact HB.out | apply below_alloc | apply pw_below_drewN | apply below_drew1) | exact HB.out)⟩⟩
                                  · rw [if_neg c23] at H
                                    exact absurd H (by simp)
                                · rw [if_neg c22] at H
                                  exact absurd H (by simp)
                              · rw [if_neg c21] at H
                                exact absurd H (by simp)
                            · rw [if_neg c20] at H
                              exact absurd H (by simp)
                          · rw [if_neg c19] at H
                            have c19b0 : ((bt a0 x5_4) == 35) = false := beq_eq_false_iff_ne.mpr c19
                            have c19b1 : ((bt a0 x5_4) != 35) = true := bne_iff_ne.mpr c19
                            by_cases c26 : (bt a0 x5_4) = 32
                            · rw [if_pos c26] at H
                              have c26b0 : ((bt a0 x5_4) == 32) = true := beq_iff_eq.mpr c26
                              have c26b1 : ((bt a0 x5_4) != 32) = false := bne_eq_false_iff_eq.mpr c26
                              clear c26
                              by_cases c27 : 0 ≤ x4_1
                              · rw [if_pos c27] at H
                                have c27b0 := eq_true c27
                                have c27b1 : decide (0 ≤ x4_1) = true := decide_eq_true c27
                                clear c27
                                by_cases c28 : x4_1 ≤ x5_4
                                · rw [if_pos c28] at H
                                  have c28b0 := eq_true c28
                                  have c28b1 : decide (x4_1 ≤ x5_4) = true := decide_eq_true c28
                                  clear c28
                                  by_cases c29 : x5_4 ≤ (a0.size : Int)
                                  · rw [if_pos c29] at H
                                    have c29b0 := eq_true c29
                                    have c29b1 : decide (x5_4 ≤ (a0.size : Int)) = true := decide_eq_true c29
                                    clear c29
                                    by_cases c30 : x3_1.length < 8796093022208
                                    · rw [if_pos c30] at H
                                      have LMc30 := Aside0.mk c30
                                      clear c30
                                      obtain ⟨y104, hy104⟩ : ∃ y_ : List ByteArray, y_ = (x3_1 ++ [a0.extract (x4_1 : Int).toNat (x5_4 : Int).toNat]) := ⟨_, rfl⟩
                                      replace H : (haymowref04_Words.l0 k4 a0 y104 x5_4) = some r := by first | (rw [hy104]; with_reducible exact H) | (have H2_ := (Option.bind_some _ _).symm.trans H; rw [hy104]; with_reducible exact H2_) | (have H2_ := (Option.bind_some _ _).symm.trans H; with_reducible exact H2_) | with_reducible exact H | (rw [hy104]; exact H) | exact H
                                      have Ny104 := Aside0.mk hy104
                                      clear hy104
                                      have H' := Aside0.mk H
                                      clear H
                                      have p18 : 0 ≤ (x5_4 : Int) := of_decide_eq_true (by first | (with_reducible assumption) | assumption)
                                      have q18 : x5_4 < (a0.size : Int) := of_decide_eq_true (by first | (with_reducible assumption) | assumption)
                                      have hx18 := bt_at a0 x5_4
                                      replace p18 := eq_true p18
                                      replace q18 := eq_true q18
                                      have p25 : 0 ≤ (x5_4 : Int) := of_decide_eq_true (by first | (with_reducible assumption) | assumption)
                                      have q25 : x5_4 < (a0.size : Int) := of_decide_eq_true (by first | (with_reducible assumption) | assumption)
                                      have hx25 := bt_at a0 x5_4
                                      replace p25 := eq_true p25
                                      replace q25 := eq_true q25
                                      go_wp2_with (first | ((with_reducible refine gate_builtin (b := .append) (xs := #[.tmp 65, .tmp 70]) rfl ?_); at_builtin; refine Kd.R_append Kd.string (w0 := w) w.heap.size rfl (.tmp 65) (.tmp 70) 35 9 (.string ⟨#[]⟩) 16 rfl Tryd.underlying35 info9 rfl (by decide) (by omega) u3 x3_1 (a0.extract (x4_1 : Int).toNat (x5_4 : Int).toNat) [.string (a0.extract (x4_1 : Int).toNat (x5_4 : Int).toNat)] (fun _ => True) (fun _ => False) rfl rfl ?aP (fun _ hk => hk.elim) ?aF ?aO ?aB ?aS ?aL ?_; (case aP => exact rfl); (case aB => exact (by repeat (first | (with_reducible first | exact HB.out | apply below_alloc | apply pw_below_drewN | apply below_drew1) | exact HB.out))); (case aF => exact (fun _ _ => trivial)); (case aO => exact (by (with_reducible repeat (first | apply Kd.R_alloc | apply Kd.R_drewN | apply Kd.R_drew)); exact HO_3.out)); (case aS => exact (below_size (by repeat (first | (with_reducible first | exact HB.out | apply below_alloc | apply pw_below_drewN | apply below_drew1) | exact HB.out)))); (case aL => have := LMc30.out; omega); intro v105 w31 ho hb hg hat; rw [← Ny104.out] at ho; have n0_ := Aside0.mk (hb); have n1_ := Aside0.mk (ho); clear HB; clear HO_3; have HB := n0_; have HO106 := n1_; clear n0_ n1_; clear ho hb hg hat))
                                      go_roundg k4
                                      case measure => have := HK1.out; have := HJ1.out; have := HJ6.out; have := HK4.out; omega
                                      case rel => exact ⟨(y104), (x5_4), (by first | rfl | (simp; done) | (simp [*]; done)), H', ⟨by have := HK1.out; have := HJ1.out; have := HJ6.out; have := HK4.out; omega⟩, ⟨by (with_reducible repeat (first | apply Kd.R_alloc | apply Kd.R_drewN | apply Kd.R_drew)); exact HO106.out⟩, ⟨by repeat (first | (with_reducible first | exact HB.out | apply below_alloc | apply pw_below_drewN | apply below_drew1) | exact HB.out)⟩⟩
                                    · rw [if_neg c30] at H
                                      exact absurd H (by simp)
                                  · rw [if_neg c29] at H
                                    exact absurd H (by simp)
                                · rw [if_neg c28] at H
                                  exact absurd H (by simp)
                              · rw [if_neg c27] at H
                                exact absurd H (by simp)
                            · rw [if_neg c26] at H
                              have c26b0 : ((bt a0 x5_4) == 32) = false := beq_eq_false_iff_ne.mpr c26
                              have c26b1 : ((bt a0 x5_4) != 32) = true := bne_iff_ne.mpr c26
                              by_cases c33 : (bt a0 x5_4) = 9
                              · rw [if_pos c33] at H
                                have c33b0 : ((bt a0 x5_4) == 9) = true := beq_iff_eq.mpr c33
                                have c33b1 : ((bt a0 x5_4) != 9) = false := bne_eq_false_iff_eq.mpr c33
                                clear c33
                                by_cases c34 : 0 ≤ x4_1
                                · rw [if_pos c34] at H
                                  have c34b0 := eq_true c34
                                  have c34b1 : decide (0 ≤ x4_1) = true := decide_eq_true c34
                                  clear c34
                                  by_cases c35 : x4_1 ≤ x5_4
                                  · rw [if_pos c35] at H
                                    have c35b0 := eq_true c35
                                    have c35b1 : decide (x4_1 ≤ x5_4) = true := decide_eq_true c35
                                    clear c35
                                    by_cases c36 : x5_4 ≤ (a0.size : Int)
                                    · rw [if_pos c36] at H
                                      have c36b0 := eq_true c36
                                      have c36b1 : decide (x5_4 ≤ (a0.size : Int)) = true := decide_eq_true c36
                                      clear c36
                                      by_cases c37 : x3_1.length < 8796093022208
                                      · rw [if_pos c37] at H
                                        have LMc37 := Aside0.mk c37
                                        clear c37
                                        obtain ⟨y107, hy107⟩ : ∃ y_ : List ByteArray, y_ = (x3_1 ++ [a0.extract (x4_1 : Int).toNat (x5_4 : Int).toNat]) := ⟨_, rfl⟩
                                        replace H : (haymowref04_Words.l0 k4 a0 y107 x5_4) = some r := by first | (rw [hy107]; with_reducible exact H) | (have H2_ := (Option.bind_some _ _).symm.trans H; rw [hy107]; with_reducible exact H2_) | (have H2_ := (Option.bind_some _ _).symm.trans H; with_reducible exact H2_) | with_reducible exact H | (rw [hy107]; exact H) | exact H
                                        have Ny107 := Aside0.mk hy107
                                        clear hy107
                                        have H' := Aside0.mk H
                                        clear H
                                        have p18 : 0 ≤ (x5_4 : Int) := of_decide_eq_true (by first | (with_reducible assumption) | assumption)
                                        have q18 : x5_4 < (a0.size : Int) := of_decide_eq_true (by first | (with_reducible assumption) | assumption)
                                        have hx18 := bt_at a0 x5_4
                                        replace p18 := eq_true p18
                                        replace q18 := eq_true q18
                                        have p25 : 0 ≤ (x5_4 : Int) := of_decide_eq_true (by first | (with_reducible assumption) | assumption)
                                        have q25 : x5_4 < (a0.size : Int) := of_decide_eq_true (by first | (with_reducible assumption) | assumption)
                                        have hx25 := bt_at a0 x5_4
                                        replace p25 := eq_true p25
                                        replace q25 := eq_true q25
                                        have p32 : 0 ≤ (x5_4 : Int) := of_decide_eq_true (by first | (with_reducible assumption) | assumption)
                                        have q32 : x5_4 < (a0.size : Int) := of_decide_eq_true (by first | (with_reducible assumption) | assumption)
                                        have hx32 := bt_at a0 x5_4
                                        replace p32 := eq_true p32
                                        replace q32 := eq_true q32
                                        go_wp2_with (first | ((with_reducible refine gate_builtin (b := .append) (xs := #[.tmp 65, .tmp 70]) rfl ?_); at_builtin; refine Kd.R_append Kd.string (w0 := w) w.heap.size rfl (.tmp 65) (.tmp 70) 35 9 (.string ⟨#[]⟩) 16 rfl Tryd.underlying35 info9 rfl (by decide) (by omega) u3 x3_1 (a0.extract (x4_1 : Int).toNat (x5_4 : Int).toNat) [.string (a0.extract (x4_1 : Int).toNat (x5_4 : Int).toNat)] (fun _ => True) (fun _ => False) rfl rfl ?aP (fun _ hk => hk.elim) ?aF ?aO ?aB ?aS ?aL ?_; (case aP => exact rfl); (case aB => exact (by repeat (first | (with_reducible first | exact HB.out | apply below_alloc | apply pw_below_drewN | apply below_drew1) | exact HB.out))); (case aF => exact (fun _ _ => trivial)); (case aO => exact (by (with_reducible repeat (first | apply Kd.R_alloc | apply Kd.R_drewN | apply Kd.R_drew)); exact HO_3.out)); (case aS => exact (below_size (by repeat (first | (with_reducible first | exact HB.out | apply below_alloc | apply pw_below_drewN | apply below_drew1) | exact HB.out)))); (case aL => have := LMc37.out; omega); intro v108 w38 ho hb hg hat; rw [← Ny107.out] at ho; have n0_ := Aside0.mk (hb); have n1_ := Aside0.mk (ho); clear HB; clear HO_3; have HB := n0_; have HO109 := n1_; clear n0_ n1_; clear ho hb hg hat))
                                        go_roundg k4
                                        case measure => have := HK1.out; have := HJ1.out; have := HJ6.out; have := HK4.out; omega
                                        case rel => exact ⟨(y107), (x5_4), (by first | rfl | (simp; done) | (simp [*]; done)), H', ⟨by have := HK1.out; have := HJ1.out; have := HJ6.out; have := HK4.out; omega⟩, ⟨by (with_reducible repeat (first | apply Kd.R_alloc | apply Kd.R_drewN | apply Kd.R_drew)); exact HO109.out⟩, ⟨by repeat (first | (with_reducible first | exact HB.out | apply below_alloc | apply pw_below_drewN | apply below_drew1) | exact HB.out)⟩⟩
                                      · rw [if_neg c37] at H
                                        exact absurd H (by simp)
                                    · rw [if_neg c36] at H
                                      exact absurd H (by simp)
                                  · rw [if_neg c35] at H
                                    exact absurd H (by simp)
                                · rw [if_neg c34] at H
                                  exact absurd H (by simp)
                              · rw [if_neg c33] at H
                                have c33b0 : ((bt a0 x5_4) == 9) = false := beq_eq_false_iff_ne.mpr c33
                                have c33b1 : ((bt a0 x5_4) != 9) = true := bne_iff_ne.mpr c33
                                by_cases c40 : (bt a0 x5_4) = 13
                                · rw [if_pos c40] at H
                                  have c40b0 : ((bt a0 x5_4) == 13) = true := beq_iff_eq.mpr c40
                                  have c40b1 : ((bt a0 x5_4) != 13) = false := bne_eq_false_iff_eq.mpr c40
                                  clear c40
                                  by_cases c41 : 0 ≤ x4_1
                                  · rw [if_pos c41] at H
                                    have c41b0 := eq_true c41
                                    have c41b1 : decide (0 ≤ x4_1) = true := decide_eq_true c41
                                    clear c41
                                    by_cases c42 : x4_1 ≤ x5_4
                                    · rw [if_pos c42] at H
                                      have c42b0 := eq_true c42
                                      have c42b1 : decide (x4_1 ≤ x5_4) = true := decide_eq_true c42
                                      clear c42
                                      by_cases c43 : x5_4 ≤ (a0.size : Int)
                                      · rw [if_pos c43] at H
                                        have c43b0 := eq_true c43
                                        have c43b1 : decide (x5_4 ≤ (a0.size : Int)) = true := decide_eq_true c43
                                        clear c43
                                        by_cases c44 : x3_1.length < 8796093022208
                                        · rw [if_pos c44] at H
                                          have LMc44 := Aside0.mk c44
                                          clear c44
                                          obtain ⟨y110, hy110⟩ : ∃ y_ : List ByteArray, y_ = (x3_1 ++ [a0.extract (x4_1 : Int).toNat (x5_4 : Int).toNat]) := ⟨_, rfl⟩
                                          replace H : (haymowref04_Words.l0 k4 a0 y110 x5_4) = some r := by first | (rw [hy110]; with_reducible exact H) | (have H2_ := (Option.bind_some _ _).symm.trans H; rw [hy110]; with_reducible exact H2_) | (have H2_ := (Option.bind_some _ _).symm.trans H; with_reducible exact H2_) | with_reducible exact H | (rw [hy110]; exact H) | exact H
                                          have Ny110 := Aside0.mk hy110
                                          clear hy110
                                          have H' := Aside0.mk H
                                          clear H
                                          have p18 : 0 ≤ (x5_4 : Int) := of_decide_eq_true (by first | (with_reducible assumption) | assumption)
                                          have q18 : x5_4 < (a0.size : Int) := of_decide_eq_true (by first | (with_reducible assumption) | assumption)
                                          have hx18 := bt_at a0 x5_4
                                          replace p18 := eq_true p18
                                          replace q18 := eq_true q18
                                          have p25 : 0 ≤ (x5_4 : Int) := of_decide_eq_true (by first | (with_reducible assumption) | assumption)
                                          have q25 : x5_4 < (a0.size : Int) := of_decide_eq_true (by first | (with_reducible assumption) | assumption)
                                          have hx25 := bt_at a0 x5_4
                                          replace p25 := eq_true p25
                                          replace q25 := eq_true q25
                                          have p32 : 0 ≤ (x5_4 : Int) := of_decide_eq_true (by first | (with_reducible assumption) | assumption)
                                          have q32 : x5_4 < (a0.size : Int) := of_decide_eq_true (by first | (with_reducible assumption) | assumption)
                                          have hx32 := bt_at a0 x5_4
                                          replace p32 := eq_true p32
                                          replace q32 := eq_true q32
                                          have p39 : 0 ≤ (x5_4 : Int) := of_decide_eq_true (by first | (with_reducible assumption) | assumption)
                                          have q39 : x5_4 < (a0.size : Int) := of_decide_eq_true (by first | (with_reducible assumption) | assumption)
                                          have hx39 := bt_at a0 x5_4
                                          replace p39 := eq_true p39
                                          replace q39 := eq_true q39
                                          go_wp2_with (first | ((with_reducible refine gate_builtin (b := .append) (xs := #[.tmp 65, .tmp 70]) rfl ?_); at_builtin; refine Kd.R_append Kd.string (w0 := w) w.heap.size rfl (.tmp 65) (.tmp 70) 35 9 (.string ⟨#[]⟩) 16 rfl Tryd.underlying35 info9 rfl (by decide) (by omega) u3 x3_1 (a0.extract (x4_1 : Int).toNat (x5_4 : Int).toNat) [.string (a0.extract (x4_1 : Int).toNat (x5_4 : Int).toNat)] (fun _ => True) (fun _ => False) rfl rfl ?aP (fun _ hk => hk.elim) ?aF ?aO ?aB ?aS ?aL ?_; (case aP => exact rfl); (case aB => exact (by repeat (first | (with_reducible first | exact HB.out | apply below_alloc | apply pw_below_drewN | apply below_drew1) | exact HB.out))); (case aF => exact (fun _ _ => trivial)); (case aO => exact (by (with_reducible repeat (first | apply Kd.R_alloc | apply Kd.R_drewN | apply Kd.R_drew)); exact HO_3.out)); (case aS => exact (below_size (by repeat (first | (with_reducible first | exact HB.out | apply below_alloc | apply pw_below_drewN | apply below_drew1) | exact HB.out)))); (case aL => have := LMc44.out; omega); intro v111 w45 ho hb hg hat; rw [← Ny110.out] at ho; have n0_ := Aside0.mk (hb); have n1_ := Aside0.mk (ho); clear HB; clear HO_3; have HB := n0_; have HO112 := n1_; clear n0_ n1_; clear ho hb hg hat))
                                          go_roundg k4
                                          case measure => have := HK1.out; have := HJ1.out; have := HJ6.out; have := HK4.out; omega
                                          case rel => exact ⟨(y110), (x5_4), (by first | rfl | (simp; done) | (simp [*]; done)), H', ⟨by have := HK1.out; have := HJ1.out; have := HJ6.out; have := HK4.out; omega⟩, ⟨by (with_reducible repeat (first | apply Kd.R_alloc | apply Kd.R_drewN | apply Kd.R_drew)); exact HO112.out⟩, ⟨by repeat (first | (with_reducible first | exact HB.out | apply below_alloc | apply pw_below_drewN | apply below_drew1) | exact HB.out)⟩⟩
                                        · rw [if_neg c44] at H
                                          exact absurd H (by simp)
                                      · rw [if_neg c43] at H
                                        exact absurd H (by simp)
                                    · rw [if_neg c42] at H
                                      exact absurd H (by simp)
                                  · rw [if_neg c41] at H
                                    exact absurd H (by simp)
                                · rw [if_neg c40] at H
                                  have c40b0 : ((bt a0 x5_4) == 13) = false := beq_eq_false_iff_ne.mpr c40
                                  have c40b1 : ((bt a0 x5_4) != 13) = true := bne_iff_ne.mpr c40
                                  have H' := Aside0.mk H
                                  clear H
                                  have p18 : 0 ≤ (x5_4 : Int) := of_decide_eq_true (by first | (with_reducible assumption) | assumption)
                                  have q18 : x5_4 < (a0.size : Int) := of_decide_eq_true (by first | (with_reducible assumption) | assumption)
                                  have hx18 := bt_at a0 x5_4
                                  replace p18 := eq_true p18
                                  replace q18 := eq_true q18
                                  have p25 : 0 ≤ (x5_4 : Int) := of_decide_eq_true (by first | (with_reducible assumption) | assumption)
                                  have q25 : x5_4 < (a0.size : Int) := of_decide_eq_true (by first | (with_reducible assumption) | assumption)
                                  have hx25 := bt_at a0 x5_4
                                  replace p25 := eq_true p25
                                  replace q25 := eq_true q25
                                  have p32 : 0 ≤ (x5_4 : Int) := of_decide_eq_true (by first | (with_reducible assumption) | assumption)
                                  have q32 : x5_4 < (a0.size : Int) := of_decide_eq_true (by first | (with_reducible assumption) | assumption)
                                  have hx32 := bt_at a0 x5_4
                                  replace p32 := eq_true p32
                                  replace q32 := eq_true q32
                                  have p39 : 0 ≤ (x5_4 : Int) := of_decide_eq_true (by first | (with_reducible assumption) | assumption)
                                  have q39 : x5_4 < (a0.size : Int) := of_decide_eq_true (by first | (with_reducible assumption) | assumption)
                                  have hx39 := bt_at a0 x5_4
                                  replace p39 := eq_true p39
                                  replace q39 := eq_true q39
                                  go_wp2
                                  go_roundg k4
                                  case measure => have := HK1.out; have := HJ1.out; have := HJ6.out; have := HK4.out; omega
                                  case rel => exact ⟨(wrap64 (x5_4 + 1)), (by first | rfl | (simp; done) | (simp [*]; done)), H', ⟨by have := HK1.out; have := HJ1.out; have := HJ6.out; have := HK4.out; omega⟩, ⟨by (with_reducible repeat (first | apply Kd.R_alloc | apply Kd.R_drewN | apply Kd.R_drew)); exact HO_3.out⟩, ⟨by repeat (first | (with_reducible first | exact HB.out | apply below_alloc | apply pw_below_drewN | apply below_drew1) | exact HB.out)⟩⟩
                        · rw [if_neg c17] at H
                          exact absurd H (by simp)
                      · rw [if_neg c16] at H
                        have c16b0 : decide (x5_4 < (a0.size : Int)) = false := decide_eq_false c16
                        clear c16
                        by_cases c46 : 0 ≤ x4_1
                        · rw [if_pos c46] at H
                          have c46b0 := eq_true c46
                          have c46b1 : decide (0 ≤ x4_1) = true := decide_eq_true c46
                          clear c46
                          by_cases c47 : x4_1 ≤ x5_4
                          · rw [if_pos c47] at H
                            have c47b0 := eq_true c47
                            have c47b1 : decide (x4_1 ≤ x5_4) = true := decide_eq_true c47
                            clear c47
                            by_cases c48 : x5_4 ≤ (a0.size : Int)
                            · rw [if_pos c48] at H
                              have c48b0 := eq_true c48
                              have c48b1 : decide (x5_4 ≤ (a0.size : Int)) = true := decide_eq_true c48
                              clear c48
                              by_cases c49 : x3_1.length < 8796093022208
                              · rw [if_pos c49] at H
                                have LMc49 := Aside0.mk c49
                                clear c49
                                obtain ⟨y113, hy113⟩ : ∃ y_ : List ByteArray, y_ = (x3_1 ++ [a0.extract (x4_1 : Int).toNat (x5_4 : Int).toNat]) := ⟨_, rfl⟩
                                replace H : (haymowref04_Words.l0 k4 a0 y113 x5_4) = some r := by first | (rw [hy113]; with_reducible exact H) | (have H2_ := (Option.bind_some _ _).symm.trans H; rw [hy113]; with_reducible exact H2_) | (have H2_ := (Option.bind_some _ _).symm.trans H; with_reducible exact H2_) | with_reducible exact H | (rw [hy113]; exact H) | exact H
                                have Ny113 := Aside0.mk hy113
                                clear hy113
                                have H' := Aside0.mk H
                                clear H
                                go_wp2_with (first | ((with_reducible refine gate_builtin (b := .append) (xs := #[.tmp 65, .tmp 70]) rfl ?_); at_builtin; refine Kd.R_append Kd.string (w0 := w) w.heap.size rfl (.tmp 65) (.tmp 70) 35 9 (.string ⟨#[]⟩) 16 rfl Tryd.underlying35 info9 rfl (by decide) (by omega) u3 x3_1 (a0.extract (x4_1 : Int).toNat (x5_4 : Int).toNat) [.string (a0.extract (x4_1 : Int).toNat (x5_4 : Int).toNat)] (fun _ => True) (fun _ => False) rfl rfl ?aP (fun _ hk => hk.elim) ?aF ?aO ?aB ?aS ?aL ?_; (case aP => exact rfl); (case aB => exact (by repeat (first | (with_reducible first | exact HB.out | apply below_alloc | apply pw_below_drewN | apply below_drew1) | exact HB.out))); (case aF => exact (fun _ _ => trivial)); (case aO => exact (by (with_reducible repeat (first | apply Kd.R_alloc | apply Kd.R_drewN | apply Kd.R_drew)); exact HO_3.out)); (case aS => exact (below_size (by repeat (first | (with_reducible first | exact HB.out | apply below_alloc | apply pw_below_drewN | apply below_drew1) | exact HB.out)))); (case aL => have := LMc49.out; omega); intro v114 w50 ho hb hg hat; rw [← Ny113.out] at ho; have n0_ := Aside0.mk (hb); have n1_ := Aside0.mk (ho); clear HB; clear HO_3; have HB := n0_; have HO115 := n1_; clear n0_ n1_; clear ho hb hg hat))
                                go_roundg k4
                                case measure => have := HK1.out; have := HJ1.out; have := HJ6.out; have := HK4.out; omega
                                case rel => exact ⟨(y113), (x5_4), (by first | rfl | (simp; done) | (simp [*]; done)), H', ⟨by have := HK1.out; have := HJ1.out; have := HJ6.out; have := HK4.out; omega⟩, ⟨by (with_reducible repeat (first | apply Kd.R_alloc | apply Kd.R_drewN | apply Kd.R_drew)); exact HO115.out⟩, ⟨by repeat (first | (with_reducible first | exact HB.out | apply below_alloc | apply pw_below_drewN | apply below_drew1) | exact HB.out)⟩⟩
                              · rw [if_neg c49] at H
                                exact absurd H (by simp)
                            · rw [if_neg c48] at H
                              exact absurd H (by simp)
                          · rw [if_neg c47] at H
                            exact absurd H (by simp)
                        · rw [if_neg c46] at H
                          exact absurd H (by simp)
          · replace c6 := Bool.eq_false_iff.mpr c6
            subst c6
            have H1 : (some x3_1) = some r := by rw [if_neg (show ¬ (false = true) by decide)] at H; exact H
            clear H
            have H := H1
            clear H1
            obtain rfl := Option.some.inj H
            go_wp2
            go_ret
            exact ⟨_, by first | rfl | (simp [errW_none, errW_some] <;> rfl) | (simp [*, errW_none, errW_some] <;> rfl), by (with_reducible repeat (first | apply Kd.R_alloc | apply Kd.R_drewN | apply Kd.R_drew)); exact HO_3.out, by repeat (first | (with_reducible first | exact HB.out | apply below_alloc | apply pw_below_drewN | apply below_drew1) | exact HB.out)⟩

/-! ### haymowref04_number: function 27 -/
mutual
def haymowref04_number.j0 : Nat → ByteArray → Bool → Option (Int × Bool)
  | 0, _, _ => none
  | k + 1, x0, x6 => if x6 = true then (if 1 ≤ (x0.size : Int) then (haymowref04_number.j1 k (x0.extract 1 x0.size) x6) else (none)) else (haymowref04_number.j1 k x0 x6)
def haymowref04_number.j1 : Nat → ByteArray → Bool → Option (Int × Bool)
  | 0, _, _ => none
  | k + 1, x0, x6 => if (x0.size : Int) = 0 then (haymowref04_number.j2 k x0 x6 true) else (if (x0.size : Int) > 10 then (haymowref04_number.j2 k x0 x6 true) else (if 0 < (x0.size : Int) then (if (bt x0 0) = 48 then (if (x0.size : Int) > 1 then (haymowref04_number.j2 k x0 x6 true) else (haymowref04_number.j2 k x0 x6 x6)) else (haymowref04_number.j2 k x0 x6 false)) else (none)))
def haymowref04_number.j2 : Nat → ByteArray → Bool → Bool → Option (Int × Bool)
  | 0, _, _, _ => none
  | k + 1, x0, x6, x43 => if x43 = true then (some (0, false)) else (haymowref04_number.l0 k x0 x6 0 0)
def haymowref04_number.l0 : Nat → ByteArray → Bool → Int → Int → Option (Int × Bool)
  | 0, _, _, _, _ => none
  | k + 1, x0, x6, x7, x8 => if x8 < (x0.size : Int) then (if 0 ≤ x8 then (if (bt x0 x8) < 48 then (some (0, false)) else (if (bt x0 x8) > 57 then (some (0, false)) else (haymowref04_number.l0 k x0 x6 (wrap64 ((wrap64 (10 * x7)) + (((bt x0 x8) - 48) % 256))) (wrap64 (x8 + 1))))) else (none)) else (if x6 = true then (some (wrap64 (-x7), true)) else (some (x7, true)))
end
def haymowref04_number.f (k : Nat) (a0 : ByteArray) (a1 : Bool) : Option (Int × Bool) := if a1 = true then (if (a0.size : Int) > 0 then (if 0 < (a0.size : Int) then (haymowref04_number.j0 k a0 ((bt a0 0) == 45)) else (none)) else (haymowref04_number.j0 k a0 false)) else (haymowref04_number.j0 k a0 false)
theorem haymowref04_number.mono_l : ∀ k, (∀ y0 y1, LeO (haymowref04_number.j0 k y0 y1) (haymowref04_number.j0 (k + 1) y0 y1)) ∧ (∀ y0 y1, LeO (haymowref04_number.j1 k y0 y1) (haymowref04_number.j1 (k + 1) y0 y1)) ∧ (∀ y0 y1 y2, LeO (haymowref04_number.j2 k y0 y1 y2) (haymowref04_number.j2 (k + 1) y0 y1 y2)) ∧ (∀ y0 y1 y2 y3, LeO (haymowref04_number.l0 k y0 y1 y2 y3) (haymowref04_number.l0 (k + 1) y0 y1 y2 y3))
  | 0 => ⟨fun _ _ r h => by simp [haymowref04_number.j0] at h, fun _ _ r h => by simp [haymowref04_number.j1] at h, fun _ _ _ r h => by simp [haymowref04_number.j2] at h, fun _ _ _ _ r h => by simp [haymowref04_number.l0] at h⟩
  | k + 1 => by
    obtain ⟨ih0, ih1, ih2, ih3⟩ := haymowref04_number.mono_l k
    refine ⟨?_, ?_, ?_, ?_⟩
    · intro y0 y1
      unfold haymowref04_number.j0
      repeat' first
      | (with_reducible exact ih0 _ _)
      | (with_reducible exact ih1 _ _)
      | (with_reducible exact ih2 _ _ _)
      | (with_reducible exact ih3 _ _ _ _)
      | (with_reducible exact LeO.refl _)
      | (with_reducible exact LeO.none _)
      | (with_reducible refine LeO.ite ?_ ?_)
      | (with_reducible refine LeO.bind ?_ (fun _ => ?_))
      | exact ih0 _ _
      | exact ih1 _ _
      | exact ih2 _ _ _
      | exact ih3 _ _ _ _
      | exact LeO.none _
      | refine LeO.ite ?_ ?_
      | refine LeO.bind ?_ (fun _ => ?_)
    · intro y0 y1
      unfold haymowref04_number.j1
      repeat' first
      | (with_reducible exact ih0 _ _)
      | (with_reducible exact ih1 _ _)
      | (with_reducible exact ih2 _ _ _)
      | (with_reducible exact ih3 _ _ _ _)
      | (with_reducible exact LeO.refl _)
      | (with_reducible exact LeO.none _)
      | (with_reducible refine LeO.ite ?_ ?_)
      | (with_reducible refine LeO.bind ?_ (fun _ => ?_))
      | exact ih0 _ _
      | exact ih1 _ _
      | exact ih2 _ _ _
      | exact ih3 _ _ _ _
      | exact LeO.none _
      | refine LeO.ite ?_ ?_
      | refine LeO.bind ?_ (fun _ => ?_)
    · intro y0 y1 y2
      unfold haymowref04_number.j2
      repeat' first
      | (with_reducible exact ih0 _ _)
      | (with_reducible exact ih1 _ _)
      | (with_reducible exact ih2 _ _ _)
      | (with_reducible exact ih3 _ _ _ _)
      | (with_reducible exact LeO.refl _)
      | (with_reducible exact LeO.none _)
      | (with_reducible refine LeO.ite ?_ ?_)
      | (with_reducible refine LeO.bind ?_ (fun _ => ?_))
      | exact ih0 _ _
      | exact ih1 _ _
      | exact ih2 _ _ _
      | exact ih3 _ _ _ _
      | exact LeO.none _
      | refine LeO.ite ?_ ?_
      | refine LeO.bind ?_ (fun _ => ?_)
    · intro y0 y1 y2 y3
      unfold haymowref04_number.l0
      repeat' first
      | (with_reducible exact ih0 _ _)
      | (with_reducible exact ih1 _ _)
      | (with_reducible exact ih2 _ _ _)
      | (with_reducible exact ih3 _ _ _ _)
      | (with_reducible exact LeO.refl _)
      | (with_reducible exact LeO.none _)
      | (with_reducible refine LeO.ite ?_ ?_)
      | (with_reducible refine LeO.bind ?_ (fun _ => ?_))
      | exact ih0 _ _
      | exact ih1 _ _
      | exact ih2 _ _ _
      | exact ih3 _ _ _ _
      | exact LeO.none _
      | refine LeO.ite ?_ ?_
      | refine LeO.bind ?_ (fun _ => ?_)
theorem haymowref04_number.mono : ∀ a0 a1 k, LeO (haymowref04_number.f k a0 a1) (haymowref04_number.f (k + 1) a0 a1) := by
  intro a0 a1 k
  obtain ⟨ih0, ih1, ih2, ih3⟩ := haymowref04_number.mono_l k
  unfold haymowref04_number.f
  repeat' first
      | (with_reducible exact ih0 _ _)
      | (with_reducible exact ih1 _ _)
      | (with_reducible exact ih2 _ _ _)
      | (with_reducible exact ih3 _ _ _ _)
      | (with_reducible exact LeO.refl _)
      | (with_reducible exact LeO.none _)
      | (with_reducible refine LeO.ite ?_ ?_)
      | (with_reducible refine LeO.bind ?_ (fun _ => ?_))
      | exact ih0 _ _
      | exact ih1 _ _
      | exact ih2 _ _ _
      | exact ih3 _ _ _ _
      | exact LeO.none _
      | refine LeO.ite ?_ ?_
      | refine LeO.bind ?_ (fun _ => ?_)
set_option maxHeartbeats 8000000 in
set_option maxRecDepth 100000 in
theorem haymowref04_number.calls (k : Nat) (a0 : ByteArray) (a1 : Bool) (r1 : Int) (r2 : Bool) (w : World) (h : haymowref04_number.f k a0 a1 = some (r1, r2)) :
    Calls Tryd.prog 27 #[.string a0, .bool a1] w fun e w' => e = .returned (.tuple #[.int .i64 r1, .bool r2]) ∧ Drawn0 w w' := by
  have H : (if a1 = true then (if (a0.size : Int) > 0 then (if 0 < (a0.size : Int) then (haymowref04_number.j0 k a0 ((bt a0 0) == 45)) else (none)) else (haymowref04_number.j0 k a0 false)) else (haymowref04_number.j0 k a0 false)) = some (r1, r2) := h
  clear h
  have HC3 := Aside0.mk H
  clear H
  go_enter Tryd.func27, Tryd.ntmps27
  go_upto_region 1 with (fail)
  go_cut [6] (fun v6 wc => ∃ (kq : Nat) (x6_2 : Bool), v6 = .bool x6_2 ∧ Aside0 (haymowref04_number.j0 kq a0 x6_2 = some (r1, r2)) ∧ Aside0 (kq ≤ k) ∧ Drawn0 w wc)
  case first =>
    have H := HC3.out
    clear HC3
    by_cases c4 : a1 = true
    · subst c4
      have H1 : (if (a0.size : Int) > 0 then (if 0 < (a0.size : Int) then (haymowref04_number.j0 k a0 ((bt a0 0) == 45)) else (none)) else (haymowref04_number.j0 k a0 false)) = some (r1, r2) := by rw [if_pos rfl] at H; exact H
      clear H
      have H := H1
      clear H1
      by_cases c5 : (a0.size : Int) > 0
      · rw [if_pos c5] at H
        have c5b0 : decide (0 < (a0.size : Int)) = true := decide_eq_true c5
        have c5b1 : decide (0 < a0.size) = true := decide_eq_true (by omega)
        clear c5
        (first | rw [c5b0] | (simp only [i64_w, i32_w]; rw [c5b0]) | skip)
        by_cases c6 : 0 < (a0.size : Int)
        · rw [if_pos c6] at H
          have c6b0 : decide (0 < (a0.size : Int)) = true := decide_eq_true c6
          have c6b1 : decide (0 < a0.size) = true := decide_eq_true (by omega)
          clear c6
          have H' := Aside0.mk H
          clear H
          have p7 : 0 ≤ (0 : Int) := (by omega)
          have q7 : 0 < a0.size := (by have : (0 : Int) < (a0.size : Int) := of_decide_eq_true (by first | (with_reducible assumption) | assumption); omega)
          have hx7 : ∀ h : 0 < a0.size, ((a0[0]'h).toNat : Int) = bt a0 0 := bt_at a0 0
          clear p7
          have qi7 : (0 < (a0.size : Int)) = True := eq_true (of_decide_eq_true (by first | (with_reducible assumption) | assumption))
          replace q7 := eq_true q7
          go_wp2
          go_meet
          case rel => exact ⟨_, (((bt a0 0) == 45)), (by first | rfl | (simp; done) | (simp [*]; done)), H', ⟨by first | omega | exact Nat.le_refl _⟩, by repeat (first | exact Drawn0.refl _ | apply Drawn0.step)⟩
        · rw [if_neg c6] at H
          exact absurd H (by simp)
      · rw [if_neg c5] at H
        have c5b0 : decide (0 < (a0.size : Int)) = false := decide_eq_false c5
        have c5b1 : decide (0 < a0.size) = false := decide_eq_false (by omega)
        clear c5
        (first | rw [c5b0] | (simp only [i64_w, i32_w]; rw [c5b0]) | skip)
        have H' := Aside0.mk H
        clear H
        go_wp2
        go_meet
        case rel => exact ⟨_, (false), (by first | rfl | (simp; done) | (simp [*]; done)), H', ⟨by first | omega | exact Nat.le_refl _⟩, by repeat (first | exact Drawn0.refl _ | apply Drawn0.step)⟩
    · replace c4 := Bool.eq_false_iff.mpr c4
      subst c4
      have H1 : (haymowref04_number.j0 k a0 false) = some (r1, r2) := by rw [if_neg (show ¬ (false = true) by decide)] at H; exact H
      clear H
      have H := H1
      clear H1
      have H' := Aside0.mk H
      clear H
      go_wp2
      go_meet
      case rel => exact ⟨_, (false), (by first | rfl | (simp; done) | (simp [*]; done)), H', ⟨by first | omega | exact Nat.le_refl _⟩, by repeat (first | exact Drawn0.refl _ | apply Drawn0.step)⟩
  case rest =>
    clear HC3
    try clear c2
    try clear p2
    try clear c4
    try clear c5
    try clear c5b0
    try clear c5b1
    try clear c6
    try clear c6b0
    try clear c6b1
    try clear p7
    try clear q7
    try clear hx7
    try clear qi7
    try clear p7
    try clear q7
    obtain ⟨kq, x6_2, rfl, HA, HJ2, ⟨mc2, rfl⟩⟩ := hcut
    cases kq with
    | zero => exact absurd HA.out (by simp [haymowref04_number.j0])
    | succ kj2 =>
      have H := HA.out
      clear HA
      simp only [haymowref04_number.j0] at H
      have HC8 := Aside0.mk H
      clear H
      go_upto_if 20 with (fail)
      go_cut [0] (fun v0 wc => ∃ (kq : Nat) (x0_7 : ByteArray), v0 = .string x0_7 ∧ Aside0 (haymowref04_number.j1 kq x0_7 x6_2 = some (r1, r2)) ∧ Aside0 (kq ≤ kj2) ∧ Drawn0 w wc)
      case first =>
        have H := HC8.out
        clear HC8
        by_cases c9 : x6_2 = true
        · subst c9
          have H1 : (if 1 ≤ (a0.size : Int) then (haymowref04_number.j1 kj2 (a0.extract 1 a0.size) true) else (none)) = some (r1, r2) := by rw [if_pos rfl] at H; exact H
          clear H
          have H := H1
          clear H1
          by_cases c10 : 1 ≤ (a0.size : Int)
          · rw [if_pos c10] at H
            have c10b0 := eq_true c10
            have c10b1 : decide (1 ≤ (a0.size : Int)) = true := decide_eq_true c10
            clear c10
            have H' := Aside0.mk H
            clear H
            go_wp2
            go_meet
            case rel => exact ⟨_, (a0.extract 1 a0.size), (by first | rfl | (simp; done) | (simp [*]; done)), H', ⟨by have := HJ2.out; first | omega | exact Nat.le_refl _⟩, by repeat (first | exact Drawn0.refl _ | apply Drawn0.step)⟩
          · rw [if_neg c10] at H
            exact absurd H (by simp)
        · replace c9 := Bool.eq_false_iff.mpr c9
          subst c9
          have H1 : (haymowref04_number.j1 kj2 a0 false) = some (r1, r2) := by rw [if_neg (show ¬ (false = true) by decide)] at H; exact H
          clear H
          have H := H1
          clear H1
          have H' := Aside0.mk H
          clear H
          go_wp2
          go_meet
          case rel => exact ⟨_, (a0), (by first | rfl | (simp; done) | (simp [*]; done)), H', ⟨by have := HJ2.out; first | omega | exact Nat.le_refl _⟩, by repeat (first | exact Drawn0.refl _ | apply Drawn0.step)⟩
      case rest =>
        clear HC8
        try clear c1
        try clear c2
        try clear p2
        try clear c4
        try clear c5
        try clear c5b0
        try clear c5b1
        try clear c6
        try clear c6b0
        try clear c6b1
        try clear p7
        try clear q7
        try clear hx7
        try clear qi7
        try clear c9
        try clear c10
        try clear c10b0
        try clear c10b1
        try clear p2
        try clear p7
        try clear q7
        obtain ⟨kq, x0_7, rfl, HA, HJ7, ⟨mc7, rfl⟩⟩ := hcut
        cases kq with
        | zero => exact absurd HA.out (by simp [haymowref04_number.j1])
        | succ kj7 =>
          have H := HA.out
          clear HA
          simp only [haymowref04_number.j1] at H
          have HC11 := Aside0.mk H
          clear H
          go_upto_region 4 with (fail)
          go_cut [43] (fun v43 wc => ∃ (kq : Nat) (x43_10 : Bool), v43 = .bool x43_10 ∧ Aside0 (haymowref04_number.j2 kq x0_7 x6_2 x43_10 = some (r1, r2)) ∧ Aside0 (kq ≤ kj7) ∧ Drawn0 w wc)
          case first =>
            have H := HC11.out
            clear HC11
            by_cases c12 : (x0_7.size : Int) = 0
            · rw [if_pos c12] at H
              have c12b0 : ((x0_7.size : Int) == 0) = true := beq_iff_eq.mpr c12
              have c12b1 : ((x0_7.size : Int) != 0) = false := bne_eq_false_iff_eq.mpr c12
              clear c12
              (first | rw [c12b0] | (simp only [i64_w, i32_w]; rw [c12b0]) | skip)
              have H' := Aside0.mk H
              clear H
              go_wp2
              go_meet
              case rel => exact ⟨_, (true), (by first | rfl | (simp; done) | (simp [*]; done)), H', ⟨by have := HJ2.out; have := HJ7.out; first | omega | exact Nat.le_refl _⟩, by repeat (first | exact Drawn0.refl _ | apply Drawn0.step)⟩
            · rw [if_neg c12] at H
              have c12b0 : ((x0_7.size : Int) == 0) = false := beq_eq_false_iff_ne.mpr c12
              have c12b1 : ((x0_7.size : Int) != 0) = true := bne_iff_ne.mpr c12
              (first | rw [c12b0] | (simp only [i64_w, i32_w]; rw [c12b0]) | skip)
              by_cases c13 : (x0_7.size : Int) > 10
              · rw [if_pos c13] at H
                have c13b0 : decide (10 < (x0_7.size : Int)) = true := decide_eq_true c13
                have c13b1 : decide (10 < x0_7.size) = true := decide_eq_true (by omega)
                clear c13
                have H' := Aside0.mk H
                clear H
                go_wp2
                go_meet
                case rel => exact ⟨_, (true), (by first | rfl | (simp; done) | (simp [*]; done)), H', ⟨by have := HJ2.out; have := HJ7.out; first | omega | exact Nat.le_refl _⟩, by repeat (first | exact Drawn0.refl _ | apply Drawn0.step)⟩
              · rw [if_neg c13] at H
                have c13b0 : decide (10 < (x0_7.size : Int)) = false := decide_eq_false c13
                have c13b1 : decide (10 < x0_7.size) = false := decide_eq_false (by omega)
                clear c13
                by_cases c14 : 0 < (x0_7.size : Int)
                · rw [if_pos c14] at H
                  have c14b0 : decide (0 < (x0_7.size : Int)) = true := decide_eq_true c14
                  have c14b1 : decide (0 < x0_7.size) = true := decide_eq_true (by omega)
                  clear c14
                  by_cases c16 : (bt x0_7 0) = 48
                  · rw [if_pos c16] at H
                    have c16b0 : ((bt x0_7 0) == 48) = true := beq_iff_eq.mpr c16
                    have c16b1 : ((bt x0_7 0) != 48) = false := bne_eq_false_iff_eq.mpr c16
                    clear c16
                    by_cases c17 : (x0_7.size : Int) > 1
                    · rw [if_pos c17] at H
                      have c17b0 : decide (1 < (x0_7.size : Int)) = true := decide_eq_true c17
                      have c17b1 : decide (1 < x0_7.size) = true := decide_eq_true (by omega)
                      clear c17
                      have H' := Aside0.mk H
                      clear H
                      have p15 : 0 ≤ (0 : Int) := (by omega)
                      have q15 : 0 < x0_7.size := (by have : (0 : Int) < (x0_7.size : Int) := of_decide_eq_true (by first | (with_reducible assumption) | assumption); omega)
                      have hx15 : ∀ h : 0 < x0_7.size, ((x0_7[0]'h).toNat : Int) = bt x0_7 0 := bt_at x0_7 0
                      clear p15
                      have qi15 : (0 < (x0_7.size : Int)) = True := eq_true (of_decide_eq_true (by first | (with_reducible assumption) | assumption))
                      replace q15 := eq_true q15
                      go_wp2
                      go_meet
                      case rel => exact ⟨_, (true), (by first | rfl | (simp; done) | (simp [*]; done)), H', ⟨by have := HJ2.out; have := HJ7.out; first | omega | exact Nat.le_refl _⟩, by repeat (first | exact Drawn0.refl _ | apply Drawn0.step)⟩
                    · rw [if_neg c17] at H
                      have c17b0 : decide (1 < (x0_7.size : Int)) = false := decide_eq_false c17
                      have c17b1 : decide (1 < x0_7.size) = false := decide_eq_false (by omega)
                      clear c17
                      have H' := Aside0.mk H
                      clear H
                      have p15 : 0 ≤ (0 : Int) := (by omega)
                      have q15 : 0 < x0_7.size := (by have : (0 : Int) < (x0_7.size : Int) := of_decide_eq_true (by first | (with_reducible assumption) | assumption); omega)
                      have hx15 : ∀ h : 0 < x0_7.size, ((x0_7[0]'h).toNat : Int) = bt x0_7 0 := bt_at x0_7 0
                      clear p15
                      have qi15 : (0 < (x0_7.size : Int)) = True := eq_true (of_decide_eq_true (by first | (with_reducible assumption) | assumption))
                      replace q15 := eq_true q15
                      go_wp2
                      go_meet
                      case rel => exact ⟨_, (x6_2), (by first | rfl | (simp; done) | (simp [*]; done)), H', ⟨by have := HJ2.out; have := HJ7.out; first | omega | exact Nat.le_refl _⟩, by repeat (first | exact Drawn0.refl _ | apply Drawn0.step)⟩
                  · rw [if_neg c16] at H
                    have c16b0 : ((bt x0_7 0) == 48) = false := beq_eq_false_iff_ne.mpr c16
                    have c16b1 : ((bt x0_7 0) != 48) = true := bne_iff_ne.mpr c16
                    have H' := Aside0.mk H
                    clear H
                    have p15 : 0 ≤ (0 : Int) := (by omega)
                    have q15 : 0 < x0_7.size := (by have : (0 : Int) < (x0_7.size : Int) := of_decide_eq_true (by first | (with_reducible assumption) | assumption); omega)
                    have hx15 : ∀ h : 0 < x0_7.size, ((x0_7[0]'h).toNat : Int) = bt x0_7 0 := bt_at x0_7 0
                    clear p15
                    have qi15 : (0 < (x0_7.size : Int)) = True := eq_true (of_decide_eq_true (by first | (with_reducible assumption) | assumption))
                    replace q15 := eq_true q15
                    go_wp2
                    go_meet
                    case rel => exact ⟨_, (false), (by first | rfl | (simp; done) | (simp [*]; done)), H', ⟨by have := HJ2.out; have := HJ7.out; first | omega | exact Nat.le_refl _⟩, by repeat (first | exact Drawn0.refl _ | apply Drawn0.step)⟩
                · rw [if_neg c14] at H
                  exact absurd H (by simp)
          case rest =>
            clear HC11
            try clear c1
            try clear p1
            try clear q1
            try clear hx1
            try clear qi1
            try clear c2
            try clear p2
            try clear c4
            try clear c5
            try clear c5b0
            try clear c5b1
            try clear c6
            try clear c6b0
            try clear c6b1
            try clear c7
            try clear p7
            try clear q7
            try clear hx7
            try clear qi7
            try clear c9
            try clear c10
            try clear c10b0
            try clear c10b1
            try clear c12
            try clear c12b0
            try clear c12b1
            try clear c13
            try clear c13b0
            try clear c13b1
            try clear c14
            try clear c14b0
            try clear c14b1
            try clear p15
            try clear q15
            try clear hx15
            try clear qi15
            try clear c16
            try clear c16b0
            try clear c16b1
            try clear c17
            try clear c17b0
            try clear c17b1
            try clear p15
            try clear p2
            try clear p7
            try clear q15
            try clear q7
            obtain ⟨kq, x43_10, rfl, HA, HJ10, ⟨mc10, rfl⟩⟩ := hcut
            cases kq with
            | zero => exact absurd HA.out (by simp [haymowref04_number.j2])
            | succ kj10 =>
              have H := HA.out
              clear HA
              simp only [haymowref04_number.j2] at H
              by_cases c18 : x43_10 = true
              · subst c18
                have H1 : (some (0, false)) = some (r1, r2) := by rw [if_pos rfl] at H; exact H
                clear H
                have H := H1
                clear H1
                simp only [Option.some.injEq, Prod.mk.injEq] at H
                obtain ⟨rfl, rfl⟩ := H
                go_wp2
                go_ret2
                exact ⟨by first | rfl | (simp; done) | (simp [*]; done), by repeat (first | exact Drawn0.refl _ | apply Drawn0.step)⟩
              · replace c18 := Bool.eq_false_iff.mpr c18
                subst c18
                have H1 : (haymowref04_number.l0 kj10 x0_7 x6_2 0 0) = some (r1, r2) := by rw [if_neg (show ¬ (false = true) by decide)] at H; exact H
                clear H
                have H := H1
                clear H1
                have H' := Aside0.mk H
                clear H
                go_wp2
                go_loopg [7, 8] kj10 (fun kq v7 v8 w' => ∃ (x7_4 : Int) (x8_4 : Int), v7 = .int .i64 x7_4 ∧ v8 = .int .i64 x8_4 ∧ Aside0 (haymowref04_number.l0 kq x0_7 x6_2 x7_4 x8_4 = some (r1, r2)) ∧ Aside0 (kq ≤ kj10) ∧ Drawn0 w w')
                case atStart => exact ⟨(0), (0), (by first | rfl | (simp; done) | (simp [*]; done)), (by first | rfl | (simp; done) | (simp [*]; done)), H', ⟨Nat.le_refl _⟩, by repeat (first | exact Drawn0.refl _ | apply Drawn0.step)⟩
                case round =>
                  clear H'
                  try clear c1
                  try clear p1
                  try clear q1
                  try clear hx1
                  try clear qi1
                  try clear c2
                  try clear p2
                  try clear c4
                  try clear c5
                  try clear c5b0
                  try clear c5b1
                  try clear c6
                  try clear c6b0
                  try clear c6b1
                  try clear c7
                  try clear p7
                  try clear q7
                  try clear hx7
                  try clear qi7
                  try clear c9
                  try clear c10
                  try clear c10b0
                  try clear c10b1
                  try clear c12
                  try clear c12b0
                  try clear c12b1
                  try clear c13
                  try clear c13b0
                  try clear c13b1
                  try clear c14
                  try clear c14b0
                  try clear c14b1
                  try clear p15
                  try clear q15
                  try clear hx15
                  try clear qi15
                  try clear c16
                  try clear c16b0
                  try clear c16b1
                  try clear c17
                  try clear c17b0
                  try clear c17b1
                  try clear c18
                  try clear p1
                  try clear p15
                  try clear p2
                  try clear p7
                  try clear q1
                  try clear q15
                  try clear q7
                  obtain ⟨x7_4, x8_4, rfl, rfl, HA, HK4, ⟨m4, rfl⟩⟩ := hrel
                  cases gk with
                  | zero => exact absurd HA.out (by simp [haymowref04_number.l0])
                  | succ k4 =>
                    have H := HA.out
                    clear HA
                    simp only [haymowref04_number.l0] at H
                    by_cases c19 : x8_4 < (x0_7.size : Int)
                    · rw [if_pos c19] at H
                      have c19b0 : decide (x8_4 < (x0_7.size : Int)) = true := decide_eq_true c19
                      clear c19
                      by_cases c20 : 0 ≤ x8_4
                      · rw [if_pos c20] at H
                        have c20b0 : decide (0 ≤ x8_4) = true := decide_eq_true c20
                        clear c20
                        by_cases c22 : (bt x0_7 x8_4) < 48
                        · rw [if_pos c22] at H
                          have c22b0 : decide ((bt x0_7 x8_4) < 48) = true := decide_eq_true c22
                          clear c22
                          simp only [Option.some.injEq, Prod.mk.injEq] at H
                          obtain ⟨rfl, rfl⟩ := H
                          have p21 : 0 ≤ (x8_4 : Int) := of_decide_eq_true (by first | (with_reducible assumption) | assumption)
                          have q21 : x8_4 < (x0_7.size : Int) := of_decide_eq_true (by first | (with_reducible assumption) | assumption)
                          have hx21 := bt_at x0_7 x8_4
                          replace p21 := eq_true p21
                          replace q21 := eq_true q21
                          go_wp2
                          go_ret2
                          exact ⟨by first | rfl | (simp; done) | (simp [*]; done), by repeat (first | exact Drawn0.refl _ | apply Drawn0.step)⟩
                        · rw [if_neg c22] at H
                          have c22b0 : decide ((bt x0_7 x8_4) < 48) = false := decide_eq_false c22
                          clear c22
                          by_cases c24 : (bt x0_7 x8_4) > 57
                          · rw [if_pos c24] at H
                            have c24b0 : decide (57 < (bt x0_7 x8_4)) = true := decide_eq_true c24
                            clear c24
                            simp only [Option.some.injEq, Prod.mk.injEq] at H
                            obtain ⟨rfl, rfl⟩ := H
                            have p21 : 0 ≤ (x8_4 : Int) := of_decide_eq_true (by first | (with_reducible assumption) | assumption)
                            have q21 : x8_4 < (x0_7.size : Int) := of_decide_eq_true (by first | (with_reducible assumption) | assumption)
                            have hx21 := bt_at x0_7 x8_4
                            replace p21 := eq_true p21
                            replace q21 := eq_true q21
                            have p23 : 0 ≤ (x8_4 : Int) := of_decide_eq_true (by first | (with_reducible assumption) | assumption)
                            have q23 : x8_4 < (x0_7.size : Int) := of_decide_eq_true (by first | (with_reducible assumption) | assumption)
                            have hx23 := bt_at x0_7 x8_4
                            replace p23 := eq_true p23
                            replace q23 := eq_true q23
                            go_wp2
                            go_ret2
                            exact ⟨by first | rfl | (simp; done) | (simp [*]; done), by repeat (first | exact Drawn0.refl _ | apply Drawn0.step)⟩
                          · rw [if_neg c24] at H
                            have c24b0 : decide (57 < (bt x0_7 x8_4)) = false := decide_eq_false c24
                            clear c24
                            have H' := Aside0.mk H
                            clear H
                            have p21 : 0 ≤ (x8_4 : Int) := of_decide_eq_true (by first | (with_reducible assumption) | assumption)
                            have q21 : x8_4 < (x0_7.size : Int) := of_decide_eq_true (by first | (with_reducible assumption) | assumption)
                            have hx21 := bt_at x0_7 x8_4
                            replace p21 := eq_true p21
                            replace q21 := eq_true q21
                            have p23 : 0 ≤ (x8_4 : Int) := of_decide_eq_true (by first | (with_reducible assumption) | assumption)
                            have q23 : x8_4 < (x0_7.size : Int) := of_decide_eq_true (by first | (with_reducible assumption) | assumption)
                            have hx23 := bt_at x0_7 x8_4
                            replace p23 := eq_true p23
                            replace q23 := eq_true q23
                            have p25 : 0 ≤ (x8_4 : Int) := of_decide_eq_true (by first | (with_reducible assumption) | assumption)
                            have q25 : x8_4 < (x0_7.size : Int) := of_decide_eq_true (by first | (with_reducible assumption) | assumption)
                            have hx25 := bt_at x0_7 x8_4
                            replace p25 := eq_true p25
                            replace q25 := eq_true q25
                            go_wp2
                            go_roundg k4
                            case measure => have := HJ2.out; have := HJ7.out; have := HJ10.out; have := HK4.out; omega
                            case rel => exact ⟨(wrap64 ((wrap64 (10 * x7_4)) + (((bt x0_7 x8_4) - 48) % 256))), (wrap64 (x8_4 + 1)), (by first | rfl | (simp; done) | (simp [*]; done)), (by first | rfl | (simp; done) | (simp [*]; done)), H', ⟨by have := HJ2.out; have := HJ7.out; have := HJ10.out; have := HK4.out; omega⟩, by repeat (first | exact Drawn0.refl _ | apply Drawn0.step)⟩
                      · rw [if_neg c20] at H
                        exact absurd H (by simp)
                    · rw [if_neg c19] at H
                      have c19b0 : decide (x8_4 < (x0_7.size : Int)) = false := decide_eq_false c19
                      clear c19
                      by_cases c26 : x6_2 = true
                      · subst c26
                        have H1 : (some (wrap64 (-x7_4), true)) = some (r1, r2) := by rw [if_pos rfl] at H; exact H
                        clear H
                        have H := H1
                        clear H1
                        simp only [Option.some.injEq, Prod.mk.injEq] at H
                        obtain ⟨rfl, rfl⟩ := H
                        go_wp2
                        go_ret2
                        exact ⟨by first | rfl | (simp; done) | (simp [*]; done), by repeat (first | exact Drawn0.refl _ | apply Drawn0.step)⟩
                      · replace c26 := Bool.eq_false_iff.mpr c26
                        subst c26
                        have H1 : (some (x7_4, true)) = some (r1, r2) := by rw [if_neg (show ¬ (false = true) by decide)] at H; exact H
                        clear H
                        have H := H1
                        clear H1
                        simp only [Option.some.injEq, Prod.mk.injEq] at H
                        obtain ⟨rfl, rfl⟩ := H
                        go_wp2
                        go_ret2
                        exact ⟨by first | rfl | (simp; done) | (simp [*]; done), by repeat (first | exact Drawn0.refl _ | apply Drawn0.step)⟩

/-! ### haymowref02_Names: function 40 -/
def haymowref02_Names.f  : Option (List ByteArray) := some (([(⟨#[]⟩ : ByteArray), (⟨#[115, 101, 116]⟩ : ByteArray), (⟨#[109, 111, 118, 101]⟩ : ByteArray), (⟨#[97, 100, 100]⟩ : ByteArray), (⟨#[115, 117, 98]⟩ : ByteArray), (⟨#[109, 117, 108]⟩ : ByteArray), (⟨#[100, 105, 118]⟩ : ByteArray), (⟨#[108, 101, 115, 115]⟩ : ByteArray), (⟨#[115, 97, 109, 101]⟩ : ByteArray), (⟨#[106, 117, 109, 112]⟩ : ByteArray), (⟨#[122, 101, 114, 111]⟩ : ByteArray), (⟨#[115, 112, 97, 119, 110]⟩ : ByteArray), (⟨#[115, 121, 110, 99]⟩ : ByteArray), (⟨#[102, 117, 116, 117, 114, 101]⟩ : ByteArray), (⟨#[116, 111, 117, 99, 104]⟩ : ByteArray), (⟨#[101, 109, 105, 116]⟩ : ByteArray), (⟨#[102, 97, 105, 108]⟩ : ByteArray), (⟨#[114, 101, 116]⟩ : ByteArray)] : List ByteArray))
set_option maxHeartbeats 8000000 in
set_option maxRecDepth 100000 in
theorem haymowref02_Names.calls  (r : List ByteArray) (w : World) (h : haymowref02_Names.f  = some r) :
    Calls Tryd.prog 40 #[] w fun e w' => ∃ v0_ : Value, e = .returned (v0_) ∧ Kd.R Kd.string 9 w' w.heap.size (fun _ => True) v0_ r ∧ Below w.heap.size w w' := by
  have HB := Aside0.mk (Below.refl w.heap.size w)
  have H : (some (([(⟨#[]⟩ : ByteArray), (⟨#[115, 101, 116]⟩ : ByteArray), (⟨#[109, 111, 118, 101]⟩ : ByteArray), (⟨#[97, 100, 100]⟩ : ByteArray), (⟨#[115, 117, 98]⟩ : ByteArray), (⟨#[109, 117, 108]⟩ : ByteArray), (⟨#[100, 105, 118]⟩ : ByteArray), (⟨#[108, 101, 115, 115]⟩ : ByteArray), (⟨#[115, 97, 109, 101]⟩ : ByteArray), (⟨#[106, 117, 109, 112]⟩ : ByteArray), (⟨#[122, 101, 114, 111]⟩ : ByteArray), (⟨#[115, 112, 97, 119, 110]⟩ : ByteArray), (⟨#[115, 121, 110, 99]⟩ : ByteArray), (⟨#[102, 117, 116, 117, 114, 101]⟩ : ByteArray), (⟨#[116, 111, 117, 99, 104]⟩ : ByteArray), (⟨#[101, 109, 105, 116]⟩ : ByteArray), (⟨#[102, 97, 105, 108]⟩ : ByteArray), (⟨#[114, 101, 116]⟩ : ByteArray)] : List ByteArray))) = some r := h
  clear h
  obtain ⟨y116, hy116⟩ : ∃ y_ : List ByteArray, y_ = (([(⟨#[]⟩ : ByteArray), (⟨#[115, 101, 116]⟩ : ByteArray), (⟨#[109, 111, 118, 101]⟩ : ByteArray), (⟨#[97, 100, 100]⟩ : ByteArray), (⟨#[115, 117, 98]⟩ : ByteArray), (⟨#[109, 117, 108]⟩ : ByteArray), (⟨#[100, 105, 118]⟩ : ByteArray), (⟨#[108, 101, 115, 115]⟩ : ByteArray), (⟨#[115, 97, 109, 101]⟩ : ByteArray), (⟨#[106, 117, 109, 112]⟩ : ByteArray), (⟨#[122, 101, 114, 111]⟩ : ByteArray), (⟨#[115, 112, 97, 119, 110]⟩ : ByteArray), (⟨#[115, 121, 110, 99]⟩ : ByteArray), (⟨#[102, 117, 116, 117, 114, 101]⟩ : ByteArray), (⟨#[116, 111, 117, 99, 104]⟩ : ByteArray), (⟨#[101, 109, 105, 116]⟩ : ByteArray), (⟨#[102, 97, 105, 108]⟩ : ByteArray), (⟨#[114, 101, 116]⟩ : ByteArray)] : List ByteArray)) := ⟨_, rfl⟩
  replace H : (some y116) = some r := by first | (rw [hy116]; with_reducible exact H) | (have H2_ := (Option.bind_some _ _).symm.trans H; rw [hy116]; with_reducible exact H2_) | (have H2_ := (Option.bind_some _ _).symm.trans H; with_reducible exact H2_) | with_reducible exact H | (rw [hy116]; exact H) | exact H
  have Ny116 := Aside0.mk hy116
  clear hy116
  obtain rfl := Option.some.inj H
  go_enter Tryd.func40, Tryd.ntmps40
  go_wp2_with (first | ((with_reducible refine gate_dst (N := 1) rfl ?_); refine Kd.R_lit Kd.string _ 9 ?hg (N := 1) ?hd (xs := ([(⟨#[]⟩ : ByteArray), (⟨#[115, 101, 116]⟩ : ByteArray), (⟨#[109, 111, 118, 101]⟩ : ByteArray), (⟨#[97, 100, 100]⟩ : ByteArray), (⟨#[115, 117, 98]⟩ : ByteArray), (⟨#[109, 117, 108]⟩ : ByteArray), (⟨#[100, 105, 118]⟩ : ByteArray), (⟨#[108, 101, 115, 115]⟩ : ByteArray), (⟨#[115, 97, 109, 101]⟩ : ByteArray), (⟨#[106, 117, 109, 112]⟩ : ByteArray), (⟨#[122, 101, 114, 111]⟩ : ByteArray), (⟨#[115, 112, 97, 119, 110]⟩ : ByteArray), (⟨#[115, 121, 110, 99]⟩ : ByteArray), (⟨#[102, 117, 116, 117, 114, 101]⟩ : ByteArray), (⟨#[116, 111, 117, 99, 104]⟩ : ByteArray), (⟨#[101, 109, 105, 116]⟩ : ByteArray), (⟨#[102, 97, 105, 108]⟩ : ByteArray), (⟨#[114, 101, 116]⟩ : ByteArray)] : List ByteArray)) (inner := [.string (⟨#[]⟩ : ByteArray), .string (⟨#[115, 101, 116]⟩ : ByteArray), .string (⟨#[109, 111, 118, 101]⟩ : ByteArray), .string (⟨#[97, 100, 100]⟩ : ByteArray), .string (⟨#[115, 117, 98]⟩ : ByteArray), .string (⟨#[109, 117, 108]⟩ : ByteArray), .string (⟨#[100, 105, 118]⟩ : ByteArray), .string (⟨#[108, 101, 115, 115]⟩ : ByteArray), .string (⟨#[115, 97, 109, 101]⟩ : ByteArray), .string (⟨#[106, 117, 109, 112]⟩ : ByteArray), .string (⟨#[122, 101, 114, 111]⟩ : ByteArray), .string (⟨#[115, 112, 97, 119, 110]⟩ : ByteArray), .string (⟨#[115, 121, 110, 99]⟩ : ByteArray), .string (⟨#[102, 117, 116, 117, 114, 101]⟩ : ByteArray), .string (⟨#[116, 111, 117, 99, 104]⟩ : ByteArray), .string (⟨#[101, 109, 105, 116]⟩ : ByteArray), .string (⟨#[102, 97, 105, 108]⟩ : ByteArray), .string (⟨#[114, 101, 116]⟩ : ByteArray)]) (ok := fun _ => True) (okp := fun _ => True) ?hr ?hp (fun _ hk => hk) trivial (Below.refl _ _) (Nat.le_refl _) (by simp) ?_; (case hd => rfl); (case hg => rfl); (case hr => first | (go_simp; done) | (go_simp; rfl)); (case hp => exact (Reps.one (show Kd.M Kd.string _ _ _ (⟨#[]⟩ : ByteArray) [.string (⟨#[]⟩ : ByteArray)] from rfl) (Reps.one (show Kd.M Kd.string _ _ _ (⟨#[115, 101, 116]⟩ : ByteArray) [.string (⟨#[115, 101, 116]⟩ : ByteArray)] from rfl) (Reps.one (show Kd.M Kd.string _ _ _ (⟨#[109, 111, 118, 101]⟩ : ByteArray) [.string (⟨#[109, 111, 118, 101]⟩ : ByteArray)] from rfl) (Reps.one (show Kd.M Kd.string _ _ _ (⟨#[97, 100, 100]⟩ : ByteArray) [.string (⟨#[97, 100, 100]⟩ : ByteArray)] from rfl) (Reps.one (show Kd.M Kd.string _ _ _ (⟨#[115, 117, 98]⟩ : ByteArray) [.string (⟨#[115, 117, 98]⟩ : ByteArray)] from rfl) (Reps.one (show Kd.M Kd.string _ _ _ (⟨#[109, 117, 108]⟩ : ByteArray) [.string (⟨#[109, 117, 108]⟩ : ByteArray)] from rfl) (Reps.one (show Kd.M Kd.string _ _ _ (⟨#[100, 105, 118]⟩ : ByteArray) [.string (⟨#[100, 105, 118]⟩ : ByteArray)] from rfl) (Reps.one (show Kd.M Kd.string _ _ _ (⟨#[108, 101, 115, 115]⟩ : ByteArray) [.string (⟨#[108, 101, 115, 115]⟩ : ByteArray)] from rfl) (Reps.one (show Kd.M Kd.string _ _ _ (⟨#[115, 97, 109, 101]⟩ : ByteArray) [.string (⟨#[115, 97, 109, 101]⟩ : ByteArray)] from rfl) (Reps.one (show Kd.M Kd.string _ _ _ (⟨#[106, 117, 109, 112]⟩ : ByteArray) [.string (⟨#[106, 117, 109, 112]⟩ : ByteArray)] from rfl) (Reps.one (show Kd.M Kd.string _ _ _ (⟨#[122, 101, 114, 111]⟩ : ByteArray) [.string (⟨#[122, 101, 114, 111]⟩ : ByteArray)] from rfl) (Reps.one (show Kd.M Kd.string _ _ _ (⟨#[115, 112, 97, 119, 110]⟩ : ByteArray) [.string (⟨#[115, 112, 97, 119, 110]⟩ : ByteArray)] from rfl) (Reps.one (show Kd.M Kd.string _ _ _ (⟨#[115, 121, 110, 99]⟩ : ByteArray) [.string (⟨#[115, 121, 110, 99]⟩ : ByteArray)] from rfl) (Reps.one (show Kd.M Kd.string _ _ _ (⟨#[102, 117, 116, 117, 114, 101]⟩ : ByteArray) [.string (⟨#[102, 117, 116, 117, 114, 101]⟩ : ByteArray)] from rfl) (Reps.one (show Kd.M Kd.string _ _ _ (⟨#[116, 111, 117, 99, 104]⟩ : ByteArray) [.string (⟨#[116, 111, 117, 99, 104]⟩ : ByteArray)] from rfl) (Reps.one (show Kd.M Kd.string _ _ _ (⟨#[101, 109, 105, 116]⟩ : ByteArray) [.string (⟨#[101, 109, 105, 116]⟩ : ByteArray)] from rfl) (Reps.one (show Kd.M Kd.string _ _ _ (⟨#[102, 97, 105, 108]⟩ : ByteArray) [.string (⟨#[102, 97, 105, 108]⟩ : ByteArray)] from rfl) (Reps.one (show Kd.M Kd.string _ _ _ (⟨#[114, 101, 116]⟩ : ByteArray) [.string (⟨#[114, 101, 116]⟩ : ByteArray)] from rfl) (Reps.none _ _)))))))))))))))))))); intro v117 w1 ho2 hb hg_ hnew_; clear hg_ hnew_; (first | rw [← Ny116.out] at ho2 | (simp only [Int.reduceToNat] at ho2; rw [← Ny116.out] at ho2)); have n0_ := Aside0.mk (Kd.R_lower ho2 (below_size (by repeat (first | (with_reducible first | exact HB.out | apply below_alloc | apply pw_below_drewN | apply below_drew1) | exact HB.out)))); have n1_ := Aside0.mk (below_step (by repeat (first | (with_reducible first | exact HB.out | apply below_alloc | apply pw_below_drewN | apply below_drew1) | exact HB.out)) hb); clear HB; have HO118 := n0_; have HB := n1_; clear n0_ n1_; clear hb ho2))
  go_ret
  exact ⟨_, by first | rfl | (simp [errW_none, errW_some] <;> rfl) | (simp [*, errW_none, errW_some] <;> rfl), by (with_reducible repeat (first | apply Kd.R_alloc | apply Kd.R_drewN | apply Kd.R_drew)); exact HO118.out, by repeat (first | (with_reducible first | exact HB.out | apply below_alloc | apply pw_below_drewN | apply below_drew1) | exact HB.out)⟩

/-! ### haymowref03_Uses: function 41 -/
def haymowref03_Uses.f (a0 : Int) : Option (ByteArray) := (some (([(⟨#[]⟩ : ByteArray), (⟨#[114, 48, 48, 110]⟩ : ByteArray), (⟨#[114, 114, 48, 48]⟩ : ByteArray), (⟨#[114, 114, 114, 48]⟩ : ByteArray), (⟨#[114, 114, 114, 48]⟩ : ByteArray), (⟨#[114, 114, 114, 48]⟩ : ByteArray), (⟨#[114, 114, 114, 48]⟩ : ByteArray), (⟨#[114, 114, 114, 48]⟩ : ByteArray), (⟨#[114, 114, 114, 48]⟩ : ByteArray), (⟨#[48, 48, 48, 116]⟩ : ByteArray), (⟨#[114, 48, 48, 116]⟩ : ByteArray), (⟨#[114, 114, 102, 48]⟩ : ByteArray), (⟨#[48, 48, 48, 48]⟩ : ByteArray), (⟨#[104, 114, 102, 48]⟩ : ByteArray), (⟨#[114, 104, 48, 48]⟩ : ByteArray), (⟨#[114, 48, 48, 48]⟩ : ByteArray), (⟨#[48, 48, 48, 99]⟩ : ByteArray), (⟨#[114, 48, 48, 48]⟩ : ByteArray)] : List ByteArray) : List ByteArray)).bind fun y119 => (if 0 ≤ a0 then (if a0 < (y119.length : Int) then (some (rdOf ByteArray.empty y119 a0)) else (none)) else (none))
set_option maxHeartbeats 8000000 in
set_option maxRecDepth 100000 in
theorem haymowref03_Uses.calls (a0 : Int) (r : ByteArray) (w : World) (h : haymowref03_Uses.f a0 = some r) :
    Calls Tryd.prog 41 #[.int .i64 a0] w fun e w' => e = .returned (.string r) ∧ Below w.heap.size w w' := by
  have HB := Aside0.mk (Below.refl w.heap.size w)
  have H : ((some (([(⟨#[]⟩ : ByteArray), (⟨#[114, 48, 48, 110]⟩ : ByteArray), (⟨#[114, 114, 48, 48]⟩ : ByteArray), (⟨#[114, 114, 114, 48]⟩ : ByteArray), (⟨#[114, 114, 114, 48]⟩ : ByteArray), (⟨#[114, 114, 114, 48]⟩ : ByteArray), (⟨#[114, 114, 114, 48]⟩ : ByteArray), (⟨#[114, 114, 114, 48]⟩ : ByteArray), (⟨#[114, 114, 114, 48]⟩ : ByteArray), (⟨#[48, 48, 48, 116]⟩ : ByteArray), (⟨#[114, 48, 48, 116]⟩ : ByteArray), (⟨#[114, 114, 102, 48]⟩ : ByteArray), (⟨#[48, 48, 48, 48]⟩ : ByteArray), (⟨#[104, 114, 102, 48]⟩ : ByteArray), (⟨#[114, 104, 48, 48]⟩ : ByteArray), (⟨#[114, 48, 48, 48]⟩ : ByteArray), (⟨#[48, 48, 48, 99]⟩ : ByteArray), (⟨#[114, 48, 48, 48]⟩ : ByteArray)] : List ByteArray) : List ByteArray)).bind fun y119 => (if 0 ≤ a0 then (if a0 < (y119.length : Int) then (some (rdOf ByteArray.empty y119 a0)) else (none)) else (none))) = some r := h
  clear h
  obtain ⟨y119, hy119⟩ : ∃ y_ : List ByteArray, y_ = (([(⟨#[]⟩ : ByteArray), (⟨#[114, 48, 48, 110]⟩ : ByteArray), (⟨#[114, 114, 48, 48]⟩ : ByteArray), (⟨#[114, 114, 114, 48]⟩ : ByteArray), (⟨#[114, 114, 114, 48]⟩ : ByteArray), (⟨#[114, 114, 114, 48]⟩ : ByteArray), (⟨#[114, 114, 114, 48]⟩ : ByteArray), (⟨#[114, 114, 114, 48]⟩ : ByteArray), (⟨#[114, 114, 114, 48]⟩ : ByteArray), (⟨#[48, 48, 48, 116]⟩ : ByteArray), (⟨#[114, 48, 48, 116]⟩ : ByteArray), (⟨#[114, 114, 102, 48]⟩ : ByteArray), (⟨#[48, 48, 48, 48]⟩ : ByteArray), (⟨#[104, 114, 102, 48]⟩ : ByteArray), (⟨#[114, 104, 48, 48]⟩ : ByteArray), (⟨#[114, 48, 48, 48]⟩ : ByteArray), (⟨#[48, 48, 48, 99]⟩ : ByteArray), (⟨#[114, 48, 48, 48]⟩ : ByteArray)] : List ByteArray)) := ⟨_, rfl⟩
  replace H : (if 0 ≤ a0 then (if a0 < (y119.length : Int) then (some (rdOf ByteArray.empty y119 a0)) else (none)) else (none)) = some r := by first | (rw [hy119]; with_reducible exact H) | (have H2_ := (Option.bind_some _ _).symm.trans H; rw [hy119]; with_reducible exact H2_) | (have H2_ := (Option.bind_some _ _).symm.trans H; with_reducible exact H2_) | with_reducible exact H | (rw [hy119]; exact H) | exact H
  have Ny119 := Aside0.mk hy119
  clear hy119
  by_cases c2 : 0 ≤ a0
  · rw [if_pos c2] at H
    have c2b0 : decide (0 ≤ a0) = true := decide_eq_true c2
    clear c2
    by_cases c3 : a0 < (y119.length : Int)
    · rw [if_pos c3] at H
      have c3b0 : decide (a0 < (y119.length : Int)) = true := decide_eq_true c3
      clear c3
      obtain rfl := Option.some.inj H
      go_enter Tryd.func41, Tryd.ntmps41
      go_wp2_with (first | ((with_reducible refine gate_dst (N := 3) rfl ?_); refine Kd.R_lit Kd.string _ 9 ?hg (N := 3) ?hd (xs := ([(⟨#[]⟩ : ByteArray), (⟨#[114, 48, 48, 110]⟩ : ByteArray), (⟨#[114, 114, 48, 48]⟩ : ByteArray), (⟨#[114, 114, 114, 48]⟩ : ByteArray), (⟨#[114, 114, 114, 48]⟩ : ByteArray), (⟨#[114, 114, 114, 48]⟩ : ByteArray), (⟨#[114, 114, 114, 48]⟩ : ByteArray), (⟨#[114, 114, 114, 48]⟩ : ByteArray), (⟨#[114, 114, 114, 48]⟩ : ByteArray), (⟨#[48, 48, 48, 116]⟩ : ByteArray), (⟨#[114, 48, 48, 116]⟩ : ByteArray), (⟨#[114, 114, 102, 48]⟩ : ByteArray), (⟨#[48, 48, 48, 48]⟩ : ByteArray), (⟨#[104, 114, 102, 48]⟩ : ByteArray), (⟨#[114, 104, 48, 48]⟩ : ByteArray), (⟨#[114, 48, 48, 48]⟩ : ByteArray), (⟨#[48, 48, 48, 99]⟩ : ByteArray), (⟨#[114, 48, 48, 48]⟩ : ByteArray)] : List ByteArray)) (inner := [.string (⟨#[]⟩ : ByteArray), .string (⟨#[114, 48, 48, 110]⟩ : ByteArray), .string (⟨#[114, 114, 48, 48]⟩ : ByteArray), .string (⟨#[114, 114, 114, 48]⟩ : ByteArray), .string (⟨#[114, 114, 114, 48]⟩ : ByteArray), .string (⟨#[114, 114, 114, 48]⟩ : ByteArray), .string (⟨#[114, 114, 114, 48]⟩ : ByteArray), .string (⟨#[114, 114, 114, 48]⟩ : ByteArray), .string (⟨#[114, 114, 114, 48]⟩ : ByteArray), .string (⟨#[48, 48, 48, 116]⟩ : ByteArray), .string (⟨#[114, 48, 48, 116]⟩ : ByteArray), .string (⟨#[114, 114, 102, 48]⟩ : ByteArray), .string (⟨#[48, 48, 48, 48]⟩ : ByteArray), .string (⟨#[104, 114, 102, 48]⟩ : ByteArray), .string (⟨#[114, 104, 48, 48]⟩ : ByteArray), .string (⟨#[114, 48, 48, 48]⟩ : ByteArray), .string (⟨#[48, 48, 48, 99]⟩ : ByteArray), .string (⟨#[114, 48, 48, 48]⟩ : ByteArray)]) (ok := fun _ => True) (okp := fun _ => True) ?hr ?hp (fun _ hk => hk) trivial (Below.refl _ _) (Nat.le_refl _) (by simp) ?_; (case hd => rfl); (case hg => rfl); (case hr => first | (go_simp; done) | (go_simp; rfl)); (case hp => exact (Reps.one (show Kd.M Kd.string _ _ _ (⟨#[]⟩ : ByteArray) [.string (⟨#[]⟩ : ByteArray)] from rfl) (Reps.one (show Kd.M Kd.string _ _ _ (⟨#[114, 48, 48, 110]⟩ : ByteArray) [.string (⟨#[114, 48, 48, 110]⟩ : ByteArray)] from rfl) (Reps.one (show Kd.M Kd.string _ _ _ (⟨#[114, 114, 48, 48]⟩ : ByteArray) [.string (⟨#[114, 114, 48, 48]⟩ : ByteArray)] from rfl) (Reps.one (show Kd.M Kd.string _ _ _ (⟨#[114, 114, 114, 48]⟩ : ByteArray) [.string (⟨#[114, 114, 114, 48]⟩ : ByteArray)] from rfl) (Reps.one (show Kd.M Kd.string _ _ _ (⟨#[114, 114, 114, 48]⟩ : ByteArray) [.string (⟨#[114, 114, 114, 48]⟩ : ByteArray)] from rfl) (Reps.one (show Kd.M Kd.string _ _ _ (⟨#[114, 114, 114, 48]⟩ : ByteArray) [.string (⟨#[114, 114, 114, 48]⟩ : ByteArray)] from rfl) (Reps.one (show Kd.M Kd.string _ _ _ (⟨#[114, 114, 114, 48]⟩ : ByteArray) [.string (⟨#[114, 114, 114, 48]⟩ : ByteArray)] from rfl) (Reps.one (show Kd.M Kd.string _ _ _ (⟨#[114, 114, 114, 48]⟩ : ByteArray) [.string (⟨#[114, 114, 114, 48]⟩ : ByteArray)] from rfl) (Reps.one (show Kd.M Kd.string _ _ _ (⟨#[114, 114, 114, 48]⟩ : ByteArray) [.string (⟨#[114, 114, 114, 48]⟩ : ByteArray)] from rfl) (Reps.one (show Kd.M Kd.string _ _ _ (⟨#[48, 48, 48, 116]⟩ : ByteArray) [.string (⟨#[48, 48, 48, 116]⟩ : ByteArray)] from rfl) (Reps.one (show Kd.M Kd.string _ _ _ (⟨#[114, 48, 48, 116]⟩ : ByteArray) [.string (⟨#[114, 48, 48, 116]⟩ : ByteArray)] from rfl) (Reps.one (show Kd.M Kd.string _ _ _ (⟨#[114, 114, 102, 48]⟩ : ByteArray) [.string (⟨#[114, 114, 102, 48]⟩ : ByteArray)] from rfl) (Reps.one (show Kd.M Kd.string _ _ _ (⟨#[48, 48, 48, 48]⟩ : ByteArray) [.string (⟨#[48, 48, 48, 48]⟩ : ByteArray)] from rfl) (Reps.one (show Kd.M Kd.string _ _ _ (⟨#[104, 114, 102, 48]⟩ : ByteArray) [.string (⟨#[104, 114, 102, 48]⟩ : ByteArray)] from rfl) (Reps.one (show Kd.M Kd.string _ _ _ (⟨#[114, 104, 48, 48]⟩ : ByteArray) [.string (⟨#[114, 104, 48, 48]⟩ : ByteArray)] from rfl) (Reps.one (show Kd.M Kd.string _ _ _ (⟨#[114, 48, 48, 48]⟩ : ByteArray) [.string (⟨#[114, 48, 48, 48]⟩ : ByteArray)] from rfl) (Reps.one (show Kd.M Kd.string _ _ _ (⟨#[48, 48, 48, 99]⟩ : ByteArray) [.string (⟨#[48, 48, 48, 99]⟩ : ByteArray)] from rfl) (Reps.one (show Kd.M Kd.string _ _ _ (⟨#[114, 48, 48, 48]⟩ : ByteArray) [.string (⟨#[114, 48, 48, 48]⟩ : ByteArray)] from rfl) (Reps.none _ _)))))))))))))))))))); intro v120 w4 ho5 hb hg_ hnew_; clear hg_ hnew_; (first | rw [← Ny119.out] at ho5 | (simp only [Int.reduceToNat] at ho5; rw [← Ny119.out] at ho5)); have n0_ := Aside0.mk (Kd.R_lower ho5 (below_size (by repeat (first | (with_reducible first | exact HB.out | apply below_alloc | apply pw_below_drewN | apply below_drew1) | exact HB.out)))); have n1_ := Aside0.mk (below_step (by repeat (first | (with_reducible first | exact HB.out | apply below_alloc | apply pw_below_drewN | apply below_drew1) | exact HB.out)) hb); clear HB; have HO121 := n0_; have HB := n1_; clear n0_ n1_; clear hb ho5; obtain ⟨Ao6, co6, eo6⟩ := Kd.R_slice HO121.out; subst eo6; have p122 : 0 ≤ (a0 : Int) := of_decide_eq_true (by first | (with_reducible assumption) | assumption); have q122 : a0 < (y119.length : Int) := of_decide_eq_true (by first | (with_reducible assumption) | assumption); obtain ⟨ad122, e122, hx122_0⟩ := Kd.at_string (Kd.R_reads' HO121.out).2.2 a0 p122 q122; cases e122; replace p122 := eq_true p122; replace q122 := eq_true q122))
      go_ret
      exact ⟨by first | rfl | (simp [errW_none, errW_some] <;> rfl) | (simp [*, errW_none, errW_some] <;> rfl), by repeat (first | (with_reducible first | exact HB.out | apply below_alloc | apply pw_below_drewN | apply below_drew1) | exact HB.out)⟩
    · rw [if_neg c3] at H
      exact absurd H (by simp)
  · rw [if_neg c2] at H
    exact absurd H (by simp)

-- NOT PRINTED: function 28 (haymowref04_instr)

-- NOT PRINTED: function 14 (haymowref04_Take)

-- NOT PRINTED: function 31 (strings_splitSeq)

-- NOT PRINTED: function 19 (strings_SplitSeq)

-- NOT PRINTED: function 105 (bytealg_IndexByteString)

-- NOT PRINTED: function 89 (stringslite_IndexByte)

-- NOT PRINTED: function 90 (bytealg_IndexString)

/-! ### haymowlaw04_of: function 30 -/
mutual
def haymowlaw04_of.l0 : Nat → List (S67) → List (S48) → Int → Option ((List (S48)))
  | 0, _, _, _ => none
  | k + 1, x0, x3, x4 => if x4 < (x0.length : Int) then (if 0 ≤ x4 then (haymowlaw04_of.l1 k x0 x3 x4 0 ((rd_T67 x0 x4).f0) ([] : List (S74))) else (none)) else (some x3)
def haymowlaw04_of.l1 : Nat → List (S67) → List (S48) → Int → Int → Int → List (S74) → Option ((List (S48)))
  | 0, _, _, _, _, _, _ => none
  | k + 1, x0, x3, x4, x6, x196000, x196001 => if 0 ≤ x4 then (if x4 < (x0.length : Int) then (if x6 < (((rd_T67 x0 x4).f1).length : Int) then (if 0 ≤ x6 then (if x196001.length < 3518437208883 then (haymowlaw04_of.l1 k x0 x3 x4 (wrap64 (x6 + 1)) x196000 (x196001 ++ [(⟨(rd_T69 ((rd_T67 x0 x4).f1) x6).f0, (rd_T69 ((rd_T67 x0 x4).f1) x6).f1, (rd_T69 ((rd_T67 x0 x4).f1) x6).f2, (rd_T69 ((rd_T67 x0 x4).f1) x6).f3, (rd_T69 ((rd_T67 x0 x4).f1) x6).f4⟩ : S74)])) else (none)) else (none)) else (if x3.length < 4398046511104 then (haymowlaw04_of.l0 k x0 (x3 ++ [(⟨x196000, x196001⟩ : S48)]) (wrap64 (x4 + 1))) else (none))) else (none)) else (none)
end
def haymowlaw04_of.f (k : Nat) (l0 : List (S67)) : Option ((List (S48))) := haymowlaw04_of.l0 k l0 ([] : List (S48)) 0
theorem haymowlaw04_of.mono_l : ∀ k, (∀ y0 y1 y2, LeO (haymowlaw04_of.l0 k y0 y1 y2) (haymowlaw04_of.l0 (k + 1) y0 y1 y2)) ∧ (∀ y0 y1 y2 y3 y4 y5, LeO (haymowlaw04_of.l1 k y0 y1 y2 y3 y4 y5) (haymowlaw04_of.l1 (k + 1) y0 y1 y2 y3 y4 y5))
  | 0 => ⟨fun _ _ _ r h => by simp [haymowlaw04_of.l0] at h, fun _ _ _ _ _ _ r h => by simp [haymowlaw04_of.l1] at h⟩
  | k + 1 => by
    obtain ⟨ih0, ih1⟩ := haymowlaw04_of.mono_l k
    refine ⟨?_, ?_⟩
    · intro y0 y1 y2
      unfold haymowlaw04_of.l0
      repeat' first
      | (with_reducible exact ih0 _ _ _)
      | (with_reducible exact ih1 _ _ _ _ _ _)
      | (with_reducible exact LeO.refl _)
      | (with_reducible exact LeO.none _)
      | (with_reducible refine LeO.ite ?_ ?_)
      | (with_reducible refine LeO.bind ?_ (fun _ => ?_))
      | exact ih0 _ _ _
      | exact ih1 _ _ _ _ _ _
      | exact LeO.none _
      | refine LeO.ite ?_ ?_
      | refine LeO.bind ?_ (fun _ => ?_)
    · intro y0 y1 y2 y3 y4 y5
      unfold haymowlaw04_of.l1
      repeat' first
      | (with_reducible exact ih0 _ _ _)
      | (with_reducible exact ih1 _ _ _ _ _ _)
      | (with_reducible exact LeO.refl _)
      | (with_reducible exact LeO.none _)
      | (with_reducible refine LeO.ite ?_ ?_)
      | (with_reducible refine LeO.bind ?_ (fun _ => ?_))
      | exact ih0 _ _ _
      | exact ih1 _ _ _ _ _ _
      | exact LeO.none _
      | refine LeO.ite ?_ ?_
      | refine LeO.bind ?_ (fun _ => ?_)
theorem haymowlaw04_of.mono : ∀ a0 k, LeO (haymowlaw04_of.f k a0) (haymowlaw04_of.f (k + 1) a0) := by
  intro a0 k
  obtain ⟨ih0, ih1⟩ := haymowlaw04_of.mono_l k
  unfold haymowlaw04_of.f
  repeat' first
      | (with_reducible exact ih0 _ _ _)
      | (with_reducible exact ih1 _ _ _ _ _ _)
      | (with_reducible exact LeO.refl _)
      | (with_reducible exact LeO.none _)
      | (with_reducible refine LeO.ite ?_ ?_)
      | (with_reducible refine LeO.bind ?_ (fun _ => ?_))
      | exact ih0 _ _ _
      | exact ih1 _ _ _ _ _ _
      | exact LeO.none _
      | refine LeO.ite ?_ ?_
      | refine LeO.bind ?_ (fun _ => ?_)
set_option maxHeartbeats 8000000 in
set_option maxRecDepth 100000 in
theorem haymowlaw04_of.calls (k : Nat) (A0 : Option Addr) (c0 : Nat) (l0 : List (S67)) (r : List (S48)) (w : World) (hr0 : Kd.C k67 w A0 l0.length l0) (hc0 : l0.length ≤ c0) (h : haymowlaw04_of.f k l0 = some r) :
    Calls Tryd.prog 30 #[.slice A0 l0.length c0] w fun e w' => ∃ v0_ : Value, e = .returned (v0_) ∧ Kd.S k48 48 w' w.heap.size (fun _ => True) v0_ r ∧ Below w.heap.size w w' := by
  have hu48 := Tryd.underlying48
  have hu69 := Tryd.underlying69
  have hu74 := Tryd.underlying74
  have HR0 := Aside0.mk hr0
  have HC0 := Aside0.mk hc0
  clear hr0 hc0
  have HB := Aside0.mk (Below.refl w.heap.size w)
  have H : (haymowlaw04_of.l0 k l0 ([] : List (S48)) 0) = some r := h
  clear h
  have H' := Aside0.mk H
  clear H
  go_enter Tryd.func30, Tryd.ntmps30
  go_wp2
  go_loopg [3, 4] k (fun kq v3 v4 w' => ∃ (x3_1 : List (S48)) (x4_1 : Int), v4 = .int .i64 x4_1 ∧ Aside0 (haymowlaw04_of.l0 kq l0 x3_1 x4_1 = some r) ∧ Aside0 (kq ≤ k) ∧ Aside0 (Kd.S k48 48 w' w.heap.size (fun _ => True) v3 x3_1) ∧ Aside0 (Below w.heap.size w w'))
  case atStart => exact ⟨(([] : List (S48))), (0), (by first | rfl | (simp; done) | (simp [*]; done)), H', ⟨Nat.le_refl _⟩, ⟨by first | exact Kd.S_nil _ _ _ _ _ | exact Kd.N_nil _ _ _ _ _ | exact Kd.V_nil _ _ _ _ _ | exact Kd.Q_nil _ _ _ _ _ | exact Kd.R_nil _ _ _ _ _⟩, ⟨by repeat (first | (with_reducible first | exact HB.out | apply below_alloc | apply pw_below_drewN | apply below_drew1) | exact HB.out)⟩⟩
  case round =>
    clear H'
    obtain ⟨x3_1, x4_1, rfl, HA, HK1, HO_3, HB⟩ := hrel
    cases gk with
    | zero => exact absurd HA.out (by simp [haymowlaw04_of.l0])
    | succ k1 =>
      have H := HA.out
      clear HA
      simp only [haymowlaw04_of.l0] at H
      by_cases c2 : x4_1 < (l0.length : Int)
      · rw [if_pos c2] at H
        have c2b0 : decide (x4_1 < (l0.length : Int)) = true := decide_eq_true c2
        clear c2
        by_cases c3 : 0 ≤ x4_1
        · rw [if_pos c3] at H
          have c3b0 : decide (0 ≤ x4_1) = true := decide_eq_true c3
          clear c3
          have H' := Aside0.mk H
          clear H
          have p194 : 0 ≤ (x4_1 : Int) := of_decide_eq_true (by first | (with_reducible assumption) | assumption)
          have q194 : x4_1 < (l0.length : Int) := of_decide_eq_true (by first | (with_reducible assumption) | assumption)
          obtain ⟨ad194, A194_1, c194_1, e194, hx194_0, hx194_1, hl194_1, hi194_1⟩ := at_T67 HR0.out x4_1 p194 q194
          cases e194
          replace hx194_0 := (HB.out.cell (World.block_lt_of_cell? w _ hx194_0)).trans hx194_0
          replace hx194_1 := (HB.out.cell (World.block_lt_of_cell? w _ hx194_1)).trans hx194_1
          have HR194_1 := Aside0.mk hi194_1
          have HC194_1 := Aside0.mk hl194_1
          clear hi194_1 hl194_1
          replace p194 := eq_true p194
          replace q194 := eq_true q194
          go_wp2_with (first | ((with_reducible refine gate_dst (N := 5) rfl ?_); refine box_event ?hg (N := 5) ?hd (cs := #[.int .i64 0, .slice none 0 0]) (t := 48) ?hr ?_; (case hd => rfl); (case hg => rfl); (case hr => first | (go_simp; done) | (go_simp; rfl)); intro gb195 hg w4 hbox hb; have n0_ := Aside0.mk (Kd.S_below (Kd.S_elderB (by (with_reducible repeat (first | apply Kd.S_alloc | apply Kd.S_drewN | apply Kd.S_drew)); exact HO_3.out) gb195 (Nat.le_of_eq hg.symm)) hb); have n1_ := Aside0.mk (below_step (by repeat (first | (with_reducible first | exact HB.out | apply below_alloc | apply pw_below_drewN | apply below_drew1) | exact HB.out)) hb); have n2_ := Aside0.mk (hbox); have n3_ := Aside0.mk ((by rw [hg]; exact (below_size (by repeat (first | (with_reducible first | exact HB.out | apply below_alloc | apply pw_below_drewN | apply below_drew1) | exact HB.out))) : w.heap.size ≤ gb195)); have n4_ := Aside0.mk ((by rw [hg]; exact (below_size (by repeat (first | (with_reducible first | exact HB.out | apply below_alloc | apply pw_below_drewN | apply below_drew1) | exact HB.out))) : w.heap.size ≤ gb195)); clear HO_3; clear HB; have HO_3 := n0_; have HB := n1_; have BK195 := n2_; have GW195 := n3_; have GE195 := n4_; clear n0_ n1_ n2_ n3_ n4_; clear hb hbox hg; have hcz5_0 : w4.cell? ⟨gb195, 0, none⟩ = some (.int .i64 0) := (blk_cell BK195.out 0).trans rfl; have hcz5_1 : w4.cell? ⟨gb195, 1, none⟩ = some (.slice none 0 0) := (blk_cell BK195.out 1).trans rfl; have hfz5_0 := blk_frozen BK195.out 0; have hfz5_1 := blk_frozen BK195.out 1))
          go_loopg [6] k1 (fun kq v6 w' => ∃ (x6_2 : Int) (x196001_2 : List (S74)) (u196001 : Value), v6 = .int .i64 x6_2 ∧ Aside0 (haymowlaw04_of.l1 kq l0 x3_1 x4_1 x6_2 ((rd_T67 l0 x4_1).f0) x196001_2 = some r) ∧ Aside0 (kq ≤ k1) ∧ Aside0 (Kd.S k48 48 w' w.heap.size (fun k_ => some k_ ≠ (u196001 : Value).ownBlock ∧ k_ ≠ gb195) u3 x3_1) ∧ Aside0 (Kd.R k74 74 w' w.heap.size (fun _ => True) u196001 x196001_2) ∧ Aside0 (w'.heap[gb195]? = some (.cells #[.int .i64 ((rd_T67 l0 x4_1).f0), u196001] 48 (0, 0))) ∧ Aside0 (Below w.heap.size w w'))
          case atStart => exact ⟨(0), (([] : List (S74))), (.slice none 0 0), (by first | rfl | (simp; done) | (simp [*]; done)), H', ⟨Nat.le_refl _⟩, ⟨by (with_reducible repeat (first | apply Kd.S_alloc | apply Kd.S_drewN | apply Kd.S_drew)); exact Kd.S_mono (Kd.S_far (p := ⟨gb195, 1, none⟩) (Kd.S_far (p := ⟨gb195, 0, none⟩) (Kd.S_mono HO_3.out (fun k_ hk => (⟨hk, hk.2⟩ : _ ∧ k_ ≠ gb195))) (fun _ hk => hk.2) (.int .i64 ((rd_T67 l0 x4_1).f0))) (fun _ hk => hk.2) (.slice none 0 0)) (fun _ hk => ⟨(by simp [Value.ownBlock]), hk.1.2⟩)⟩, ⟨by first | exact Kd.R_nil _ _ _ _ _ | exact Kd.N_nil _ _ _ _ _ | exact Kd.V_nil _ _ _ _ _ | exact Kd.Q_nil _ _ _ _ _ | exact Kd.S_nil _ _ _ _ _⟩, ⟨by (with_reducible repeat (first | refine blk_drewN ?_ _ | refine blk_drew ?_ | refine blk_alloc ?_ _)); refine blk_put (cs := #[.int .i64 ((rd_T67 l0 x4_1).f0), .slice none 0 0]) ?_ 1 _ rfl; (with_reducible repeat (first | refine blk_drewN ?_ _ | refine blk_drew ?_ | refine blk_alloc ?_ _)); refine blk_put (cs := #[.int .i64 0, .slice none 0 0]) ?_ 0 _ rfl; (with_reducible repeat (first | refine blk_drewN ?_ _ | refine blk_drew ?_ | refine blk_alloc ?_ _)); exact BK195.out⟩, ⟨by repeat (first | (with_reducible first | exact HB.out | apply below_alloc | apply pw_below_drewN | apply below_drew1 | refine below_set ?_ GE195.out) | exact HB.out)⟩⟩
          case round =>
            clear H'
            try clear c1
            try clear p1
            try clear q1
            try clear hx1
            try clear c2
            try clear c2b0
            try clear p2
            try clear c3
            try clear c3b0
            try clear hcz5_0
            try clear hcz5_1
            try clear hfz5_0
            try clear hfz5_1
            try clear hx194_0
            try clear hx194_1
            try clear p194
            try clear q194
            obtain ⟨x6_2, x196001_2, u196001, rfl, HA, HK2, HO_3, HO_196001, BK195, HB⟩ := hrel
            cases gk with
            | zero => exact absurd HA.out (by simp [haymowlaw04_of.l1])
            | succ k2 =>
              have H := HA.out
              clear HA
              simp only [haymowlaw04_of.l1] at H
              by_cases c6 : 0 ≤ x4_1
              · rw [if_pos c6] at H
                have c6b0 : decide (0 ≤ x4_1) = true := decide_eq_true c6
                clear c6
                by_cases c7 : x4_1 < (l0.length : Int)
                · rw [if_pos c7] at H
                  have c7b0 : decide (x4_1 < (l0.length : Int)) = true := decide_eq_true c7
                  clear c7
                  by_cases c8 : x6_2 < (((rd_T67 l0 x4_1).f1).length : Int)
                  · rw [if_pos c8] at H
                    have c8b0 : decide (x6_2 < (((rd_T67 l0 x4_1).f1).length : Int)) = true := decide_eq_true c8
                    clear c8
                    by_cases c9 : 0 ≤ x6_2
                    · rw [if_pos c9] at H
                      have c9b0 : decide (0 ≤ x6_2) = true := decide_eq_true c9
                      clear c9
                      by_cases c10 : x196001_2.length < 3518437208883
                      · rw [if_pos c10] at H
                        have LMc10 := Aside0.mk c10
                        clear c10
                        obtain ⟨y200, hy200⟩ : ∃ y_ : List (S74), y_ = (x196001_2 ++ [(⟨(rd_T69 ((rd_T67 l0 x4_1).f1) x6_2).f0, (rd_T69 ((rd_T67 l0 x4_1).f1) x6_2).f1, (rd_T69 ((rd_T67 l0 x4_1).f1) x6_2).f2, (rd_T69 ((rd_T67 l0 x4_1).f1) x6_2).f3, (rd_T69 ((rd_T67 l0 x4_1).f1) x6_2).f4⟩ : S74)]) := ⟨_, rfl⟩
                        replace H : (haymowlaw04_of.l1 k2 l0 x3_1 x4_1 (wrap64 (x6_2 + 1)) ((rd_T67 l0 x4_1).f0) y200) = some r := by first | (rw [hy200]; with_reducible exact H) | (have H2_ := (Option.bind_some _ _).symm.trans H; rw [hy200]; with_reducible exact H2_) | (have H2_ := (Option.bind_some _ _).symm.trans H; with_reducible exact H2_) | with_reducible exact H | (rw [hy200]; exact H) | exact H
                        have Ny200 := Aside0.mk hy200
                        clear hy200
                        have H' := Aside0.mk H
                        clear H
                        have p196 : 0 ≤ (x4_1 : Int) := of_decide_eq_true (by first | (with_reducible assumption) | assumption)
                        have q196 : x4_1 < (l0.length : Int) := of_decide_eq_true (by first | (with_reducible assumption) | assumption)
                        obtain ⟨ad196, A196_1, c196_1, e196, hx196_0, hx196_1, hl196_1, hi196_1⟩ := at_T67 HR0.out x4_1 p196 q196
                        obtain rfl : ad194 = ad196 := (by injection e196)
                        replace hx196_0 := (HB.out.cell (World.block_lt_of_cell? w _ hx196_0)).trans hx196_0
                        replace hx196_1 := (HB.out.cell (World.block_lt_of_cell? w _ hx196_1)).trans hx196_1
                        have HR196_1 := Aside0.mk hi196_1
                        have HC196_1 := Aside0.mk hl196_1
                        clear hi196_1 hl196_1
                        replace p196 := eq_true p196
                        replace q196 := eq_true q196
                        have p197 : 0 ≤ (x4_1 : Int) := of_decide_eq_true (by first | (with_reducible assumption) | assumption)
                        have q197 : x4_1 < (l0.length : Int) := of_decide_eq_true (by first | (with_reducible assumption) | assumption)
                        obtain ⟨ad197, A197_1, c197_1, e197, hx197_0, hx197_1, hl197_1, hi197_1⟩ := at_T67 HR0.out x4_1 p197 q197
                        obtain rfl : ad194 = ad197 := (by injection e197)
                        replace hx197_0 := (HB.out.cell (World.block_lt_of_cell? w _ hx197_0)).trans hx197_0
                        replace hx197_1 := (HB.out.cell (World.block_lt_of_cell? w _ hx197_1)).trans hx197_1
                        have HR197_1 := Aside0.mk hi197_1
                        have HC197_1 := Aside0.mk hl197_1
                        clear hi197_1 hl197_1
                        replace p197 := eq_true p197
                        replace q197 := eq_true q197
                        have ea_ := Option.some.inj (hx196_1.symm.trans hx197_1)
                        injection ea_ with ea_ en_ ec_
                        subst ea_
                        subst ec_
                        clear en_
                        have p198 : 0 ≤ (x6_2 : Int) := of_decide_eq_true (by first | (with_reducible assumption) | assumption)
                        have q198 : x6_2 < (((rd_T67 l0 x4_1).f1).length : Int) := of_decide_eq_true (by first | (with_reducible assumption) | assumption)
                        obtain ⟨ad198, e198, hx198_0, hx198_1, hx198_2, hx198_3, hx198_4⟩ := at_T69 HR197_1.out x6_2 p198 q198
                        cases e198
                        replace hx198_0 := (HB.out.cell (World.block_lt_of_cell? w _ hx198_0)).trans hx198_0
                        replace hx198_1 := (HB.out.cell (World.block_lt_of_cell? w _ hx198_1)).trans hx198_1
                        replace hx198_2 := (HB.out.cell (World.block_lt_of_cell? w _ hx198_2)).trans hx198_2
                        replace hx198_3 := (HB.out.cell (World.block_lt_of_cell? w _ hx198_3)).trans hx198_3
                        replace hx198_4 := (HB.out.cell (World.block_lt_of_cell? w _ hx198_4)).trans hx198_4
                        replace p198 := eq_true p198
                        replace q198 := eq_true q198
                        go_wp2_with (first | ((with_reducible refine gate_dst (N := 7) rfl ?_); refine box_event ?hg (N := 7) ?hd (cs := #[.int .i64 0, .int .i64 0, .int .i64 0, .int .i64 0, .int .i64 0]) (t := 69) ?hr ?_; (case hd => rfl); (case hg => rfl); (case hr => first | (go_simp; done) | (go_simp; rfl)); intro gb199 hg w11 hbox hb; have n0_ := Aside0.mk (Kd.S_below (by (with_reducible repeat (first | apply Kd.S_alloc | apply Kd.S_drewN | apply Kd.S_drew)); exact HO_3.out) hb); have n1_ := Aside0.mk (Kd.R_below (by (with_reducible repeat (first | apply Kd.R_alloc | apply Kd.R_drewN | apply Kd.R_drew)); exact HO_196001.out) hb); have n2_ := Aside0.mk (blk_below (g := gb195) (o := .cells #[.int .i64 ((rd_T67 l0 x4_1).f0), u196001] 48 (0, 0)) (by (with_reducible repeat (first | refine blk_drewN ?_ _ | refine blk_drew ?_ | refine blk_alloc ?_ _)); exact BK195.out) hb); have n3_ := Aside0.mk (below_step (by repeat (first | (with_reducible first | exact HB.out | apply below_alloc | apply pw_below_drewN | apply below_drew1 | refine below_set ?_ GE195.out) | exact HB.out)) hb); have n4_ := Aside0.mk (hbox); have n5_ := Aside0.mk ((by rw [hg]; exact (below_size (by repeat (first | (with_reducible first | exact HB.out | apply below_alloc | apply pw_below_drewN | apply below_drew1 | refine below_set ?_ GE195.out) | exact HB.out))) : w.heap.size ≤ gb199)); have n6_ := Aside0.mk ((by rw [hg]; exact (below_size (by repeat (first | (with_reducible first | exact HB.out | apply below_alloc | apply pw_below_drewN | apply below_drew1 | refine below_set ?_ GE195.out) | exact HB.out))) : w.heap.size ≤ gb199)); have n7_ := Aside0.mk ((by rw [hg]; exact Nat.ne_of_lt (blk_lt (g := gb195) (o := .cells #[.int .i64 ((rd_T67 l0 x4_1).f0), u196001] 48 (0, 0)) (by (with_reducible repeat (first | refine blk_drewN ?_ _ | refine blk_drew ?_ | refine blk_alloc ?_ _)); exact BK195.out)) : gb195 ≠ gb199)); have n8_ := Aside0.mk ((by rw [hg]; exact Nat.ne_of_gt (blk_lt (g := gb195) (o := .cells #[.int .i64 ((rd_T67 l0 x4_1).f0), u196001] 48 (0, 0)) (by (with_reducible repeat (first | refine blk_drewN ?_ _ | refine blk_drew ?_ | refine blk_alloc ?_ _)); exact BK195.out)) : gb199 ≠ gb195)); clear HO_3; clear HO_196001; clear BK195; clear HB; have HO_3 := n0_; have HO_196001 := n1_; have BK195 := n2_; have HB := n3_; have BK199 := n4_; have GW199 := n5_; have GE199 := n6_; have NB195_199 := n7_; have NB199_195 := n8_; clear n0_ n1_ n2_ n3_ n4_ n5_ n6_ n7_ n8_; clear hb hbox hg; have hnb12 := NB199_195.out; have hnc12 := NB195_199.out; have hcz13_0 : w11.cell? ⟨gb199, 0, none⟩ = some (.int .i64 0) := (blk_cell BK199.out 0).trans rfl; have hcz13_1 : w11.cell? ⟨gb199, 1, none⟩ = some (.int .i64 0) := (blk_cell BK199.out 1).trans rfl; have hcz13_2 : w11.cell? ⟨gb199, 2, none⟩ = some (.int .i64 0) := (blk_cell BK199.out 2).trans rfl; have hcz13_3 : w11.cell? ⟨gb199, 3, none⟩ = some (.int .i64 0) := (blk_cell BK199.out 3).trans rfl; have hcz13_4 : w11.cell? ⟨gb199, 4, none⟩ = some (.int .i64 0) := (blk_cell BK199.out 4).trans rfl; have hfz13_0 := blk_frozen BK199.out 0; have hfz13_1 := blk_frozen BK199.out 1; have hfz13_2 := blk_frozen BK199.out 2; have hfz13_3 := blk_frozen BK199.out 3; have hfz13_4 := blk_frozen BK199.out 4; have hcz14_0 : w11.cell? ⟨gb195, 0, none⟩ = some (.int .i64 ((rd_T67 l0 x4_1).f0)) := (blk_cell BK195.out 0).trans rfl; have hcz14_1 : w11.cell? ⟨gb195, 1, none⟩ = some (u196001) := (blk_cell BK195.out 1).trans rfl; have hfz14_0 := blk_frozen BK195.out 0; have hfz14_1 := blk_frozen BK195.out 1) | ((with_reducible refine gate_builtin (b := .append) (xs := #[.tmp 39, .tmp 51]) rfl ?_); at_builtin; refine Kd.R_append k74 (w0 := w) w.heap.size rfl (.tmp 39) (.tmp 51) 46 74 (.agg #[(.int .i64 0), (.int .i64 0), (.int .i64 0), (.int .i64 0), (.int .i64 0)]) 40 rfl Tryd.underlying46 info74 rfl (by decide) (by omega) u196001 x196001_2 (⟨(rd_T69 ((rd_T67 l0 x4_1).f1) x6_2).f0, (rd_T69 ((rd_T67 l0 x4_1).f1) x6_2).f1, (rd_T69 ((rd_T67 l0 x4_1).f1) x6_2).f2, (rd_T69 ((rd_T67 l0 x4_1).f1) x6_2).f3, (rd_T69 ((rd_T67 l0 x4_1).f1) x6_2).f4⟩ : S74) [.int .i64 ((rd_T69 ((rd_T67 l0 x4_1).f1) x6_2).f0), .int .i64 ((rd_T69 ((rd_T67 l0 x4_1).f1) x6_2).f1), .int .i64 ((rd_T69 ((rd_T67 l0 x4_1).f1) x6_2).f2), .int .i64 ((rd_T69 ((rd_T67 l0 x4_1).f1) x6_2).f3), .int .i64 ((rd_T69 ((rd_T67 l0 x4_1).f1) x6_2).f4)] (fun _ => True) (fun _ => False) rfl (by first | (go_simp; done) | (go_simp; rfl)) ?aP (fun _ hk => hk.elim) ?aF ?aO ?aB ?aS ?aL ?_; (case aP => exact k74_mkM _ _ _ (⟨(rd_T69 ((rd_T67 l0 x4_1).f1) x6_2).f0, (rd_T69 ((rd_T67 l0 x4_1).f1) x6_2).f1, (rd_T69 ((rd_T67 l0 x4_1).f1) x6_2).f2, (rd_T69 ((rd_T67 l0 x4_1).f1) x6_2).f3, (rd_T69 ((rd_T67 l0 x4_1).f1) x6_2).f4⟩ : S74)); (case aB => exact (by repeat (first | (with_reducible first | exact HB.out | apply below_alloc | apply pw_below_drewN | apply below_drew1 | refine below_set ?_ GE195.out | refine below_set ?_ GE199.out) | exact HB.out))); (case aF => exact (fun _ _ => trivial)); (case aO => exact (by (with_reducible repeat (first | apply Kd.R_alloc | apply Kd.R_drewN | apply Kd.R_drew)); exact Kd.R_mono (Kd.R_far (p := ⟨gb199, 4, none⟩) (Kd.R_far (p := ⟨gb199, 3, none⟩) (Kd.R_far (p := ⟨gb199, 2, none⟩) (Kd.R_far (p := ⟨gb199, 1, none⟩) (Kd.R_far (p := ⟨gb199, 0, none⟩) (Kd.R_types HO_196001.out BK199.out (by decide)) (fun _ hk => hk.2) (.int .i64 ((rd_T69 ((rd_T67 l0 x4_1).f1) x6_2).f0))) (fun _ hk => hk.2) (.int .i64 ((rd_T69 ((rd_T67 l0 x4_1).f1) x6_2).f1))) (fun _ hk => hk.2) (.int .i64 ((rd_T69 ((rd_T67 l0 x4_1).f1) x6_2).f2))) (fun _ hk => hk.2) (.int .i64 ((rd_T69 ((rd_T67 l0 x4_1).f1) x6_2).f3))) (fun _ hk => hk.2) (.int .i64 ((rd_T69 ((rd_T67 l0 x4_1).f1) x6_2).f4))) (fun _ hk => trivial))); (case aS => exact (below_size (by repeat (first | (with_reducible first | exact HB.out | apply below_alloc | apply pw_below_drewN | apply below_drew1 | refine below_set ?_ GE195.out | refine below_set ?_ GE199.out) | exact HB.out)))); (case aL => have := LMc10.out; omega); intro v201 w15 ho hb hg hat; rw [← Ny200.out] at ho; have n0_ := Aside0.mk (Kd.S_after (ok := (fun k_ => k_ ≠ gb195)) (by (with_reducible repeat (first | apply Kd.S_alloc | apply Kd.S_drewN | apply Kd.S_drew)); exact Kd.S_mono (Kd.S_far (p := ⟨gb199, 4, none⟩) (Kd.S_far (p := ⟨gb199, 3, none⟩) (Kd.S_far (p := ⟨gb199, 2, none⟩) (Kd.S_far (p := ⟨gb199, 1, none⟩) (Kd.S_far (p := ⟨gb199, 0, none⟩) (Kd.S_types HO_3.out BK199.out (by decide)) (fun _ hk => hk.2) (.int .i64 ((rd_T69 ((rd_T67 l0 x4_1).f1) x6_2).f0))) (fun _ hk => hk.2) (.int .i64 ((rd_T69 ((rd_T67 l0 x4_1).f1) x6_2).f1))) (fun _ hk => hk.2) (.int .i64 ((rd_T69 ((rd_T67 l0 x4_1).f1) x6_2).f2))) (fun _ hk => hk.2) (.int .i64 ((rd_T69 ((rd_T67 l0 x4_1).f1) x6_2).f3))) (fun _ hk => hk.2) (.int .i64 ((rd_T69 ((rd_T67 l0 x4_1).f1) x6_2).f4))) (fun _ hk => ⟨hk.1.2, hk.1.1⟩)) hg hat); have n1_ := Aside0.mk (blk_grown (g := gb195) (o := .cells #[.int .i64 ((rd_T67 l0 x4_1).f0), u196001] 48 (0, 0)) (by (with_reducible repeat (first | refine blk_drewN ?_ _ | refine blk_drew ?_ | refine blk_alloc ?_ _)); refine blk_far ?_ NB195_199.out _; (with_reducible repeat (first | refine blk_drewN ?_ _ | refine blk_drew ?_ | refine blk_alloc ?_ _)); refine blk_far ?_ NB195_199.out _; (with_reducible repeat (first | refine blk_drewN ?_ _ | refine blk_drew ?_ | refine blk_alloc ?_ _)); refine blk_far ?_ NB195_199.out _; (with_reducible repeat (first | refine blk_drewN ?_ _ | refine blk_drew ?_ | refine blk_alloc ?_ _)); refine blk_far ?_ NB195_199.out _; (with_reducible repeat (first | refine blk_drewN ?_ _ | refine blk_drew ?_ | refine blk_alloc ?_ _)); refine blk_far ?_ NB195_199.out _; (with_reducible repeat (first | refine blk_drewN ?_ _ | refine blk_drew ?_ | refine blk_alloc ?_ _)); exact BK195.out) hg (Kd.R_ne HO_196001.out BK195.out (by decide))); have n2_ := Aside0.mk (blk_grown (g := gb199) (o := .cells #[.int .i64 ((rd_T69 ((rd_T67 l0 x4_1).f1) x6_2).f0), .int .i64 ((rd_T69 ((rd_T67 l0 x4_1).f1) x6_2).f1), .int .i64 ((rd_T69 ((rd_T67 l0 x4_1).f1) x6_2).f2), .int .i64 ((rd_T69 ((rd_T67 l0 x4_1).f1) x6_2).f3), .int .i64 ((rd_T69 ((rd_T67 l0 x4_1).f1) x6_2).f4)] 69 (0, 0)) (by (with_reducible repeat (first | refine blk_drewN ?_ _ | refine blk_drew ?_ | refine blk_alloc ?_ _)); refine blk_put (cs := #[.int .i64 ((rd_T69 ((rd_T67 l0 x4_1).f1) x6_2).f0), .int .i64 ((rd_T69 ((rd_T67 l0 x4_1).f1) x6_2).f1), .int .i64 ((rd_T69 ((rd_T67 l0 x4_1).f1) x6_2).f2), .int .i64 ((rd_T69 ((rd_T67 l0 x4_1).f1) x6_2).f3), .int .i64 0]) ?_ 4 _ rfl; (with_reducible repeat (first | refine blk_drewN ?_ _ | refine blk_drew ?_ | refine blk_alloc ?_ _)); refine blk_put (cs := #[.int .i64 ((rd_T69 ((rd_T67 l0 x4_1).f1) x6_2).f0), .int .i64 ((rd_T69 ((rd_T67 l0 x4_1).f1) x6_2).f1), .int .i64 ((rd_T69 ((rd_T67 l0 x4_1).f1) x6_2).f2), .int .i64 0, .int .i64 0]) ?_ 3 _ rfl; (with_reducible repeat (first | refine blk_drewN ?_ _ | refine blk_drew ?_ | refine blk_alloc ?_ _)); refine blk_put (cs := #[.int .i64 ((rd_T69 ((rd_T67 l0 x4_1).f1) x6_2).f0), .int .i64 ((rd_T69 ((rd_T67 l0 x4_1).f1) x6_2).f1), .int .i64 0, .int .i64 0, .int .i64 0]) ?_ 2 _ rfl; (with_reducible repeat (first | refine blk_drewN ?_ _ | refine blk_drew ?_ | refine blk_alloc ?_ _)); refine blk_put (cs := #[.int .i64 ((rd_T69 ((rd_T67 l0 x4_1).f1) x6_2).f0), .int .i64 0, .int .i64 0, .int .i64 0, .int .i64 0]) ?_ 1 _ rfl; (with_reducible repeat (first | refine blk_drewN ?_ _ | refine blk_drew ?_ | refine blk_alloc ?_ _)); refine blk_put (cs := #[.int .i64 0, .int .i64 0, .int .i64 0, .int .i64 0, .int .i64 0]) ?_ 0 _ rfl; (with_reducible repeat (first | refine blk_drewN ?_ _ | refine blk_drew ?_ | refine blk_alloc ?_ _)); exact BK199.out) hg (Kd.R_ne HO_196001.out BK199.out (by decide))); have n3_ := Aside0.mk (hb); have n4_ := Aside0.mk (ho); clear HO_3; clear BK195; clear BK199; clear HB; clear HO_196001; have HO_3 := n0_; have BK195 := n1_; have BK199 := n2_; have HB := n3_; have HO202 := n4_; clear n0_ n1_ n2_ n3_ n4_; clear ho hb hg hat; obtain ⟨Ao16, co16, eo16⟩ := Kd.R_slice HO202.out; subst eo16; have hcz17_0 : w15.cell? ⟨gb195, 0, none⟩ = some (.int .i64 ((rd_T67 l0 x4_1).f0)) := (blk_cell BK195.out 0).trans rfl; have hcz17_1 : w15.cell? ⟨gb195, 1, none⟩ = some (u196001) := (blk_cell BK195.out 1).trans rfl; have hfz17_0 := blk_frozen BK195.out 0; have hfz17_1 := blk_frozen BK195.out 1))
                        go_roundg k2
                        case measure => have := HK1.out; have := HK2.out; omega
                        case rel => exact ⟨(wrap64 (x6_2 + 1)), (y200), (.slice Ao16 y200.length co16), (by first | rfl | (simp; done) | (simp [*]; done)), H', ⟨by have := HK1.out; have := HK2.out; omega⟩, ⟨by (with_reducible repeat (first | apply Kd.S_alloc | apply Kd.S_drewN | apply Kd.S_drew)); exact Kd.S_mono (Kd.S_far (p := ⟨gb195, 1, none⟩) (Kd.S_mono HO_3.out (fun k_ hk => (⟨hk, hk.1⟩ : _ ∧ k_ ≠ gb195))) (fun _ hk => hk.2) (.slice Ao16 y200.length co16)) (fun _ hk => ⟨hk.1.2, hk.1.1⟩)⟩, ⟨by (with_reducible repeat (first | apply Kd.R_alloc | apply Kd.R_drewN | apply Kd.R_drew)); exact Kd.R_mono (Kd.R_far (p := ⟨gb195, 1, none⟩) (Kd.R_types HO202.out BK195.out (by decide)) (fun _ hk => hk.2) (.slice Ao16 y200.length co16)) (fun _ hk => trivial)⟩, ⟨by (with_reducible repeat (first | refine blk_drewN ?_ _ | refine blk_drew ?_ | refine blk_alloc ?_ _)); refine blk_put (cs := #[.int .i64 ((rd_T67 l0 x4_1).f0), u196001]) ?_ 1 _ rfl; (with_reducible repeat (first | refine blk_drewN ?_ _ | refine blk_drew ?_ | refine blk_alloc ?_ _)); exact BK195.out⟩, ⟨by repeat (first | (with_reducible first | exact HB.out | apply below_alloc | apply pw_below_drewN | apply below_drew1 | refine below_set ?_ GE195.out | refine below_set ?_ GE199.out) | exact HB.out)⟩⟩
                      · rw [if_neg c10] at H
                        exact absurd H (by simp)
                    · rw [if_neg c9] at H
                      exact absurd H (by simp)
                  · rw [if_neg c8] at H
                    have c8b0 : decide (x6_2 < (((rd_T67 l0 x4_1).f1).length : Int)) = false := decide_eq_false c8
                    clear c8
                    by_cases c18 : x3_1.length < 4398046511104
                    · rw [if_pos c18] at H
                      have LMc18 := Aside0.mk c18
                      clear c18
                      obtain ⟨y203, hy203⟩ : ∃ y_ : List (S48), y_ = (x3_1 ++ [(⟨((rd_T67 l0 x4_1).f0), x196001_2⟩ : S48)]) := ⟨_, rfl⟩
                      replace H : (haymowlaw04_of.l0 k2 l0 y203 (wrap64 (x4_1 + 1))) = some r := by first | (rw [hy203]; with_reducible exact H) | (have H2_ := (Option.bind_some _ _).symm.trans H; rw [hy203]; with_reducible exact H2_) | (have H2_ := (Option.bind_some _ _).symm.trans H; with_reducible exact H2_) | with_reducible exact H | (rw [hy203]; exact H) | exact H
                      have Ny203 := Aside0.mk hy203
                      clear hy203
                      have H' := Aside0.mk H
                      clear H
                      have p196 : 0 ≤ (x4_1 : Int) := of_decide_eq_true (by first | (with_reducible assumption) | assumption)
                      have q196 : x4_1 < (l0.length : Int) := of_decide_eq_true (by first | (with_reducible assumption) | assumption)
                      obtain ⟨ad196, A196_1, c196_1, e196, hx196_0, hx196_1, hl196_1, hi196_1⟩ := at_T67 HR0.out x4_1 p196 q196
                      obtain rfl : ad194 = ad196 := (by injection e196)
                      replace hx196_0 := (HB.out.cell (World.block_lt_of_cell? w _ hx196_0)).trans hx196_0
                      replace hx196_1 := (HB.out.cell (World.block_lt_of_cell? w _ hx196_1)).trans hx196_1
                      have HR196_1 := Aside0.mk hi196_1
                      have HC196_1 := Aside0.mk hl196_1
                      clear hi196_1 hl196_1
                      replace p196 := eq_true p196
                      replace q196 := eq_true q196
                      have hcz19_0 : wr.cell? ⟨gb195, 0, none⟩ = some (.int .i64 ((rd_T67 l0 x4_1).f0)) := (blk_cell BK195.out 0).trans rfl
                      have hcz19_1 : wr.cell? ⟨gb195, 1, none⟩ = some (u196001) := (blk_cell BK195.out 1).trans rfl
                      have hfz19_0 := blk_frozen BK195.out 0
                      have hfz19_1 := blk_frozen BK195.out 1
                      obtain ⟨Ao21, co21, eo21⟩ := Kd.R_slice HO_196001.out
                      subst eo21
                      go_wp2_with (first | ((with_reducible refine gate_builtin (b := .append) (xs := #[.tmp 54, .tmp 56]) rfl ?_); at_builtin; refine Kd.S_append k48 (w0 := w) w.heap.size rfl (.tmp 54) (.tmp 56) 39 48 (.agg #[(.int .i64 0), (.slice none 0 0)]) 32 rfl Tryd.underlying39 info48 rfl (by decide) (by omega) u3 x3_1 (⟨((rd_T67 l0 x4_1).f0), x196001_2⟩ : S48) [.int .i64 ((rd_T67 l0 x4_1).f0), .slice Ao21 x196001_2.length co21] (fun k_ => k_ ≠ gb195) (fun k_ => some k_ = (.slice Ao21 x196001_2.length co21 : Value).ownBlock) rfl rfl ?aP (fun k_ hk_ => ((Kd.R_mono (ok' := fun k_ => ((fun k_ => k_ ≠ gb195)) k_ ∧ some k_ ≠ (u3 : Value).ownBlock) (Kd.R_types (Kd.R_apart' (HO_196001.out) (Kd.S_typed HO_3.out) (by decide)) BK195.out (by decide)) (fun k_ hk => ⟨hk.2, hk.1.2⟩))).1 k_ hk_.symm) ?aF ?aO ?aB ?aS ?aL ?_; (case aP => exact k48_mkM _ _ _ (⟨((rd_T67 l0 x4_1).f0), x196001_2⟩ : S48) (Kd.R_mono (Kd.R_tight rfl (Kd.R_mono (ok' := fun k_ => ((fun k_ => k_ ≠ gb195)) k_ ∧ some k_ ≠ (u3 : Value).ownBlock) (Kd.R_types (Kd.R_apart' (HO_196001.out) (Kd.S_typed HO_3.out) (by decide)) BK195.out (by decide)) (fun k_ hk => ⟨hk.2, hk.1.2⟩))) (fun _ h_ => h_))); (case aB => exact (by repeat (first | (with_reducible first | exact HB.out | apply below_alloc | apply pw_below_drewN | apply below_drew1 | refine below_set ?_ GE195.out) | exact HB.out))); (case aF => exact (fun k_ hk => Kd.freshB (g := gb195) (o := .cells #[.int .i64 ((rd_T67 l0 x4_1).f0), .slice Ao21 x196001_2.length co21] 48 (0, 0)) (by (with_reducible repeat (first | refine blk_drewN ?_ _ | refine blk_drew ?_ | refine blk_alloc ?_ _)); exact BK195.out) k_ hk)); (case aO => exact (by (with_reducible repeat (first | apply Kd.S_alloc | apply Kd.S_drewN | apply Kd.S_drew)); exact Kd.S_mono HO_3.out (fun k_ hk => ⟨hk.2, fun e_ => hk.1 e_⟩))); (case aS => exact (below_size (by repeat (first | (with_reducible first | exact HB.out | apply below_alloc | apply pw_below_drewN | apply below_drew1 | refine below_set ?_ GE195.out) | exact HB.out)))); (case aL => have := LMc18.out; omega); intro v204 w20 ho hb hg hat; rw [← Ny203.out] at ho; have n0_ := Aside0.mk (blk_grown (g := gb195) (o := .cells #[.int .i64 ((rd_T67 l0 x4_1).f0), .slice Ao21 x196001_2.length co21] 48 (0, 0)) (by (with_reducible repeat (first | refine blk_drewN ?_ _ | refine blk_drew ?_ | refine blk_alloc ?_ _)); exact BK195.out) hg (Kd.S_away HO_3.out (fun _ hk => hk.2))); have n1_ := Aside0.mk (hb); have n2_ := Aside0.mk (ho); clear BK195; clear HB; clear HO_3; clear HO_196001; have BK195 := n0_; have HB := n1_; have HO205 := n2_; clear n0_ n1_ n2_; clear ho hb hg hat))
                      go_roundg k2
                      case measure => have := HK1.out; have := HK2.out; omega
                      case rel => exact ⟨(y203), (wrap64 (x4_1 + 1)), (by first | rfl | (simp; done) | (simp [*]; done)), H', ⟨by have := HK1.out; have := HK2.out; omega⟩, ⟨by (with_reducible repeat (first | apply Kd.S_alloc | apply Kd.S_drewN | apply Kd.S_drew)); exact Kd.S_mono HO205.out (fun _ hk => trivial)⟩, ⟨by repeat (first | (with_reducible first | exact HB.out | apply below_alloc | apply pw_below_drewN | apply below_drew1 | refine below_set ?_ GE195.out) | exact HB.out)⟩⟩
                    · rw [if_neg c18] at H
                      exact absurd H (by simp)
                · rw [if_neg c7] at H
                  exact absurd H (by simp)
              · rw [if_neg c6] at H
                exact absurd H (by simp)
        · rw [if_neg c3] at H
          exact absurd H (by simp)
      · rw [if_neg c2] at H
        have c2b0 : decide (x4_1 < (l0.length : Int)) = false := decide_eq_false c2
        clear c2
        obtain rfl := Option.some.inj H
        go_wp2
        go_ret
        exact ⟨_, by first | rfl | (simp [errW_none, errW_some] <;> rfl) | (simp [*, errW_none, errW_some] <;> rfl), by (with_reducible repeat (first | apply Kd.S_alloc | apply Kd.S_drewN | apply Kd.S_drew)); exact HO_3.out, by repeat (first | (with_reducible first | exact HB.out | apply below_alloc | apply pw_below_drewN | apply below_drew1) | exact HB.out)⟩

end Go.Proofs.YtcchoeomeklgmaaDoor.P2
