-- PRINTED BY print.sh 35421559b90ae4d0a3588c463048766b98c2df88dd9212a6774a882060cdf62d: not written by this session
import Derived.Test.YthnefjkpjhfkgaaPScriptWritesx0
namespace Go.Proofs.Ythnefjkpjhfkgaa.PScriptWrites
open Go.RowKit Go.Proofs.YthnefjkpjhfkgaaW.PrintWords Go.Proofs.YthnefjkpjhfkgaaW.PrintLast Go.Proofs.YthnefjkpjhfkgaaW.PrintMore
attribute [local go_sem] max2_int min2_int max_two min_two max_three min_three max_four min_four   -- for this text's walks alone
set_option linter.unusedVariables false
set_option linter.unusedSimpArgs false

/-! ### haymowlaw18_light: function 8 -/
def haymowlaw18_light.l0 : Nat → List (S33) → Int → Option (Bool)
  | 0, _, _ => none
  | k + 1, x0, x3 => if x3 < (x0.length : Int) then (if 0 ≤ x3 then (if (((rd_T33 x0 x3).f4).length : Int) > 300 then (some false) else (if (((rd_T33 x0 x3).f5).length : Int) > 300 then (some false) else (haymowlaw18_light.l0 k x0 (wrap64 (x3 + 1))))) else (none)) else (some true)
def haymowlaw18_light.f (k : Nat) (l0 : List (S33)) : Option (Bool) := if (l0.length : Int) > 60 then (some false) else (haymowlaw18_light.l0 k l0 0)
theorem haymowlaw18_light.mono_l : ∀ k, (∀ y0 y1, LeO (haymowlaw18_light.l0 k y0 y1) (haymowlaw18_light.l0 (k + 1) y0 y1))
  | 0 => fun _ _ r h => by simp [haymowlaw18_light.l0] at h
  | k + 1 => by
    have ih0 := haymowlaw18_light.mono_l k
    · intro y0 y1
      unfold haymowlaw18_light.l0
      repeat' first
      | (with_reducible exact ih0 _ _)
      | (with_reducible exact LeO.refl _)
      | (with_reducible exact LeO.none _)
      | (with_reducible refine LeO.ite ?_ ?_)
      | (with_reducible refine LeO.bind ?_ (fun _ => ?_))
      | exact ih0 _ _
      | exact LeO.none _
      | refine LeO.ite ?_ ?_
      | refine LeO.bind ?_ (fun _ => ?_)
theorem haymowlaw18_light.mono : ∀ a0 k, LeO (haymowlaw18_light.f k a0) (haymowlaw18_light.f (k + 1) a0) := by
  intro a0 k
  have ih0 := haymowlaw18_light.mono_l k
  unfold haymowlaw18_light.f
  repeat' first
      | (with_reducible exact ih0 _ _)
      | (with_reducible exact LeO.refl _)
      | (with_reducible exact LeO.none _)
      | (with_reducible refine LeO.ite ?_ ?_)
      | (with_reducible refine LeO.bind ?_ (fun _ => ?_))
      | exact ih0 _ _
      | exact LeO.none _
      | refine LeO.ite ?_ ?_
      | refine LeO.bind ?_ (fun _ => ?_)
set_option maxHeartbeats 8000000 in
set_option maxRecDepth 100000 in
theorem haymowlaw18_light.calls (k : Nat) (A0 : Option Addr) (c0 : Nat) (l0 : List (S33)) (r : Bool) (w : World) (hr0 : Kd.C k33 w A0 l0.length l0) (hc0 : l0.length ≤ c0) (h : haymowlaw18_light.f k l0 = some r) :
    Calls Try.prog 8 #[.slice A0 l0.length c0] w fun e w' => e = .returned (.bool r) ∧ Drawn0 w w' := by
  have HR0 := Aside0.mk hr0
  have HC0 := Aside0.mk hc0
  clear hr0 hc0
  have H : (if (l0.length : Int) > 60 then (some false) else (haymowlaw18_light.l0 k l0 0)) = some r := h
  clear h
  by_cases c2 : (l0.length : Int) > 60
  · rw [if_pos c2] at H
    have c2b0 : decide (60 < (l0.length : Int)) = true := decide_eq_true c2
    have c2b1 : decide (60 < l0.length) = true := decide_eq_true (by omega)
    clear c2
    obtain rfl := Option.some.inj H
    go_enter Try.func8, Try.ntmps8
    go_wp2
    go_ret
    exact ⟨by first | rfl | (simp; done) | (simp [*]; done), by repeat (first | exact Drawn0.refl _ | apply Drawn0.step)⟩
  · rw [if_neg c2] at H
    have c2b0 : decide (60 < (l0.length : Int)) = false := decide_eq_false c2
    have c2b1 : decide (60 < l0.length) = false := decide_eq_false (by omega)
    clear c2
    have H' := Aside0.mk H
    clear H
    go_enter Try.func8, Try.ntmps8
    go_wp2
    go_loopg [3] k (fun kq v3 w' => ∃ (x3_1 : Int), v3 = .int .i64 x3_1 ∧ Aside0 (haymowlaw18_light.l0 kq l0 x3_1 = some r) ∧ Aside0 (kq ≤ k) ∧ Drawn0 w w')
    case atStart => exact ⟨(0), (by first | rfl | (simp; done) | (simp [*]; done)), H', ⟨Nat.le_refl _⟩, by repeat (first | exact Drawn0.refl _ | apply Drawn0.step)⟩
    case round =>
      clear H'
      try clear c2
      try clear c2b0
      try clear c2b1
      try clear p2
      obtain ⟨x3_1, rfl, HA, HK1, ⟨m1, rfl⟩⟩ := hrel
      cases gk with
      | zero => exact absurd HA.out (by simp [haymowlaw18_light.l0])
      | succ k1 =>
        have H := HA.out
        clear HA
        simp only [haymowlaw18_light.l0] at H
        by_cases c3 : x3_1 < (l0.length : Int)
        · rw [if_pos c3] at H
          have c3b0 : decide (x3_1 < (l0.length : Int)) = true := decide_eq_true c3
          clear c3
          by_cases c4 : 0 ≤ x3_1
          · rw [if_pos c4] at H
            have c4b0 : decide (0 ≤ x3_1) = true := decide_eq_true c4
            clear c4
            by_cases c5 : (((rd_T33 l0 x3_1).f4).length : Int) > 300
            · rw [if_pos c5] at H
              have c5b0 : decide (300 < (((rd_T33 l0 x3_1).f4).length : Int)) = true := decide_eq_true c5
              have c5b1 : decide (300 < ((rd_T33 l0 x3_1).f4).length) = true := decide_eq_true (by omega)
              clear c5
              obtain rfl := Option.some.inj H
              have p101 : 0 ≤ (x3_1 : Int) := of_decide_eq_true (by first | (with_reducible assumption) | assumption)
              have q101 : x3_1 < (l0.length : Int) := of_decide_eq_true (by first | (with_reducible assumption) | assumption)
              obtain ⟨ad101, A101_4, c101_4, A101_5, c101_5, e101, hx101_0, hx101_1, hx101_2, hx101_3, hx101_4, hx101_5, hl101_4, hi101_4, hl101_5, hi101_5⟩ := at_T33 HR0.out x3_1 p101 q101
              cases e101
              have HR101_4 := Aside0.mk hi101_4
              have HC101_4 := Aside0.mk hl101_4
              clear hi101_4 hl101_4
              have HR101_5 := Aside0.mk hi101_5
              have HC101_5 := Aside0.mk hl101_5
              clear hi101_5 hl101_5
              replace p101 := eq_true p101
              replace q101 := eq_true q101
              go_wp2
              go_ret
              exact ⟨by first | rfl | (simp; done) | (simp [*]; done), by repeat (first | exact Drawn0.refl _ | apply Drawn0.step)⟩
            · rw [if_neg c5] at H
              have c5b0 : decide (300 < (((rd_T33 l0 x3_1).f4).length : Int)) = false := decide_eq_false c5
              have c5b1 : decide (300 < ((rd_T33 l0 x3_1).f4).length) = false := decide_eq_false (by omega)
              clear c5
              by_cases c6 : (((rd_T33 l0 x3_1).f5).length : Int) > 300
              · rw [if_pos c6] at H
                have c6b0 : decide (300 < (((rd_T33 l0 x3_1).f5).length : Int)) = true := decide_eq_true c6
                have c6b1 : decide (300 < ((rd_T33 l0 x3_1).f5).length) = true := decide_eq_true (by omega)
                clear c6
                obtain rfl := Option.some.inj H
                have p101 : 0 ≤ (x3_1 : Int) := of_decide_eq_true (by first | (with_reducible assumption) | assumption)
                have q101 : x3_1 < (l0.length : Int) := of_decide_eq_true (by first | (with_reducible assumption) | assumption)
                obtain ⟨ad101, A101_4, c101_4, A101_5, c101_5, e101, hx101_0, hx101_1, hx101_2, hx101_3, hx101_4, hx101_5, hl101_4, hi101_4, hl101_5, hi101_5⟩ := at_T33 HR0.out x3_1 p101 q101
                cases e101
                have HR101_4 := Aside0.mk hi101_4
                have HC101_4 := Aside0.mk hl101_4
                clear hi101_4 hl101_4
                have HR101_5 := Aside0.mk hi101_5
                have HC101_5 := Aside0.mk hl101_5
                clear hi101_5 hl101_5
                replace p101 := eq_true p101
                replace q101 := eq_true q101
                have p102 : 0 ≤ (x3_1 : Int) := of_decide_eq_true (by first | (with_reducible assumption) | assumption)
                have q102 : x3_1 < (l0.length : Int) := of_decide_eq_true (by first | (with_reducible assumption) | assumption)
                obtain ⟨ad102, A102_4, c102_4, A102_5, c102_5, e102, hx102_0, hx102_1, hx102_2, hx102_3, hx102_4, hx102_5, hl102_4, hi102_4, hl102_5, hi102_5⟩ := at_T33 HR0.out x3_1 p102 q102
                obtain rfl : ad101 = ad102 := (by injection e102)
                have HR102_4 := Aside0.mk hi102_4
                have HC102_4 := Aside0.mk hl102_4
                clear hi102_4 hl102_4
                have HR102_5 := Aside0.mk hi102_5
                have HC102_5 := Aside0.mk hl102_5
                clear hi102_5 hl102_5
                replace p102 := eq_true p102
                replace q102 := eq_true q102
                have ea_ := Option.some.inj (hx101_4.symm.trans hx102_4)
                injection ea_ with ea_ en_ ec_
                subst ea_
                subst ec_
                clear en_
                have ea_ := Option.some.inj (hx101_5.symm.trans hx102_5)
                injection ea_ with ea_ en_ ec_
                subst ea_
                subst ec_
                clear en_
                go_wp2
                go_ret
                exact ⟨by first | rfl | (simp; done) | (simp [*]; done), by repeat (first | exact Drawn0.refl _ | apply Drawn0.step)⟩
              · rw [if_neg c6] at H
                have c6b0 : decide (300 < (((rd_T33 l0 x3_1).f5).length : Int)) = false := decide_eq_false c6
                have c6b1 : decide (300 < ((rd_T33 l0 x3_1).f5).length) = false := decide_eq_false (by omega)
                clear c6
                have H' := Aside0.mk H
                clear H
                have p101 : 0 ≤ (x3_1 : Int) := of_decide_eq_true (by first | (with_reducible assumption) | assumption)
                have q101 : x3_1 < (l0.length : Int) := of_decide_eq_true (by first | (with_reducible assumption) | assumption)
                obtain ⟨ad101, A101_4, c101_4, A101_5, c101_5, e101, hx101_0, hx101_1, hx101_2, hx101_3, hx101_4, hx101_5, hl101_4, hi101_4, hl101_5, hi101_5⟩ := at_T33 HR0.out x3_1 p101 q101
                cases e101
                have HR101_4 := Aside0.mk hi101_4
                have HC101_4 := Aside0.mk hl101_4
                clear hi101_4 hl101_4
                have HR101_5 := Aside0.mk hi101_5
                have HC101_5 := Aside0.mk hl101_5
                clear hi101_5 hl101_5
                replace p101 := eq_true p101
                replace q101 := eq_true q101
                have p102 : 0 ≤ (x3_1 : Int) := of_decide_eq_true (by first | (with_reducible assumption) | assumption)
                have q102 : x3_1 < (l0.length : Int) := of_decide_eq_true (by first | (with_reducible assumption) | assumption)
                obtain ⟨ad102, A102_4, c102_4, A102_5, c102_5, e102, hx102_0, hx102_1, hx102_2, hx102_3, hx102_4, hx102_5, hl102_4, hi102_4, hl102_5, hi102_5⟩ := at_T33 HR0.out x3_1 p102 q102
                obtain rfl : ad101 = ad102 := (by injection e102)
                have HR102_4 := Aside0.mk hi102_4
                have HC102_4 := Aside0.mk hl102_4
                clear hi102_4 hl102_4
                have HR102_5 := Aside0.mk hi102_5
                have HC102_5 := Aside0.mk hl102_5
                clear hi102_5 hl102_5
                replace p102 := eq_true p102
                replace q102 := eq_true q102
                have ea_ := Option.some.inj (hx101_4.symm.trans hx102_4)
                injection ea_ with ea_ en_ ec_
                subst ea_
                subst ec_
                clear en_
                have ea_ := Option.some.inj (hx101_5.symm.trans hx102_5)
                injection ea_ with ea_ en_ ec_
                subst ea_
                subst ec_
                clear en_
                go_wp2
                go_roundg k1
                case measure => have := HK1.out; omega
                case rel => exact ⟨(wrap64 (x3_1 + 1)), (by first | rfl | (simp; done) | (simp [*]; done)), H', ⟨by have := HK1.out; omega⟩, by repeat (first | exact Drawn0.refl _ | apply Drawn0.step)⟩
          · rw [if_neg c4] at H
            exact absurd H (by simp)
        · rw [if_neg c3] at H
          have c3b0 : decide (x3_1 < (l0.length : Int)) = false := decide_eq_false c3
          clear c3
          obtain rfl := Option.some.inj H
          go_wp2
          go_ret
          exact ⟨by first | rfl | (simp; done) | (simp [*]; done), by repeat (first | exact Drawn0.refl _ | apply Drawn0.step)⟩

-- NOT PRINTED: function 22 (script_need)

/-! ### script_Act_bare: function 23 -/
mutual
def script_Act_bare.j0 : Nat → Bool → Int → Int → Int → Int → List Int → List Int → Option (Bool)
  | 0, _, _, _, _, _, _, _ => none
  | k + 1, x3, x104000, x104001, x104002, x104003, x104004, x104005 => if (x104004.length : Int) = 0 then (script_Act_bare.j1 k x3 (x104003 == 0) ((x104005.length : Int) == 0) x104000 x104001 x104002 x104003 x104004 x104005) else (script_Act_bare.j1 k x3 (x104003 == 0) false x104000 x104001 x104002 x104003 x104004 x104005)
def script_Act_bare.j1 : Nat → Bool → Bool → Bool → Int → Int → Int → Int → List Int → List Int → Option (Bool)
  | 0, _, _, _, _, _, _, _, _, _ => none
  | k + 1, x3, x4, x5, x104000, x104001, x104002, x104003, x104004, x104005 => if x104000 = 1 then (if x4 = true then (some x5) else (some false)) else (if x104000 = 2 then (if x3 = true then (some x4) else (some false)) else (if x104000 = 3 then (if x3 = true then (some x5) else (some false)) else (if x104000 = 4 then (if x3 = true then (some x5) else (some false)) else (if x104000 = 7 then (if x3 = true then (some x5) else (some false)) else (if x3 = true then (if x4 = true then (some x5) else (some false)) else (some false))))))
end
def script_Act_bare.f (k : Nat) (a0_0 : Int) (a0_1 : Int) (a0_2 : Int) (a0_3 : Int) (l0_4 : List Int) (l0_5 : List Int) : Option (Bool) := if a0_1 = 0 then (script_Act_bare.j0 k (a0_2 == 0) a0_0 a0_1 a0_2 a0_3 l0_4 l0_5) else (script_Act_bare.j0 k false a0_0 a0_1 a0_2 a0_3 l0_4 l0_5)
theorem script_Act_bare.mono_l : ∀ k, (∀ y0 y1 y2 y3 y4 y5 y6, LeO (script_Act_bare.j0 k y0 y1 y2 y3 y4 y5 y6) (script_Act_bare.j0 (k + 1) y0 y1 y2 y3 y4 y5 y6)) ∧ (∀ y0 y1 y2 y3 y4 y5 y6 y7 y8, LeO (script_Act_bare.j1 k y0 y1 y2 y3 y4 y5 y6 y7 y8) (script_Act_bare.j1 (k + 1) y0 y1 y2 y3 y4 y5 y6 y7 y8))
  | 0 => ⟨fun _ _ _ _ _ _ _ r h => by simp [script_Act_bare.j0] at h, fun _ _ _ _ _ _ _ _ _ r h => by simp [script_Act_bare.j1] at h⟩
  | k + 1 => by
    obtain ⟨ih0, ih1⟩ := script_Act_bare.mono_l k
    refine ⟨?_, ?_⟩
    · intro y0 y1 y2 y3 y4 y5 y6
      unfold script_Act_bare.j0
      repeat' first
      | (with_reducible exact ih0 _ _ _ _ _ _ _)
      | (with_reducible exact ih1 _ _ _ _ _ _ _ _ _)
      | (with_reducible exact LeO.refl _)
      | (with_reducible exact LeO.none _)
      | (with_reducible refine LeO.ite ?_ ?_)
      | (with_reducible refine LeO.bind ?_ (fun _ => ?_))
      | exact ih0 _ _ _ _ _ _ _
      | exact ih1 _ _ _ _ _ _ _ _ _
      | exact LeO.none _
      | refine LeO.ite ?_ ?_
      | refine LeO.bind ?_ (fun _ => ?_)
    · intro y0 y1 y2 y3 y4 y5 y6 y7 y8
      unfold script_Act_bare.j1
      repeat' first
      | (with_reducible exact ih0 _ _ _ _ _ _ _)
      | (with_reducible exact ih1 _ _ _ _ _ _ _ _ _)
      | (with_reducible exact LeO.refl _)
      | (with_reducible exact LeO.none _)
      | (with_reducible refine LeO.ite ?_ ?_)
      | (with_reducible refine LeO.bind ?_ (fun _ => ?_))
      | exact ih0 _ _ _ _ _ _ _
      | exact ih1 _ _ _ _ _ _ _ _ _
      | exact LeO.none _
      | refine LeO.ite ?_ ?_
      | refine LeO.bind ?_ (fun _ => ?_)
theorem script_Act_bare.mono : ∀ a0 a1 a2 a3 a4 a5 k, LeO (script_Act_bare.f k a0 a1 a2 a3 a4 a5) (script_Act_bare.f (k + 1) a0 a1 a2 a3 a4 a5) := by
  intro a0 a1 a2 a3 a4 a5 k
  obtain ⟨ih0, ih1⟩ := script_Act_bare.mono_l k
  unfold script_Act_bare.f
  repeat' first
      | (with_reducible exact ih0 _ _ _ _ _ _ _)
      | (with_reducible exact ih1 _ _ _ _ _ _ _ _ _)
      | (with_reducible exact LeO.refl _)
      | (with_reducible exact LeO.none _)
      | (with_reducible refine LeO.ite ?_ ?_)
      | (with_reducible refine LeO.bind ?_ (fun _ => ?_))
      | exact ih0 _ _ _ _ _ _ _
      | exact ih1 _ _ _ _ _ _ _ _ _
      | exact LeO.none _
      | refine LeO.ite ?_ ?_
      | refine LeO.bind ?_ (fun _ => ?_)
set_option maxHeartbeats 8000000 in
set_option maxRecDepth 100000 in
theorem script_Act_bare.calls (k : Nat) (a0_0 : Int) (a0_1 : Int) (a0_2 : Int) (a0_3 : Int) (A0_4 : Option Addr) (c0_4 : Nat) (l0_4 : List Int) (A0_5 : Option Addr) (c0_5 : Nat) (l0_5 : List Int) (r : Bool) (w : World) (hr0_4 : Kd.C (Kd.int .u8) w A0_4 l0_4.length l0_4) (hc0_4 : l0_4.length ≤ c0_4) (hr0_5 : Kd.C (Kd.int .i64) w A0_5 l0_5.length l0_5) (hc0_5 : l0_5.length ≤ c0_5) (h : script_Act_bare.f k a0_0 a0_1 a0_2 a0_3 l0_4 l0_5 = some r) :
    Calls Try.prog 23 #[.agg #[.int .i64 a0_0, .int .i64 a0_1, .int .i64 a0_2, .int .i64 a0_3, .slice A0_4 l0_4.length c0_4, .slice A0_5 l0_5.length c0_5]] w fun e w' => e = .returned (.bool r) ∧ Below w.heap.size w w' := by
  have hu47 := Try.underlying47
  have HR0_4 := Aside0.mk hr0_4
  have HC0_4 := Aside0.mk hc0_4
  clear hr0_4 hc0_4
  have HR0_5 := Aside0.mk hr0_5
  have HC0_5 := Aside0.mk hc0_5
  clear hr0_5 hc0_5
  have HB := Aside0.mk (Below.refl w.heap.size w)
  have H : (if a0_1 = 0 then (script_Act_bare.j0 k (a0_2 == 0) a0_0 a0_1 a0_2 a0_3 l0_4 l0_5) else (script_Act_bare.j0 k false a0_0 a0_1 a0_2 a0_3 l0_4 l0_5)) = some r := h
  clear h
  have HC2 := Aside0.mk H
  clear H
  go_enter Try.func23, Try.ntmps23
  go_upto_region 1 with (first | ((with_reducible refine gate_dst (N := 1) rfl ?_); (try (refine gate_guard (by rfl) ?_; dsimp only)); refine box_event ?hg (N := 1) ?hd (cs := #[.int .i64 a0_0, .int .i64 a0_1, .int .i64 a0_2, .int .i64 a0_3, .slice A0_4 l0_4.length c0_4, .slice A0_5 l0_5.length c0_5]) (t := 47) ?hr ?_; (case hd => rfl); (case hg => rfl); (case hr => first | (go_simp; done) | (go_simp; rfl)); intro gb103 hg w3 hbox hb; have n0_ := Aside0.mk (below_step (by repeat (first | (with_reducible first | exact HB.out | apply below_alloc | apply pw_below_drewN | apply below_drew1) | exact HB.out)) hb); have n1_ := Aside0.mk (hbox); have n2_ := Aside0.mk ((by rw [hg]; exact (below_size (by repeat (first | (with_reducible first | exact HB.out | apply below_alloc | apply pw_below_drewN | apply below_drew1) | exact HB.out))) : w.heap.size ≤ gb103)); have n3_ := Aside0.mk ((by rw [hg]; exact (below_size (by repeat (first | (with_reducible first | exact HB.out | apply below_alloc | apply pw_below_drewN | apply below_drew1) | exact HB.out))) : w.heap.size ≤ gb103)); clear HB; have HB := n0_; have BK103 := n1_; have GW103 := n2_; have GE103 := n3_; clear n0_ n1_ n2_ n3_; clear hb hbox hg))
  (try simp only [Act.put, List.setIfInBounds_toArray, List.set_cons_zero, List.set_cons_succ])
  go_cut [3] (fun v3 wc => ∃ (kq : Nat) (x3_1 : Bool), v3 = .bool x3_1 ∧ Aside0 (script_Act_bare.j0 kq x3_1 a0_0 a0_1 a0_2 a0_3 l0_4 l0_5 = some r) ∧ Aside0 (kq ≤ k) ∧ Aside0 (wc.heap[gb103]? = some (.cells #[.int .i64 a0_0, .int .i64 a0_1, .int .i64 a0_2, .int .i64 a0_3, (.slice A0_4 l0_4.length c0_4), (.slice A0_5 l0_5.length c0_5)] 47 (0, 0))) ∧ Aside0 (Below w.heap.size w wc))
  case first =>
    have H := HC2.out
    clear HC2
    by_cases c4 : a0_1 = 0
    · rw [if_pos c4] at H
      have c4b0 : (a0_1 == 0) = true := beq_iff_eq.mpr c4
      have c4b1 : (a0_1 != 0) = false := bne_eq_false_iff_eq.mpr c4
      clear c4
      (first | rw [c4b0] | (simp only [i64_w, i32_w]; rw [c4b0]) | skip)
      have H' := Aside0.mk H
      clear H
      have hcz5_0 : w3.cell? ⟨gb103, 0, none⟩ = some (.int .i64 a0_0) := (blk_cell BK103.out 0).trans rfl
      have hcz5_1 : w3.cell? ⟨gb103, 1, none⟩ = some (.int .i64 a0_1) := (blk_cell BK103.out 1).trans rfl
      have hcz5_2 : w3.cell? ⟨gb103, 2, none⟩ = some (.int .i64 a0_2) := (blk_cell BK103.out 2).trans rfl
      have hcz5_3 : w3.cell? ⟨gb103, 3, none⟩ = some (.int .i64 a0_3) := (blk_cell BK103.out 3).trans rfl
      have hcz5_4 : w3.cell? ⟨gb103, 4, none⟩ = some (.slice A0_4 l0_4.length c0_4) := (blk_cell BK103.out 4).trans rfl
      have hcz5_5 : w3.cell? ⟨gb103, 5, none⟩ = some (.slice A0_5 l0_5.length c0_5) := (blk_cell BK103.out 5).trans rfl
      have hfz5_0 := blk_frozen BK103.out 0
      have hfz5_1 := blk_frozen BK103.out 1
      have hfz5_2 := blk_frozen BK103.out 2
      have hfz5_3 := blk_frozen BK103.out 3
      have hfz5_4 := blk_frozen BK103.out 4
      have hfz5_5 := blk_frozen BK103.out 5
      go_wp2
      go_meet
      case rel => exact ⟨_, ((a0_2 == 0)), (by first | rfl | (simp; done) | (simp [*]; done)), H', ⟨by first | omega | exact Nat.le_refl _⟩, ⟨by (with_reducible repeat (first | refine blk_drewN ?_ _ | refine blk_drew ?_ | refine blk_alloc ?_ _)); exact BK103.out⟩, ⟨by repeat (first | (with_reducible first | exact HB.out | apply below_alloc | apply pw_below_drewN | apply below_drew1 | refine below_set ?_ GE103.out) | exact HB.out)⟩⟩
    · rw [if_neg c4] at H
      have c4b0 : (a0_1 == 0) = false := beq_eq_false_iff_ne.mpr c4
      have c4b1 : (a0_1 != 0) = true := bne_iff_ne.mpr c4
      (first | rw [c4b0] | (simp only [i64_w, i32_w]; rw [c4b0]) | skip)
      have H' := Aside0.mk H
      clear H
      have hcz6_0 : w3.cell? ⟨gb103, 0, none⟩ = some (.int .i64 a0_0) := (blk_cell BK103.out 0).trans rfl
      have hcz6_1 : w3.cell? ⟨gb103, 1, none⟩ = some (.int .i64 a0_1) := (blk_cell BK103.out 1).trans rfl
      have hcz6_2 : w3.cell? ⟨gb103, 2, none⟩ = some (.int .i64 a0_2) := (blk_cell BK103.out 2).trans rfl
      have hcz6_3 : w3.cell? ⟨gb103, 3, none⟩ = some (.int .i64 a0_3) := (blk_cell BK103.out 3).trans rfl
      have hcz6_4 : w3.cell? ⟨gb103, 4, none⟩ = some (.slice A0_4 l0_4.length c0_4) := (blk_cell BK103.out 4).trans rfl
      have hcz6_5 : w3.cell? ⟨gb103, 5, none⟩ = some (.slice A0_5 l0_5.length c0_5) := (blk_cell BK103.out 5).trans rfl
      have hfz6_0 := blk_frozen BK103.out 0
      have hfz6_1 := blk_frozen BK103.out 1
      have hfz6_2 := blk_frozen BK103.out 2
      have hfz6_3 := blk_frozen BK103.out 3
      have hfz6_4 := blk_frozen BK103.out 4
      have hfz6_5 := blk_frozen BK103.out 5
      go_wp2
      go_meet
      case rel => exact ⟨_, (false), (by first | rfl | (simp; done) | (simp [*]; done)), H', ⟨by first | omega | exact Nat.le_refl _⟩, ⟨by (with_reducible repeat (first | refine blk_drewN ?_ _ | refine blk_drew ?_ | refine blk_alloc ?_ _)); exact BK103.out⟩, ⟨by repeat (first | (with_reducible first | exact HB.out | apply below_alloc | apply pw_below_drewN | apply below_drew1 | refine below_set ?_ GE103.out) | exact HB.out)⟩⟩
  case rest =>
    clear HC2
    try clear c2
    try clear p2
    try clear c4
    try clear c4b0
    try clear c4b1
    try clear hcz5_0
    try clear hcz5_1
    try clear hcz5_2
    try clear hcz5_3
    try clear hcz5_4
    try clear hcz5_5
    try clear hcz6_0
    try clear hcz6_1
    try clear hcz6_2
    try clear hcz6_3
    try clear hcz6_4
    try clear hcz6_5
    try clear hfz5_0
    try clear hfz5_1
    try clear hfz5_2
    try clear hfz5_3
    try clear hfz5_4
    try clear hfz5_5
    try clear hfz6_0
    try clear hfz6_1
    try clear hfz6_2
    try clear hfz6_3
    try clear hfz6_4
    try clear hfz6_5
    obtain ⟨kq, x3_1, rfl, HA, HJ1, BK103, HB⟩ := hcut
    cases kq with
    | zero => exact absurd HA.out (by simp [script_Act_bare.j0])
    | succ kj1 =>
      have H := HA.out
      clear HA
      simp only [script_Act_bare.j0] at H
      have HC7 := Aside0.mk H
      clear H
      have hcz8_0 : wc.cell? ⟨gb103, 0, none⟩ = some (.int .i64 a0_0) := (blk_cell BK103.out 0).trans rfl
      have hcz8_1 : wc.cell? ⟨gb103, 1, none⟩ = some (.int .i64 a0_1) := (blk_cell BK103.out 1).trans rfl
      have hcz8_2 : wc.cell? ⟨gb103, 2, none⟩ = some (.int .i64 a0_2) := (blk_cell BK103.out 2).trans rfl
      have hcz8_3 : wc.cell? ⟨gb103, 3, none⟩ = some (.int .i64 a0_3) := (blk_cell BK103.out 3).trans rfl
      have hcz8_4 : wc.cell? ⟨gb103, 4, none⟩ = some (.slice A0_4 l0_4.length c0_4) := (blk_cell BK103.out 4).trans rfl
      have hcz8_5 : wc.cell? ⟨gb103, 5, none⟩ = some (.slice A0_5 l0_5.length c0_5) := (blk_cell BK103.out 5).trans rfl
      have hfz8_0 := blk_frozen BK103.out 0
      have hfz8_1 := blk_frozen BK103.out 1
      have hfz8_2 := blk_frozen BK103.out 2
      have hfz8_3 := blk_frozen BK103.out 3
      have hfz8_4 := blk_frozen BK103.out 4
      have hfz8_5 := blk_frozen BK103.out 5
      go_upto_region 3 with (fail)
      go_cut [5] (fun v5 wc => ∃ (kq : Nat) (x5_6 : Bool), v5 = .bool x5_6 ∧ Aside0 (script_Act_bare.j1 kq x3_1 (a0_3 == 0) x5_6 a0_0 a0_1 a0_2 a0_3 l0_4 l0_5 = some r) ∧ Aside0 (kq ≤ kj1) ∧ Aside0 (wc.heap[gb103]? = some (.cells #[.int .i64 a0_0, .int .i64 a0_1, .int .i64 a0_2, .int .i64 a0_3, (.slice A0_4 l0_4.length c0_4), (.slice A0_5 l0_5.length c0_5)] 47 (0, 0))) ∧ Aside0 (Below w.heap.size w wc))
      case first =>
        have H := HC7.out
        clear HC7
        by_cases c9 : (l0_4.length : Int) = 0
        · rw [if_pos c9] at H
          have c9b0 : ((l0_4.length : Int) == 0) = true := beq_iff_eq.mpr c9
          have c9b1 : ((l0_4.length : Int) != 0) = false := bne_eq_false_iff_eq.mpr c9
          clear c9
          (first | rw [c9b0] | (simp only [i64_w, i32_w]; rw [c9b0]) | skip)
          have H' := Aside0.mk H
          clear H
          have hcz10_0 : wc.cell? ⟨gb103, 0, none⟩ = some (.int .i64 a0_0) := (blk_cell BK103.out 0).trans rfl
          have hcz10_1 : wc.cell? ⟨gb103, 1, none⟩ = some (.int .i64 a0_1) := (blk_cell BK103.out 1).trans rfl
          have hcz10_2 : wc.cell? ⟨gb103, 2, none⟩ = some (.int .i64 a0_2) := (blk_cell BK103.out 2).trans rfl
          have hcz10_3 : wc.cell? ⟨gb103, 3, none⟩ = some (.int .i64 a0_3) := (blk_cell BK103.out 3).trans rfl
          have hcz10_4 : wc.cell? ⟨gb103, 4, none⟩ = some (.slice A0_4 l0_4.length c0_4) := (blk_cell BK103.out 4).trans rfl
          have hcz10_5 : wc.cell? ⟨gb103, 5, none⟩ = some (.slice A0_5 l0_5.length c0_5) := (blk_cell BK103.out 5).trans rfl
          have hfz10_0 := blk_frozen BK103.out 0
          have hfz10_1 := blk_frozen BK103.out 1
          have hfz10_2 := blk_frozen BK103.out 2
          have hfz10_3 := blk_frozen BK103.out 3
          have hfz10_4 := blk_frozen BK103.out 4
          have hfz10_5 := blk_frozen BK103.out 5
          go_wp2
          go_meet
          case rel => exact ⟨_, (((l0_5.length : Int) == 0)), (by first | rfl | (simp; done) | (simp [*]; done)), H', ⟨by have := HJ1.out; first | omega | exact Nat.le_refl _⟩, ⟨by (with_reducible repeat (first | refine blk_drewN ?_ _ | refine blk_drew ?_ | refine blk_alloc ?_ _)); exact BK103.out⟩, ⟨by repeat (first | (with_reducible first | exact HB.out | apply below_alloc | apply pw_below_drewN | apply below_drew1 | refine below_set ?_ GE103.out) | exact HB.out)⟩⟩
        · rw [if_neg c9] at H
          have c9b0 : ((l0_4.length : Int) == 0) = false := beq_eq_false_iff_ne.mpr c9
          have c9b1 : ((l0_4.length : Int) != 0) = true := bne_iff_ne.mpr c9
          have c9b2 : ¬ (l0_4 = []) := fun h_ => c9 (by rw [h_]; rfl)
          (first | rw [c9b0] | (simp only [i64_w, i32_w]; rw [c9b0]) | skip)
          have H' := Aside0.mk H
          clear H
          have hcz11_0 : wc.cell? ⟨gb103, 0, none⟩ = some (.int .i64 a0_0) := (blk_cell BK103.out 0).trans rfl
          have hcz11_1 : wc.cell? ⟨gb103, 1, none⟩ = some (.int .i64 a0_1) := (blk_cell BK103.out 1).trans rfl
          have hcz11_2 : wc.cell? ⟨gb103, 2, none⟩ = some (.int .i64 a0_2) := (blk_cell BK103.out 2).trans rfl
          have hcz11_3 : wc.cell? ⟨gb103, 3, none⟩ = some (.int .i64 a0_3) := (blk_cell BK103.out 3).trans rfl
          have hcz11_4 : wc.cell? ⟨gb103, 4, none⟩ = some (.slice A0_4 l0_4.length c0_4) := (blk_cell BK103.out 4).trans rfl
          have hcz11_5 : wc.cell? ⟨gb103, 5, none⟩ = some (.slice A0_5 l0_5.length c0_5) := (blk_cell BK103.out 5).trans rfl
          have hfz11_0 := blk_frozen BK103.out 0
          have hfz11_1 := blk_frozen BK103.out 1
          have hfz11_2 := blk_frozen BK103.out 2
          have hfz11_3 := blk_frozen BK103.out 3
          have hfz11_4 := blk_frozen BK103.out 4
          have hfz11_5 := blk_frozen BK103.out 5
          go_wp2
          go_meet
          case rel => exact ⟨_, (false), (by first | rfl | (simp; done) | (simp [*]; done)), H', ⟨by have := HJ1.out; first | omega | exact Nat.le_refl _⟩, ⟨by (with_reducible repeat (first | refine blk_drewN ?_ _ | refine blk_drew ?_ | refine blk_alloc ?_ _)); exact BK103.out⟩, ⟨by repeat (first | (with_reducible first | exact HB.out | apply below_alloc | apply pw_below_drewN | apply below_drew1 | refine below_set ?_ GE103.out) | exact HB.out)⟩⟩
      case rest =>
        clear HC7
        try clear c2
        try clear p2
        try clear c4
        try clear c4b0
        try clear c4b1
        try clear c9
        try clear c9b0
        try clear c9b1
        try clear c9b2
        try clear hcz10_0
        try clear hcz10_1
        try clear hcz10_2
        try clear hcz10_3
        try clear hcz10_4
        try clear hcz10_5
        try clear hcz11_0
        try clear hcz11_1
        try clear hcz11_2
        try clear hcz11_3
        try clear hcz11_4
        try clear hcz11_5
        try clear hcz5_0
        try clear hcz5_1
        try clear hcz5_2
        try clear hcz5_3
        try clear hcz5_4
        try clear hcz5_5
        try clear hcz6_0
        try clear hcz6_1
        try clear hcz6_2
        try clear hcz6_3
        try clear hcz6_4
        try clear hcz6_5
        try clear hcz8_0
        try clear hcz8_1
        try clear hcz8_2
        try clear hcz8_3
        try clear hcz8_4
        try clear hcz8_5
        try clear hfz10_0
        try clear hfz10_1
        try clear hfz10_2
        try clear hfz10_3
        try clear hfz10_4
        try clear hfz10_5
        try clear hfz11_0
        try clear hfz11_1
        try clear hfz11_2
        try clear hfz11_3
        try clear hfz11_4
        try clear hfz11_5
        try clear hfz5_0
        try clear hfz5_1
        try clear hfz5_2
        try clear hfz5_3
        try clear hfz5_4
        try clear hfz5_5
        try clear hfz6_0
        try clear hfz6_1
        try clear hfz6_2
        try clear hfz6_3
        try clear hfz6_4
        try clear hfz6_5
        try clear hfz8_0
        try clear hfz8_1
        try clear hfz8_2
        try clear hfz8_3
        try clear hfz8_4
        try clear hfz8_5
        try clear p2
        obtain ⟨kq, x5_6, rfl, HA, HJ6, BK103, HB⟩ := hcut
        cases kq with
        | zero => exact absurd HA.out (by simp [script_Act_bare.j1])
        | succ kj6 =>
          have H := HA.out
          clear HA
          simp only [script_Act_bare.j1] at H
          by_cases c12 : a0_0 = 1
          · rw [if_pos c12] at H
            have c12b0 : (a0_0 == 1) = true := beq_iff_eq.mpr c12
            have c12b1 : (a0_0 != 1) = false := bne_eq_false_iff_eq.mpr c12
            clear c12
            by_cases c13 : (a0_3 == 0) = true
            · rw [if_pos c13] at H
              have c13b0 : (a0_3 == 0) = true := c13
              (try (have c13b1 : decide (a0_3 = 0) = true := by simpa using c13))
              (try (have c13b2 : (a0_3 == 0) = true := by simpa using c13))
              clear c13
              obtain rfl := Option.some.inj H
              have hcz14_0 : wc.cell? ⟨gb103, 0, none⟩ = some (.int .i64 a0_0) := (blk_cell BK103.out 0).trans rfl
              have hcz14_1 : wc.cell? ⟨gb103, 1, none⟩ = some (.int .i64 a0_1) := (blk_cell BK103.out 1).trans rfl
              have hcz14_2 : wc.cell? ⟨gb103, 2, none⟩ = some (.int .i64 a0_2) := (blk_cell BK103.out 2).trans rfl
              have hcz14_3 : wc.cell? ⟨gb103, 3, none⟩ = some (.int .i64 a0_3) := (blk_cell BK103.out 3).trans rfl
              have hcz14_4 : wc.cell? ⟨gb103, 4, none⟩ = some (.slice A0_4 l0_4.length c0_4) := (blk_cell BK103.out 4).trans rfl
              have hcz14_5 : wc.cell? ⟨gb103, 5, none⟩ = some (.slice A0_5 l0_5.length c0_5) := (blk_cell BK103.out 5).trans rfl
              have hfz14_0 := blk_frozen BK103.out 0
              have hfz14_1 := blk_frozen BK103.out 1
              have hfz14_2 := blk_frozen BK103.out 2
              have hfz14_3 := blk_frozen BK103.out 3
              have hfz14_4 := blk_frozen BK103.out 4
              have hfz14_5 := blk_frozen BK103.out 5
              go_wp2
              go_ret
              exact ⟨by first | rfl | (simp [errW_none, errW_some] <;> rfl) | (simp [*, errW_none, errW_some] <;> rfl), by repeat (first | (with_reducible first | exact HB.out | apply below_alloc | apply pw_below_drewN | apply below_drew1 | refine below_set ?_ GE103.out) | exact HB.out)⟩
            · rw [if_neg c13] at H
              have c13b0 : (a0_3 == 0) = false := by simpa using c13
              (try (have c13b1 : decide (a0_3 = 0) = false := by simpa using c13))
              (try (have c13b2 : (a0_3 == 0) = false := by simpa using c13))
              (try (have c13b3 : ¬ (a0_3 = 0) := by simpa using c13))
              clear c13
              obtain rfl := Option.some.inj H
              have hcz15_0 : wc.cell? ⟨gb103, 0, none⟩ = some (.int .i64 a0_0) := (blk_cell BK103.out 0).trans rfl
              have hcz15_1 : wc.cell? ⟨gb103, 1, none⟩ = some (.int .i64 a0_1) := (blk_cell BK103.out 1).trans rfl
              have hcz15_2 : wc.cell? ⟨gb103, 2, none⟩ = some (.int .i64 a0_2) := (blk_cell BK103.out 2).trans rfl
              have hcz15_3 : wc.cell? ⟨gb103, 3, none⟩ = some (.int .i64 a0_3) := (blk_cell BK103.out 3).trans rfl
              have hcz15_4 : wc.cell? ⟨gb103, 4, none⟩ = some (.slice A0_4 l0_4.length c0_4) := (blk_cell BK103.out 4).trans rfl
              have hcz15_5 : wc.cell? ⟨gb103, 5, none⟩ = some (.slice A0_5 l0_5.length c0_5) := (blk_cell BK103.out 5).trans rfl
              have hfz15_0 := blk_frozen BK103.out 0
              have hfz15_1 := blk_frozen BK103.out 1
              have hfz15_2 := blk_frozen BK103.out 2
              have hfz15_3 := blk_frozen BK103.out 3
              have hfz15_4 := blk_frozen BK103.out 4
              have hfz15_5 := blk_frozen BK103.out 5
              go_wp2
              go_ret
              exact ⟨by first | rfl | (simp [errW_none, errW_some] <;> rfl) | (simp [*, errW_none, errW_some] <;> rfl), by repeat (first | (with_reducible first | exact HB.out | apply below_alloc | apply pw_below_drewN | apply below_drew1 | refine below_set ?_ GE103.out) | exact HB.out)⟩
          · rw [if_neg c12] at H
            have c12b0 : (a0_0 == 1) = false := beq_eq_false_iff_ne.mpr c12
            have c12b1 : (a0_0 != 1) = true := bne_iff_ne.mpr c12
            by_cases c16 : a0_0 = 2
            · rw [if_pos c16] at H
              have c16b0 : (a0_0 == 2) = true := beq_iff_eq.mpr c16
              have c16b1 : (a0_0 != 2) = false := bne_eq_false_iff_eq.mpr c16
              clear c16
              by_cases c17 : x3_1 = true
              · subst c17
                have H1 : (some (a0_3 == 0)) = some r := by rw [if_pos rfl] at H; exact H
                clear H
                have H := H1
                clear H1
                obtain rfl := Option.some.inj H
                have hcz18_0 : wc.cell? ⟨gb103, 0, none⟩ = some (.int .i64 a0_0) := (blk_cell BK103.out 0).trans rfl
                have hcz18_1 : wc.cell? ⟨gb103, 1, none⟩ = some (.int .i64 a0_1) := (blk_cell BK103.out 1).trans rfl
                have hcz18_2 : wc.cell? ⟨gb103, 2, none⟩ = some (.int .i64 a0_2) := (blk_cell BK103.out 2).trans rfl
                have hcz18_3 : wc.cell? ⟨gb103, 3, none⟩ = some (.int .i64 a0_3) := (blk_cell BK103.out 3).trans rfl
                have hcz18_4 : wc.cell? ⟨gb103, 4, none⟩ = some (.slice A0_4 l0_4.length c0_4) := (blk_cell BK103.out 4).trans rfl
                have hcz18_5 : wc.cell? ⟨gb103, 5, none⟩ = some (.slice A0_5 l0_5.length c0_5) := (blk_cell BK103.out 5).trans rfl
                have hfz18_0 := blk_frozen BK103.out 0
                have hfz18_1 := blk_frozen BK103.out 1
                have hfz18_2 := blk_frozen BK103.out 2
                have hfz18_3 := blk_frozen BK103.out 3
                have hfz18_4 := blk_frozen BK103.out 4
                have hfz18_5 := blk_frozen BK103.out 5
                go_wp2
                go_ret
                exact ⟨by first | rfl | (simp [errW_none, errW_some] <;> rfl) | (simp [*, errW_none, errW_some] <;> rfl), by repeat (first | (with_reducible first | exact HB.out | apply below_alloc | apply pw_below_drewN | apply below_drew1 | refine below_set ?_ GE103.out) | exact HB.out)⟩
              · replace c17 := Bool.eq_false_iff.mpr c17
                subst c17
                have H1 : (some false) = some r := by rw [if_neg (show ¬ (false = true) by decide)] at H; exact H
                clear H
                have H := H1
                clear H1
                obtain rfl := Option.some.inj H
                have hcz19_0 : wc.cell? ⟨gb103, 0, none⟩ = some (.int .i64 a0_0) := (blk_cell BK103.out 0).trans rfl
                have hcz19_1 : wc.cell? ⟨gb103, 1, none⟩ = some (.int .i64 a0_1) := (blk_cell BK103.out 1).trans rfl
                have hcz19_2 : wc.cell? ⟨gb103, 2, none⟩ = some (.int .i64 a0_2) := (blk_cell BK103.out 2).trans rfl
                have hcz19_3 : wc.cell? ⟨gb103, 3, none⟩ = some (.int .i64 a0_3) := (blk_cell BK103.out 3).trans rfl
                have hcz19_4 : wc.cell? ⟨gb103, 4, none⟩ = some (.slice A0_4 l0_4.length c0_4) := (blk_cell BK103.out 4).trans rfl
                have hcz19_5 : wc.cell? ⟨gb103, 5, none⟩ = some (.slice A0_5 l0_5.length c0_5) := (blk_cell BK103.out 5).trans rfl
                have hfz19_0 := blk_frozen BK103.out 0
                have hfz19_1 := blk_frozen BK103.out 1
                have hfz19_2 := blk_frozen BK103.out 2
                have hfz19_3 := blk_frozen BK103.out 3
                have hfz19_4 := blk_frozen BK103.out 4
                have hfz19_5 := blk_frozen BK103.out 5
                go_wp2
                go_ret
                exact ⟨by first | rfl | (simp [errW_none, errW_some] <;> rfl) | (simp [*, errW_none, errW_some] <;> rfl), by repeat (first | (with_reducible first | exact HB.out | apply below_alloc | apply pw_below_drewN | apply below_drew1 | refine below_set ?_ GE103.out) | exact HB.out)⟩
            · rw [if_neg c16] at H
              have c16b0 : (a0_0 == 2) = false := beq_eq_false_iff_ne.mpr c16
              have c16b1 : (a0_0 != 2) = true := bne_iff_ne.mpr c16
              by_cases c20 : a0_0 = 3
              · rw [if_pos c20] at H
                have c20b0 : (a0_0 == 3) = true := beq_iff_eq.mpr c20
                have c20b1 : (a0_0 != 3) = false := bne_eq_false_iff_eq.mpr c20
                clear c20
                by_cases c21 : x3_1 = true
                · subst c21
                  have H1 : (some x5_6) = some r := by rw [if_pos rfl] at H; exact H
                  clear H
                  have H := H1
                  clear H1
                  obtain rfl := Option.some.inj H
                  have hcz22_0 : wc.cell? ⟨gb103, 0, none⟩ = some (.int .i64 a0_0) := (blk_cell BK103.out 0).trans rfl
                  have hcz22_1 : wc.cell? ⟨gb103, 1, none⟩ = some (.int .i64 a0_1) := (blk_cell BK103.out 1).trans rfl
                  have hcz22_2 : wc.cell? ⟨gb103, 2, none⟩ = some (.int .i64 a0_2) := (blk_cell BK103.out 2).trans rfl
                  have hcz22_3 : wc.cell? ⟨gb103, 3, none⟩ = some (.int .i64 a0_3) := (blk_cell BK103.out 3).trans rfl
                  have hcz22_4 : wc.cell? ⟨gb103, 4, none⟩ = some (.slice A0_4 l0_4.length c0_4) := (blk_cell BK103.out 4).trans rfl
                  have hcz22_5 : wc.cell? ⟨gb103, 5, none⟩ = some (.slice A0_5 l0_5.length c0_5) := (blk_cell BK103.out 5).trans rfl
                  have hfz22_0 := blk_frozen BK103.out 0
                  have hfz22_1 := blk_frozen BK103.out 1
                  have hfz22_2 := blk_frozen BK103.out 2
                  have hfz22_3 := blk_frozen BK103.out 3
                  have hfz22_4 := blk_frozen BK103.out 4
                  have hfz22_5 := blk_frozen BK103.out 5
                  go_wp2
                  go_ret
                  exact ⟨by first | rfl | (simp [errW_none, errW_some] <;> rfl) | (simp [*, errW_none, errW_some] <;> rfl), by repeat (first | (with_reducible first | exact HB.out | apply below_alloc | apply pw_below_drewN | apply below_drew1 | refine below_set ?_ GE103.out) | exact HB.out)⟩
                · replace c21 := Bool.eq_false_iff.mpr c21
                  subst c21
                  have H1 : (some false) = some r := by rw [if_neg (show ¬ (false = true) by decide)] at H; exact H
                  clear H
                  have H := H1
                  clear H1
                  obtain rfl := Option.some.inj H
                  have hcz23_0 : wc.cell? ⟨gb103, 0, none⟩ = some (.int .i64 a0_0) := (blk_cell BK103.out 0).trans rfl
                  have hcz23_1 : wc.cell? ⟨gb103, 1, none⟩ = some (.int .i64 a0_1) := (blk_cell BK103.out 1).trans rfl
                  have hcz23_2 : wc.cell? ⟨gb103, 2, none⟩ = some (.int .i64 a0_2) := (blk_cell BK103.out 2).trans rfl
                  have hcz23_3 : wc.cell? ⟨gb103, 3, none⟩ = some (.int .i64 a0_3) := (blk_cell BK103.out 3).trans rfl
                  have hcz23_4 : wc.cell? ⟨gb103, 4, none⟩ = some (.slice A0_4 l0_4.length c0_4) := (blk_cell BK103.out 4).trans rfl
                  have hcz23_5 : wc.cell? ⟨gb103, 5, none⟩ = some (.slice A0_5 l0_5.length c0_5) := (blk_cell BK103.out 5).trans rfl
                  have hfz23_0 := blk_frozen BK103.out 0
                  have hfz23_1 := blk_frozen BK103.out 1
                  have hfz23_2 := blk_frozen BK103.out 2
                  have hfz23_3 := blk_frozen BK103.out 3
                  have hfz23_4 := blk_frozen BK103.out 4
                  have hfz23_5 := blk_frozen BK103.out 5
                  go_wp2
                  go_ret
                  exact ⟨by first | rfl | (simp [errW_none, errW_some] <;> rfl) | (simp [*, errW_none, errW_some] <;> rfl), by repeat (first | (with_reducible first | exact HB.out | apply below_alloc | apply pw_below_drewN | apply below_drew1 | refine below_set ?_ GE103.out) | exact HB.out)⟩
              · rw [if_neg c20] at H
                have c20b0 : (a0_0 == 3) = false := beq_eq_false_iff_ne.mpr c20
                have c20b1 : (a0_0 != 3) = true := bne_iff_ne.mpr c20
                by_cases c24 : a0_0 = 4
                · rw [if_pos c24] at H
                  have c24b0 : (a0_0 == 4) = true := beq_iff_eq.mpr c24
                  have c24b1 : (a0_0 != 4) = false := bne_eq_false_iff_eq.mpr c24
                  clear c24
                  by_cases c25 : x3_1 = true
                  · subst c25
                    have H1 : (some x5_6) = some r := by rw [if_pos rfl] at H; exact H
                    clear H
                    have H := H1
                    clear H1
                    obtain rfl := Option.some.inj H
                    have hcz26_0 : wc.cell? ⟨gb103, 0, none⟩ = some (.int .i64 a0_0) := (blk_cell BK103.out 0).trans rfl
                    have hcz26_1 : wc.cell? ⟨gb103, 1, none⟩ = some (.int .i64 a0_1) := (blk_cell BK103.out 1).trans rfl
                    have hcz26_2 : wc.cell? ⟨gb103, 2, none⟩ = some (.int .i64 a0_2) := (blk_cell BK103.out 2).trans rfl
                    have hcz26_3 : wc.cell? ⟨gb103, 3, none⟩ = some (.int .i64 a0_3) := (blk_cell BK103.out 3).trans rfl
                    have hcz26_4 : wc.cell? ⟨gb103, 4, none⟩ = some (.slice A0_4 l0_4.length c0_4) := (blk_cell BK103.out 4).trans rfl
                    have hcz26_5 : wc.cell? ⟨gb103, 5, none⟩ = some (.slice A0_5 l0_5.length c0_5) := (blk_cell BK103.out 5).trans rfl
                    have hfz26_0 := blk_frozen BK103.out 0
                    have hfz26_1 := blk_frozen BK103.out 1
                    have hfz26_2 := blk_frozen BK103.out 2
                    have hfz26_3 := blk_frozen BK103.out 3
                    have hfz26_4 := blk_frozen BK103.out 4
                    have hfz26_5 := blk_frozen BK103.out 5
                    go_wp2
                    go_ret
                    exact ⟨by first | rfl | (simp [errW_none, errW_some] <;> rfl) | (simp [*, errW_none, errW_some] <;> rfl), by repeat (first | (with_reducible first | exact HB.out | apply below_alloc | apply pw_below_drewN | apply below_drew1 | refine below_set ?_ GE103.out) | exact HB.out)⟩
                  · replace c25 := Bool.eq_false_iff.mpr c25
                    subst c25
                    have H1 : (some false) = some r := by rw [if_neg (show ¬ (false = true) by decide)] at H; exact H
                    clear H
                    have H := H1
                    clear H1
                    obtain rfl := Option.some.inj H
                    have hcz27_0 : wc.cell? ⟨gb103, 0, none⟩ = some (.int .i64 a0_0) := (blk_cell BK103.out 0).trans rfl
                    have hcz27_1 : wc.cell? ⟨gb103, 1, none⟩ = some (.int .i64 a0_1) := (blk_cell BK103.out 1).trans rfl
                    have hcz27_2 : wc.cell? ⟨gb103, 2, none⟩ = some (.int .i64 a0_2) := (blk_cell BK103.out 2).trans rfl
                    have hcz27_3 : wc.cell? ⟨gb103, 3, none⟩ = some (.int .i64 a0_3) := (blk_cell BK103.out 3).trans rfl
                    have hcz27_4 : wc.cell? ⟨gb103, 4, none⟩ = some (.slice A0_4 l0_4.length c0_4) := (blk_cell BK103.out 4).trans rfl
                    have hcz27_5 : wc.cell? ⟨gb103, 5, none⟩ = some (.slice A0_5 l0_5.length c0_5) := (blk_cell BK103.out 5).trans rfl
                    have hfz27_0 := blk_frozen BK103.out 0
                    have hfz27_1 := blk_frozen BK103.out 1
                    have hfz27_2 := blk_frozen BK103.out 2
                    have hfz27_3 := blk_frozen BK103.out 3
                    have hfz27_4 := blk_frozen BK103.out 4
                    have hfz27_5 := blk_frozen BK103.out 5
                    go_wp2
                    go_ret
                    exact ⟨by first | rfl | (simp [errW_none, errW_some] <;> rfl) | (simp [*, errW_none, errW_some] <;> rfl), by repeat (first | (with_reducible first | exact HB.out | apply below_alloc | apply pw_below_drewN | apply below_drew1 | refine below_set ?_ GE103.out) | exact HB.out)⟩
                · rw [if_neg c24] at H
                  have c24b0 : (a0_0 == 4) = false := beq_eq_false_iff_ne.mpr c24
                  have c24b1 : (a0_0 != 4) = true := bne_iff_ne.mpr c24
                  by_cases c28 : a0_0 = 7
                  · rw [if_pos c28] at H
                    have c28b0 : (a0_0 == 7) = true := beq_iff_eq.mpr c28
                    have c28b1 : (a0_0 != 7) = false := bne_eq_false_iff_eq.mpr c28
                    clear c28
                    by_cases c29 : x3_1 = true
                    · subst c29
                      have H1 : (some x5_6) = some r := by rw [if_pos rfl] at H; exact H
                      clear H
                      have H := H1
                      clear H1
                      obtain rfl := Option.some.inj H
                      have hcz30_0 : wc.cell? ⟨gb103, 0, none⟩ = some (.int .i64 a0_0) := (blk_cell BK103.out 0).trans rfl
                      have hcz30_1 : wc.cell? ⟨gb103, 1, none⟩ = some (.int .i64 a0_1) := (blk_cell BK103.out 1).trans rfl
                      have hcz30_2 : wc.cell? ⟨gb103, 2, none⟩ = some (.int .i64 a0_2) := (blk_cell BK103.out 2).trans rfl
                      have hcz30_3 : wc.cell? ⟨gb103, 3, none⟩ = some (.int .i64 a0_3) := (blk_cell BK103.out 3).trans rfl
                      have hcz30_4 : wc.cell? ⟨gb103, 4, none⟩ = some (.slice A0_4 l0_4.length c0_4) := (blk_cell BK103.out 4).trans rfl
                      have hcz30_5 : wc.cell? ⟨gb103, 5, none⟩ = some (.slice A0_5 l0_5.length c0_5) := (blk_cell BK103.out 5).trans rfl
                      have hfz30_0 := blk_frozen BK103.out 0
                      have hfz30_1 := blk_frozen BK103.out 1
                      have hfz30_2 := blk_frozen BK103.out 2
                      have hfz30_3 := blk_frozen BK103.out 3
                      have hfz30_4 := blk_frozen BK103.out 4
                      have hfz30_5 := blk_frozen BK103.out 5
                      go_wp2
                      go_ret
                      exact ⟨by first | rfl | (simp [errW_none, errW_some] <;> rfl) | (simp [*, errW_none, errW_some] <;> rfl), by repeat (first | (with_reducible first | exact HB.out | apply below_alloc | apply pw_below_drewN | apply below_drew1 | refine below_set ?_ GE103.out) | exact HB.out)⟩
                    · replace c29 := Bool.eq_false_iff.mpr c29
                      subst c29
                      have H1 : (some false) = some r := by rw [if_neg (show ¬ (false = true) by decide)] at H; exact H
                      clear H
                      have H := H1
                      clear H1
                      obtain rfl := Option.some.inj H
                      have hcz31_0 : wc.cell? ⟨gb103, 0, none⟩ = some (.int .i64 a0_0) := (blk_cell BK103.out 0).trans rfl
                      have hcz31_1 : wc.cell? ⟨gb103, 1, none⟩ = some (.int .i64 a0_1) := (blk_cell BK103.out 1).trans rfl
                      have hcz31_2 : wc.cell? ⟨gb103, 2, none⟩ = some (.int .i64 a0_2) := (blk_cell BK103.out 2).trans rfl
                      have hcz31_3 : wc.cell? ⟨gb103, 3, none⟩ = some (.int .i64 a0_3) := (blk_cell BK103.out 3).trans rfl
                      have hcz31_4 : wc.cell? ⟨gb103, 4, none⟩ = some (.slice A0_4 l0_4.length c0_4) := (blk_cell BK103.out 4).trans rfl
                      have hcz31_5 : wc.cell? ⟨gb103, 5, none⟩ = some (.slice A0_5 l0_5.length c0_5) := (blk_cell BK103.out 5).trans rfl
                      have hfz31_0 := blk_frozen BK103.out 0
                      have hfz31_1 := blk_frozen BK103.out 1
                      have hfz31_2 := blk_frozen BK103.out 2
                      have hfz31_3 := blk_frozen BK103.out 3
                      have hfz31_4 := blk_frozen BK103.out 4
                      have hfz31_5 := blk_frozen BK103.out 5
                      go_wp2
                      go_ret
                      exact ⟨by first | rfl | (simp [errW_none, errW_some] <;> rfl) | (simp [*, errW_none, errW_some] <;> rfl), by repeat (first | (with_reducible first | exact HB.out | apply below_alloc | apply pw_below_drewN | apply below_drew1 | refine below_set ?_ GE103.out) | exact HB.out)⟩
                  · rw [if_neg c28] at H
                    have c28b0 : (a0_0 == 7) = false := beq_eq_false_iff_ne.mpr c28
                    have c28b1 : (a0_0 != 7) = true := bne_iff_ne.mpr c28
                    by_cases c32 : x3_1 = true
                    · subst c32
                      have H1 : (if (a0_3 == 0) = true then (some x5_6) else (some false)) = some r := by rw [if_pos rfl] at H; exact H
                      clear H
                      have H := H1
                      clear H1
                      by_cases c33 : (a0_3 == 0) = true
                      · rw [if_pos c33] at H
                        have c33b0 : (a0_3 == 0) = true := c33
                        (try (have c33b1 : decide (a0_3 = 0) = true := by simpa using c33))
                        (try (have c33b2 : (a0_3 == 0) = true := by simpa using c33))
                        clear c33
                        obtain rfl := Option.some.inj H
                        have hcz34_0 : wc.cell? ⟨gb103, 0, none⟩ = some (.int .i64 a0_0) := (blk_cell BK103.out 0).trans rfl
                        have hcz34_1 : wc.cell? ⟨gb103, 1, none⟩ = some (.int .i64 a0_1) := (blk_cell BK103.out 1).trans rfl
                        have hcz34_2 : wc.cell? ⟨gb103, 2, none⟩ = some (.int .i64 a0_2) := (blk_cell BK103.out 2).trans rfl
                        have hcz34_3 : wc.cell? ⟨gb103, 3, none⟩ = some (.int .i64 a0_3) := (blk_cell BK103.out 3).trans rfl
                        have hcz34_4 : wc.cell? ⟨gb103, 4, none⟩ = some (.slice A0_4 l0_4.length c0_4) := (blk_cell BK103.out 4).trans rfl
                        have hcz34_5 : wc.cell? ⟨gb103, 5, none⟩ = some (.slice A0_5 l0_5.length c0_5) := (blk_cell BK103.out 5).trans rfl
                        have hfz34_0 := blk_frozen BK103.out 0
                        have hfz34_1 := blk_frozen BK103.out 1
                        have hfz34_2 := blk_frozen BK103.out 2
                        have hfz34_3 := blk_frozen BK103.out 3
                        have hfz34_4 := blk_frozen BK103.out 4
                        have hfz34_5 := blk_frozen BK103.out 5
                        go_wp2
                        go_ret
                        exact ⟨by first | rfl | (simp [errW_none, errW_some] <;> rfl) | (simp [*, errW_none, errW_some] <;> rfl), by repeat (first | (with_reducible first | exact HB.out | apply below_alloc | apply pw_below_drewN | apply below_drew1 | refine below_set ?_ GE103.out) | exact HB.out)⟩
                      · rw [if_neg c33] at H
                        have c33b0 : (a0_3 == 0) = false := by simpa using c33
                        (try (have c33b1 : decide (a0_3 = 0) = false := by simpa using c33))
                        (try (have c33b2 : (a0_3 == 0) = false := by simpa using c33))
                        (try (have c33b3 : ¬ (a0_3 = 0) := by simpa using c33))
                        clear c33
                        obtain rfl := Option.some.inj H
                        have hcz35_0 : wc.cell? ⟨gb103, 0, none⟩ = some (.int .i64 a0_0) := (blk_cell BK103.out 0).trans rfl
                        have hcz35_1 : wc.cell? ⟨gb103, 1, none⟩ = some (.int .i64 a0_1) := (blk_cell BK103.out 1).trans rfl
                        have hcz35_2 : wc.cell? ⟨gb103, 2, none⟩ = some (.int .i64 a0_2) := (blk_cell BK103.out 2).trans rfl
                        have hcz35_3 : wc.cell? ⟨gb103, 3, none⟩ = some (.int .i64 a0_3) := (blk_cell BK103.out 3).trans rfl
                        have hcz35_4 : wc.cell? ⟨gb103, 4, none⟩ = some (.slice A0_4 l0_4.length c0_4) := (blk_cell BK103.out 4).trans rfl
                        have hcz35_5 : wc.cell? ⟨gb103, 5, none⟩ = some (.slice A0_5 l0_5.length c0_5) := (blk_cell BK103.out 5).trans rfl
                        have hfz35_0 := blk_frozen BK103.out 0
                        have hfz35_1 := blk_frozen BK103.out 1
                        have hfz35_2 := blk_frozen BK103.out 2
                        have hfz35_3 := blk_frozen BK103.out 3
                        have hfz35_4 := blk_frozen BK103.out 4
                        have hfz35_5 := blk_frozen BK103.out 5
                        go_wp2
                        go_ret
                        exact ⟨by first | rfl | (simp [errW_none, errW_some] <;> rfl) | (simp [*, errW_none, errW_some] <;> rfl), by repeat (first | (with_reducible first | exact HB.out | apply below_alloc | apply pw_below_drewN | apply below_drew1 | refine below_set ?_ GE103.out) | exact HB.out)⟩
                    · replace c32 := Bool.eq_false_iff.mpr c32
                      subst c32
                      have H1 : (some false) = some r := by rw [if_neg (show ¬ (false = true) by decide)] at H; exact H
                      clear H
                      have H := H1
                      clear H1
                      obtain rfl := Option.some.inj H
                      have hcz36_0 : wc.cell? ⟨gb103, 0, none⟩ = some (.int .i64 a0_0) := (blk_cell BK103.out 0).trans rfl
                      have hcz36_1 : wc.cell? ⟨gb103, 1, none⟩ = some (.int .i64 a0_1) := (blk_cell BK103.out 1).trans rfl
                      have hcz36_2 : wc.cell? ⟨gb103, 2, none⟩ = some (.int .i64 a0_2) := (blk_cell BK103.out 2).trans rfl
                      have hcz36_3 : wc.cell? ⟨gb103, 3, none⟩ = some (.int .i64 a0_3) := (blk_cell BK103.out 3).trans rfl
                      have hcz36_4 : wc.cell? ⟨gb103, 4, none⟩ = some (.slice A0_4 l0_4.length c0_4) := (blk_cell BK103.out 4).trans rfl
                      have hcz36_5 : wc.cell? ⟨gb103, 5, none⟩ = some (.slice A0_5 l0_5.length c0_5) := (blk_cell BK103.out 5).trans rfl
                      have hfz36_0 := blk_frozen BK103.out 0
                      have hfz36_1 := blk_frozen BK103.out 1
                      have hfz36_2 := blk_frozen BK103.out 2
                      have hfz36_3 := blk_frozen BK103.out 3
                      have hfz36_4 := blk_frozen BK103.out 4
                      have hfz36_5 := blk_frozen BK103.out 5
                      go_wp2
                      go_ret
                      exact ⟨by first | rfl | (simp [errW_none, errW_some] <;> rfl) | (simp [*, errW_none, errW_some] <;> rfl), by repeat (first | (with_reducible first | exact HB.out | apply below_alloc | apply pw_below_drewN | apply below_drew1 | refine below_set ?_ GE103.out) | exact HB.out)⟩

end Go.Proofs.Ythnefjkpjhfkgaa.PScriptWrites
