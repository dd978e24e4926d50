/- shell: the chapter's example: its walk. shell: too many lines; a row of blanks. (Merged and reduced by need2.py and pack.py: F11, F12) -/
import Derived.Test.YtbiajfkencamiaaGreatDoorF10
/-! F11 -/
section
namespace Go.Proofs.YtbiajfkencamiaaGreatDoor.SH
open Go.RowKit Go.Shelf Go.Proofs.YtbiajfkencamiaaGreatDoorW.PrintWords Go.Proofs.YtbiajfkencamiaaGreatDoorW.PrintMore Go.Proofs.YtbiajfkencamiaaGreatDoor.Core Go.Proofs.YtbiajfkencamiaaGreatDoor
open Go.Proofs.YtbiajfkencamiaaGreatDoor.EV (Upd Upd.set Upd.below Upd.trans Kq)
set_option linter.unusedVariables false
set_option linter.unusedSimpArgs false
theorem light_head {t x : List UInt8} {own : List (List UInt8)} (h : wordsL t = x :: own) (hv : lightV (verbN x)) : lightL t := fun y o hy => by
  rw [h] at hy
  injection hy with h1 _
  rw [← h1]
  exact hv
def awL (j : Nat) : List UInt8 := [aw0, aw1, aw2, aw3].getD j []
theorem aw_ok (j : Nat) (h : j < 4) : (lineF (awT j) (awL j)).1 = okL ∧ awT (j + 1) = (lineF (awT j) (awL j)).2 ∧ lightL (awL j) ∧ (10 : UInt8) ∉ awL j ∧ (awL j).length ≤ 70000 ∧ (awT j).length ≤ 65536 := by
  have e : j = 0 ∨ j = 1 ∨ j = 2 ∨ j = 3 := by omega
  have hv : lightV (verbN [99, 111, 100, 101]) := by unfold lightV; decide
  rcases e with rfl | rfl | rfl | rfl
  · exact ⟨aw_0, rfl, light_head (x := [99, 111, 100, 101]) (own := [[102, 117, 110, 99], [48]]) (by decide) hv, by decide, by decide, by decide +kernel⟩
  · exact ⟨aw_1, rfl, light_head (x := [99, 111, 100, 101]) (own := [[115, 101, 116], [114, 49], [55]]) (by decide) hv, by decide, by decide, by decide +kernel⟩
  · exact ⟨aw_2, rfl, light_head (x := [99, 111, 100, 101]) (own := [[101, 109, 105, 116], [114, 49]]) (by decide) hv, by decide, by decide, by decide +kernel⟩
  · exact ⟨aw_3, rfl, light_head (x := [99, 111, 100, 101]) (own := [[114, 101, 116], [114, 49]]) (by decide) hv, by decide, by decide, by decide +kernel⟩
def awO : Obj := .cells #[.string ⟨aw0.toArray⟩, .string ⟨aw1.toArray⟩, .string ⟨aw2.toArray⟩, .string ⟨aw3.toArray⟩] 9
theorem aw_cell (j : Nat) (h : j < 4) : (#[Value.string ⟨aw0.toArray⟩, .string ⟨aw1.toArray⟩, .string ⟨aw2.toArray⟩, .string ⟨aw3.toArray⟩] : Array Value)[j]? = some (.string ⟨(awL j).toArray⟩) := by
  have e : j = 0 ∨ j = 1 ∨ j = 2 ∨ j = 3 := by omega
  rcases e with rfl | rfl | rfl | rfl <;> rfl
set_option maxRecDepth 100000 in
set_option maxHeartbeats 4000000 in
theorem awake_any (w : World) (hA : TabA w) (hTb : Tab w) : Calls Tryz.prog 7 #[] w fun e w' => e = .returned (.bool true) ∧ Below w.heap.size w w' := by
  have HT := Lib.hid (And.intro hA hTb)
  clear hA hTb
  go_enter Tryz.func7, Tryz.ntmps7
  go_wp2_with (refine (new_any _).mono ?_; rintro _ w1 ⟨rfl, rfl⟩)
  have hb1 : Below w.heap.size w ((w.alloc (.cells (shC []) 38)).alloc awO) := ((Below.refl _ _).alloc (Nat.le_refl _) _).alloc (by simp) _
  have hs0 : ShW w.heap.size [] ((w.alloc (.cells (shC []) 38)).alloc awO) := (Below.heap_alloc _ _ _ (by simp)).trans (heap_alloc_new w (.cells (shC []) 38))
  have hl0 : ((w.alloc (.cells (shC []) 38)).alloc awO).heap[w.heap.size + 1]? = some awO := by
    have h := heap_alloc_new (w.alloc (.cells (shC []) 38)) awO
    rwa [World.size_alloc] at h
  have HST0 := Lib.hid (And.intro hs0 (And.intro hl0 hb1))
  obtain ⟨gs, hgs⟩ : ∃ gs, gs = w.heap.size := ⟨_, rfl⟩
  rw [← hgs]
  have HGS := Lib.hid hgs
  clear hb1 hs0 hl0 hgs
  go_loopg [3] 4 (fun d v3 X => ∃ j : Nat, j + d = 4 ∧ v3 = .int .i64 (j : Int) ∧ Hid (ShW gs (awT j) X ∧ X.heap[gs + 1]? = some awO ∧ Below gs w X))
  case atStart => exact ⟨0, rfl, rfl, by rw [HGS.out]; exact HST0.out⟩
  case round =>
    clear HST0
    obtain ⟨j, hjd, rfl, hS⟩ := hrel
    have hbw : Below w.heap.size w wr := by rw [← HGS.out]; exact hS.out.2.2
    have HTW := Lib.hid (And.intro (HT.out.1.below hbw) (Tab.below HT.out.2 hbw))
    clear hbw
    by_cases hj : j < 4
    · have hj0 : (0 : Int) ≤ (j : Int) := by omega
      have hj1 : (j : Int) < 4 := by omega
      have hj2 : decide ((j : Int) < 4) = true := decide_eq_true hj1
      have hjw : wrap64 ((j : Int) + 1) = ((j + 1 : Nat) : Int) := by unfold wrap64; omega
      obtain ⟨a1, a2, a3, a4, a5, a6⟩ := aw_ok j hj
      have cx : wr.cell? ⟨gs + 1, j, none⟩ = some (.string ⟨(awL j).toArray⟩) := (blk_cell hS.out.2.1 j).trans (aw_cell j hj)
      have hln := line_any (awL j) hS.out.1 a4 a5 a6 HTW.out.1 HTW.out.2 a3
      have HLN : Hid (Calls Tryz.prog 6 #[.pointer (some ⟨gs, 0, none⟩), .string ⟨(awL j).toArray⟩] wr fun e w' => e = .returned (.string ⟨#[111, 107, 10]⟩) ∧ ShW gs (awT (j + 1)) w' ∧ Upd gs wr w') := hln.mono fun e w' h => by
        obtain ⟨h1, h2, h3⟩ := h
        rw [a1] at h1
        rw [a2]
        exact ⟨h1, h2, h3⟩
      have HJ := Lib.hid (And.intro hj hjd)
      obtain ⟨al, hal⟩ : ∃ al, awL j = al := ⟨_, rfl⟩
      rw [hal] at cx HLN
      clear a1 a2 a3 a4 a5 a6 hln hj hjd hal
      go_wp2_with fail
      refine HLN.out.mono ?_
      rintro _ w5 ⟨rfl, hs5, hu5⟩
      have HS5 := Lib.hid (And.intro hs5 hu5)
      clear hs5 hu5 cx
      go_wp2_with fail
      go_roundg (4 - (j + 1))
      case measure => exact step_lt HJ.out.2 HJ.out.1
      case rel =>
        refine ⟨j + 1, step_eq HJ.out.1, by go_num, HS5.out.1, ?_, hS.out.2.2.trans (HS5.out.2.low gs (Nat.le_refl _) (by have := hS.out.2.2.size; rw [← HGS.out] at this; exact this))⟩
        rw [HS5.out.2.same (gs + 1) (blk_lt hS.out.2.1) (by omega)]
        exact hS.out.2.1
    · have hj1 : ¬ (j : Int) < 4 := by omega
      have hj2 : decide ((j : Int) < 4) = false := decide_eq_false hj1
      obtain rfl : j = 4 := by omega
      have hln := line_any aw4 hS.out.1 (by decide) (by decide) (by decide +kernel) HTW.out.1 HTW.out.2 (light_head (x := [101, 118, 97, 108]) (own := []) (by decide) (by unfold lightV; decide))
      have HLN : Hid (Calls Tryz.prog 6 #[.pointer (some ⟨gs, 0, none⟩), .string ⟨#[101, 118, 97, 108]⟩] wr fun e w' => e = .returned (.string ⟨#[100, 111, 110, 101, 32, 55, 32, 58, 32, 55, 10]⟩) ∧ Upd gs wr w') := hln.mono fun e w' h => by
        obtain ⟨h1, h2, h3⟩ := h
        rw [aw_4] at h1
        exact ⟨h1, h3⟩
      clear hln hj hjd
      go_wp2_with fail
      refine HLN.out.mono ?_
      rintro _ w5 ⟨rfl, hu5⟩
      have HU5 := Lib.hid hu5
      clear hu5
      go_wp2_with fail
      go_ret
      refine ⟨rfl, ?_⟩
      have := hS.out.2.2.trans (HU5.out.low gs (Nat.le_refl _) (by have := hS.out.2.2.size; rw [← HGS.out] at this; exact this))
      rw [HGS.out] at this
      exact this
end Go.Proofs.YtbiajfkencamiaaGreatDoor.SH
end
/-! F12 -/
section
namespace Go.Proofs.YtbiajfkencamiaaGreatDoor.SH
open Go.RowKit Go.Shelf Go.Proofs.YtbiajfkencamiaaGreatDoorW.PrintWords Go.Proofs.YtbiajfkencamiaaGreatDoorW.PrintMore Go.Proofs.YtbiajfkencamiaaGreatDoor.P1 Go.Proofs.YtbiajfkencamiaaGreatDoor.Rf Go.Proofs.YtbiajfkencamiaaGreatDoor.Core Go.Proofs.YtbiajfkencamiaaGreatDoor
set_option linter.unusedVariables false
set_option linter.unusedSimpArgs false
attribute [local go_sem] Oper.semAt_some
set_option maxRecDepth 100000 in
set_option maxHeartbeats 4000000 in
theorem run_long (t : List UInt8) (ht : 65536 < t.length) (w : World) : Calls Tryz.prog 8 #[.string ⟨t.toArray⟩] w fun e w' => e = .returned (.tuple #[.string ⟨#[]⟩, .int .i64 3]) ∧ w = w' := by
  have hl1 : (65536 < (t.length : Int)) := by omega
  have hl2 : decide ((t.length : Int) > 65536) = true := decide_eq_true hl1
  refine (callsIn_wide (n := 5)).1 ?_
  refine callsIn_of_wp_marks Tryz.func8 rfl trivial ?_ rfl
  simp only [Tryz.ntmps8, List.size_toArray, List.length_cons, List.length_nil, Nat.reduceAdd, Nat.reduceSub, Array.replicate_succ, Array.replicate_zero, List.push_toArray, List.append_toArray, List.nil_append, List.cons_append]
  gi_wp2_with fail
  refine ⟨_, results_t2 rfl _ _ _ _ rfl rfl, ?_⟩
  exact ⟨rfl, rfl⟩
end Go.Proofs.YtbiajfkencamiaaGreatDoor.SH
end
