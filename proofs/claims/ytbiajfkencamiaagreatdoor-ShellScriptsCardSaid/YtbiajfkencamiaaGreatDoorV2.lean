/- valid: a target. -/
import Derived.Test.YtbiajfkencamiaaGreatDoorV1
import Derived.Test.YtbiajfkencamiaaGreatDoorRegion
/-! V2 -/
namespace Go.Proofs.YtbiajfkencamiaaGreatDoor.Core
open Go.RowKit Go.Shelf Go.Proofs.YtbiajfkencamiaaGreatDoorW.PrintWords Go.Proofs.YtbiajfkencamiaaGreatDoorW.PrintMore Go.Proofs.YtbiajfkencamiaaGreatDoor.P1 Go.Proofs.YtbiajfkencamiaaGreatDoor
set_option linter.unusedVariables false
set_option linter.unusedSimpArgs false
set_option maxRecDepth 100000 in
set_option maxHeartbeats 4000000 in
theorem vfield_target (ad : Addr) (A1 : Option Addr) (n c cl c1 q : Nat) (at' y : Int) (w : World) (hq : q < n) (hc1 : w.cell? ⟨(ad.add (q * 2)).block, (ad.add (q * 2)).off + 1, none⟩ = some (.slice A1 cl c1)) :
    Calls Tryz.prog 158 #[.agg #[.slice (some ad) n c, .int .i64 q, .int .i64 at'], .int .i64 y, .int .i64 5] w (GivesV w (fieldB n cl y 5)) := by
  have hq0 : (0 : Int) ≤ (q : Int) := by omega
  have hqn : (q : Int) < (n : Int) := by omega
  by_cases h1 : 0 ≤ y
  · have g1 : decide (y ≥ 0) = true := decide_eq_true h1
    by_cases h2 : y < (cl : Int)
    · have g2 : decide (y < (cl : Int)) = true := decide_eq_true h2
      have hf : fieldB n cl y 5 = true := by simp [fieldB, h1, h2]
      rw [hf]
      clear hf
      go_enter Tryz.func158, Tryz.ntmps158
      go_wp2_with fail
      obtain ⟨W1, hW1⟩ : ∃ X, (w.alloc (.cells #[.slice (some ad) n c, .int .i64 q, .int .i64 at'] 210)).drew = X := ⟨_, rfl⟩
      have HB1 : Hid (Below w.heap.size w W1) := by rw [← hW1]; exact below_drew ((Below.refl _ _).alloc (Nat.le_refl _) _)
      have HX1 : Hid (W1.heap[w.heap.size]? = some (.cells #[.slice (some ad) n c, .int .i64 q, .int .i64 at'] 210 (0, 0))) := by rw [← hW1]; exact heap_alloc_new _ _
      have HC1 := Lib.hid ((HB1.out.cell (World.block_lt_of_cell? w _ hc1)).trans hc1)
      have HW1 := Lib.hid hW1
      clear hW1
      refine Reg.wp_region_phase (by kernel_rfl) [15] (fun i => match i with | 0 => fun v => v = .agg #[.slice (some ad) n c, .int .i64 q, .int .i64 at'] | 1 => fun v => v = .int .i64 y | 2 => fun v => v = .bool true | 3 => fun v => v = .bool true | 4 => fun v => v = .int .i64 y | 5 => fun v => v = .pointer (some ⟨w.heap.size, 0, none⟩) | 6 => fun v => v = .slice (some ad) n c | 7 => fun v => v = .pointer (some ⟨w.heap.size, 1, none⟩) | 8 => fun v => v = .int .i64 q | 9 => fun v => v = .pointer (some (ad.add (q * 2))) | 10 => fun v => v = .pointer (some ⟨(ad.add (q * 2)).block, (ad.add (q * 2)).off + 1, none⟩) | 11 => fun v => v = .slice A1 cl c1 | 12 => fun v => v = .int .i64 (cl : Int) | 13 => fun v => v = .bool true | 14 => fun v => v = .bool true | _ => fun _ => True) (fun k _ Wx => match k with | 0 => Wx = W1 | _ => Below w.heap.size w Wx ∧ true = true) (by kernel_rfl) (by kernel_rfl) (by decide) (by decide) ?hJ ?h0 ?pure ?act ?fin
      case hJ => intro k f f' W h hj; exact hj
      case h0 => exact HW1.out
      case pure =>
        intro i o k a w_ ho hE hk hmc hf hst hkn hj
        have hi : i < 16 := (Array.getElem?_eq_some_iff.1 ho).1
        obtain rfl | rfl | rfl | rfl | rfl | rfl | rfl | rfl | rfl | rfl | rfl | rfl | rfl | rfl | rfl : i = 0 ∨ i = 1 ∨ i = 2 ∨ i = 3 ∨ i = 4 ∨ i = 5 ∨ i = 6 ∨ i = 7 ∨ i = 8 ∨ i = 9 ∨ i = 10 ∨ i = 11 ∨ i = 12 ∨ i = 13 ∨ i = 14 := by
          simp only [List.mem_cons, List.not_mem_nil, or_false, not_or] at hE
          omega
        · skip
          obtain rfl := Reg.oper_eq ho rfl
          have e3 : a.eval (.tmp 3) = .pointer (some ⟨w.heap.size, 0, none⟩) := (hf.eval 3 (by kernel_rfl)).trans rfl
          have g3 := Reg.eval_getD e3
          have hw0 : w_ = W1 := by
            have hk2 : k = 0 ∨ k = 1 := by simp only [List.length_cons, List.length_nil] at hk; omega
            rcases hk2 with rfl | rfl
            · exact hj
            · exact Bool.noConfusion (hmc.symm.trans (show Reg.mayComeB _ _ _ _ = false from by kernel_rfl))
          have k0 := blk_cell HX1.out 0
          have k1 := blk_cell HX1.out 1
          have k2 := blk_cell HX1.out 2
          have kc := HC1.out
          simp only [List.getElem?_toArray, List.getElem?_cons_zero, List.getElem?_cons_succ] at k0 k1 k2
          exact Reg.op_value rfl rfl (by rw [hw0]; simp only [List.getElem_toArray, List.getElem_cons_zero, List.getElem_cons_succ, execOp, e3]; go_simp) ⟨_, rfl, rfl, hj⟩
        · skip
          obtain rfl := Reg.oper_eq ho rfl
          have e1 : a.eval (.tmp 1) = .int .i64 y := (hf.eval 1 (by kernel_rfl)).trans rfl
          have g1 := Reg.eval_getD e1
          exact Reg.op_value rfl rfl (by simp only [List.getElem_toArray, List.getElem_cons_zero, List.getElem_cons_succ, execOp, e1]; go_simp) ⟨_, rfl, rfl, hj⟩
        · skip
          obtain rfl := Reg.oper_eq ho rfl
          have e43 : a.eval (.tmp 43) = .int .i64 y := hkn.eval 1 43 (by kernel_rfl) (by kernel_rfl)
          have g43 := Reg.eval_getD e43
          exact Reg.op_value rfl rfl (by simp only [List.getElem_toArray, List.getElem_cons_zero, List.getElem_cons_succ, execOp, e43]; go_simp) ⟨_, rfl, rfl, hj⟩
        · skip
          obtain rfl := Reg.oper_eq ho rfl
          have e44 : a.eval (.tmp 44) = .bool true := hkn.eval 2 44 (by kernel_rfl) (by kernel_rfl)
          have g44 := Reg.eval_getD e44
          exact Reg.op_value rfl rfl (by simp only [List.getElem_toArray, List.getElem_cons_zero, List.getElem_cons_succ, execOp, e44]; go_simp) ⟨_, rfl, rfl, hj⟩
        · skip
          obtain rfl := Reg.oper_eq ho rfl
          have e1 : a.eval (.tmp 1) = .int .i64 y := (hf.eval 1 (by kernel_rfl)).trans rfl
          have e45 : a.eval (.tmp 45) = .bool true := hkn.eval 3 45 (by kernel_rfl) (by kernel_rfl)
          have g1 := Reg.eval_getD e1
          have g45 := Reg.eval_getD e45
          exact Reg.op_value rfl ((Reg.wanted_of (j := 3) (d := 45) (b := true) rfl (by kernel_rfl) e45).trans rfl) (by simp only [List.getElem_toArray, List.getElem_cons_zero, List.getElem_cons_succ, execOp, e1, e45]; go_simp) ⟨_, rfl, rfl, hj⟩
        · skip
          obtain rfl := Reg.oper_eq ho rfl
          have e3 : a.eval (.tmp 3) = .pointer (some ⟨w.heap.size, 0, none⟩) := (hf.eval 3 (by kernel_rfl)).trans rfl
          have e45 : a.eval (.tmp 45) = .bool true := hkn.eval 3 45 (by kernel_rfl) (by kernel_rfl)
          have g3 := Reg.eval_getD e3
          have g45 := Reg.eval_getD e45
          exact Reg.op_value rfl ((Reg.wanted_of (j := 3) (d := 45) (b := true) rfl (by kernel_rfl) e45).trans rfl) (by simp only [List.getElem_toArray, List.getElem_cons_zero, List.getElem_cons_succ, execOp, e3, e45]; go_simp) ⟨_, rfl, rfl, hj⟩
        · skip
          obtain rfl := Reg.oper_eq ho rfl
          have e47 : a.eval (.tmp 47) = .pointer (some ⟨w.heap.size, 0, none⟩) := hkn.eval 5 47 (by kernel_rfl) (by kernel_rfl)
          have e45 : a.eval (.tmp 45) = .bool true := hkn.eval 3 45 (by kernel_rfl) (by kernel_rfl)
          have g47 := Reg.eval_getD e47
          have g45 := Reg.eval_getD e45
          have hw0 : w_ = W1 := by
            have hk2 : k = 0 ∨ k = 1 := by simp only [List.length_cons, List.length_nil] at hk; omega
            rcases hk2 with rfl | rfl
            · exact hj
            · exact Bool.noConfusion (hmc.symm.trans (show Reg.mayComeB _ _ _ _ = false from by kernel_rfl))
          have k0 := blk_cell HX1.out 0
          have k1 := blk_cell HX1.out 1
          have k2 := blk_cell HX1.out 2
          have kc := HC1.out
          simp only [List.getElem?_toArray, List.getElem?_cons_zero, List.getElem?_cons_succ] at k0 k1 k2
          exact Reg.op_value rfl ((Reg.wanted_of (j := 3) (d := 45) (b := true) rfl (by kernel_rfl) e45).trans rfl) (by rw [hw0]; simp only [List.getElem_toArray, List.getElem_cons_zero, List.getElem_cons_succ, execOp, e47]; go_simp) ⟨_, rfl, rfl, hj⟩
        · skip
          obtain rfl := Reg.oper_eq ho rfl
          have e3 : a.eval (.tmp 3) = .pointer (some ⟨w.heap.size, 0, none⟩) := (hf.eval 3 (by kernel_rfl)).trans rfl
          have e45 : a.eval (.tmp 45) = .bool true := hkn.eval 3 45 (by kernel_rfl) (by kernel_rfl)
          have g3 := Reg.eval_getD e3
          have g45 := Reg.eval_getD e45
          exact Reg.op_value rfl ((Reg.wanted_of (j := 3) (d := 45) (b := true) rfl (by kernel_rfl) e45).trans rfl) (by simp only [List.getElem_toArray, List.getElem_cons_zero, List.getElem_cons_succ, execOp, e3, e45]; go_simp) ⟨_, rfl, rfl, hj⟩
        · skip
          obtain rfl := Reg.oper_eq ho rfl
          have e49 : a.eval (.tmp 49) = .pointer (some ⟨w.heap.size, 1, none⟩) := hkn.eval 7 49 (by kernel_rfl) (by kernel_rfl)
          have e45 : a.eval (.tmp 45) = .bool true := hkn.eval 3 45 (by kernel_rfl) (by kernel_rfl)
          have g49 := Reg.eval_getD e49
          have g45 := Reg.eval_getD e45
          have hw0 : w_ = W1 := by
            have hk2 : k = 0 ∨ k = 1 := by simp only [List.length_cons, List.length_nil] at hk; omega
            rcases hk2 with rfl | rfl
            · exact hj
            · exact Bool.noConfusion (hmc.symm.trans (show Reg.mayComeB _ _ _ _ = false from by kernel_rfl))
          have k0 := blk_cell HX1.out 0
          have k1 := blk_cell HX1.out 1
          have k2 := blk_cell HX1.out 2
          have kc := HC1.out
          simp only [List.getElem?_toArray, List.getElem?_cons_zero, List.getElem?_cons_succ] at k0 k1 k2
          exact Reg.op_value rfl ((Reg.wanted_of (j := 3) (d := 45) (b := true) rfl (by kernel_rfl) e45).trans rfl) (by rw [hw0]; simp only [List.getElem_toArray, List.getElem_cons_zero, List.getElem_cons_succ, execOp, e49]; go_simp) ⟨_, rfl, rfl, hj⟩
        · skip
          obtain rfl := Reg.oper_eq ho rfl
          have e48 : a.eval (.tmp 48) = .slice (some ad) n c := hkn.eval 6 48 (by kernel_rfl) (by kernel_rfl)
          have e50 : a.eval (.tmp 50) = .int .i64 q := hkn.eval 8 50 (by kernel_rfl) (by kernel_rfl)
          have e45 : a.eval (.tmp 45) = .bool true := hkn.eval 3 45 (by kernel_rfl) (by kernel_rfl)
          have g48 := Reg.eval_getD e48
          have g50 := Reg.eval_getD e50
          have g45 := Reg.eval_getD e45
          exact Reg.op_value rfl ((Reg.wanted_of (j := 3) (d := 45) (b := true) rfl (by kernel_rfl) e45).trans rfl) (by simp only [List.getElem_toArray, List.getElem_cons_zero, List.getElem_cons_succ, execOp, e48, e50, e45]; go_simp) ⟨_, rfl, rfl, hj⟩
        · skip
          obtain rfl := Reg.oper_eq ho rfl
          have e51 : a.eval (.tmp 51) = .pointer (some (ad.add (q * 2))) := hkn.eval 9 51 (by kernel_rfl) (by kernel_rfl)
          have e45 : a.eval (.tmp 45) = .bool true := hkn.eval 3 45 (by kernel_rfl) (by kernel_rfl)
          have g51 := Reg.eval_getD e51
          have g45 := Reg.eval_getD e45
          exact Reg.op_value rfl ((Reg.wanted_of (j := 3) (d := 45) (b := true) rfl (by kernel_rfl) e45).trans rfl) (by simp only [List.getElem_toArray, List.getElem_cons_zero, List.getElem_cons_succ, execOp, e51, e45]; go_simp) ⟨_, rfl, rfl, hj⟩
        · skip
          obtain rfl := Reg.oper_eq ho rfl
          have e52 : a.eval (.tmp 52) = .pointer (some ⟨(ad.add (q * 2)).block, (ad.add (q * 2)).off + 1, none⟩) := hkn.eval 10 52 (by kernel_rfl) (by kernel_rfl)
          have e45 : a.eval (.tmp 45) = .bool true := hkn.eval 3 45 (by kernel_rfl) (by kernel_rfl)
          have g52 := Reg.eval_getD e52
          have g45 := Reg.eval_getD e45
          have hw0 : w_ = W1 := by
            have hk2 : k = 0 ∨ k = 1 := by simp only [List.length_cons, List.length_nil] at hk; omega
            rcases hk2 with rfl | rfl
            · exact hj
            · exact Bool.noConfusion (hmc.symm.trans (show Reg.mayComeB _ _ _ _ = false from by kernel_rfl))
          have k0 := blk_cell HX1.out 0
          have k1 := blk_cell HX1.out 1
          have k2 := blk_cell HX1.out 2
          have kc := HC1.out
          simp only [List.getElem?_toArray, List.getElem?_cons_zero, List.getElem?_cons_succ] at k0 k1 k2
          exact Reg.op_value rfl ((Reg.wanted_of (j := 3) (d := 45) (b := true) rfl (by kernel_rfl) e45).trans rfl) (by rw [hw0]; simp only [List.getElem_toArray, List.getElem_cons_zero, List.getElem_cons_succ, execOp, e52]; go_simp) ⟨_, rfl, rfl, hj⟩
        · skip
          obtain rfl := Reg.oper_eq ho rfl
          have e53 : a.eval (.tmp 53) = .slice A1 cl c1 := hkn.eval 11 53 (by kernel_rfl) (by kernel_rfl)
          have e45 : a.eval (.tmp 45) = .bool true := hkn.eval 3 45 (by kernel_rfl) (by kernel_rfl)
          have g53 := Reg.eval_getD e53
          have g45 := Reg.eval_getD e45
          exact Reg.op_value rfl ((Reg.wanted_of (j := 3) (d := 45) (b := true) rfl (by kernel_rfl) e45).trans rfl) (by simp only [List.getElem_toArray, List.getElem_cons_zero, List.getElem_cons_succ, execOp, e53, e45]; go_simp) ⟨_, rfl, rfl, hj⟩
        · skip
          obtain rfl := Reg.oper_eq ho rfl
          have e46 : a.eval (.tmp 46) = .int .i64 y := hkn.eval 4 46 (by kernel_rfl) (by kernel_rfl)
          have e54 : a.eval (.tmp 54) = .int .i64 (cl : Int) := hkn.eval 12 54 (by kernel_rfl) (by kernel_rfl)
          have e45 : a.eval (.tmp 45) = .bool true := hkn.eval 3 45 (by kernel_rfl) (by kernel_rfl)
          have g46 := Reg.eval_getD e46
          have g54 := Reg.eval_getD e54
          have g45 := Reg.eval_getD e45
          exact Reg.op_value rfl ((Reg.wanted_of (j := 3) (d := 45) (b := true) rfl (by kernel_rfl) e45).trans rfl) (by simp only [List.getElem_toArray, List.getElem_cons_zero, List.getElem_cons_succ, execOp, e46, e54, e45]; go_simp) ⟨_, rfl, rfl, hj⟩
        · skip
          obtain rfl := Reg.oper_eq ho rfl
          have e45 : a.eval (.tmp 45) = .bool true := hkn.eval 3 45 (by kernel_rfl) (by kernel_rfl)
          have e55 : a.eval (.tmp 55) = .bool true := hkn.eval 13 55 (by kernel_rfl) (by kernel_rfl)
          have g45 := Reg.eval_getD e45
          have g55 := Reg.eval_getD e55
          exact Reg.op_value rfl rfl (by simp only [List.getElem_toArray, List.getElem_cons_zero, List.getElem_cons_succ, execOp, e45, e55]; go_simp) ⟨_, rfl, rfl, hj⟩
      case act =>
        intro k o a w_ hk ho hf hst hkn hj
        obtain rfl : k = 0 := by simp only [List.length_cons, List.length_nil] at hk; omega
        · skip
          obtain rfl := Reg.oper_eq ho rfl
          have e42 : a.eval (.tmp 42) = .agg #[.slice (some ad) n c, .int .i64 q, .int .i64 at'] := hkn.eval 0 42 (by kernel_rfl) (by kernel_rfl)
          have e56 : a.eval (.tmp 56) = .bool true := hkn.eval 14 56 (by kernel_rfl) (by kernel_rfl)
          have g42 := Reg.eval_getD e42
          have g56 := Reg.eval_getD e56
          rw [show w_ = W1 from hj]
          refine Reg.op_call (f := 114) (args := #[.agg #[.slice (some ad) n c, .int .i64 q, .int .i64 at'], .bool true, .int .i64 6]) (w' := W1) rfl rfl (by simp only [List.getElem_toArray, List.getElem_cons_zero, List.getElem_cons_succ, execOp, e42, e56]; go_simp) ((vneed_any (some ad) n c q at' true 6 (by decide) W1).mono ?_)
          rintro e w2 ⟨he, hb⟩
          obtain rfl : e = .returned (.tuple #[]) := he
          exact .inl ⟨_, rfl, _, rfl, trivial, HB1.out.trans (hb.mono HB1.out.size), rfl⟩
      case fin =>
        intro a w_ hf hkn hj
        have e42 : Reg.val a 42 = _ := hkn 0 42 (by show _ < _; decide) (by kernel_rfl)
        have e43 : Reg.val a 43 = _ := hkn 1 43 (by show _ < _; decide) (by kernel_rfl)
        have e44 : Reg.val a 44 = _ := hkn 2 44 (by show _ < _; decide) (by kernel_rfl)
        have e45 : Reg.val a 45 = _ := hkn 3 45 (by show _ < _; decide) (by kernel_rfl)
        have e46 : Reg.val a 46 = _ := hkn 4 46 (by show _ < _; decide) (by kernel_rfl)
        have e47 : Reg.val a 47 = _ := hkn 5 47 (by show _ < _; decide) (by kernel_rfl)
        have e48 : Reg.val a 48 = _ := hkn 6 48 (by show _ < _; decide) (by kernel_rfl)
        have e49 : Reg.val a 49 = _ := hkn 7 49 (by show _ < _; decide) (by kernel_rfl)
        have e50 : Reg.val a 50 = _ := hkn 8 50 (by show _ < _; decide) (by kernel_rfl)
        have e51 : Reg.val a 51 = _ := hkn 9 51 (by show _ < _; decide) (by kernel_rfl)
        have e52 : Reg.val a 52 = _ := hkn 10 52 (by show _ < _; decide) (by kernel_rfl)
        have e53 : Reg.val a 53 = _ := hkn 11 53 (by show _ < _; decide) (by kernel_rfl)
        have e54 : Reg.val a 54 = _ := hkn 12 54 (by show _ < _; decide) (by kernel_rfl)
        have e55 : Reg.val a 55 = _ := hkn 13 55 (by show _ < _; decide) (by kernel_rfl)
        have e56 : Reg.val a 56 = _ := hkn 14 56 (by show _ < _; decide) (by kernel_rfl)
        rw [Reg.frm_fold hf [42, 43, 44, 45, 46, 47, 48, 49, 50, 51, 52, 53, 54, 55, 56, 57] (by kernel_rfl) (by kernel_rfl)]
        simp only [List.foldl_cons, List.foldl_nil, Act.put, List.setIfInBounds_toArray, List.set_cons_zero, List.set_cons_succ, e42, e43, e44, e45, e46, e47, e48, e49, e50, e51, e52, e53, e54, e55, e56]
        generalize Reg.val a 57 = v57_ at *
        clear hkn hf e42 e43 e44 e45 e46 e47 e48 e49 e50 e51 e52 e53 e54 e55 e56
        have hb : Below w.heap.size w w_ := hj.1
        clear hj
        go_wp2_with fail
        go_end0
        exact ⟨rfl, hb⟩
    · have g2 : decide (y < (cl : Int)) = false := decide_eq_false h2
      have hf : fieldB n cl y 5 = false := by simp [fieldB, h2]
      rw [hf]
      clear hf
      go_enter Tryz.func158, Tryz.ntmps158
      go_wp2_with fail
      obtain ⟨W1, hW1⟩ : ∃ X, (w.alloc (.cells #[.slice (some ad) n c, .int .i64 q, .int .i64 at'] 210)).drew = X := ⟨_, rfl⟩
      have HB1 : Hid (Below w.heap.size w W1) := by rw [← hW1]; exact below_drew ((Below.refl _ _).alloc (Nat.le_refl _) _)
      have HX1 : Hid (W1.heap[w.heap.size]? = some (.cells #[.slice (some ad) n c, .int .i64 q, .int .i64 at'] 210 (0, 0))) := by rw [← hW1]; exact heap_alloc_new _ _
      have HC1 := Lib.hid ((HB1.out.cell (World.block_lt_of_cell? w _ hc1)).trans hc1)
      have HW1 := Lib.hid hW1
      clear hW1
      refine Reg.wp_region_phase (by kernel_rfl) [15] (fun i => match i with | 0 => fun v => v = .agg #[.slice (some ad) n c, .int .i64 q, .int .i64 at'] | 1 => fun v => v = .int .i64 y | 2 => fun v => v = .bool true | 3 => fun v => v = .bool true | 4 => fun v => v = .int .i64 y | 5 => fun v => v = .pointer (some ⟨w.heap.size, 0, none⟩) | 6 => fun v => v = .slice (some ad) n c | 7 => fun v => v = .pointer (some ⟨w.heap.size, 1, none⟩) | 8 => fun v => v = .int .i64 q | 9 => fun v => v = .pointer (some (ad.add (q * 2))) | 10 => fun v => v = .pointer (some ⟨(ad.add (q * 2)).block, (ad.add (q * 2)).off + 1, none⟩) | 11 => fun v => v = .slice A1 cl c1 | 12 => fun v => v = .int .i64 (cl : Int) | 13 => fun v => v = .bool false | 14 => fun v => v = .bool false | _ => fun _ => True) (fun k _ Wx => match k with | 0 => Wx = W1 | _ => Below w.heap.size w Wx ∧ false = true) (by kernel_rfl) (by kernel_rfl) (by decide) (by decide) ?hJ ?h0 ?pure ?act ?fin
      case hJ => intro k f f' W h hj; exact hj
      case h0 => exact HW1.out
      case pure =>
        intro i o k a w_ ho hE hk hmc hf hst hkn hj
        have hi : i < 16 := (Array.getElem?_eq_some_iff.1 ho).1
        obtain rfl | rfl | rfl | rfl | rfl | rfl | rfl | rfl | rfl | rfl | rfl | rfl | rfl | rfl | rfl : i = 0 ∨ i = 1 ∨ i = 2 ∨ i = 3 ∨ i = 4 ∨ i = 5 ∨ i = 6 ∨ i = 7 ∨ i = 8 ∨ i = 9 ∨ i = 10 ∨ i = 11 ∨ i = 12 ∨ i = 13 ∨ i = 14 := by
          simp only [List.mem_cons, List.not_mem_nil, or_false, not_or] at hE
          omega
        · skip
          obtain rfl := Reg.oper_eq ho rfl
          have e3 : a.eval (.tmp 3) = .pointer (some ⟨w.heap.size, 0, none⟩) := (hf.eval 3 (by kernel_rfl)).trans rfl
          have g3 := Reg.eval_getD e3
          have hw0 : w_ = W1 := by
            have hk2 : k = 0 ∨ k = 1 := by simp only [List.length_cons, List.length_nil] at hk; omega
            rcases hk2 with rfl | rfl
            · exact hj
            · exact Bool.noConfusion (hmc.symm.trans (show Reg.mayComeB _ _ _ _ = false from by kernel_rfl))
          have k0 := blk_cell HX1.out 0
          have k1 := blk_cell HX1.out 1
          have k2 := blk_cell HX1.out 2
          have kc := HC1.out
          simp only [List.getElem?_toArray, List.getElem?_cons_zero, List.getElem?_cons_succ] at k0 k1 k2
          exact Reg.op_value rfl rfl (by rw [hw0]; simp only [List.getElem_toArray, List.getElem_cons_zero, List.getElem_cons_succ, execOp, e3]; go_simp) ⟨_, rfl, rfl, hj⟩
        · skip
          obtain rfl := Reg.oper_eq ho rfl
          have e1 : a.eval (.tmp 1) = .int .i64 y := (hf.eval 1 (by kernel_rfl)).trans rfl
          have g1 := Reg.eval_getD e1
          exact Reg.op_value rfl rfl (by simp only [List.getElem_toArray, List.getElem_cons_zero, List.getElem_cons_succ, execOp, e1]; go_simp) ⟨_, rfl, rfl, hj⟩
        · skip
          obtain rfl := Reg.oper_eq ho rfl
          have e43 : a.eval (.tmp 43) = .int .i64 y := hkn.eval 1 43 (by kernel_rfl) (by kernel_rfl)
          have g43 := Reg.eval_getD e43
          exact Reg.op_value rfl rfl (by simp only [List.getElem_toArray, List.getElem_cons_zero, List.getElem_cons_succ, execOp, e43]; go_simp) ⟨_, rfl, rfl, hj⟩
        · skip
          obtain rfl := Reg.oper_eq ho rfl
          have e44 : a.eval (.tmp 44) = .bool true := hkn.eval 2 44 (by kernel_rfl) (by kernel_rfl)
          have g44 := Reg.eval_getD e44
          exact Reg.op_value rfl rfl (by simp only [List.getElem_toArray, List.getElem_cons_zero, List.getElem_cons_succ, execOp, e44]; go_simp) ⟨_, rfl, rfl, hj⟩
        · skip
          obtain rfl := Reg.oper_eq ho rfl
          have e1 : a.eval (.tmp 1) = .int .i64 y := (hf.eval 1 (by kernel_rfl)).trans rfl
          have e45 : a.eval (.tmp 45) = .bool true := hkn.eval 3 45 (by kernel_rfl) (by kernel_rfl)
          have g1 := Reg.eval_getD e1
          have g45 := Reg.eval_getD e45
          exact Reg.op_value rfl ((Reg.wanted_of (j := 3) (d := 45) (b := true) rfl (by kernel_rfl) e45).trans rfl) (by simp only [List.getElem_toArray, List.getElem_cons_zero, List.getElem_cons_succ, execOp, e1, e45]; go_simp) ⟨_, rfl, rfl, hj⟩
        · skip
          obtain rfl := Reg.oper_eq ho rfl
          have e3 : a.eval (.tmp 3) = .pointer (some ⟨w.heap.size, 0, none⟩) := (hf.eval 3 (by kernel_rfl)).trans rfl
          have e45 : a.eval (.tmp 45) = .bool true := hkn.eval 3 45 (by kernel_rfl) (by kernel_rfl)
          have g3 := Reg.eval_getD e3
          have g45 := Reg.eval_getD e45
          exact Reg.op_value rfl ((Reg.wanted_of (j := 3) (d := 45) (b := true) rfl (by kernel_rfl) e45).trans rfl) (by simp only [List.getElem_toArray, List.getElem_cons_zero, List.getElem_cons_succ, execOp, e3, e45]; go_simp) ⟨_, rfl, rfl, hj⟩
        · skip
          obtain rfl := Reg.oper_eq ho rfl
          have e47 : a.eval (.tmp 47) = .pointer (some ⟨w.heap.size, 0, none⟩) := hkn.eval 5 47 (by kernel_rfl) (by kernel_rfl)
          have e45 : a.eval (.tmp 45) = .bool true := hkn.eval 3 45 (by kernel_rfl) (by kernel_rfl)
          have g47 := Reg.eval_getD e47
          have g45 := Reg.eval_getD e45
          have hw0 : w_ = W1 := by
            have hk2 : k = 0 ∨ k = 1 := by simp only [List.length_cons, List.length_nil] at hk; omega
            rcases hk2 with rfl | rfl
            · exact hj
            · exact Bool.noConfusion (hmc.symm.trans (show Reg.mayComeB _ _ _ _ = false from by kernel_rfl))
          have k0 := blk_cell HX1.out 0
          have k1 := blk_cell HX1.out 1
          have k2 := blk_cell HX1.out 2
          have kc := HC1.out
          simp only [List.getElem?_toArray, List.getElem?_cons_zero, List.getElem?_cons_succ] at k0 k1 k2
          exact Reg.op_value rfl ((Reg.wanted_of (j := 3) (d := 45) (b := true) rfl (by kernel_rfl) e45).trans rfl) (by rw [hw0]; simp only [List.getElem_toArray, List.getElem_cons_zero, List.getElem_cons_succ, execOp, e47]; go_simp) ⟨_, rfl, rfl, hj⟩
        · skip
          obtain rfl := Reg.oper_eq ho rfl
          have e3 : a.eval (.tmp 3) = .pointer (some ⟨w.heap.size, 0, none⟩) := (hf.eval 3 (by kernel_rfl)).trans rfl
          have e45 : a.eval (.tmp 45) = .bool true := hkn.eval 3 45 (by kernel_rfl) (by kernel_rfl)
          have g3 := Reg.eval_getD e3
          have g45 := Reg.eval_getD e45
          exact Reg.op_value rfl ((Reg.wanted_of (j := 3) (d := 45) (b := true) rfl (by kernel_rfl) e45).trans rfl) (by simp only [List.getElem_toArray, List.getElem_cons_zero, List.getElem_cons_succ, execOp, e3, e45]; go_simp) ⟨_, rfl, rfl, hj⟩
        · skip
          obtain rfl := Reg.oper_eq ho rfl
          have e49 : a.eval (.tmp 49) = .pointer (some ⟨w.heap.size, 1, none⟩) := hkn.eval 7 49 (by kernel_rfl) (by kernel_rfl)
          have e45 : a.eval (.tmp 45) = .bool true := hkn.eval 3 45 (by kernel_rfl) (by kernel_rfl)
          have g49 := Reg.eval_getD e49
          have g45 := Reg.eval_getD e45
          have hw0 : w_ = W1 := by
            have hk2 : k = 0 ∨ k = 1 := by simp only [List.length_cons, List.length_nil] at hk; omega
            rcases hk2 with rfl | rfl
            · exact hj
            · exact Bool.noConfusion (hmc.symm.trans (show Reg.mayComeB _ _ _ _ = false from by kernel_rfl))
          have k0 := blk_cell HX1.out 0
          have k1 := blk_cell HX1.out 1
          have k2 := blk_cell HX1.out 2
          have kc := HC1.out
          simp only [List.getElem?_toArray, List.getElem?_cons_zero, List.getElem?_cons_succ] at k0 k1 k2
          exact Reg.op_value rfl ((Reg.wanted_of (j := 3) (d := 45) (b := true) rfl (by kernel_rfl) e45).trans rfl) (by rw [hw0]; simp only [List.getElem_toArray, List.getElem_cons_zero, List.getElem_cons_succ, execOp, e49]; go_simp) ⟨_, rfl, rfl, hj⟩
        · skip
          obtain rfl := Reg.oper_eq ho rfl
          have e48 : a.eval (.tmp 48) = .slice (some ad) n c := hkn.eval 6 48 (by kernel_rfl) (by kernel_rfl)
          have e50 : a.eval (.tmp 50) = .int .i64 q := hkn.eval 8 50 (by kernel_rfl) (by kernel_rfl)
          have e45 : a.eval (.tmp 45) = .bool true := hkn.eval 3 45 (by kernel_rfl) (by kernel_rfl)
          have g48 := Reg.eval_getD e48
          have g50 := Reg.eval_getD e50
          have g45 := Reg.eval_getD e45
          exact Reg.op_value rfl ((Reg.wanted_of (j := 3) (d := 45) (b := true) rfl (by kernel_rfl) e45).trans rfl) (by simp only [List.getElem_toArray, List.getElem_cons_zero, List.getElem_cons_succ, execOp, e48, e50, e45]; go_simp) ⟨_, rfl, rfl, hj⟩
        · skip
          obtain rfl := Reg.oper_eq ho rfl
          have e51 : a.eval (.tmp 51) = .pointer (some (ad.add (q * 2))) := hkn.eval 9 51 (by kernel_rfl) (by kernel_rfl)
          have e45 : a.eval (.tmp 45) = .bool true := hkn.eval 3 45 (by kernel_rfl) (by kernel_rfl)
          have g51 := Reg.eval_getD e51
          have g45 := Reg.eval_getD e45
          exact Reg.op_value rfl ((Reg.wanted_of (j := 3) (d := 45) (b := true) rfl (by kernel_rfl) e45).trans rfl) (by simp only [List.getElem_toArray, List.getElem_cons_zero, List.getElem_cons_succ, execOp, e51, e45]; go_simp) ⟨_, rfl, rfl, hj⟩
        · skip
          obtain rfl := Reg.oper_eq ho rfl
          have e52 : a.eval (.tmp 52) = .pointer (some ⟨(ad.add (q * 2)).block, (ad.add (q * 2)).off + 1, none⟩) := hkn.eval 10 52 (by kernel_rfl) (by kernel_rfl)
          have e45 : a.eval (.tmp 45) = .bool true := hkn.eval 3 45 (by kernel_rfl) (by kernel_rfl)
          have g52 := Reg.eval_getD e52
          have g45 := Reg.eval_getD e45
          have hw0 : w_ = W1 := by
            have hk2 : k = 0 ∨ k = 1 := by simp only [List.length_cons, List.length_nil] at hk; omega
            rcases hk2 with rfl | rfl
            · exact hj
            · exact Bool.noConfusion (hmc.symm.trans (show Reg.mayComeB _ _ _ _ = false from by kernel_rfl))
          have k0 := blk_cell HX1.out 0
          have k1 := blk_cell HX1.out 1
          have k2 := blk_cell HX1.out 2
          have kc := HC1.out
          simp only [List.getElem?_toArray, List.getElem?_cons_zero, List.getElem?_cons_succ] at k0 k1 k2
          exact Reg.op_value rfl ((Reg.wanted_of (j := 3) (d := 45) (b := true) rfl (by kernel_rfl) e45).trans rfl) (by rw [hw0]; simp only [List.getElem_toArray, List.getElem_cons_zero, List.getElem_cons_succ, execOp, e52]; go_simp) ⟨_, rfl, rfl, hj⟩
        · skip
          obtain rfl := Reg.oper_eq ho rfl
          have e53 : a.eval (.tmp 53) = .slice A1 cl c1 := hkn.eval 11 53 (by kernel_rfl) (by kernel_rfl)
          have e45 : a.eval (.tmp 45) = .bool true := hkn.eval 3 45 (by kernel_rfl) (by kernel_rfl)
          have g53 := Reg.eval_getD e53
          have g45 := Reg.eval_getD e45
          exact Reg.op_value rfl ((Reg.wanted_of (j := 3) (d := 45) (b := true) rfl (by kernel_rfl) e45).trans rfl) (by simp only [List.getElem_toArray, List.getElem_cons_zero, List.getElem_cons_succ, execOp, e53, e45]; go_simp) ⟨_, rfl, rfl, hj⟩
        · skip
          obtain rfl := Reg.oper_eq ho rfl
          have e46 : a.eval (.tmp 46) = .int .i64 y := hkn.eval 4 46 (by kernel_rfl) (by kernel_rfl)
          have e54 : a.eval (.tmp 54) = .int .i64 (cl : Int) := hkn.eval 12 54 (by kernel_rfl) (by kernel_rfl)
          have e45 : a.eval (.tmp 45) = .bool true := hkn.eval 3 45 (by kernel_rfl) (by kernel_rfl)
          have g46 := Reg.eval_getD e46
          have g54 := Reg.eval_getD e54
          have g45 := Reg.eval_getD e45
          exact Reg.op_value rfl ((Reg.wanted_of (j := 3) (d := 45) (b := true) rfl (by kernel_rfl) e45).trans rfl) (by simp only [List.getElem_toArray, List.getElem_cons_zero, List.getElem_cons_succ, execOp, e46, e54, e45]; go_simp) ⟨_, rfl, rfl, hj⟩
        · skip
          obtain rfl := Reg.oper_eq ho rfl
          have e45 : a.eval (.tmp 45) = .bool true := hkn.eval 3 45 (by kernel_rfl) (by kernel_rfl)
          have e55 : a.eval (.tmp 55) = .bool false := hkn.eval 13 55 (by kernel_rfl) (by kernel_rfl)
          have g45 := Reg.eval_getD e45
          have g55 := Reg.eval_getD e55
          exact Reg.op_value rfl rfl (by simp only [List.getElem_toArray, List.getElem_cons_zero, List.getElem_cons_succ, execOp, e45, e55]; go_simp) ⟨_, rfl, rfl, hj⟩
      case act =>
        intro k o a w_ hk ho hf hst hkn hj
        obtain rfl : k = 0 := by simp only [List.length_cons, List.length_nil] at hk; omega
        · skip
          obtain rfl := Reg.oper_eq ho rfl
          have e42 : a.eval (.tmp 42) = .agg #[.slice (some ad) n c, .int .i64 q, .int .i64 at'] := hkn.eval 0 42 (by kernel_rfl) (by kernel_rfl)
          have e56 : a.eval (.tmp 56) = .bool false := hkn.eval 14 56 (by kernel_rfl) (by kernel_rfl)
          have g42 := Reg.eval_getD e42
          have g56 := Reg.eval_getD e56
          rw [show w_ = W1 from hj]
          refine Reg.op_call (f := 114) (args := #[.agg #[.slice (some ad) n c, .int .i64 q, .int .i64 at'], .bool false, .int .i64 6]) (w' := W1) rfl rfl (by simp only [List.getElem_toArray, List.getElem_cons_zero, List.getElem_cons_succ, execOp, e42, e56]; go_simp) ((vneed_any (some ad) n c q at' false 6 (by decide) W1).mono ?_)
          rintro e w2 ⟨he, hb⟩
          obtain ⟨f', a', e', hne, rfl⟩ := he
          exact .inr ⟨_, rfl, hf.defers, ⟨f', a', e', hne, rfl⟩, HB1.out.trans (hb.mono HB1.out.size)⟩
      case fin =>
        intro a w_ hf hkn hj
        have e42 : Reg.val a 42 = _ := hkn 0 42 (by show _ < _; decide) (by kernel_rfl)
        have e43 : Reg.val a 43 = _ := hkn 1 43 (by show _ < _; decide) (by kernel_rfl)
        have e44 : Reg.val a 44 = _ := hkn 2 44 (by show _ < _; decide) (by kernel_rfl)
        have e45 : Reg.val a 45 = _ := hkn 3 45 (by show _ < _; decide) (by kernel_rfl)
        have e46 : Reg.val a 46 = _ := hkn 4 46 (by show _ < _; decide) (by kernel_rfl)
        have e47 : Reg.val a 47 = _ := hkn 5 47 (by show _ < _; decide) (by kernel_rfl)
        have e48 : Reg.val a 48 = _ := hkn 6 48 (by show _ < _; decide) (by kernel_rfl)
        have e49 : Reg.val a 49 = _ := hkn 7 49 (by show _ < _; decide) (by kernel_rfl)
        have e50 : Reg.val a 50 = _ := hkn 8 50 (by show _ < _; decide) (by kernel_rfl)
        have e51 : Reg.val a 51 = _ := hkn 9 51 (by show _ < _; decide) (by kernel_rfl)
        have e52 : Reg.val a 52 = _ := hkn 10 52 (by show _ < _; decide) (by kernel_rfl)
        have e53 : Reg.val a 53 = _ := hkn 11 53 (by show _ < _; decide) (by kernel_rfl)
        have e54 : Reg.val a 54 = _ := hkn 12 54 (by show _ < _; decide) (by kernel_rfl)
        have e55 : Reg.val a 55 = _ := hkn 13 55 (by show _ < _; decide) (by kernel_rfl)
        have e56 : Reg.val a 56 = _ := hkn 14 56 (by show _ < _; decide) (by kernel_rfl)
        rw [Reg.frm_fold hf [42, 43, 44, 45, 46, 47, 48, 49, 50, 51, 52, 53, 54, 55, 56, 57] (by kernel_rfl) (by kernel_rfl)]
        simp only [List.foldl_cons, List.foldl_nil, Act.put, List.setIfInBounds_toArray, List.set_cons_zero, List.set_cons_succ, e42, e43, e44, e45, e46, e47, e48, e49, e50, e51, e52, e53, e54, e55, e56]
        generalize Reg.val a 57 = v57_ at *
        clear hkn hf e42 e43 e44 e45 e46 e47 e48 e49 e50 e51 e52 e53 e54 e55 e56
        exact absurd hj.2 (by decide)
  · have g1 : decide (y ≥ 0) = false := decide_eq_false h1
    have hf : fieldB n cl y 5 = false := by simp [fieldB, h1]
    rw [hf]
    clear hf
    go_enter Tryz.func158, Tryz.ntmps158
    go_wp2_with fail
    obtain ⟨W1, hW1⟩ : ∃ X, (w.alloc (.cells #[.slice (some ad) n c, .int .i64 q, .int .i64 at'] 210)).drew = X := ⟨_, rfl⟩
    have HB1 : Hid (Below w.heap.size w W1) := by rw [← hW1]; exact below_drew ((Below.refl _ _).alloc (Nat.le_refl _) _)
    have HX1 : Hid (W1.heap[w.heap.size]? = some (.cells #[.slice (some ad) n c, .int .i64 q, .int .i64 at'] 210 (0, 0))) := by rw [← hW1]; exact heap_alloc_new _ _
    have HC1 := Lib.hid ((HB1.out.cell (World.block_lt_of_cell? w _ hc1)).trans hc1)
    have HW1 := Lib.hid hW1
    clear hW1
    refine Reg.wp_region_phase (by kernel_rfl) [15] (fun i => match i with | 0 => fun v => v = .agg #[.slice (some ad) n c, .int .i64 q, .int .i64 at'] | 1 => fun v => v = .int .i64 y | 2 => fun v => v = .bool false | 3 => fun v => v = .bool false | 4 => fun v => v = undef | 5 => fun v => v = undef | 6 => fun v => v = undef | 7 => fun v => v = undef | 8 => fun v => v = undef | 9 => fun v => v = undef | 10 => fun v => v = undef | 11 => fun v => v = undef | 12 => fun v => v = undef | 13 => fun v => v = undef | 14 => fun v => v = .bool false | _ => fun _ => True) (fun k _ Wx => match k with | 0 => Wx = W1 | _ => Below w.heap.size w Wx ∧ false = true) (by kernel_rfl) (by kernel_rfl) (by decide) (by decide) ?hJ ?h0 ?pure ?act ?fin
    case hJ => intro k f f' W h hj; exact hj
    case h0 => exact HW1.out
    case pure =>
      intro i o k a w_ ho hE hk hmc hf hst hkn hj
      have hi : i < 16 := (Array.getElem?_eq_some_iff.1 ho).1
      obtain rfl | rfl | rfl | rfl | rfl | rfl | rfl | rfl | rfl | rfl | rfl | rfl | rfl | rfl | rfl : i = 0 ∨ i = 1 ∨ i = 2 ∨ i = 3 ∨ i = 4 ∨ i = 5 ∨ i = 6 ∨ i = 7 ∨ i = 8 ∨ i = 9 ∨ i = 10 ∨ i = 11 ∨ i = 12 ∨ i = 13 ∨ i = 14 := by
        simp only [List.mem_cons, List.not_mem_nil, or_false, not_or] at hE
        omega
      · skip
        obtain rfl := Reg.oper_eq ho rfl
        have e3 : a.eval (.tmp 3) = .pointer (some ⟨w.heap.size, 0, none⟩) := (hf.eval 3 (by kernel_rfl)).trans rfl
        have g3 := Reg.eval_getD e3
        have hw0 : w_ = W1 := by
          have hk2 : k = 0 ∨ k = 1 := by simp only [List.length_cons, List.length_nil] at hk; omega
          rcases hk2 with rfl | rfl
          · exact hj
          · exact Bool.noConfusion (hmc.symm.trans (show Reg.mayComeB _ _ _ _ = false from by kernel_rfl))
        have k0 := blk_cell HX1.out 0
        have k1 := blk_cell HX1.out 1
        have k2 := blk_cell HX1.out 2
        have kc := HC1.out
        simp only [List.getElem?_toArray, List.getElem?_cons_zero, List.getElem?_cons_succ] at k0 k1 k2
        exact Reg.op_value rfl rfl (by rw [hw0]; simp only [List.getElem_toArray, List.getElem_cons_zero, List.getElem_cons_succ, execOp, e3]; go_simp) ⟨_, rfl, rfl, hj⟩
      · skip
        obtain rfl := Reg.oper_eq ho rfl
        have e1 : a.eval (.tmp 1) = .int .i64 y := (hf.eval 1 (by kernel_rfl)).trans rfl
        have g1 := Reg.eval_getD e1
        exact Reg.op_value rfl rfl (by simp only [List.getElem_toArray, List.getElem_cons_zero, List.getElem_cons_succ, execOp, e1]; go_simp) ⟨_, rfl, rfl, hj⟩
      · skip
        obtain rfl := Reg.oper_eq ho rfl
        have e43 : a.eval (.tmp 43) = .int .i64 y := hkn.eval 1 43 (by kernel_rfl) (by kernel_rfl)
        have g43 := Reg.eval_getD e43
        exact Reg.op_value rfl rfl (by simp only [List.getElem_toArray, List.getElem_cons_zero, List.getElem_cons_succ, execOp, e43]; go_simp) ⟨_, rfl, rfl, hj⟩
      · skip
        obtain rfl := Reg.oper_eq ho rfl
        have e44 : a.eval (.tmp 44) = .bool false := hkn.eval 2 44 (by kernel_rfl) (by kernel_rfl)
        have g44 := Reg.eval_getD e44
        exact Reg.op_value rfl rfl (by simp only [List.getElem_toArray, List.getElem_cons_zero, List.getElem_cons_succ, execOp, e44]; go_simp) ⟨_, rfl, rfl, hj⟩
      · skip
        obtain rfl := Reg.oper_eq ho rfl
        have e1 : a.eval (.tmp 1) = .int .i64 y := (hf.eval 1 (by kernel_rfl)).trans rfl
        have e45 : a.eval (.tmp 45) = .bool false := hkn.eval 3 45 (by kernel_rfl) (by kernel_rfl)
        have g1 := Reg.eval_getD e1
        have g45 := Reg.eval_getD e45
        exact Reg.op_skip rfl ((Reg.wanted_of (j := 3) (d := 45) (b := true) rfl (by kernel_rfl) e45).trans rfl) ⟨_, rfl, rfl, hj⟩
      · skip
        obtain rfl := Reg.oper_eq ho rfl
        have e3 : a.eval (.tmp 3) = .pointer (some ⟨w.heap.size, 0, none⟩) := (hf.eval 3 (by kernel_rfl)).trans rfl
        have e45 : a.eval (.tmp 45) = .bool false := hkn.eval 3 45 (by kernel_rfl) (by kernel_rfl)
        have g3 := Reg.eval_getD e3
        have g45 := Reg.eval_getD e45
        exact Reg.op_skip rfl ((Reg.wanted_of (j := 3) (d := 45) (b := true) rfl (by kernel_rfl) e45).trans rfl) ⟨_, rfl, rfl, hj⟩
      · skip
        obtain rfl := Reg.oper_eq ho rfl
        have e47 : a.eval (.tmp 47) = undef := hkn.eval 5 47 (by kernel_rfl) (by kernel_rfl)
        have e45 : a.eval (.tmp 45) = .bool false := hkn.eval 3 45 (by kernel_rfl) (by kernel_rfl)
        have g47 := Reg.eval_getD e47
        have g45 := Reg.eval_getD e45
        exact Reg.op_skip rfl ((Reg.wanted_of (j := 3) (d := 45) (b := true) rfl (by kernel_rfl) e45).trans rfl) ⟨_, rfl, rfl, hj⟩
      · skip
        obtain rfl := Reg.oper_eq ho rfl
        have e3 : a.eval (.tmp 3) = .pointer (some ⟨w.heap.size, 0, none⟩) := (hf.eval 3 (by kernel_rfl)).trans rfl
        have e45 : a.eval (.tmp 45) = .bool false := hkn.eval 3 45 (by kernel_rfl) (by kernel_rfl)
        have g3 := Reg.eval_getD e3
        have g45 := Reg.eval_getD e45
        exact Reg.op_skip rfl ((Reg.wanted_of (j := 3) (d := 45) (b := true) rfl (by kernel_rfl) e45).trans rfl) ⟨_, rfl, rfl, hj⟩
      · skip
        obtain rfl := Reg.oper_eq ho rfl
        have e49 : a.eval (.tmp 49) = undef := hkn.eval 7 49 (by kernel_rfl) (by kernel_rfl)
        have e45 : a.eval (.tmp 45) = .bool false := hkn.eval 3 45 (by kernel_rfl) (by kernel_rfl)
        have g49 := Reg.eval_getD e49
        have g45 := Reg.eval_getD e45
        exact Reg.op_skip rfl ((Reg.wanted_of (j := 3) (d := 45) (b := true) rfl (by kernel_rfl) e45).trans rfl) ⟨_, rfl, rfl, hj⟩
      · skip
        obtain rfl := Reg.oper_eq ho rfl
        have e48 : a.eval (.tmp 48) = undef := hkn.eval 6 48 (by kernel_rfl) (by kernel_rfl)
        have e50 : a.eval (.tmp 50) = undef := hkn.eval 8 50 (by kernel_rfl) (by kernel_rfl)
        have e45 : a.eval (.tmp 45) = .bool false := hkn.eval 3 45 (by kernel_rfl) (by kernel_rfl)
        have g48 := Reg.eval_getD e48
        have g50 := Reg.eval_getD e50
        have g45 := Reg.eval_getD e45
        exact Reg.op_skip rfl ((Reg.wanted_of (j := 3) (d := 45) (b := true) rfl (by kernel_rfl) e45).trans rfl) ⟨_, rfl, rfl, hj⟩
      · skip
        obtain rfl := Reg.oper_eq ho rfl
        have e51 : a.eval (.tmp 51) = undef := hkn.eval 9 51 (by kernel_rfl) (by kernel_rfl)
        have e45 : a.eval (.tmp 45) = .bool false := hkn.eval 3 45 (by kernel_rfl) (by kernel_rfl)
        have g51 := Reg.eval_getD e51
        have g45 := Reg.eval_getD e45
        exact Reg.op_skip rfl ((Reg.wanted_of (j := 3) (d := 45) (b := true) rfl (by kernel_rfl) e45).trans rfl) ⟨_, rfl, rfl, hj⟩
      · skip
        obtain rfl := Reg.oper_eq ho rfl
        have e52 : a.eval (.tmp 52) = undef := hkn.eval 10 52 (by kernel_rfl) (by kernel_rfl)
        have e45 : a.eval (.tmp 45) = .bool false := hkn.eval 3 45 (by kernel_rfl) (by kernel_rfl)
        have g52 := Reg.eval_getD e52
        have g45 := Reg.eval_getD e45
        exact Reg.op_skip rfl ((Reg.wanted_of (j := 3) (d := 45) (b := true) rfl (by kernel_rfl) e45).trans rfl) ⟨_, rfl, rfl, hj⟩
      · skip
        obtain rfl := Reg.oper_eq ho rfl
        have e53 : a.eval (.tmp 53) = undef := hkn.eval 11 53 (by kernel_rfl) (by kernel_rfl)
        have e45 : a.eval (.tmp 45) = .bool false := hkn.eval 3 45 (by kernel_rfl) (by kernel_rfl)
        have g53 := Reg.eval_getD e53
        have g45 := Reg.eval_getD e45
        exact Reg.op_skip rfl ((Reg.wanted_of (j := 3) (d := 45) (b := true) rfl (by kernel_rfl) e45).trans rfl) ⟨_, rfl, rfl, hj⟩
      · skip
        obtain rfl := Reg.oper_eq ho rfl
        have e46 : a.eval (.tmp 46) = undef := hkn.eval 4 46 (by kernel_rfl) (by kernel_rfl)
        have e54 : a.eval (.tmp 54) = undef := hkn.eval 12 54 (by kernel_rfl) (by kernel_rfl)
        have e45 : a.eval (.tmp 45) = .bool false := hkn.eval 3 45 (by kernel_rfl) (by kernel_rfl)
        have g46 := Reg.eval_getD e46
        have g54 := Reg.eval_getD e54
        have g45 := Reg.eval_getD e45
        exact Reg.op_skip rfl ((Reg.wanted_of (j := 3) (d := 45) (b := true) rfl (by kernel_rfl) e45).trans rfl) ⟨_, rfl, rfl, hj⟩
      · skip
        obtain rfl := Reg.oper_eq ho rfl
        have e45 : a.eval (.tmp 45) = .bool false := hkn.eval 3 45 (by kernel_rfl) (by kernel_rfl)
        have e55 : a.eval (.tmp 55) = undef := hkn.eval 13 55 (by kernel_rfl) (by kernel_rfl)
        have g45 := Reg.eval_getD e45
        have g55 := Reg.eval_getD e55
        exact Reg.op_value rfl rfl (by simp only [List.getElem_toArray, List.getElem_cons_zero, List.getElem_cons_succ, execOp, e45, e55]; go_simp) ⟨_, rfl, rfl, hj⟩
    case act =>
      intro k o a w_ hk ho hf hst hkn hj
      obtain rfl : k = 0 := by simp only [List.length_cons, List.length_nil] at hk; omega
      · skip
        obtain rfl := Reg.oper_eq ho rfl
        have e42 : a.eval (.tmp 42) = .agg #[.slice (some ad) n c, .int .i64 q, .int .i64 at'] := hkn.eval 0 42 (by kernel_rfl) (by kernel_rfl)
        have e56 : a.eval (.tmp 56) = .bool false := hkn.eval 14 56 (by kernel_rfl) (by kernel_rfl)
        have g42 := Reg.eval_getD e42
        have g56 := Reg.eval_getD e56
        rw [show w_ = W1 from hj]
        refine Reg.op_call (f := 114) (args := #[.agg #[.slice (some ad) n c, .int .i64 q, .int .i64 at'], .bool false, .int .i64 6]) (w' := W1) rfl rfl (by simp only [List.getElem_toArray, List.getElem_cons_zero, List.getElem_cons_succ, execOp, e42, e56]; go_simp) ((vneed_any (some ad) n c q at' false 6 (by decide) W1).mono ?_)
        rintro e w2 ⟨he, hb⟩
        obtain ⟨f', a', e', hne, rfl⟩ := he
        exact .inr ⟨_, rfl, hf.defers, ⟨f', a', e', hne, rfl⟩, HB1.out.trans (hb.mono HB1.out.size)⟩
    case fin =>
      intro a w_ hf hkn hj
      have e42 : Reg.val a 42 = _ := hkn 0 42 (by show _ < _; decide) (by kernel_rfl)
      have e43 : Reg.val a 43 = _ := hkn 1 43 (by show _ < _; decide) (by kernel_rfl)
      have e44 : Reg.val a 44 = _ := hkn 2 44 (by show _ < _; decide) (by kernel_rfl)
      have e45 : Reg.val a 45 = _ := hkn 3 45 (by show _ < _; decide) (by kernel_rfl)
      have e46 : Reg.val a 46 = _ := hkn 4 46 (by show _ < _; decide) (by kernel_rfl)
      have e47 : Reg.val a 47 = _ := hkn 5 47 (by show _ < _; decide) (by kernel_rfl)
      have e48 : Reg.val a 48 = _ := hkn 6 48 (by show _ < _; decide) (by kernel_rfl)
      have e49 : Reg.val a 49 = _ := hkn 7 49 (by show _ < _; decide) (by kernel_rfl)
      have e50 : Reg.val a 50 = _ := hkn 8 50 (by show _ < _; decide) (by kernel_rfl)
      have e51 : Reg.val a 51 = _ := hkn 9 51 (by show _ < _; decide) (by kernel_rfl)
      have e52 : Reg.val a 52 = _ := hkn 10 52 (by show _ < _; decide) (by kernel_rfl)
      have e53 : Reg.val a 53 = _ := hkn 11 53 (by show _ < _; decide) (by kernel_rfl)
      have e54 : Reg.val a 54 = _ := hkn 12 54 (by show _ < _; decide) (by kernel_rfl)
      have e55 : Reg.val a 55 = _ := hkn 13 55 (by show _ < _; decide) (by kernel_rfl)
      have e56 : Reg.val a 56 = _ := hkn 14 56 (by show _ < _; decide) (by kernel_rfl)
      rw [Reg.frm_fold hf [42, 43, 44, 45, 46, 47, 48, 49, 50, 51, 52, 53, 54, 55, 56, 57] (by kernel_rfl) (by kernel_rfl)]
      simp only [List.foldl_cons, List.foldl_nil, Act.put, List.setIfInBounds_toArray, List.set_cons_zero, List.set_cons_succ, e42, e43, e44, e45, e46, e47, e48, e49, e50, e51, e52, e53, e54, e55, e56]
      generalize Reg.val a 57 = v57_ at *
      clear hkn hf e42 e43 e44 e45 e46 e47 e48 e49 e50 e51 e52 e53 e54 e55 e56
      exact absurd hj.2 (by decide)
end Go.Proofs.YtbiajfkencamiaaGreatDoor.Core
