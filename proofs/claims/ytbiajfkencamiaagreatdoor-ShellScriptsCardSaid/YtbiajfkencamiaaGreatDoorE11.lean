/- eval: may a program run; what Eval's deferred function does. -/
import Derived.Test.YtbiajfkencamiaaGreatDoorE10
import Derived.Laws.Rows
/-! E11 -/
namespace Go.Proofs.YtbiajfkencamiaaGreatDoor.EV
open Go.Proofs.YtbiajfkencamiaaGreatDoorW.PrintMore Go.Proofs.YtbiajfkencamiaaGreatDoor Go.Proofs.YtbiajfkencamiaaGreatDoor.Core Go.RowKit Go.Proofs.YtbiajfkencamiaaGreatDoorW.PrintWords
open Go.Proofs.YtbiajfkencamiaaGreatDoor.PK (S121 k121 z121 S124 k124 z124 at_T124 at_T121 rd_T124 rd_T121)
set_option linter.unusedVariables false
set_option linter.unusedSimpArgs false
def limB (B D : Int) : Bool := decide (1 ≤ B) && decide (B ≤ 10000) && (decide (0 ≤ D) && decide (D ≤ 30))
/-- May a program run, with so many arguments? -/
def rightB (p : List Fn) (an : Nat) (B D : Int) : Bool := validB p && limB B D && ((an : Int) == arityOf p 0)
set_option maxRecDepth 100000 in
set_option maxHeartbeats 4000000 in
theorem right_any (p : List Fn) (A : Option Addr) (c : Nat) (sp : Option Addr) (an ac : Nat) (B D : Int) (w : World) (hC : Kd.C k124 w A p.length (p.map toP)) :
    Calls Tryz.prog 67 #[.slice A p.length c, .slice sp an ac, .agg #[.int .i64 B, .int .i64 D]] w fun e w' => e = .returned (.bool (rightB p an B D)) ∧ Below w.heap.size w w' := by
  obtain ⟨W0, hW0⟩ : ∃ X : World, X = w.alloc (.cells #[.int .i64 B, .int .i64 D] 35) := ⟨_, rfl⟩
  have hb0 : Below w.heap.size w W0 := by rw [hW0]; exact (Below.refl _ _).alloc (Nat.le_refl _) _
  have hbk : W0.heap[w.heap.size]? = some (.cells #[.int .i64 B, .int .i64 D] 35 (0, 0)) := by rw [hW0]; exact heap_alloc_new _ _
  have HC0 := Lib.hid (Kd.C_below hC hb0)
  have HV := Lib.hid (vcheck_any p A c W0 HC0.out)
  have HB0 := Lib.hid hb0
  have HBK := Lib.hid hbk
  have HW0 := Lib.hid hW0
  obtain ⟨n, hn⟩ : ∃ n, n = p.length := ⟨_, rfl⟩
  rw [← hn] at HV ⊢
  obtain ⟨r, hr⟩ : ∃ r, rightB p an B D = r := ⟨_, rfl⟩
  rw [hr]
  have HR := Lib.hid hr
  have HN := Lib.hid hn
  clear hC hb0 hbk hW0 hn hr
  go_enter Tryz.func67, Tryz.ntmps67
  go_wp2_with fail
  rw [← HW0.out]
  refine HV.out.mono ?_
  rintro _ w1 ⟨f', at', er, rfl, hok, hb1⟩
  have HB1 : Hid (Below w.heap.size w w1) := HB0.out.trans (hb1.mono HB0.out.size)
  have hbk1 := blk_below HBK.out hb1
  have c0 := (blk_cell hbk1 0).trans rfl
  have c1 := (blk_cell hbk1 1).trans rfl
  have HC1 := Lib.hid (Kd.C_below HC0.out hb1)
  clear hb1 hbk1 HV
  cases hv : validB p with
  | false =>
    have he : er ≠ 0 := fun h => by
      have := hok.2 h
      rw [hv] at this
      cases this
    have e1 : (er != 0) = true := by simpa using he
    have e2 : (er == 0) = false := by simpa using he
    have HF : Hid (r = false) := by show r = false; rw [← HR.out]; unfold rightB; rw [hv]; rfl
    clear hok hv he
    go_wp2_with fail
    go_ret
    rw [HF.out]
    exact ⟨rfl, HB1.out⟩
  | true =>
    have he : er = 0 := hok.1 hv
    subst he
    have HVV := Lib.hid hv
    clear hok hv
    by_cases hl : limB B D = true
    · have hq : 1 ≤ B ∧ B ≤ 10000 ∧ 0 ≤ D ∧ D ≤ 30 := by
        unfold limB at hl
        simp only [Bool.and_eq_true, decide_eq_true_eq] at hl
        exact ⟨hl.1.1, hl.1.2, hl.2.1, hl.2.2⟩
      have q1 : ¬ B < 1 := by omega
      have q2 : ¬ (10000 : Int) < B := by omega
      have q3 : ¬ D < 0 := by omega
      have q4 : ¬ (30 : Int) < D := by omega
      have d1 : decide (B < 1) = false := decide_eq_false q1
      have d2 : decide (B > 10000) = false := decide_eq_false q2
      have d3 : decide (D < 0) = false := decide_eq_false q3
      have d4 : decide (D > 30) = false := decide_eq_false q4
      have hp1 := (valid_len HVV.out).1
      obtain ⟨ad, A1, c1', hA, f0, _⟩ := at_T124 HC1.out 0 (by omega) (by omega)
      have e1 : rd_T124 (p.map toP) 0 = toP (p.getD 0 (0, [])) := rd49 p 0 (by omega)
      rw [e1] at f0
      have f0' : w1.cell? ad = some (.int .i64 (arityOf p 0)) := by
        have e : (ad.add (Int.toNat 0 * 2)) = ad := by
          show ad.add 0 = ad
          unfold Addr.add
          split <;> simp_all
        rw [e] at f0
        exact f0
      have HF : Hid (r = ((an : Int) == arityOf p 0)) := by show r = _; rw [← HR.out]; unfold rightB; rw [HVV.out, hl]; rfl
      subst hA
      have i0 : (0 : Int) < (n : Int) := by have := HN.out; omega
      clear hl hq f0 e1 hp1
      go_wp2_with fail
      go_ret
      rw [HF.out]
      exact ⟨rfl, HB1.out⟩
    · have HF : Hid (r = false) := by show r = false; rw [← HR.out]; unfold rightB; rw [Bool.not_eq_true] at hl; rw [hl]; cases validB p <;> rfl
      by_cases q1 : B < 1
      · have d1 : decide (B < 1) = true := decide_eq_true q1
        clear hl
        go_wp2_with fail
        go_ret
        rw [HF.out]
        exact ⟨rfl, HB1.out⟩
      · have d1 : decide (B < 1) = false := decide_eq_false q1
        by_cases q2 : (10000 : Int) < B
        · have d2 : decide (B > 10000) = true := decide_eq_true q2
          clear hl
          go_wp2_with fail
          go_ret
          rw [HF.out]
          exact ⟨rfl, HB1.out⟩
        · have d2 : decide (B > 10000) = false := decide_eq_false q2
          by_cases q3 : D < 0
          · have d3 : decide (D < 0) = true := decide_eq_true q3
            clear hl
            go_wp2_with fail
            go_ret
            rw [HF.out]
            exact ⟨rfl, HB1.out⟩
          · have d3 : decide (D < 0) = false := decide_eq_false q3
            have q4 : (30 : Int) < D := by
              refine Classical.byContradiction fun h => hl ?_
              unfold limB
              rw [decide_eq_true (show 1 ≤ B by omega), decide_eq_true (show B ≤ 10000 by omega), decide_eq_true (show 0 ≤ D by omega), decide_eq_true (show D ≤ 30 by omega)]
              rfl
            have d4 : decide (D > 30) = true := decide_eq_true q4
            clear hl
            go_wp2_with fail
            go_ret
            rw [HF.out]
            exact ⟨rfl, HB1.out⟩
set_option maxRecDepth 100000 in
theorem ecatch_idle (p q r : Addr) (w : World) :
    CallsD Tryz.prog 80 #[.pointer (some p), .pointer (some q), .pointer (some r)] .returning w fun en u' w' => en = .returned (.tuple #[]) ∧ u' = .returning ∧ w' = w := by
  refine callsD_of_wpS Tryz.func80 rfl fun c₀ cs hu => ?_
  apply wpS_seq
  apply wpS_region
  simp [wpOpsS, go_sem, recoverD, hu, Tryz.ntmps80, Exit.thenS]
  refine wpS_of_wp ?_
  simp only [Array.replicate_succ, Array.replicate_zero, List.push_toArray, List.append_toArray, List.nil_append, List.cons_append, List.setIfInBounds_toArray, List.set_cons_zero, List.set_cons_succ]
  go_wp2_with fail
  cases c₀
  simp_all [bodyPostS, results, Tryz.results80]
abbrev res0 : Array Value := #[.int .i64 0, .int .i64 0, .slice none 0 0, .slice none 0 0]
/-- What is left behind a catch: the two results. -/
structure ECt (gw b8 b9 : Nat) (rv : Array Value) (er : Int) (w w' : World) : Prop where
  x8 : w'.heap[b8]? = some (.cells rv 91 (0, 0))
  x9 : w'.heap[b9]? = some (.cells #[.int .i64 er] 29 (0, 0))
  kq : Kq [142, 91, 29] w w'
  bel : ∀ bs, bs ≤ gw → bs ≤ b8 → bs ≤ b9 → bs ≤ w.heap.size → Below bs w w'
theorem Kq.set3 {ts : List Nat} {w W : World} (h : Kq ts w W) {b : Nat} {cb : Array Value} {tb : Nat} (hb : W.heap[b]? = some (Obj.cells cb tb (0, 0))) (ht : tb ∈ ts) (j : Nat) (v : Value) : Kq ts w (W.setCell ⟨b, j, none⟩ v) := h.trans (Kq.set hb ht j v)
set_option maxRecDepth 100000 in
set_option maxHeartbeats 4000000 in
theorem ecatch_fail (gv b8 b9 gw : Nat) (pv : Value) (TA LA : Option Addr) (tn tc ln lc : Nat) (B D left why : Int) (older : List PanicEntry) (w : World) (hv : w.heap[gv]? = some (.cells #[.pointer (some ⟨gw, 0, none⟩)] 140 (0, 0))) (hw : w.heap[gw]? = some (.cells #[pv, .int .i64 B, .int .i64 D, .int .i64 left, .int .i64 0, .int .i64 0, .slice TA tn tc, .slice LA ln lc] 142 (0, 0))) (h8 : w.heap[b8]? = some (.cells res0 91 (0, 0))) (h9 : w.heap[b9]? = some (.cells #[.int .i64 0] 29 (0, 0))) :
    CallsD Tryz.prog 80 #[.pointer (some ⟨gv, 0, none⟩), .pointer (some ⟨b8, 0, none⟩), .pointer (some ⟨b9, 0, none⟩)] (.panicking ({ v := .iface 144 (.agg #[.int .i64 why]), recovered := false } :: older)) w fun en u' w' =>
      en = .returned (.tuple #[]) ∧ u' = .panicking ({ v := .iface 144 (.agg #[.int .i64 why]), recovered := true } :: older) ∧ ECt gw b8 b9 #[.int .i64 0, .int .i64 why, .slice TA tn tc, .slice LA ln lc] 0 w w' := by
  have hta : ∀ (w : World), (Instr.typeAssert (.iface 144 (.agg #[.int .i64 why])) 20 144 true).run Tryz.prog w = .ok (.tuple #[.agg #[.int .i64 why], .bool true]) w := fun _ => by kernel_rfl
  have ha : Below w.heap.size w (w.alloc (.cells #[.int .i64 why] 144)) := (Below.refl _ _).alloc (Nat.le_refl _) _
  have hv1 := blk_below hv ha
  have hw1 := blk_below hw ha
  have h81 := blk_below h8 ha
  have h91 := blk_below h9 ha
  have n1 : ¬ gw = gv := fun e => by rw [e, hv] at hw; cases hw
  have n2 : ¬ gw = b8 := fun e => by rw [e, h8] at hw; cases hw
  have n3 : ¬ gw = b9 := fun e => by rw [e, h9] at hw; cases hw
  have n4 : ¬ b8 = b9 := fun e => by rw [e, h9] at h8; cases h8
  have n5 : ¬ gv = b8 := fun e => by rw [e, h8] at hv; cases hv
  have n6 : ¬ gv = b9 := fun e => by rw [e, h9] at hv; cases hv
  have m1 : ¬ gv = gw := fun e => n1 e.symm
  have m2 : ¬ b8 = gw := fun e => n2 e.symm
  have m3 : ¬ b9 = gw := fun e => n3 e.symm
  have m4 : ¬ b9 = b8 := fun e => n4 e.symm
  have m5 : ¬ b8 = gv := fun e => n5 e.symm
  have m6 : ¬ b9 = gv := fun e => n6 e.symm
  have HFIN : Hid (ECt gw b8 b9 #[.int .i64 0, .int .i64 why, .slice TA tn tc, .slice LA ln lc] 0 w (((((((((w.alloc (.cells #[.int .i64 why] 144)).setCell ⟨gw, 5, none⟩ (.int .i64 why)).setCell ⟨gw, 4, none⟩ (.int .i64 0)).setCell ⟨b8, 0, none⟩ (.int .i64 0)).setCell ⟨b8, 1, none⟩ (.int .i64 why)).setCell ⟨b8, 2, none⟩ (.slice TA tn tc)).setCell ⟨b8, 3, none⟩ (.slice LA ln lc)).setCell ⟨b9, 0, none⟩ (.int .i64 0)))) := by
    have g1 := blk_set hw1 5 (.int .i64 why)
    have a1 := blk_far (p := ⟨gw, 4, none⟩) (blk_far (p := ⟨gw, 5, none⟩) h81 m2 (.int .i64 why)) m2 (.int .i64 0)
    have a2 := blk_set a1 0 (.int .i64 0)
    have a3 := blk_set a2 1 (.int .i64 why)
    have a4 := blk_set a3 2 (.slice TA tn tc)
    have a5 := blk_set a4 3 (.slice LA ln lc)
    have e1 := blk_far (p := ⟨b8, 3, none⟩) (blk_far (p := ⟨b8, 2, none⟩) (blk_far (p := ⟨b8, 1, none⟩) (blk_far (p := ⟨b8, 0, none⟩) (blk_far (p := ⟨gw, 4, none⟩) (blk_far (p := ⟨gw, 5, none⟩) h91 m3 (.int .i64 why)) m3 (.int .i64 0)) m4 (.int .i64 0)) m4 (.int .i64 why)) m4 (.slice TA tn tc)) m4 (.slice LA ln lc)
    refine ⟨blk_far a5 n4 _, blk_set e1 0 _, ?_, fun bs q1 q2 q3 q4 => ?_⟩
    · exact (((((((((Kq.below ha).set3 hw1 (by simp) _ _).set3 g1 (by simp) _ _).set3 a1 (by simp) _ _).set3 a2 (by simp) _ _).set3 a3 (by simp) _ _).set3 a4 (by simp) _ _)).set3 e1 (by simp) _ _)
    · exact ((((((((ha.mono q4).setCell (p := ⟨gw, 5, none⟩) q1 _).setCell (p := ⟨gw, 4, none⟩) q1 _).setCell (p := ⟨b8, 0, none⟩) q2 _).setCell (p := ⟨b8, 1, none⟩) q2 _).setCell (p := ⟨b8, 2, none⟩) q2 _).setCell (p := ⟨b8, 3, none⟩) q2 _).setCell (p := ⟨b9, 0, none⟩) q3 _)
  have cv := (blk_cell hv1 0).trans rfl
  have c0 := (blk_cell hw1 4).trans rfl
  have c1 := (blk_cell hw1 5).trans rfl
  have c2 := (blk_cell hw1 6).trans rfl
  have c3 := (blk_cell hw1 7).trans rfl
  have z0 := blk_frozen hw1 4
  have z1 := blk_frozen hw1 5
  have k0 := (blk_cell h81 0).trans rfl
  have k1 := (blk_cell h81 1).trans rfl
  have k2 := (blk_cell h81 2).trans rfl
  have k3 := (blk_cell h81 3).trans rfl
  have k4 := (blk_cell h91 0).trans rfl
  have y0 := blk_frozen h81 0
  have y1 := blk_frozen h81 1
  have y2 := blk_frozen h81 2
  have y3 := blk_frozen h81 3
  have y4 := blk_frozen h91 0
  clear hv hw h8 h9 ha hv1 hw1 h81 h91
  refine callsD_of_wpS Tryz.func80 rfl fun c₀ cs hu => ?_
  apply wpS_seq
  apply wpS_region
  simp [wpOpsS, go_sem, recoverD, hu, Tryz.ntmps80, Exit.thenS]
  refine wpS_of_wp ?_
  simp only [Array.replicate_succ, Array.replicate_zero, List.push_toArray, List.append_toArray, List.nil_append, List.cons_append, List.setIfInBounds_toArray, List.set_cons_zero, List.set_cons_succ]
  go_wp2_with fail
  simp [bodyPostS, results, Tryz.results80]
  exact HFIN.out
set_option maxRecDepth 100000 in
set_option maxHeartbeats 4000000 in
theorem ecatch_long (gv b8 b9 gw : Nat) (older : List PanicEntry) (w : World) (h8 : w.heap[b8]? = some (.cells res0 91 (0, 0))) (h9 : w.heap[b9]? = some (.cells #[.int .i64 0] 29 (0, 0))) :
    CallsD Tryz.prog 80 #[.pointer (some ⟨gv, 0, none⟩), .pointer (some ⟨b8, 0, none⟩), .pointer (some ⟨b9, 0, none⟩)] (.panicking ({ v := .iface 146 (.agg #[]), recovered := false } :: older)) w fun en u' w' =>
      en = .returned (.tuple #[]) ∧ u' = .panicking ({ v := .iface 146 (.agg #[]), recovered := true } :: older) ∧ ECt gw b8 b9 res0 3 w w' := by
  have hta : ∀ (w : World), (Instr.typeAssert (.iface 146 (.agg #[])) 20 144 true).run Tryz.prog w = .ok (.tuple #[.agg #[.int .i64 0], .bool false]) w := fun _ => by kernel_rfl
  have htb : ∀ (w : World), (Instr.typeAssert (.iface 146 (.agg #[])) 20 146 true).run Tryz.prog w = .ok (.tuple #[.agg #[], .bool true]) w := fun _ => by kernel_rfl
  have ha : Below w.heap.size w (w.alloc (.cells #[] 146)) := (Below.refl _ _).alloc (Nat.le_refl _) _
  have h81 := blk_below h8 ha
  have h91 := blk_below h9 ha
  have n4 : ¬ b8 = b9 := fun e => by rw [e, h9] at h8; cases h8
  have m4 : ¬ b9 = b8 := fun e => n4 e.symm
  have HFIN : Hid (ECt gw b8 b9 res0 3 w ((((((w.alloc (.cells #[] 146)).setCell ⟨b8, 0, none⟩ (.int .i64 0)).setCell ⟨b8, 1, none⟩ (.int .i64 0)).setCell ⟨b8, 2, none⟩ (.slice none 0 0)).setCell ⟨b8, 3, none⟩ (.slice none 0 0)).setCell ⟨b9, 0, none⟩ (.int .i64 3))) := by
    have a2 := blk_set h81 0 (.int .i64 0)
    have a3 := blk_set a2 1 (.int .i64 0)
    have a4 := blk_set a3 2 (.slice none 0 0)
    have a5 := blk_set a4 3 (.slice none 0 0)
    have e1 := blk_far (p := ⟨b8, 3, none⟩) (blk_far (p := ⟨b8, 2, none⟩) (blk_far (p := ⟨b8, 1, none⟩) (blk_far (p := ⟨b8, 0, none⟩) h91 m4 (.int .i64 0)) m4 (.int .i64 0)) m4 (.slice none 0 0)) m4 (.slice none 0 0)
    refine ⟨blk_far a5 n4 _, blk_set e1 0 _, ?_, fun bs q1 q2 q3 q4 => ?_⟩
    · exact ((((((Kq.below ha).set3 h81 (by simp) _ _).set3 a2 (by simp) _ _).set3 a3 (by simp) _ _).set3 a4 (by simp) _ _)).set3 e1 (by simp) _ _
    · exact (((((ha.mono q4).setCell (p := ⟨b8, 0, none⟩) q2 _).setCell (p := ⟨b8, 1, none⟩) q2 _).setCell (p := ⟨b8, 2, none⟩) q2 _).setCell (p := ⟨b8, 3, none⟩) q2 _).setCell (p := ⟨b9, 0, none⟩) q3 _
  have k0 := (blk_cell h81 0).trans rfl
  have k1 := (blk_cell h81 1).trans rfl
  have k2 := (blk_cell h81 2).trans rfl
  have k3 := (blk_cell h81 3).trans rfl
  have k4 := (blk_cell h91 0).trans rfl
  have y0 := blk_frozen h81 0
  have y1 := blk_frozen h81 1
  have y2 := blk_frozen h81 2
  have y3 := blk_frozen h81 3
  have y4 := blk_frozen h91 0
  clear h8 h9 ha h81 h91
  refine callsD_of_wpS Tryz.func80 rfl fun c₀ cs hu => ?_
  apply wpS_seq
  apply wpS_region
  simp [wpOpsS, go_sem, recoverD, hu, Tryz.ntmps80, Exit.thenS]
  refine wpS_of_wp ?_
  simp only [Array.replicate_succ, Array.replicate_zero, List.push_toArray, List.append_toArray, List.nil_append, List.cons_append, List.setIfInBounds_toArray, List.set_cons_zero, List.set_cons_succ]
  go_wp2_with fail
  simp [bodyPostS, results, Tryz.results80]
  exact HFIN.out
end Go.Proofs.YtbiajfkencamiaaGreatDoor.EV
