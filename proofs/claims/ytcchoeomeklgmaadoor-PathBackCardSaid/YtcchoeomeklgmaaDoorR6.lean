/- haymowref05.Read: its walk. -/
import Derived.Test.YtcchoeomeklgmaaDoorR5
namespace Go.Proofs.YtcchoeomeklgmaaDoor.Core
open Go.RowKit Go.Shelf Go.Proofs.YtcchoeomeklgmaaDoorW.PrintWords Go.Proofs.YtcchoeomeklgmaaDoorW.PrintMore Go.Proofs.YtcchoeomeklgmaaDoor.P1 Go.Proofs.YtcchoeomeklgmaaDoor
set_option linter.unusedVariables false
set_option linter.unusedSimpArgs false
/-- What Read answers of parts, behind numbers that have come. -/
def fin (vs : List Int) (ps : List (List UInt8)) : List Int × Int :=
  if ps.all (plainB 6) = true then (if 30 < vs.length + ps.length then ([], 3) else (vs ++ ps.map atoiV, 0)) else ([], 4)
def readL (t : List UInt8) : List Int × Int := if t = [46] then ([], 0) else fin [] (splitB 46 t)
theorem fin_bad {vs : List Int} {x : List UInt8} {ps : List (List UInt8)} (h : plainB 6 x = false) : fin vs (x :: ps) = ([], 4) := by
  unfold fin
  rw [if_neg (by simp [h])]
theorem fin_good {vs : List Int} {x : List UInt8} {ps : List (List UInt8)} (h : plainB 6 x = true) : fin vs (x :: ps) = fin (vs ++ [(val 0 x : Int)]) ps := by
  unfold fin
  rw [List.all_cons, h, Bool.true_and, List.length_cons, List.length_append, List.map_cons, atoiV_val x h]
  simp only [List.length_cons, List.length_nil, List.append_assoc, List.singleton_append]
  rw [show vs.length + (0 + 1) + ps.length = vs.length + (ps.length + 1) by omega]
def consH (c : List UInt8) : List (List UInt8) → List (List UInt8)
  | [] => [c]
  | h :: r => (c ++ h) :: r
def restP (t : List UInt8) (a i : Nat) : List (List UInt8) := if i ≤ t.length then consH ((t.drop a).take (i - a)) (splitB 46 (t.drop i)) else []
theorem restP_go {t : List UInt8} {a i : Nat} (h : i < t.length) (ha : a ≤ i) (hb : t[i] ≠ 46) : restP t a (i + 1) = restP t a i := by
  unfold restP
  rw [if_pos (by omega), if_pos (by omega), List.drop_eq_getElem_cons h]
  have e1 : (t.drop a).take (i + 1 - a) = (t.drop a).take (i - a) ++ [t[i]] := by
    rw [show i + 1 - a = (i - a) + 1 by omega, List.take_succ_eq_append_getElem (by rw [List.length_drop]; omega)]
    congr 2
    rw [List.getElem_drop]
    congr 1
    omega
  rw [e1]
  conv => rhs; unfold splitB
  rw [if_neg hb]
  cases e : splitB 46 (t.drop (i + 1)) with
  | nil => exact absurd e (splitB_ne 46 _)
  | cons x r => simp [consH]
theorem restP_dot {t : List UInt8} {a i : Nat} (h : i < t.length) (hb : t[i] = 46) : restP t a i = (t.drop a).take (i - a) :: restP t (i + 1) (i + 1) := by
  unfold restP
  rw [if_pos (by omega), if_pos (by omega), List.drop_eq_getElem_cons h]
  conv => lhs; unfold splitB
  rw [if_pos hb]
  cases e : splitB 46 (t.drop (i + 1)) with
  | nil => exact absurd e (splitB_ne 46 _)
  | cons x r => simp [consH, e]
theorem restP_end {t : List UInt8} {a : Nat} : restP t a t.length = (t.drop a).take (t.length - a) :: restP t (t.length + 1) (t.length + 1) := by
  unfold restP
  rw [if_pos (by omega), if_neg (by omega), List.drop_length]
  simp [splitB, consH]
theorem restP_start (t : List UInt8) : restP t 0 0 = splitB 46 t := by
  unfold restP
  rw [if_pos (by omega)]
  cases e : splitB 46 (t.drop 0) with
  | nil => exact absurd e (splitB_ne 46 _)
  | cons x r => rw [List.drop_zero] at e; simp [consH, e]
theorem val_snoc (l : List UInt8) (b : UInt8) : val 0 (l ++ [b]) = val 0 l * 10 + (b.toNat - 48) := by simp [val]
theorem info3b : (Tryd.prog.info? 3).map (fun i => (i.zero, i.size, i.bytes)) = some (some (.int .i64 0), 1, 8) := by kernel_rfl
set_option maxRecDepth 100000 in
set_option maxHeartbeats 4000000 in
theorem rread_range (t : List UInt8) (ht : t.length ≤ 1000) (hne : t ≠ [46]) (w : World) : Calls Tryd.prog 9 #[.string ⟨t.toArray⟩] w fun e w' =>
    ∃ u, e = .returned (.tuple #[u, .int .i64 (fin [] (splitB 46 t)).2]) ∧ (Kd.int .i64).R 3 w' w.heap.size (fun _ => True) u (fin [] (splitB 46 t)).1 ∧ Below w.heap.size w w' := by
  have hbe : (t == [46]) = false := by simp [hne]
  obtain ⟨n, hn⟩ : ∃ n, n = t.length := ⟨_, rfl⟩
  have HN := Lib.hid hn
  have hn1 : n ≤ 1000 := by omega
  clear hn ht
  have hsz : (⟨t.toArray⟩ : ByteArray).size = n := by rw [HN.out]; simp [ByteArray.size]
  obtain ⟨T, hT⟩ : ∃ T : ByteArray, T = ⟨t.toArray⟩ := ⟨_, rfl⟩
  have HT := Lib.hid hT
  have hteq : (T.toList == [46]) = false := by rw [hT]; simp [hne]
  rw [← hT] at hsz ⊢
  clear hT
  go_enter Tryd.func9, Tryd.ntmps9
  go_wp2_with fail
  go_loopg [4, 5, 6] (n + 1) (fun k v4 v5 v6 W => ∃ (i a : Nat) (vs : List Int), v5 = .int .i64 a ∧ v6 = .int .i64 i ∧ Hid (i + k = n + 1) ∧ Hid (a ≤ i) ∧ Hid (vs.length ≤ i) ∧ Hid ((Kd.int .i64).R 3 W w.heap.size (fun _ => True) v4 vs) ∧ Hid (Below w.heap.size w W) ∧ Hid (fin vs (restP t a i) = fin [] (splitB 46 t)))
  case atStart => exact ⟨0, 0, [], rfl, rfl, by show _ = _; omega, Nat.le_refl _, Nat.le_refl _, Kd.R_nil _ _ _ _ _, Below.refl _ _, by show fin [] (restP t 0 0) = _; rw [restP_start]⟩
  case round =>
    obtain ⟨i, a, vs, rfl, rfl, hik, hai, hvi, hR, hB, hF⟩ := hrel
    have hz := hB.out.size
    by_cases hin : i ≤ n
    · have hin2 : decide ((i : Int) ≤ n) = true := decide_eq_true (by omega)
      have hin3 : (i : Int) ≤ n := by omega
      have hi0 : (0 : Int) ≤ i := by omega
      have hw1 : wrap64 ((i : Int) + 1) = ((i + 1 : Nat) : Int) := by rw [Core.wr (by omega) (by omega)]; rfl
      have hai2 : (a : Int) ≤ i := by have := hai.out; omega
      have ha0 : (0 : Int) ≤ a := by omega
      have hcase : (∃ h : i < t.length, i < n ∧ t[i] ≠ 46) ∨ ((i < n ∧ bt T i = 46) ∨ i = n) ∧ restP t a i = (t.drop a).take (i - a) :: restP t (i + 1) (i + 1) := by
        have hnn := HN.out
        by_cases hlt : i < n
        · have hit : i < t.length := by omega
          by_cases hb : t[i] = 46
          · refine .inr ⟨.inl ⟨hlt, ?_⟩, restP_dot hit hb⟩
            rw [HT.out]
            refine (bt_bx t i hit).trans ?_
            rw [hb]; rfl
          · exact .inl ⟨hit, hlt, hb⟩
        · have : i = n := by omega
          exact .inr ⟨.inr this, by rw [this, hnn]; exact restP_end⟩
      rcases hcase with ⟨hit, hlt, hb⟩ | ⟨hcase, hrest⟩
      · have hlt2 : (i : Int) < n := by omega
        have hlt3 : decide ((i : Int) < n) = true := decide_eq_true hlt2
        have hiT : i < T.size := by rw [hsz]; exact hlt
        obtain ⟨x, hx⟩ : ∃ x : Int, ((T[i]'hiT).toNat : Int) = x := ⟨_, rfl⟩
        have hxt : x = ((t[i]'hit).toNat : Int) := by
          rw [← hx]
          refine (bt_at T (i : Int) hiT).trans ?_
          rw [HT.out]
          exact bt_bx t i hit
        have hbt : (x == 46) = false := by
          rw [hxt, beq_eq_false_iff_ne]
          intro h
          exact hb (UInt8.toNat_inj.1 (by show _ = 46; omega))
        have hbt2 : (x != 46) = true := by unfold bne; rw [hbt]; rfl
        have HGO := Lib.hid (restP_go hit hai.out hb)
        clear hb hit hxt
        go_wp2_with fail
        go_roundg (n + 1 - (i + 1))
        case measure => have := hik.out; omega
        case rel => exact ⟨i + 1, a, vs, rfl, by go_num, by show _ = _; omega, Nat.le_succ_of_le hai.out, Nat.le_succ_of_le hvi.out, hR.out, hB.out, by show _ = _; rw [HGO.out]; exact hF.out⟩
      · obtain ⟨cur, hcur⟩ : ∃ cur, cur = (t.drop a).take (i - a) := ⟨_, rfl⟩
        rw [← hcur] at hrest
        obtain ⟨P, hP⟩ : ∃ P, T.extract a i = P := ⟨_, rfl⟩
        have hPc : P = bx cur := by rw [← hP, HT.out, hcur]; exact ext_bx t a i (by have := HN.out; omega)
        obtain ⟨m, hm⟩ : ∃ m, m = cur.length := ⟨_, rfl⟩
        have hPs : P.size = m := by rw [hPc, bx_size, hm]
        have HPC := Lib.hid hPc
        have HM := Lib.hid hm
        have hFc := hF.out
        rw [hrest] at hFc
        have HFC := Lib.hid hFc
        have HBAD : Hid (plainB 6 cur = false → fin [] (splitB 46 t) = ([], 4)) := fun h => by rw [← HFC.out]; exact fin_bad h
        have hmi : m ≤ n := by rw [hm, hcur, List.length_take, List.length_drop]; have := HN.out; omega
        clear hFc hF hrest hPc hm hcur
        have hge : i < n → ∃ h : i < T.size, True := fun h => ⟨by rw [hsz]; exact h, trivial⟩
        have hT46 : (∃ (hlt : i < n) (h : i < T.size), ((T[i]'h).toNat : Int) = 46) ∨ i = n := by
          rcases hcase with ⟨h1, h2⟩ | h
          · exact .inl ⟨h1, by rw [hsz]; exact h1, (bt_at T (i : Int) (by rw [hsz]; exact h1)).trans h2⟩
          · exact .inr h
        clear hcase hge
        have HCOME : Hid (∀ k, k + i = n + 1 → True) := fun _ _ => trivial
        by_cases hm0 : m = 0
        · have HFIN := Lib.hid (HBAD.out (by
            have : cur = [] := List.eq_nil_of_length_eq_zero (by have := HM.out; omega)
            rw [this]; rfl))
          have hm1 : ((m : Int) == 0) = true := by rw [beq_iff_eq]; omega
          clear hm0
          rcases hT46 with ⟨hlt, hiT, hx⟩ | hin
          · have hlt2 : (i : Int) < n := by omega
            have hlt3 : decide ((i : Int) < n) = true := decide_eq_true hlt2
            clear hlt
            go_wp2_with fail
            go_ret2
            rw [HFIN.out]
            exact ⟨_, rfl, Kd.R_nil _ _ _ _ _, hB.out⟩
          · have hlt2 : ¬ (i : Int) < n := by omega
            have hlt3 : decide ((i : Int) < n) = false := decide_eq_false hlt2
            clear hin
            go_wp2_with fail
            go_ret2
            rw [HFIN.out]
            exact ⟨_, rfl, Kd.R_nil _ _ _ _ _, hB.out⟩
        · have hm1 : ((m : Int) == 0) = false := by rw [beq_eq_false_iff_ne]; omega
          by_cases hm6 : 6 < m
          · have HFIN := Lib.hid (HBAD.out (by
              cases e : plainB 6 cur
              · rfl
              · have := ((plainB_iff cur).1 e).2.1
                have := HM.out
                omega))
            have hm7 : decide ((m : Int) > 6) = true := decide_eq_true (by omega)
            have hm8 : 6 < (m : Int) := by omega
            clear hm6 hm0
            rcases hT46 with ⟨hlt, hiT, hx⟩ | hin
            · have hlt2 : (i : Int) < n := by omega
              have hlt3 : decide ((i : Int) < n) = true := decide_eq_true hlt2
              clear hlt
              go_wp2_with fail
              go_ret2
              rw [HFIN.out]
              exact ⟨_, rfl, Kd.R_nil _ _ _ _ _, hB.out⟩
            · have hlt2 : ¬ (i : Int) < n := by omega
              have hlt3 : decide ((i : Int) < n) = false := decide_eq_false hlt2
              clear hin
              go_wp2_with fail
              go_ret2
              rw [HFIN.out]
              exact ⟨_, rfl, Kd.R_nil _ _ _ _ _, hB.out⟩
          · have hm7 : decide ((m : Int) > 6) = false := decide_eq_false (by omega)
            have hm8 : ¬ 6 < (m : Int) := by omega
            have hmp : 0 < m := by omega
            have hmp2 : (0 : Int) < m := by omega
            have hP0 : 0 < P.size := by rw [hPs]; exact hmp
            obtain ⟨y, hy⟩ : ∃ y : Int, ((P[0]'hP0).toNat : Int) = y := ⟨_, rfl⟩
            have HY0 : Hid (∀ h : 0 < cur.length, y = ((cur[0]'h).toNat : Int)) := fun h => by
              rw [← hy]
              refine (bt_at P (0 : Int) hP0).trans ?_
              rw [HPC.out]
              exact bt_bx cur 0 h
            by_cases hz1 : y = 48 ∧ 1 < m
            · have HFIN := Lib.hid (HBAD.out (by
                cases e : plainB 6 cur
                · rfl
                · exfalso
                  have hmm := HM.out
                  rcases ((plainB_iff cur).1 e).2.2.2 with h | h
                  · rw [h] at hmm
                    simp at hmm
                    omega
                  · have h0 : 0 < cur.length := by omega
                    have := HY0.out h0
                    refine h ?_
                    rw [List.head?_eq_getElem?, List.getElem?_eq_getElem h0]
                    congr 1
                    exact UInt8.toNat_inj.1 (by show _ = 48; omega)))
              have hy48 : (y == 48) = true := by rw [beq_iff_eq]; exact hz1.1
              have hm9 : decide ((m : Int) > 1) = true := decide_eq_true (by omega)
              have hm10 : 1 < (m : Int) := by omega
              clear hz1 hmp hm6 hm0
              rcases hT46 with ⟨hlt, hiT, hx⟩ | hin
              · have hlt2 : (i : Int) < n := by omega
                have hlt3 : decide ((i : Int) < n) = true := decide_eq_true hlt2
                clear hlt
                go_wp2_with fail
                go_ret2
                rw [HFIN.out]
                exact ⟨_, rfl, Kd.R_nil _ _ _ _ _, hB.out⟩
              · have hlt2 : ¬ (i : Int) < n := by omega
                have hlt3 : decide ((i : Int) < n) = false := decide_eq_false hlt2
                clear hin
                go_wp2_with fail
                go_ret2
                rw [HFIN.out]
                exact ⟨_, rfl, Kd.R_nil _ _ _ _ _, hB.out⟩
            · have hh : ((y == 48) && decide ((m : Int) > 1)) = false := by
                cases e : (y == 48)
                · rfl
                · rw [beq_iff_eq] at e
                  have : ¬ 1 < m := fun h => hz1 ⟨e, h⟩
                  rw [decide_eq_false (by omega)]
                  rfl
              have HHEAD : Hid (cur.all isDig = true → plainB 6 cur = true) := fun h => by
                have hmm := HM.out
                refine (plainB_iff cur).2 ⟨fun e => by rw [e] at hmm; simp at hmm; omega, by omega, h, ?_⟩
                have h0 : 0 < cur.length := by omega
                have hyy := HY0.out h0
                by_cases h48 : cur[0] = 48
                · have : ¬ 1 < m := fun h1 => hz1 ⟨by rw [hyy, h48]; rfl, h1⟩
                  left
                  have hl : cur.length = 1 := by omega
                  obtain ⟨b, hb1⟩ := List.length_eq_one_iff.1 hl
                  have : cur[0] = b := by simp [hb1]
                  rw [hb1, ← this, h48]
                · right
                  rw [List.head?_eq_getElem?, List.getElem?_eq_getElem h0]
                  intro e
                  injection e with e
                  exact h48 e
              have hm6b : m ≤ 6 := by omega
              have hw1b := hw1
              clear hz1 hm6 hm0
              rcases hyc : (y == 48) with _ | _
              · clear hh
                rcases hT46 with ⟨hlt, hiT, hx⟩ | hin
                · have hlt2 : (i : Int) < n := by omega
                  have hlt3 : decide ((i : Int) < n) = true := decide_eq_true hlt2
                  clear hlt
                  go_wp2_with fail
                  (try clear hx)
                  (try clear hiT)
                  clear hy hP0 hP hsz
                  go_loopg [8, 9] m (fun k v8 v9 W => ∃ p acc : Nat, v8 = .int .i64 acc ∧ v9 = .int .i64 p ∧ Hid (p + k = m) ∧ Hid (acc < 10 ^ p) ∧ Hid (val 0 cur = val acc (cur.drop p)) ∧ Hid ((cur.take p).all isDig = true) ∧ Hid ((Kd.int .i64).R 3 W w.heap.size (fun _ => True) u4 vs) ∧ Hid (Below w.heap.size w W))
                  case atStart => exact ⟨0, 0, rfl, rfl, by show _ = _; omega, by show _ < _; simp, rfl, rfl, hR.out, hB.out⟩
                  case round =>
                    obtain ⟨p, acc, rfl, rfl, hpk, hac, hval, hall, hR2, hB2⟩ := hrel
                    by_cases hpm : p < m
                    · have hpm2 : (p : Int) < m := by omega
                      have hpm3 : decide ((p : Int) < m) = true := decide_eq_true hpm2
                      have hw2 : wrap64 ((p : Int) + 1) = ((p + 1 : Nat) : Int) := by rw [Core.wr (by omega) (by omega)]; rfl
                      have hpP : p < P.size := Nat.lt_of_lt_of_eq hpm hPs.symm
                      have hpc : p < cur.length := Nat.lt_of_lt_of_eq hpm HM.out
                      obtain ⟨z, hz2⟩ : ∃ z : Int, ((P[p]'hpP).toNat : Int) = z := ⟨_, rfl⟩
                      have hzz : z = ((cur[p]'hpc).toNat : Int) := by
                        rw [← hz2]
                        refine (bt_at P (p : Int) hpP).trans ?_
                        rw [HPC.out]
                        exact bt_bx cur p hpc
                      by_cases hd : isDig (cur[p]'hpc) = true
                      · have hdd := hd
                        unfold isDig at hdd
                        rw [Bool.and_eq_true, decide_eq_true_eq, decide_eq_true_eq] at hdd
                        have hz3 : ¬ z < 48 := by omega
                        have hz4 : ¬ 57 < z := by omega
                        have hz5 : decide (z < 48) = false := decide_eq_false hz3
                        have hz6 : decide (z > 57) = false := decide_eq_false hz4
                        have hpow : 10 ^ p ≤ 10 ^ 5 := Nat.pow_le_pow_right (by omega) (by omega)
                        have ha2 : acc < 100000 := Nat.lt_of_lt_of_le hac.out (by simpa using hpow)
                        have e1 : wrap64 (10 * (acc : Int)) = 10 * (acc : Int) := Core.wr (by omega) (by omega)
                        have e2 : (z - 48) % 256 = z - 48 := by omega
                        have e3 : wrap64 (10 * (acc : Int) + (z - 48)) = ((acc * 10 + ((cur[p]'hpc).toNat - 48) : Nat) : Int) := by rw [Core.wr (by omega) (by omega)]; omega
                        have HACC : Hid (acc * 10 + ((cur[p]'hpc).toNat - 48) < 10 ^ (p + 1)) := by have := hac.out; show _ < _; rw [Nat.pow_succ]; omega
                        have HVAL : Hid (val 0 cur = val (acc * 10 + ((cur[p]'hpc).toNat - 48)) (cur.drop (p + 1))) := by
                          show _ = _
                          rw [hval.out, List.drop_eq_getElem_cons hpc]
                          rfl
                        have HALL : Hid ((cur.take (p + 1)).all isDig = true) := by
                          show _ = _
                          rw [List.take_succ_eq_append_getElem hpc, List.all_append, hall.out, Bool.true_and]
                          simp [hd]
                        generalize (acc * 10 + ((cur[p]'hpc).toNat - 48)) = acc2 at e3 HACC HVAL
                        clear hd hdd hzz hpow ha2
                        go_wp2_with fail
                        go_roundg (m - (p + 1))
                        case measure => have := hpk.out; omega
                        case rel => exact ⟨p + 1, acc2, by go_num, by go_num, by show _ = _; omega, HACC.out, HVAL.out, HALL.out, hR2.out, hB2.out⟩
                      · have HFIN := Lib.hid (HBAD.out (by
                          cases e : plainB 6 cur
                          · rfl
                          · exact absurd (List.all_eq_true.1 ((plainB_iff cur).1 e).2.2.1 _ (List.getElem_mem hpc)) hd))
                        have hdd : z < 48 ∨ 57 < z := by
                          unfold isDig at hd
                          rw [Bool.and_eq_true, decide_eq_true_eq, decide_eq_true_eq] at hd
                          omega
                        clear hd hzz
                        rcases hdd with hz3 | hz4
                        · have hz5 : decide (z < 48) = true := decide_eq_true hz3
                          go_wp2_with fail
                          go_ret2
                          rw [HFIN.out]
                          exact ⟨_, rfl, Kd.R_nil _ _ _ _ _, hB2.out⟩
                        · have hz3 : ¬ z < 48 := by omega
                          have hz5 : decide (z < 48) = false := decide_eq_false hz3
                          have hz6 : decide (z > 57) = true := decide_eq_true hz4
                          go_wp2_with fail
                          go_ret2
                          rw [HFIN.out]
                          exact ⟨_, rfl, Kd.R_nil _ _ _ _ _, hB2.out⟩
                    · have hpm2 : ¬ (p : Int) < m := by omega
                      have hpm3 : decide ((p : Int) < m) = false := decide_eq_false hpm2
                      have hpe : p = cur.length := by have := HM.out; have := hpk.out; omega
                      have HPL : Hid (plainB 6 cur = true) := HHEAD.out (by have h := hall.out; rwa [hpe, List.take_length] at h)
                      have hva : val 0 cur = acc := by rw [hval.out, hpe, List.drop_length]; rfl
                      have HF2 : Hid (fin (vs ++ [(acc : Int)]) (restP t (i + 1) (i + 1)) = fin [] (splitB 46 t)) := by
                        show _ = _
                        rw [← HFC.out, fin_good HPL.out, hva]
                      have hz4 := hB2.out.size
                      have HZ4 := Lib.hid hz4
                      have hvl : vs.length ≤ 1000 := by have := hvi.out; omega
                      clear hpe hva hz4
                      go_wp2_with ((with_reducible refine gate_builtin (b := .append) (xs := #[.tmp 76, .tmp 78]) rfl ?_); at_builtin; refine Kd.R_append (Kd.int .i64) (w0 := w) w.heap.size rfl (.tmp 76) (.tmp 78) 22 3 (.int .i64 0) 8 rfl Tryd.underlying22 info3b rfl (by decide) (by omega) u4 vs (acc : Int) [.int .i64 (acc : Int)] (fun _ => True) (fun _ => False) rfl rfl ?aP (fun _ hk => hk.elim) (fun _ _ => trivial) ?aO ?aB ?aS ?aL ?_; (case aP => exact rfl); (case aO => exact hR2.out); (case aB => exact hB2.out); (case aS => exact HZ4.out); (case aL => omega); intro v6 w6 hr6 hb6 hg6 _; have HR6 := Lib.hid hr6; have HB6 := Lib.hid hb6; clear hr6 hb6 hg6)
                      go_roundg (n + 1 - (i + 1))
                      case measure => have := hik.out; omega
                      case rel => exact ⟨i + 1, i + 1, vs ++ [(acc : Int)], by go_num, by go_num, by show _ = _; omega, Nat.le_refl _, by show _ ≤ _; rw [List.length_append]; have := hvi.out; simp; omega, HR6.out, HB6.out, HF2.out⟩
                · have hlt2 : ¬ (i : Int) < n := by omega
                  have hlt3 : decide ((i : Int) < n) = false := decide_eq_false hlt2
                  clear hin
                  go_wp2_with fail
                  (try clear hx)
                  (try clear hiT)
                  clear hy hP0 hP hsz
                  go_loopg [8, 9] m (fun k v8 v9 W => ∃ p acc : Nat, v8 = .int .i64 acc ∧ v9 = .int .i64 p ∧ Hid (p + k = m) ∧ Hid (acc < 10 ^ p) ∧ Hid (val 0 cur = val acc (cur.drop p)) ∧ Hid ((cur.take p).all isDig = true) ∧ Hid ((Kd.int .i64).R 3 W w.heap.size (fun _ => True) u4 vs) ∧ Hid (Below w.heap.size w W))
                  case atStart => exact ⟨0, 0, rfl, rfl, by show _ = _; omega, by show _ < _; simp, rfl, rfl, hR.out, hB.out⟩
                  case round =>
                    obtain ⟨p, acc, rfl, rfl, hpk, hac, hval, hall, hR2, hB2⟩ := hrel
                    by_cases hpm : p < m
                    · have hpm2 : (p : Int) < m := by omega
                      have hpm3 : decide ((p : Int) < m) = true := decide_eq_true hpm2
                      have hw2 : wrap64 ((p : Int) + 1) = ((p + 1 : Nat) : Int) := by rw [Core.wr (by omega) (by omega)]; rfl
                      have hpP : p < P.size := Nat.lt_of_lt_of_eq hpm hPs.symm
                      have hpc : p < cur.length := Nat.lt_of_lt_of_eq hpm HM.out
                      obtain ⟨z, hz2⟩ : ∃ z : Int, ((P[p]'hpP).toNat : Int) = z := ⟨_, rfl⟩
                      have hzz : z = ((cur[p]'hpc).toNat : Int) := by
                        rw [← hz2]
                        refine (bt_at P (p : Int) hpP).trans ?_
                        rw [HPC.out]
                        exact bt_bx cur p hpc
                      by_cases hd : isDig (cur[p]'hpc) = true
                      · have hdd := hd
                        unfold isDig at hdd
                        rw [Bool.and_eq_true, decide_eq_true_eq, decide_eq_true_eq] at hdd
                        have hz3 : ¬ z < 48 := by omega
                        have hz4 : ¬ 57 < z := by omega
                        have hz5 : decide (z < 48) = false := decide_eq_false hz3
                        have hz6 : decide (z > 57) = false := decide_eq_false hz4
                        have hpow : 10 ^ p ≤ 10 ^ 5 := Nat.pow_le_pow_right (by omega) (by omega)
                        have ha2 : acc < 100000 := Nat.lt_of_lt_of_le hac.out (by simpa using hpow)
                        have e1 : wrap64 (10 * (acc : Int)) = 10 * (acc : Int) := Core.wr (by omega) (by omega)
                        have e2 : (z - 48) % 256 = z - 48 := by omega
                        have e3 : wrap64 (10 * (acc : Int) + (z - 48)) = ((acc * 10 + ((cur[p]'hpc).toNat - 48) : Nat) : Int) := by rw [Core.wr (by omega) (by omega)]; omega
                        have HACC : Hid (acc * 10 + ((cur[p]'hpc).toNat - 48) < 10 ^ (p + 1)) := by have := hac.out; show _ < _; rw [Nat.pow_succ]; omega
                        have HVAL : Hid (val 0 cur = val (acc * 10 + ((cur[p]'hpc).toNat - 48)) (cur.drop (p + 1))) := by
                          show _ = _
                          rw [hval.out, List.drop_eq_getElem_cons hpc]
                          rfl
                        have HALL : Hid ((cur.take (p + 1)).all isDig = true) := by
                          show _ = _
                          rw [List.take_succ_eq_append_getElem hpc, List.all_append, hall.out, Bool.true_and]
                          simp [hd]
                        generalize (acc * 10 + ((cur[p]'hpc).toNat - 48)) = acc2 at e3 HACC HVAL
                        clear hd hdd hzz hpow ha2
                        go_wp2_with fail
                        go_roundg (m - (p + 1))
                        case measure => have := hpk.out; omega
                        case rel => exact ⟨p + 1, acc2, by go_num, by go_num, by show _ = _; omega, HACC.out, HVAL.out, HALL.out, hR2.out, hB2.out⟩
                      · have HFIN := Lib.hid (HBAD.out (by
                          cases e : plainB 6 cur
                          · rfl
                          · exact absurd (List.all_eq_true.1 ((plainB_iff cur).1 e).2.2.1 _ (List.getElem_mem hpc)) hd))
                        have hdd : z < 48 ∨ 57 < z := by
                          unfold isDig at hd
                          rw [Bool.and_eq_true, decide_eq_true_eq, decide_eq_true_eq] at hd
                          omega
                        clear hd hzz
                        rcases hdd with hz3 | hz4
                        · have hz5 : decide (z < 48) = true := decide_eq_true hz3
                          go_wp2_with fail
                          go_ret2
                          rw [HFIN.out]
                          exact ⟨_, rfl, Kd.R_nil _ _ _ _ _, hB2.out⟩
                        · have hz3 : ¬ z < 48 := by omega
                          have hz5 : decide (z < 48) = false := decide_eq_false hz3
                          have hz6 : decide (z > 57) = true := decide_eq_true hz4
                          go_wp2_with fail
                          go_ret2
                          rw [HFIN.out]
                          exact ⟨_, rfl, Kd.R_nil _ _ _ _ _, hB2.out⟩
                    · have hpm2 : ¬ (p : Int) < m := by omega
                      have hpm3 : decide ((p : Int) < m) = false := decide_eq_false hpm2
                      have hpe : p = cur.length := by have := HM.out; have := hpk.out; omega
                      have HPL : Hid (plainB 6 cur = true) := HHEAD.out (by have h := hall.out; rwa [hpe, List.take_length] at h)
                      have hva : val 0 cur = acc := by rw [hval.out, hpe, List.drop_length]; rfl
                      have HF2 : Hid (fin (vs ++ [(acc : Int)]) (restP t (i + 1) (i + 1)) = fin [] (splitB 46 t)) := by
                        show _ = _
                        rw [← HFC.out, fin_good HPL.out, hva]
                      have hz4 := hB2.out.size
                      have HZ4 := Lib.hid hz4
                      have hvl : vs.length ≤ 1000 := by have := hvi.out; omega
                      clear hpe hva hz4
                      go_wp2_with ((with_reducible refine gate_builtin (b := .append) (xs := #[.tmp 76, .tmp 78]) rfl ?_); at_builtin; refine Kd.R_append (Kd.int .i64) (w0 := w) w.heap.size rfl (.tmp 76) (.tmp 78) 22 3 (.int .i64 0) 8 rfl Tryd.underlying22 info3b rfl (by decide) (by omega) u4 vs (acc : Int) [.int .i64 (acc : Int)] (fun _ => True) (fun _ => False) rfl rfl ?aP (fun _ hk => hk.elim) (fun _ _ => trivial) ?aO ?aB ?aS ?aL ?_; (case aP => exact rfl); (case aO => exact hR2.out); (case aB => exact hB2.out); (case aS => exact HZ4.out); (case aL => omega); intro v6 w6 hr6 hb6 hg6 _; have HR6 := Lib.hid hr6; have HB6 := Lib.hid hb6; clear hr6 hb6 hg6)
                      go_roundg (n + 1 - (i + 1))
                      case measure => have := hik.out; omega
                      case rel => exact ⟨i + 1, i + 1, vs ++ [(acc : Int)], by go_num, by go_num, by show _ = _; omega, Nat.le_refl _, by show _ ≤ _; rw [List.length_append]; have := hvi.out; simp; omega, HR6.out, HB6.out, HF2.out⟩
              · have hm9 : decide ((m : Int) > 1) = false := by rw [hyc] at hh; simpa using hh
                have hm10 : ¬ 1 < (m : Int) := of_decide_eq_false hm9
                clear hh
                rcases hT46 with ⟨hlt, hiT, hx⟩ | hin
                · have hlt2 : (i : Int) < n := by omega
                  have hlt3 : decide ((i : Int) < n) = true := decide_eq_true hlt2
                  clear hlt
                  go_wp2_with fail
                  (try clear hx)
                  (try clear hiT)
                  clear hy hP0 hP hsz
                  go_loopg [8, 9] m (fun k v8 v9 W => ∃ p acc : Nat, v8 = .int .i64 acc ∧ v9 = .int .i64 p ∧ Hid (p + k = m) ∧ Hid (acc < 10 ^ p) ∧ Hid (val 0 cur = val acc (cur.drop p)) ∧ Hid ((cur.take p).all isDig = true) ∧ Hid ((Kd.int .i64).R 3 W w.heap.size (fun _ => True) u4 vs) ∧ Hid (Below w.heap.size w W))
                  case atStart => exact ⟨0, 0, rfl, rfl, by show _ = _; omega, by show _ < _; simp, rfl, rfl, hR.out, hB.out⟩
                  case round =>
                    obtain ⟨p, acc, rfl, rfl, hpk, hac, hval, hall, hR2, hB2⟩ := hrel
                    by_cases hpm : p < m
                    · have hpm2 : (p : Int) < m := by omega
                      have hpm3 : decide ((p : Int) < m) = true := decide_eq_true hpm2
                      have hw2 : wrap64 ((p : Int) + 1) = ((p + 1 : Nat) : Int) := by rw [Core.wr (by omega) (by omega)]; rfl
                      have hpP : p < P.size := Nat.lt_of_lt_of_eq hpm hPs.symm
                      have hpc : p < cur.length := Nat.lt_of_lt_of_eq hpm HM.out
                      obtain ⟨z, hz2⟩ : ∃ z : Int, ((P[p]'hpP).toNat : Int) = z := ⟨_, rfl⟩
                      have hzz : z = ((cur[p]'hpc).toNat : Int) := by
                        rw [← hz2]
                        refine (bt_at P (p : Int) hpP).trans ?_
                        rw [HPC.out]
                        exact bt_bx cur p hpc
                      by_cases hd : isDig (cur[p]'hpc) = true
                      · have hdd := hd
                        unfold isDig at hdd
                        rw [Bool.and_eq_true, decide_eq_true_eq, decide_eq_true_eq] at hdd
                        have hz3 : ¬ z < 48 := by omega
                        have hz4 : ¬ 57 < z := by omega
                        have hz5 : decide (z < 48) = false := decide_eq_false hz3
                        have hz6 : decide (z > 57) = false := decide_eq_false hz4
                        have hpow : 10 ^ p ≤ 10 ^ 5 := Nat.pow_le_pow_right (by omega) (by omega)
                        have ha2 : acc < 100000 := Nat.lt_of_lt_of_le hac.out (by simpa using hpow)
                        have e1 : wrap64 (10 * (acc : Int)) = 10 * (acc : Int) := Core.wr (by omega) (by omega)
                        have e2 : (z - 48) % 256 = z - 48 := by omega
                        have e3 : wrap64 (10 * (acc : Int) + (z - 48)) = ((acc * 10 + ((cur[p]'hpc).toNat - 48) : Nat) : Int) := by rw [Core.wr (by omega) (by omega)]; omega
                        have HACC : Hid (acc * 10 + ((cur[p]'hpc).toNat - 48) < 10 ^ (p + 1)) := by have := hac.out; show _ < _; rw [Nat.pow_succ]; omega
                        have HVAL : Hid (val 0 cur = val (acc * 10 + ((cur[p]'hpc).toNat - 48)) (cur.drop (p + 1))) := by
                          show _ = _
                          rw [hval.out, List.drop_eq_getElem_cons hpc]
                          rfl
                        have HALL : Hid ((cur.take (p + 1)).all isDig = true) := by
                          show _ = _
                          rw [List.take_succ_eq_append_getElem hpc, List.all_append, hall.out, Bool.true_and]
                          simp [hd]
                        generalize (acc * 10 + ((cur[p]'hpc).toNat - 48)) = acc2 at e3 HACC HVAL
                        clear hd hdd hzz hpow ha2
                        go_wp2_with fail
                        go_roundg (m - (p + 1))
                        case measure => have := hpk.out; omega
                        case rel => exact ⟨p + 1, acc2, by go_num, by go_num, by show _ = _; omega, HACC.out, HVAL.out, HALL.out, hR2.out, hB2.out⟩
                      · have HFIN := Lib.hid (HBAD.out (by
                          cases e : plainB 6 cur
                          · rfl
                          · exact absurd (List.all_eq_true.1 ((plainB_iff cur).1 e).2.2.1 _ (List.getElem_mem hpc)) hd))
                        have hdd : z < 48 ∨ 57 < z := by
                          unfold isDig at hd
                          rw [Bool.and_eq_true, decide_eq_true_eq, decide_eq_true_eq] at hd
                          omega
                        clear hd hzz
                        rcases hdd with hz3 | hz4
                        · have hz5 : decide (z < 48) = true := decide_eq_true hz3
                          go_wp2_with fail
                          go_ret2
                          rw [HFIN.out]
                          exact ⟨_, rfl, Kd.R_nil _ _ _ _ _, hB2.out⟩
                        · have hz3 : ¬ z < 48 := by omega
                          have hz5 : decide (z < 48) = false := decide_eq_false hz3
                          have hz6 : decide (z > 57) = true := decide_eq_true hz4
                          go_wp2_with fail
                          go_ret2
                          rw [HFIN.out]
                          exact ⟨_, rfl, Kd.R_nil _ _ _ _ _, hB2.out⟩
                    · have hpm2 : ¬ (p : Int) < m := by omega
                      have hpm3 : decide ((p : Int) < m) = false := decide_eq_false hpm2
                      have hpe : p = cur.length := by have := HM.out; have := hpk.out; omega
                      have HPL : Hid (plainB 6 cur = true) := HHEAD.out (by have h := hall.out; rwa [hpe, List.take_length] at h)
                      have hva : val 0 cur = acc := by rw [hval.out, hpe, List.drop_length]; rfl
                      have HF2 : Hid (fin (vs ++ [(acc : Int)]) (restP t (i + 1) (i + 1)) = fin [] (splitB 46 t)) := by
                        show _ = _
                        rw [← HFC.out, fin_good HPL.out, hva]
                      have hz4 := hB2.out.size
                      have HZ4 := Lib.hid hz4
                      have hvl : vs.length ≤ 1000 := by have := hvi.out; omega
                      clear hpe hva hz4
                      go_wp2_with ((with_reducible refine gate_builtin (b := .append) (xs := #[.tmp 76, .tmp 78]) rfl ?_); at_builtin; refine Kd.R_append (Kd.int .i64) (w0 := w) w.heap.size rfl (.tmp 76) (.tmp 78) 22 3 (.int .i64 0) 8 rfl Tryd.underlying22 info3b rfl (by decide) (by omega) u4 vs (acc : Int) [.int .i64 (acc : Int)] (fun _ => True) (fun _ => False) rfl rfl ?aP (fun _ hk => hk.elim) (fun _ _ => trivial) ?aO ?aB ?aS ?aL ?_; (case aP => exact rfl); (case aO => exact hR2.out); (case aB => exact hB2.out); (case aS => exact HZ4.out); (case aL => omega); intro v6 w6 hr6 hb6 hg6 _; have HR6 := Lib.hid hr6; have HB6 := Lib.hid hb6; clear hr6 hb6 hg6)
                      go_roundg (n + 1 - (i + 1))
                      case measure => have := hik.out; omega
                      case rel => exact ⟨i + 1, i + 1, vs ++ [(acc : Int)], by go_num, by go_num, by show _ = _; omega, Nat.le_refl _, by show _ ≤ _; rw [List.length_append]; have := hvi.out; simp; omega, HR6.out, HB6.out, HF2.out⟩
                · have hlt2 : ¬ (i : Int) < n := by omega
                  have hlt3 : decide ((i : Int) < n) = false := decide_eq_false hlt2
                  clear hin
                  go_wp2_with fail
                  (try clear hx)
                  (try clear hiT)
                  clear hy hP0 hP hsz
                  go_loopg [8, 9] m (fun k v8 v9 W => ∃ p acc : Nat, v8 = .int .i64 acc ∧ v9 = .int .i64 p ∧ Hid (p + k = m) ∧ Hid (acc < 10 ^ p) ∧ Hid (val 0 cur = val acc (cur.drop p)) ∧ Hid ((cur.take p).all isDig = true) ∧ Hid ((Kd.int .i64).R 3 W w.heap.size (fun _ => True) u4 vs) ∧ Hid (Below w.heap.size w W))
                  case atStart => exact ⟨0, 0, rfl, rfl, by show _ = _; omega, by show _ < _; simp, rfl, rfl, hR.out, hB.out⟩
                  case round =>
                    obtain ⟨p, acc, rfl, rfl, hpk, hac, hval, hall, hR2, hB2⟩ := hrel
                    by_cases hpm : p < m
                    · have hpm2 : (p : Int) < m := by omega
                      have hpm3 : decide ((p : Int) < m) = true := decide_eq_true hpm2
                      have hw2 : wrap64 ((p : Int) + 1) = ((p + 1 : Nat) : Int) := by rw [Core.wr (by omega) (by omega)]; rfl
                      have hpP : p < P.size := Nat.lt_of_lt_of_eq hpm hPs.symm
                      have hpc : p < cur.length := Nat.lt_of_lt_of_eq hpm HM.out
                      obtain ⟨z, hz2⟩ : ∃ z : Int, ((P[p]'hpP).toNat : Int) = z := ⟨_, rfl⟩
                      have hzz : z = ((cur[p]'hpc).toNat : Int) := by
                        rw [← hz2]
                        refine (bt_at P (p : Int) hpP).trans ?_
                        rw [HPC.out]
                        exact bt_bx cur p hpc
                      by_cases hd : isDig (cur[p]'hpc) = true
                      · have hdd := hd
                        unfold isDig at hdd
                        rw [Bool.and_eq_true, decide_eq_true_eq, decide_eq_true_eq] at hdd
                        have hz3 : ¬ z < 48 := by omega
                        have hz4 : ¬ 57 < z := by omega
                        have hz5 : decide (z < 48) = false := decide_eq_false hz3
                        have hz6 : decide (z > 57) = false := decide_eq_false hz4
                        have hpow : 10 ^ p ≤ 10 ^ 5 := Nat.pow_le_pow_right (by omega) (by omega)
                        have ha2 : acc < 100000 := Nat.lt_of_lt_of_le hac.out (by simpa using hpow)
                        have e1 : wrap64 (10 * (acc : Int)) = 10 * (acc : Int) := Core.wr (by omega) (by omega)
                        have e2 : (z - 48) % 256 = z - 48 := by omega
                        have e3 : wrap64 (10 * (acc : Int) + (z - 48)) = ((acc * 10 + ((cur[p]'hpc).toNat - 48) : Nat) : Int) := by rw [Core.wr (by omega) (by omega)]; omega
                        have HACC : Hid (acc * 10 + ((cur[p]'hpc).toNat - 48) < 10 ^ (p + 1)) := by have := hac.out; show _ < _; rw [Nat.pow_succ]; omega
                        have HVAL : Hid (val 0 cur = val (acc * 10 + ((cur[p]'hpc).toNat - 48)) (cur.drop (p + 1))) := by
                          show _ = _
                          rw [hval.out, List.drop_eq_getElem_cons hpc]
                          rfl
                        have HALL : Hid ((cur.take (p + 1)).all isDig = true) := by
                          show _ = _
                          rw [List.take_succ_eq_append_getElem hpc, List.all_append, hall.out, Bool.true_and]
                          simp [hd]
                        generalize (acc * 10 + ((cur[p]'hpc).toNat - 48)) = acc2 at e3 HACC HVAL
                        clear hd hdd hzz hpow ha2
                        go_wp2_with fail
                        go_roundg (m - (p + 1))
                        case measure => have := hpk.out; omega
                        case rel => exact ⟨p + 1, acc2, by go_num, by go_num, by show _ = _; omega, HACC.out, HVAL.out, HALL.out, hR2.out, hB2.out⟩
                      · have HFIN := Lib.hid (HBAD.out (by
                          cases e : plainB 6 cur
                          · rfl
                          · exact absurd (List.all_eq_true.1 ((plainB_iff cur).1 e).2.2.1 _ (List.getElem_mem hpc)) hd))
                        have hdd : z < 48 ∨ 57 < z := by
                          unfold isDig at hd
                          rw [Bool.and_eq_true, decide_eq_true_eq, decide_eq_true_eq] at hd
                          omega
                        clear hd hzz
                        rcases hdd with hz3 | hz4
                        · have hz5 : decide (z < 48) = true := decide_eq_true hz3
                          go_wp2_with fail
                          go_ret2
                          rw [HFIN.out]
                          exact ⟨_, rfl, Kd.R_nil _ _ _ _ _, hB2.out⟩
                        · have hz3 : ¬ z < 48 := by omega
                          have hz5 : decide (z < 48) = false := decide_eq_false hz3
                          have hz6 : decide (z > 57) = true := decide_eq_true hz4
                          go_wp2_with fail
                          go_ret2
                          rw [HFIN.out]
                          exact ⟨_, rfl, Kd.R_nil _ _ _ _ _, hB2.out⟩
                    · have hpm2 : ¬ (p : Int) < m := by omega
                      have hpm3 : decide ((p : Int) < m) = false := decide_eq_false hpm2
                      have hpe : p = cur.length := by have := HM.out; have := hpk.out; omega
                      have HPL : Hid (plainB 6 cur = true) := HHEAD.out (by have h := hall.out; rwa [hpe, List.take_length] at h)
                      have hva : val 0 cur = acc := by rw [hval.out, hpe, List.drop_length]; rfl
                      have HF2 : Hid (fin (vs ++ [(acc : Int)]) (restP t (i + 1) (i + 1)) = fin [] (splitB 46 t)) := by
                        show _ = _
                        rw [← HFC.out, fin_good HPL.out, hva]
                      have hz4 := hB2.out.size
                      have HZ4 := Lib.hid hz4
                      have hvl : vs.length ≤ 1000 := by have := hvi.out; omega
                      clear hpe hva hz4
                      go_wp2_with ((with_reducible refine gate_builtin (b := .append) (xs := #[.tmp 76, .tmp 78]) rfl ?_); at_builtin; refine Kd.R_append (Kd.int .i64) (w0 := w) w.heap.size rfl (.tmp 76) (.tmp 78) 22 3 (.int .i64 0) 8 rfl Tryd.underlying22 info3b rfl (by decide) (by omega) u4 vs (acc : Int) [.int .i64 (acc : Int)] (fun _ => True) (fun _ => False) rfl rfl ?aP (fun _ hk => hk.elim) (fun _ _ => trivial) ?aO ?aB ?aS ?aL ?_; (case aP => exact rfl); (case aO => exact hR2.out); (case aB => exact hB2.out); (case aS => exact HZ4.out); (case aL => omega); intro v6 w6 hr6 hb6 hg6 _; have HR6 := Lib.hid hr6; have HB6 := Lib.hid hb6; clear hr6 hb6 hg6)
                      go_roundg (n + 1 - (i + 1))
                      case measure => have := hik.out; omega
                      case rel => exact ⟨i + 1, i + 1, vs ++ [(acc : Int)], by go_num, by go_num, by show _ = _; omega, Nat.le_refl _, by show _ ≤ _; rw [List.length_append]; have := hvi.out; simp; omega, HR6.out, HB6.out, HF2.out⟩
    · have hie : i = n + 1 := by have := hik.out; omega
      have hend : restP t a i = [] := by unfold restP; rw [if_neg (by have := HN.out; omega)]
      have hF3 := hF.out
      rw [hend] at hF3
      have HF3 := Lib.hid hF3
      have hin2 : decide ((i : Int) ≤ n) = false := decide_eq_false (by omega)
      have hin3 : ¬ (i : Int) ≤ n := by omega
      obtain ⟨A, c, hu, _⟩ := own_reads_of_le (d := (0 : Int)) (Kd.own_of_R hR.out)
      subst hu
      obtain ⟨q, hq⟩ : ∃ q, q = vs.length := ⟨_, rfl⟩
      have hR2 := hR.out
      rw [← hq] at hR2 ⊢
      have HR2 := Lib.hid hR2
      have HQ := Lib.hid hq
      clear hR hR2 hq hie hend hF hF3 hin hvi
      by_cases h30 : 30 < q
      · have HFIN : Hid (fin [] (splitB 46 t) = ([], 3)) := by
          show _ = _
          rw [← HF3.out]
          unfold fin
          rw [if_pos (by rfl), if_pos (by rw [← HQ.out]; simpa using h30)]
        have hq1 : decide ((q : Int) > 30) = true := decide_eq_true (by omega)
        have hq2 : 30 < (q : Int) := by omega
        go_wp2_with fail
        go_ret2
        rw [HFIN.out]
        exact ⟨_, rfl, Kd.R_nil _ _ _ _ _, hB.out⟩
      · have HFIN : Hid (fin [] (splitB 46 t) = (vs, 0)) := by
          show _ = _
          rw [← HF3.out]
          unfold fin
          rw [if_pos (by rfl), if_neg (by rw [← HQ.out]; simpa using h30)]
          simp
        have hq1 : decide ((q : Int) > 30) = false := decide_eq_false (by omega)
        have hq2 : ¬ 30 < (q : Int) := by omega
        go_wp2_with fail
        go_ret2
        rw [HFIN.out]
        exact ⟨_, rfl, HR2.out, hB.out⟩
end Go.Proofs.YtcchoeomeklgmaaDoor.Core
