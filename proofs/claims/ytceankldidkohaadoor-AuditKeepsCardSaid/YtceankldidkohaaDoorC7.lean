/- slices.Compare, path.Compare and the closure of audit.Did's sort: which of two paths stands ahead. -/
import Derived.Test.YtceankldidkohaaDoorC6
namespace Go.Proofs.YtceankldidkohaaDoor.Core
open Go.RowKit Go.Proofs.YtceankldidkohaaDoorW.PrintWords Go.Proofs.YtceankldidkohaaDoorW.PrintMore Go.Proofs.YtceankldidkohaaDoor.PAuditTwice Go.Proofs.YtceankldidkohaaDoor
set_option linter.unusedVariables false
set_option linter.unusedSimpArgs false
theorem cmpL_at {x y : List Int} {j : Nat} (hx : j < x.length) (hy : j < y.length) : cmpL (x.drop j) (y.drop j) = if x[j] < y[j] then -1 else if x[j] > y[j] then 1 else cmpL (x.drop (j + 1)) (y.drop (j + 1)) := by
  rw [List.drop_eq_getElem_cons hx, List.drop_eq_getElem_cons hy]
  rfl
theorem C_cell {k : IntKind} {w : World} {A : Option Addr} {xs : List Int} {i : Nat} (h : (Kd.int k).C w A xs.length xs) (hi : i < xs.length) : ∃ ad, A = some ad ∧ w.cell? (ad.add i) = some (.int k xs[i]) := by
  have hr := Kd.reads_of_C (enc := Value.int k) (d := (0 : Int)) (h1 := fun _ => rfl) h
  obtain ⟨ad, e, hc⟩ := hr.2.2 (by omega)
  refine ⟨ad, e, ?_⟩
  have := hc i hi
  simpa [List.getD, List.getElem?_eq_getElem hi] using this
set_option maxHeartbeats 1000000 in
set_option maxRecDepth 100000 in
theorem scmp_any {x y : List Int} {Ax Ay : Option Addr} {cx cy : Nat} {w : World} (hx : x.length ≤ 1000000) (hy : y.length ≤ 1000000) (hX : (Kd.int .i64).C w Ax x.length x) (hY : (Kd.int .i64).C w Ay y.length y) :
    Calls Tryd.prog 36 #[.slice Ax x.length cx, .slice Ay y.length cy] w fun e W' => e = .returned (.int .i64 (cmpL x y)) ∧ W' = w := by
  have HX := Lib.hid hX
  have HY := Lib.hid hY
  obtain ⟨n, hnn⟩ : ∃ n, n = x.length := ⟨_, rfl⟩
  obtain ⟨m, hmm⟩ : ∃ m, m = y.length := ⟨_, rfl⟩
  obtain ⟨r, hr⟩ : ∃ r, r = cmpL x y := ⟨_, rfl⟩
  have HN := Lib.hid hnn
  have HM := Lib.hid hmm
  have HR := Lib.hid hr
  rw [← hnn] at hx ⊢
  rw [← hmm] at hy ⊢
  rw [← hr]
  clear hX hY hnn hmm hr
  go_enter Tryd.func36, Tryd.ntmps36
  go_wp2_with fail
  go_loopg [11] n (fun k v X => ∃ j : Nat, j + k = n ∧ v = .int .i64 j ∧ X = w ∧ Hid (cmpL (x.drop j) (y.drop j) = r) ∧ Hid (j ≤ m))
  case atStart => exact ⟨0, by omega, rfl, rfl, HR.out.symm, Nat.zero_le _⟩
  case round =>
    obtain ⟨j, hjk, rfl, rfl, hS, hL⟩ := hrel
    have HK := Lib.hid hjk
    clear hjk
    by_cases hlt : j < n
    · have hl : j < x.length := by have := HN.out; omega
      obtain ⟨ax, ha, hca⟩ := C_cell HX.out hl
      subst ha
      have HLT := Lib.hid hlt
      by_cases hjm : j < m
      · have hl2 : j < y.length := by have := HM.out; omega
        obtain ⟨ay, hb, hcb⟩ := C_cell HY.out hl2
        subst hb
        have hS' : Hid ((if x[j] < y[j] then -1 else if x[j] > y[j] then 1 else cmpL (x.drop (j + 1)) (y.drop (j + 1))) = r) := by
          show _ = r
          rw [← cmpL_at hl hl2]
          exact hS.out
        clear hS
        generalize x[j] = a at *
        generalize y[j] = b at *
        clear hl hl2
        have hge : (decide ((j : Int) ≥ (m : Int))) = false := by simp; omega
        have HJM := Lib.hid hjm
        go_wp2_with fail
        refine (Tryd.cmp_Compare_int a b _).mono ?_
        rintro e w2 ⟨rfl, rfl⟩
        obtain ⟨q, hq⟩ : ∃ q, q = Lib.compareInt a b := ⟨_, rfl⟩
        rw [← hq]
        have HQ : Hid (q = if a < b then -1 else if a > b then 1 else 0) := by
          show q = _
          rw [hq]
          unfold Lib.compareInt
          rfl
        clear hq
        by_cases h0 : q = 0
        · subst h0
          have hab : Hid (cmpL (x.drop (j + 1)) (y.drop (j + 1)) = r) := by
            show _ = r
            rw [← hS'.out]
            have := HQ.out
            by_cases h1 : a < b
            · rw [if_pos h1] at this; omega
            · by_cases h2 : a > b
              · rw [if_neg h1, if_pos h2] at this; omega
              · rw [if_neg h1, if_neg h2]
          go_wp2_with fail
          go_roundg (n - (j + 1))
          case measure => have := HK.out; have := HLT.out; omega
          case rel => exact ⟨j + 1, by have := HLT.out; omega, by go_num, rfl, hab, HJM.out⟩
        · have hq0 : (q != 0) = true := by simpa using h0
          have hqr : Hid (q = r) := by
            show q = r
            rw [← hS'.out]
            have := HQ.out
            by_cases h1 : a < b
            · rw [if_pos h1] at this ⊢; exact this
            · by_cases h2 : a > b
              · rw [if_neg h1, if_pos h2] at this ⊢; exact this
              · rw [if_neg h1, if_neg h2] at this; exact absurd this h0
          go_wp2_with fail
          go_ret
          exact ⟨by rw [hqr.out]; rfl, rfl⟩
      · have hge : (decide ((j : Int) ≥ (m : Int))) = true := by simp; omega
        have hr1 : Hid (r = 1) := by
          show r = 1
          have := hS.out
          rw [List.drop_of_length_le (l := y) (by have := HM.out; omega), List.drop_eq_getElem_cons hl] at this
          exact this.symm
        go_wp2_with fail
        go_ret
        exact ⟨by rw [hr1.out]; rfl, rfl⟩
    · obtain rfl : j = n := by have := HK.out; omega
      have hS2 := hS.out
      rw [List.drop_of_length_le (l := x) (by have := HN.out; omega)] at hS2
      by_cases hjm : j < m
      · have hlt2 : (decide ((j : Int) < (m : Int))) = true := by simp; omega
        have hr1 : Hid (r = -1) := by
          show r = -1
          rw [List.drop_eq_getElem_cons (l := y) (by have := HM.out; omega)] at hS2
          exact hS2.symm
        clear hS2
        go_wp2_with fail
        go_ret
        exact ⟨by rw [hr1.out]; rfl, rfl⟩
      · have hlt2 : (decide ((j : Int) < (m : Int))) = false := by simp; omega
        have hr1 : Hid (r = 0) := by
          show r = 0
          rw [List.drop_of_length_le (l := y) (by have := HM.out; omega)] at hS2
          exact hS2.symm
        clear hS2
        go_wp2_with fail
        go_ret
        exact ⟨by rw [hr1.out]; rfl, rfl⟩
theorem pcmp_any {x y : List Int} {Ax Ay : Option Addr} {cx cy : Nat} {w : World} (hx : x.length ≤ 1000000) (hy : y.length ≤ 1000000) (hX : (Kd.int .i64).C w Ax x.length x) (hY : (Kd.int .i64).C w Ay y.length y) :
    Calls Tryd.prog 26 #[.slice Ax x.length cx, .slice Ay y.length cy] w fun e W' => e = .returned (.int .i64 (cmpL x y)) ∧ W' = w := by
  have H := Lib.hid (scmp_any (cx := cx) (cy := cy) hx hy hX hY)
  obtain ⟨n, hnn⟩ : ∃ n, n = x.length := ⟨_, rfl⟩
  obtain ⟨m, hmm⟩ : ∃ m, m = y.length := ⟨_, rfl⟩
  obtain ⟨r, hr⟩ : ∃ r, r = cmpL x y := ⟨_, rfl⟩
  rw [← hnn, ← hmm, ← hr] at H ⊢
  clear hx hy hX hY hnn hmm hr
  go_enter Tryd.func26, Tryd.ntmps26
  go_wp2_with fail
  refine H.out.mono ?_
  rintro e w2 ⟨rfl, rfl⟩
  go_wp2_with fail
  go_ret
  exact ⟨rfl, rfl⟩
/-- The closure that audit.Did sorts by. -/
theorem less_any {x y : List Int} {sx sy : Int} {Ax Ay : Option Addr} {cx cy : Nat} {w : World} (hx : x.length ≤ 1000000) (hy : y.length ≤ 1000000) (hX : (Kd.int .i64).C w Ax x.length x) (hY : (Kd.int .i64).C w Ay y.length y) :
    Calls Tryd.prog 25 #[.agg #[.slice Ax x.length cx, .int .i64 sx], .agg #[.slice Ay y.length cy, .int .i64 sy]] w fun e W' => e = .returned (.int .i64 (cmpL x y)) ∧ Below w.heap.size w W' := by
  have H : Hid (∀ W, Below w.heap.size w W → Calls Tryd.prog 26 #[.slice Ax x.length cx, .slice Ay y.length cy] W fun e W' => e = .returned (.int .i64 (cmpL x y)) ∧ W' = W) := fun W hb => pcmp_any (cx := cx) (cy := cy) hx hy (Kd.C_below hX hb) (Kd.C_below hY hb)
  obtain ⟨n, hnn⟩ : ∃ n, n = x.length := ⟨_, rfl⟩
  obtain ⟨m, hmm⟩ : ∃ m, m = y.length := ⟨_, rfl⟩
  obtain ⟨r, hr⟩ : ∃ r, r = cmpL x y := ⟨_, rfl⟩
  rw [← hnn, ← hmm, ← hr] at H ⊢
  clear hx hy hX hY hnn hmm hr
  go_enter Tryd.func25, Tryd.ntmps25
  go_wp2_with fail
  have hb : Below w.heap.size w ((w.alloc (.cells #[.slice Ax n cx, .int .i64 sx] 38)).alloc (.cells #[.slice Ay m cy, .int .i64 sy] 38)) := ((Below.refl _ _).alloc (Nat.le_refl _) _).alloc (by simp) _
  refine (H.out _ hb).mono ?_
  rintro e w2 ⟨rfl, rfl⟩
  go_wp2_with fail
  go_ret
  exact ⟨rfl, hb⟩
end Go.Proofs.YtceankldidkohaaDoor.Core
