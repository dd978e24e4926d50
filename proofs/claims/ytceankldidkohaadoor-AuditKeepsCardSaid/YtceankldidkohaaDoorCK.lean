/- Whether what a job did keeps within a row that rises: the reference, in plain Lean. Walks: the search in a row that rises. Walks: a task's entry in an unfolding. Walks: the closures of Within and Covers. Walks: slices.ContainsFunc at the two closures. Walks: audit.Within, audit.Covers. The row that haymowlaw20.tree builds in a struct's field. The walk of haymowlaw20.tree. Written by gen_audit_tree.py. -/
import Derived.Test.YtceankldidkohaaDoorCJ
import Derived.Test.YtceankldidkohaaDoorRegion
/-! Whether what a job did keeps within a row that rises: the reference, in plain Lean. -/
namespace Go.Proofs.YtceankldidkohaaDoor.Core
open Go.RowKit Go.Proofs.YtceankldidkohaaDoorW.PrintWords Go.Proofs.YtceankldidkohaaDoorW.PrintMore Go.Proofs.YtceankldidkohaaDoor.PAuditTwice Go.Proofs.YtceankldidkohaaDoor.P2 Go.Proofs.YtceankldidkohaaDoor
set_option linter.unusedVariables false
set_option linter.unusedSimpArgs false
def okB (just : Bool) (a b : Int) : Bool := a == b || (!just && decide (a < b))
def lastOk (just : Bool) (e : S40) : Bool → List S40 → Bool
  | b, [] => b
  | b, x :: r => lastOk just e (if e.f0 = x.f0 then okB just e.f1 x.f1 else b) r
def keepOne (just : Bool) (t : List S40) (e : S40) : Bool :=
  match look t e.f0 with
  | none => false
  | some s => okB just e.f1 s
def keepsB (did t : List S40) (just : Bool) : Bool := (did.all fun e => keepOne just t e) && (!just || did.length == t.length)
theorem lastOk_none {just : Bool} {e : S40} : ∀ {t : List S40} (b : Bool), (∀ x ∈ t, x.f0 ≠ e.f0) → lastOk just e b t = b
  | [], b, _ => rfl
  | x :: t, b, h => by
    show lastOk just e (if e.f0 = x.f0 then _ else b) t = b
    rw [if_neg (fun he => h x (by simp) he.symm)]
    exact lastOk_none b (fun y hy => h y (by simp [hy]))
theorem lastOk_look {just : Bool} {e : S40} : ∀ {t : List S40}, Asc t → lastOk just e false t = keepOne just t e
  | [], _ => rfl
  | x :: t, ha => by
    obtain ⟨h1, h2⟩ := List.pairwise_cons.1 ha
    show lastOk just e (if e.f0 = x.f0 then _ else false) t = _
    by_cases he : e.f0 = x.f0
    · rw [if_pos he, lastOk_none]
      · unfold keepOne
        rw [show look (x :: t) e.f0 = some x.f1 from by rw [he]; exact look_head]
      · intro y hy hey
        have := h1 y hy
        rw [hey, he, cmpL_refl] at this
        omega
    · rw [if_neg he, lastOk_look h2]
      unfold keepOne
      rw [show look (x :: t) e.f0 = look t e.f0 from by simp [look, Ne.symm he]]
theorem compare_fk {a b : List Int} (ha : a.length ≤ 1000) (hb : b.length ≤ 1000) {k : Nat} (hk : 2002 ≤ k) : haymowref05_Compare.f k a b = some (cmpL a b) :=
  LeO_le (f := fun k => haymowref05_Compare.f k a b) (haymowref05_Compare.mono a b) (show 2 * a.length + 2 ≤ k by omega) (rcompare_f a b (by omega) (by omega))
theorem rkeeps_l1 {did t : List S40} {just : Bool} (hd : did.length ≤ 1000) (ht : t.length ≤ 1000) (hdp : ∀ e ∈ did, e.f0.length ≤ 1000) (htp : ∀ e ∈ t, e.f0.length ≤ 1000) {i : Nat} (hi : i < did.length) (d : Nat) : ∀ (K j : Nat) (b : Bool), t.length - j = d → j ≤ t.length → 2002 + d < K →
    ∃ K', K ≤ K' + d + 1 ∧ haymowref20_Keeps.l1 K did t just i b j = if lastOk just did[i] b (t.drop j) = true then haymowref20_Keeps.l0 K' did t just ((i + 1 : Nat) : Int) else some false := by
  induction d with
  | zero =>
    intro K j b hj hjl hK
    obtain ⟨K, rfl⟩ : ∃ m, K = m + 1 := ⟨K - 1, by omega⟩
    refine ⟨K, by omega, ?_⟩
    have hw := wr (n := (i : Int) + 1) (by omega) (by omega)
    simp only [haymowref20_Keeps.l1]
    rw [if_neg (by omega), List.drop_of_length_le (by omega), hw]
    rfl
  | succ d ih =>
    intro K j b hj hjl hK
    obtain ⟨K, rfl⟩ : ∃ m, K = m + 1 := ⟨K - 1, by omega⟩
    have hjt : j < t.length := by omega
    have hw := wr (n := (j : Int) + 1) (by omega) (by omega)
    have e1 : wrap64 ((j : Int) + 1) = ((j + 1 : Nat) : Int) := by rw [hw]; omega
    have hc := compare_fk (k := K) (hdp _ (List.getElem_mem hi)) (htp _ (List.getElem_mem hjt)) (by omega)
    obtain ⟨K', h1, h2⟩ := ih K (j + 1) (if did[i].f0 = t[j].f0 then okB just did[i].f1 t[j].f1 else b) (by omega) (by omega) (by omega)
    refine ⟨K', by omega, ?_⟩
    have hl : lastOk just did[i] b (t.drop j) = lastOk just did[i] (if did[i].f0 = t[j].f0 then okB just did[i].f1 t[j].f1 else b) (t.drop (j + 1)) := by
      rw [List.drop_eq_getElem_cons hjt]
      rfl
    rw [hl, ← h2]
    simp only [haymowref20_Keeps.l1]
    rw [if_pos (by omega), if_pos (by omega), if_pos (by omega), if_pos (by omega), rd40 hi, rd40 hjt, hc]
    simp only [Option.bind_some]
    rw [e1]
    by_cases h0 : did[i].f0 = t[j].f0
    · rw [if_pos (by rw [h0]; exact cmpL_refl _), if_pos h0]
      unfold okB
      by_cases h3 : did[i].f1 = t[j].f1
      · rw [if_pos h3]
        simp [h3]
      · rw [if_neg h3]
        have h4 : (did[i].f1 == t[j].f1) = false := by simpa using h3
        rw [h4]
        cases just <;> simp
    · rw [if_neg (fun h => h0 (cmpL_zero h)), if_neg h0]
theorem rkeeps_l0 {did t : List S40} {just : Bool} (hd : did.length ≤ 1000) (ht : t.length ≤ 1000) (hdp : ∀ e ∈ did, e.f0.length ≤ 1000) (htp : ∀ e ∈ t, e.f0.length ≤ 1000) (d : Nat) : ∀ (K i : Nat), i + d = did.length → 4000 * (d + 1) < K →
    haymowref20_Keeps.l0 K did t just i = some (((did.drop i).all fun e => lastOk just e false t) && (!just || did.length == t.length)) := by
  induction d with
  | zero =>
    intro K i hi hK
    obtain ⟨K, rfl⟩ : ∃ m, K = m + 1 := ⟨K - 1, by omega⟩
    simp only [haymowref20_Keeps.l0]
    rw [if_neg (by omega), List.drop_of_length_le (by omega)]
    cases just
    · simp
    · simp
      rw [Bool.eq_iff_iff]
      simp
      omega
  | succ d ih =>
    intro K i hi hK
    obtain ⟨K, rfl⟩ : ∃ m, K = m + 1 := ⟨K - 1, by omega⟩
    have hil : i < did.length := by omega
    obtain ⟨K', h1, h2⟩ := rkeeps_l1 (just := just) hd ht hdp htp hil t.length K 0 false (by omega) (by omega) (by omega)
    simp only [haymowref20_Keeps.l0]
    rw [if_pos (by omega), show (0 : Int) = ((0 : Nat) : Int) from rfl, h2, List.drop_zero, ih K' (i + 1) (by omega) (by omega), List.drop_eq_getElem_cons hil, List.all_cons]
    cases lastOk just did[i] false t <;> simp
theorem rkeeps_f {did t : List S40} {just : Bool} (hd : did.length ≤ 1000) (ht : t.length ≤ 1000) (hdp : ∀ e ∈ did, e.f0.length ≤ 1000) (htp : ∀ e ∈ t, e.f0.length ≤ 1000) (ha : Asc t) :
    haymowref20_Keeps.f (4000 * (did.length + 1) + 1) did t just = some (keepsB did t just) := by
  have h := rkeeps_l0 (just := just) hd ht hdp htp did.length (4000 * (did.length + 1) + 1) 0 (by omega) (by omega)
  have e : (fun e => lastOk just e false t) = fun e => keepOne just t e := funext fun e => lastOk_look ha
  rw [e, List.drop_zero] at h
  exact h
end Go.Proofs.YtceankldidkohaaDoor.Core
/-! Walks: the search in a row that rises. -/
namespace Go.Proofs.YtceankldidkohaaDoor.Core
open Go.RowKit Go.Proofs.YtceankldidkohaaDoorW.PrintWords Go.Proofs.YtceankldidkohaaDoorW.PrintMore Go.Proofs.YtceankldidkohaaDoor.PAuditTwice Go.Proofs.YtceankldidkohaaDoor
set_option linter.unusedVariables false
set_option linter.unusedSimpArgs false
theorem fcmp_any {x y : List Int} {s : Int} {Ax Ay : Option Addr} {cx cy : Nat} {w : World} (hx : x.length ≤ 1000000) (hy : y.length ≤ 1000000) (hX : (Kd.int .i64).C w Ax x.length x) (hY : (Kd.int .i64).C w Ay y.length y) :
    Calls Tryd.prog 39 #[.agg #[.slice Ax x.length cx, .int .i64 s], .slice Ay y.length cy] w fun e W' => e = .returned (.int .i64 (cmpL x y)) ∧ Below w.heap.size w W' := by
  have H : Hid (∀ W, Below w.heap.size w W → Calls Tryd.prog 26 #[.slice Ax x.length cx, .slice Ay y.length cy] W fun e W' => e = .returned (.int .i64 (cmpL x y)) ∧ W' = W) := fun W hb => pcmp_any (cx := cx) (cy := cy) hx hy (Kd.C_below hX hb) (Kd.C_below hY hb)
  obtain ⟨n, hnn⟩ : ∃ n, n = x.length := ⟨_, rfl⟩
  obtain ⟨m, hmm⟩ : ∃ m, m = y.length := ⟨_, rfl⟩
  obtain ⟨r, hr⟩ : ∃ r, r = cmpL x y := ⟨_, rfl⟩
  rw [← hnn, ← hmm, ← hr] at H ⊢
  clear hx hy hX hY hnn hmm hr
  go_enter Tryd.func39, Tryd.ntmps39
  go_wp2_with fail
  have hb : Below w.heap.size w (w.alloc (.cells #[.slice Ax n cx, .int .i64 s] 38)) := (Below.refl _ _).alloc (Nat.le_refl _) _
  refine (H.out _ hb).mono ?_
  rintro e w2 ⟨rfl, rfl⟩
  go_wp2_with fail
  go_ret
  exact ⟨rfl, hb⟩
/-- What a search tells. -/
def Found (t : List S40) (p : List Int) (i : Nat) (is : Bool) : Prop := (is = true → ∃ h : i < t.length, t[i].f0 = p) ∧ (is = false → ∀ x ∈ t, x.f0 ≠ p)
set_option maxHeartbeats 4000000 in
theorem bs_any {w : World} {t : List S40} {A : Option Addr} {c : Nat} {p : List Int} {B : Option Addr} {d : Nat} (ha : Asc t) (htl : t.length ≤ 1000) (htp : ∀ e ∈ t, e.f0.length ≤ 1000) (hpl : p.length ≤ 1000) (hT : Kd.C k40 w A t.length t) (hP : (Kd.int .i64).C w B p.length p) :
    Calls Tryd.prog 38 #[.slice A t.length c, .slice B p.length d, .func (.func 39) #[] #[]] w fun e W' => ∃ (i : Nat) (is : Bool), e = .returned (.tuple #[.int .i64 i, .bool is]) ∧ Found t p i is ∧ Below w.heap.size w W' := by
  have HA := Lib.hid ha
  have HTP := Lib.hid htp
  have HT := Lib.hid hT
  have HP := Lib.hid hP
  have HPL := Lib.hid hpl
  obtain ⟨n, hnn⟩ : ∃ n, n = t.length := ⟨_, rfl⟩
  obtain ⟨m, hmm⟩ : ∃ m, m = p.length := ⟨_, rfl⟩
  rw [← hnn] at htl
  have HN := Lib.hid hnn
  have HM := Lib.hid hmm
  rw [← hnn, ← hmm]
  clear ha htp hT hP hnn hmm hpl
  go_enter Tryd.func38, Tryd.ntmps38
  go_wp2_with fail
  go_loopg [9, 10] n (fun k v9 v10 X => ∃ (i j : Nat), i + k = j ∧ j ≤ n ∧ v9 = .int .i64 i ∧ v10 = .int .i64 j ∧ Hid (∀ q (h : q < t.length), q < i → cmpL t[q].f0 p < 0) ∧ Hid (∀ q (h : q < t.length), j ≤ q → 0 ≤ cmpL t[q].f0 p) ∧ Hid (Below w.heap.size w X))
  case atStart => exact ⟨0, n, by omega, Nat.le_refl _, rfl, rfl, fun q h hq => by omega, fun q h hq => by have := HN.out; omega, Below.refl _ _⟩
  case round =>
    obtain ⟨i, j, hij, hjn, rfl, rfl, hlo, hhi, hB⟩ := hrel
    have HIJ := Lib.hid hij
    obtain ⟨X, hX⟩ : ∃ X, X = wr := ⟨_, rfl⟩
    subst hX
    by_cases hlt : i < j
    · clear hij
      have hq1 : i ≤ (i + j) / 2 := by omega
      have hq2 : (i + j) / 2 < j := by omega
      have hql : (i + j) / 2 < t.length := by have := HN.out; omega
      obtain ⟨ad, B0, d0, rfl, g0, g1, l0, r0⟩ := at_T40 (Kd.C_below HT.out hB.out) (((i + j) / 2 : Nat) : Int) (Int.natCast_nonneg _) (by omega)
      have hy : rd_T40 t (((i + j) / 2 : Nat) : Int) = t[(i + j) / 2] := by rw [rd40 hql]
      have hyl := HTP.out _ (List.getElem_mem hql)
      rw [← hy] at hyl
      have HY := Lib.hid hy
      clear hy
      obtain ⟨y, hyy⟩ : ∃ y, y = rd_T40 t (((i + j) / 2 : Nat) : Int) := ⟨_, rfl⟩
      rw [← hyy] at g0 g1 l0 r0 hyl HY
      clear hyy
      simp only [Int.toNat_natCast] at g0 g1
      have HCMP : Hid (Calls Tryd.prog 39 #[.agg #[.slice B0 y.f0.length d0, .int .i64 y.f1], .slice B m d] X fun e W' => e = .returned (.int .i64 (cmpL y.f0 p)) ∧ Below X.heap.size X W') := by
        have h := fcmp_any (x := y.f0) (y := p) (s := y.f1) (cx := d0) (cy := d) (w := X) (by omega) (by have := HPL.out; omega) r0 (Kd.C_below HP.out hB.out)
        rw [← HM.out] at h
        exact h
      obtain ⟨cc, hcc⟩ : ∃ cc, cc = cmpL y.f0 p := ⟨_, rfl⟩
      rw [← hcc] at HCMP
      have HCC := Lib.hid hcc
      clear hcc l0 r0 hyl
      have HQ1 := Lib.hid hq1
      have HQ2 := Lib.hid hq2
      by_cases hc : cc < 0
      · go_wp2_with fail
        refine HCMP.out.mono ?_
        rintro e w2 ⟨rfl, hb2⟩
        have B2 : Hid (Below w.heap.size w w2) := below_lower hB.out hb2
        clear hb2
        go_wp2_with fail
        go_roundg (j - ((i + j) / 2 + 1))
        case measure => have := HIJ.out; omega
        case rel =>
          refine ⟨(i + j) / 2 + 1, j, by omega, hjn, by go_num, rfl, fun q h hq => ?_, hhi.out, B2.out⟩
          have hlt : cmpL t[(i + j) / 2].f0 p < 0 := by rw [← HY.out, ← HCC.out]; exact hc
          rcases Nat.lt_or_ge q ((i + j) / 2) with h1 | h1
          · exact cmpL_lt_trans (List.pairwise_iff_getElem.1 HA.out q _ h hql h1) hlt
          · obtain rfl : q = (i + j) / 2 := by omega
            exact hlt
      · go_wp2_with fail
        refine HCMP.out.mono ?_
        rintro e w2 ⟨rfl, hb2⟩
        have B2 : Hid (Below w.heap.size w w2) := below_lower hB.out hb2
        clear hb2
        go_wp2_with fail
        go_roundg ((i + j) / 2 - i)
        case measure => have := HIJ.out; omega
        case rel =>
          refine ⟨i, (i + j) / 2, by omega, by omega, rfl, by go_num, hlo.out, fun q h hq => ?_, B2.out⟩
          have hge : 0 ≤ cmpL t[(i + j) / 2].f0 p := by rw [← HY.out, ← HCC.out]; omega
          rcases Nat.lt_or_ge ((i + j) / 2) q with h1 | h1
          · refine Int.not_lt.1 fun hh => ?_
            have := cmpL_lt_trans (List.pairwise_iff_getElem.1 HA.out _ q hql h h1) hh
            omega
          · obtain rfl : q = (i + j) / 2 := by omega
            exact hge
    · obtain rfl : i = j := by omega
      clear hij
      by_cases hin : i < n
      · have hql : i < t.length := by have := HN.out; omega
        obtain ⟨ad, B0, d0, rfl, g0, g1, l0, r0⟩ := at_T40 (Kd.C_below HT.out hB.out) (i : Int) (Int.natCast_nonneg _) (by omega)
        have hy : rd_T40 t (i : Int) = t[i] := by rw [rd40 hql]
        have hyl := HTP.out _ (List.getElem_mem hql)
        rw [← hy] at hyl
        have HY := Lib.hid hy
        clear hy
        obtain ⟨y, hyy⟩ : ∃ y, y = rd_T40 t (i : Int) := ⟨_, rfl⟩
        rw [← hyy] at g0 g1 l0 r0 hyl HY
        clear hyy
        simp only [Int.toNat_natCast] at g0 g1
        have HCMP : Hid (Calls Tryd.prog 39 #[.agg #[.slice B0 y.f0.length d0, .int .i64 y.f1], .slice B m d] X fun e W' => e = .returned (.int .i64 (cmpL y.f0 p)) ∧ Below X.heap.size X W') := by
          have h := fcmp_any (x := y.f0) (y := p) (s := y.f1) (cx := d0) (cy := d) (w := X) (by omega) (by have := HPL.out; omega) r0 (Kd.C_below HP.out hB.out)
          rw [← HM.out] at h
          exact h
        obtain ⟨cc, hcc⟩ : ∃ cc, cc = cmpL y.f0 p := ⟨_, rfl⟩
        rw [← hcc] at HCMP
        have HCC := Lib.hid hcc
        have HQL := Lib.hid hql
        clear hcc l0 r0 hyl
        go_wp2_with fail
        refine HCMP.out.mono ?_
        rintro e w2 ⟨rfl, hb2⟩
        have B2 : Hid (Below w.heap.size w w2) := below_lower hB.out hb2
        clear hb2
        go_wp2_with fail
        go_ret2
        refine ⟨i, _, rfl, ⟨fun he => ⟨HQL.out, ?_⟩, fun he x hx hxp => ?_⟩, B2.out⟩
        · have he : cc = 0 := by simpa using he
          rw [HCC.out, HY.out] at he
          exact cmpL_zero he
        · have he : cc ≠ 0 := by simpa using he
          obtain ⟨q, hq, rfl⟩ := List.getElem_of_mem hx
          rcases Nat.lt_trichotomy q i with h1 | rfl | h1
          · have h2 := hlo.out q hq h1
            rw [hxp, cmpL_refl] at h2
            omega
          · rw [HCC.out, HY.out, hxp, cmpL_refl] at he
            exact he rfl
          · have h2 := hhi.out i HQL.out (Nat.le_refl _)
            have h3 := List.pairwise_iff_getElem.1 HA.out i q HQL.out hq h1
            rw [hxp] at h3
            omega
      · go_wp2_with fail
        go_ret2
        refine ⟨i, _, rfl, ⟨(fun he => by cases he), fun _ x hx hxp => ?_⟩, hB.out⟩
        obtain ⟨q, hq, rfl⟩ := List.getElem_of_mem hx
        have h2 := hlo.out q hq (by have := HN.out; omega)
        rw [hxp, cmpL_refl] at h2
        omega
end Go.Proofs.YtceankldidkohaaDoor.Core
/-! Walks: a task's entry in an unfolding. -/
namespace Go.Proofs.YtceankldidkohaaDoor.Core
open Go.RowKit Go.Proofs.YtceankldidkohaaDoorW.PrintWords Go.Proofs.YtceankldidkohaaDoorW.PrintMore Go.Proofs.YtceankldidkohaaDoor.PAuditTwice Go.Proofs.YtceankldidkohaaDoor
set_option linter.unusedVariables false
set_option linter.unusedSimpArgs false
/-- An unfolding as a value: its log, and whatever else. -/
structure Tr where
  n : Value
  b0 : Int
  b1 : Int
  b2 : Int
  b3 : Int
def Tr.cells (x : Tr) (A : Option Addr) (m c : Nat) : Array Value := #[x.n, .slice A m c, .int .i64 x.b0, .int .i64 x.b1, .int .i64 x.b2, .int .i64 x.b3]
set_option maxHeartbeats 4000000 in
theorem found_any {w : World} {t : List S40} {A : Option Addr} {c : Nat} {p : List Int} {B : Option Addr} {d : Nat} (N : Option Addr) (b0 b1 b2 b3 : Int) (ha : Asc t) (htl : t.length ≤ 1000) (htp : ∀ e ∈ t, e.f0.length ≤ 1000) (hpl : p.length ≤ 1000) (hT : Kd.C k40 w A t.length t) (hP : (Kd.int .i64).C w B p.length p) :
    Calls Tryd.prog 29 #[.agg #[.pointer N, .slice A t.length c, .int .i64 b0, .int .i64 b1, .int .i64 b2, .int .i64 b3], .slice B p.length d] w fun e W' => ∃ (VA : Option Addr) (vn vc : Nat) (s : Int) (is : Bool), e = .returned (.tuple #[.agg #[.slice VA vn vc, .int .i64 s], .bool is]) ∧ look t p = (if is then some s else none) ∧ Below w.heap.size w W' := by
  have HA := Lib.hid ha
  have HT := Lib.hid hT
  have HBS : Hid (∀ W, Below w.heap.size w W → Calls Tryd.prog 38 #[.slice A t.length c, .slice B p.length d, .func (.func 39) #[] #[]] W fun e W' => ∃ (i : Nat) (is : Bool), e = .returned (.tuple #[.int .i64 i, .bool is]) ∧ Found t p i is ∧ Below W.heap.size W W') := fun W hb => bs_any ha htl htp hpl (Kd.C_below hT hb) (Kd.C_below hP hb)
  obtain ⟨n, hnn⟩ : ∃ n, n = t.length := ⟨_, rfl⟩
  obtain ⟨m, hmm⟩ : ∃ m, m = p.length := ⟨_, rfl⟩
  have HN := Lib.hid hnn
  rw [← hnn] at htl HBS ⊢
  rw [← hmm] at HBS ⊢
  clear ha htp hT hP hnn hmm hpl
  go_enter Tryd.func29, Tryd.ntmps29
  go_wp2_with fail
  have hb : Below w.heap.size w ((w.alloc (.cells #[.pointer N, .slice A n c, .int .i64 b0, .int .i64 b1, .int .i64 b2, .int .i64 b3] 47)).alloc (.cells #[.slice none 0 0, .int .i64 0] 38)) := ((Below.refl _ _).alloc (Nat.le_refl _) _).alloc (by simp) _
  refine (HBS.out _ hb).mono ?_
  rintro e w2 ⟨i, is, rfl, hF, hb2⟩
  have q1 : w2.cell? ⟨w.heap.size, 1, none⟩ = some (.slice A n c) := by
    refine (hb2.cell (by simp; omega)).trans ?_
    rw [World.cell?_alloc2_first]
    rfl
  have k1 : w2.heap[w.heap.size + 1]? = some (.cells #[.slice none 0 0, .int .i64 0] 38 (0, 0)) := by
    refine (hb2.block (w.heap.size + 1) (by simp)).trans ?_
    have h := blk_new (w.alloc (.cells #[.pointer N, .slice A n c, .int .i64 b0, .int .i64 b1, .int .i64 b2, .int .i64 b3] 47)) (.cells #[.slice none 0 0, .int .i64 0] 38)
    simpa using h
  have HB2 : Hid (Below w.heap.size w w2) := below_lower hb hb2
  have HF := Lib.hid hF
  have HK1 := Lib.hid k1
  have f0 : w2.frozen? ⟨w.heap.size + 1, 0, none⟩ = false := blk_frozen k1 0
  have f1 : w2.frozen? ⟨w.heap.size + 1, 1, none⟩ = false := blk_frozen k1 1
  have c0 := blk_cell k1 0
  have c1 := blk_cell k1 1
  have hT2 := Kd.C_below HT.out HB2.out
  clear hb2 hF k1 hb HBS
  cases is with
  | false =>
    have HX : Hid (look t p = none) := look_none (HF.out.2 rfl)
    go_wp2_with fail
    refine bodyPost_ret (results_ct rfl _ _ (w.heap.size + 1) 38 #[.slice none 0 0, .int .i64 0] (0, 0) _ rfl (by simpa using blk_set (blk_set HK1.out 0 (.slice none 0 0)) 1 (.int .i64 0)) Tryd.underlying38 rfl (by kernel_rfl)) rfl ?_
    exact ⟨_, _, _, _, false, rfl, HX.out, (HB2.out.setCell (by simp) _).setCell (by simp) _⟩
  | true =>
    obtain ⟨hi, he⟩ := HF.out.1 rfl
    obtain ⟨ad, B0, d0, rfl, g0, g1, l0, r0⟩ := at_T40 hT2 (i : Int) (Int.natCast_nonneg _) (by omega)
    have hy : rd_T40 t (i : Int) = t[i] := by rw [rd40 hi]
    have HX : Hid (look t p = some (rd_T40 t (i : Int)).f1) := by
      have hd : Dis t := HA.out.imp fun {a b} h => cmpL_irrefl h
      have h := look_mem hd (List.getElem_mem hi)
      rw [he] at h
      rw [hy]
      exact h
    have hin : i < n := by have := HN.out; omega
    have hib : i ≤ 1000000 := by omega
    obtain ⟨y, hyy⟩ : ∃ y, y = rd_T40 t (i : Int) := ⟨_, rfl⟩
    rw [← hyy] at g0 g1 HX
    simp only [Int.toNat_natCast] at g0 g1
    clear hy he hi l0 r0 hyy
    obtain ⟨yl, hyl⟩ : ∃ yl, yl = y.f0.length := ⟨_, rfl⟩
    rw [← hyl] at g0
    clear hyl
    go_wp2_with fail
    refine bodyPost_ret (results_ct rfl _ _ (w.heap.size + 1) 38 #[.slice B0 yl d0, .int .i64 y.f1] (0, 0) _ rfl (by simpa using blk_set (blk_set HK1.out 0 (.slice B0 yl d0)) 1 (.int .i64 y.f1)) Tryd.underlying38 rfl (by kernel_rfl)) rfl ?_
    exact ⟨_, _, _, _, true, rfl, HX.out, (HB2.out.setCell (by simp) _).setCell (by simp) _⟩
end Go.Proofs.YtceankldidkohaaDoor.Core
/-! Walks: the closures of Within and Covers. -/
namespace Go.Proofs.YtceankldidkohaaDoor.Core
open Go.RowKit Go.Proofs.YtceankldidkohaaDoorW.PrintWords Go.Proofs.YtceankldidkohaaDoorW.PrintMore Go.Proofs.YtceankldidkohaaDoor.PAuditTwice Go.Proofs.YtceankldidkohaaDoor
set_option linter.unusedVariables false
set_option linter.unusedSimpArgs false
/-- The row rises, is short, and its paths are short. -/
structure Log (t : List S40) : Prop where
  asc : Asc t
  len : t.length ≤ 1000
  path : ∀ e ∈ t, e.f0.length ≤ 1000
theorem okB_f (a b : Int) : (!okB false a b) = decide (b < a) := by
  unfold okB
  rw [Bool.eq_iff_iff]
  simp
  omega
theorem okB_t (a b : Int) : (!okB true a b) = (a != b) := by
  unfold okB
  simp [bne]
set_option maxHeartbeats 4000000 in
theorem within_cl {W : World} {t : List S40} {A : Option Addr} {c : Nat} {e : S40} {Be : Option Addr} {de : Nat} (bt : Nat) (N : Option Addr) (b0 b1 b2 b3 : Int) (hbt : W.heap[bt]? = some (.cells #[.pointer N, .slice A t.length c, .int .i64 b0, .int .i64 b1, .int .i64 b2, .int .i64 b3] 47 (0, 0)))
    (hL : Log t) (hel : e.f0.length ≤ 1000) (hT : Kd.C k40 W A t.length t) (hE : (Kd.int .i64).C W Be e.f0.length e.f0) :
    Calls Tryd.prog 28 #[.agg #[.slice Be e.f0.length de, .int .i64 e.f1], .pointer (some ⟨bt, 0, none⟩)] W fun r W' => r = .returned (.bool (!keepOne false t e)) ∧ Below W.heap.size W W' := by
  have HF : Hid (∀ X, Below W.heap.size W X → Calls Tryd.prog 29 #[.agg #[.pointer N, .slice A t.length c, .int .i64 b0, .int .i64 b1, .int .i64 b2, .int .i64 b3], .slice Be e.f0.length de] X fun r W' => ∃ (VA : Option Addr) (vn vc : Nat) (s : Int) (is : Bool), r = .returned (.tuple #[.agg #[.slice VA vn vc, .int .i64 s], .bool is]) ∧ look t e.f0 = (if is then some s else none) ∧ Below X.heap.size X W') := fun X hb => found_any N b0 b1 b2 b3 hL.asc hL.len hL.path hel (Kd.C_below hT hb) (Kd.C_below hE hb)
  obtain ⟨n, hnn⟩ : ∃ n, n = t.length := ⟨_, rfl⟩
  obtain ⟨m, hmm⟩ : ∃ m, m = e.f0.length := ⟨_, rfl⟩
  rw [← hnn] at HF hbt
  rw [← hmm] at HF ⊢
  have hbl : bt < W.heap.size := blk_lt hbt
  have c0 := blk_cell hbt 0
  have c1 := blk_cell hbt 1
  have c2 := blk_cell hbt 2
  have c3 := blk_cell hbt 3
  have c4 := blk_cell hbt 4
  have c5 := blk_cell hbt 5
  simp only [List.getElem?_toArray, List.getElem?_cons_zero, List.getElem?_cons_succ] at c0 c1 c2 c3 c4 c5
  clear hL hel hT hE hbt hnn hmm
  go_enter Tryd.func28, Tryd.ntmps28
  go_wp2_with fail
  have hb : Below W.heap.size W (W.alloc (.cells #[.slice Be m de, .int .i64 e.f1] 38)) := (Below.refl _ _).alloc (Nat.le_refl _) _
  refine (HF.out _ hb).mono ?_
  rintro r w2 ⟨VA, vn, vc, s, is, rfl, hlk, hb2⟩
  have HLK := Lib.hid hlk
  have HB2 : Hid (Below W.heap.size W w2) := below_lower hb hb2
  have q1 : w2.cell? ⟨W.heap.size, 1, none⟩ = some (.int .i64 e.f1) := by
    refine (hb2.cell (by simp)).trans ?_
    rw [World.cell?_alloc_new]
    rfl
  have hz : W.heap.size < w2.heap.size := World.block_lt_of_cell? w2 _ q1
  clear hlk hb2 hb c0 c1 c2 c3 c4 c5 HF
  cases is with
  | false =>
    have hk : Hid (keepOne false t e = false) := by
      show keepOne _ t e = false
      unfold keepOne
      rw [HLK.out]
      rfl
    go_wp2_with fail
    go_ret
    exact ⟨by rw [hk.out]; rfl, by repeat (first | exact HB2.out | apply Below.setCell | apply Below.alloc | (simp; omega) | omega)⟩
  | true =>
    have hk : Hid (keepOne false t e = okB false e.f1 s) := by
      show keepOne _ t e = _
      unfold keepOne
      rw [HLK.out]
      rfl
    go_wp2_with fail
    go_ret
    exact ⟨by rw [hk.out, okB_f]; rfl, by repeat (first | exact HB2.out | apply Below.setCell | apply Below.alloc | (simp; omega) | omega)⟩
set_option maxHeartbeats 4000000 in
theorem covers_cl {W : World} {t : List S40} {A : Option Addr} {c : Nat} {e : S40} {Be : Option Addr} {de : Nat} (bt : Nat) (N : Option Addr) (b0 b1 b2 b3 : Int) (hbt : W.heap[bt]? = some (.cells #[.pointer N, .slice A t.length c, .int .i64 b0, .int .i64 b1, .int .i64 b2, .int .i64 b3] 47 (0, 0)))
    (hL : Log t) (hel : e.f0.length ≤ 1000) (hT : Kd.C k40 W A t.length t) (hE : (Kd.int .i64).C W Be e.f0.length e.f0) :
    Calls Tryd.prog 30 #[.agg #[.slice Be e.f0.length de, .int .i64 e.f1], .pointer (some ⟨bt, 0, none⟩)] W fun r W' => r = .returned (.bool (!keepOne true t e)) ∧ Below W.heap.size W W' := by
  have HF : Hid (∀ X, Below W.heap.size W X → Calls Tryd.prog 29 #[.agg #[.pointer N, .slice A t.length c, .int .i64 b0, .int .i64 b1, .int .i64 b2, .int .i64 b3], .slice Be e.f0.length de] X fun r W' => ∃ (VA : Option Addr) (vn vc : Nat) (s : Int) (is : Bool), r = .returned (.tuple #[.agg #[.slice VA vn vc, .int .i64 s], .bool is]) ∧ look t e.f0 = (if is then some s else none) ∧ Below X.heap.size X W') := fun X hb => found_any N b0 b1 b2 b3 hL.asc hL.len hL.path hel (Kd.C_below hT hb) (Kd.C_below hE hb)
  obtain ⟨n, hnn⟩ : ∃ n, n = t.length := ⟨_, rfl⟩
  obtain ⟨m, hmm⟩ : ∃ m, m = e.f0.length := ⟨_, rfl⟩
  rw [← hnn] at HF hbt
  rw [← hmm] at HF ⊢
  have hbl : bt < W.heap.size := blk_lt hbt
  have c0 := blk_cell hbt 0
  have c1 := blk_cell hbt 1
  have c2 := blk_cell hbt 2
  have c3 := blk_cell hbt 3
  have c4 := blk_cell hbt 4
  have c5 := blk_cell hbt 5
  simp only [List.getElem?_toArray, List.getElem?_cons_zero, List.getElem?_cons_succ] at c0 c1 c2 c3 c4 c5
  clear hL hel hT hE hbt hnn hmm
  go_enter Tryd.func30, Tryd.ntmps30
  go_wp2_with fail
  have hb : Below W.heap.size W (W.alloc (.cells #[.slice Be m de, .int .i64 e.f1] 38)) := (Below.refl _ _).alloc (Nat.le_refl _) _
  refine (HF.out _ hb).mono ?_
  rintro r w2 ⟨VA, vn, vc, s, is, rfl, hlk, hb2⟩
  have HLK := Lib.hid hlk
  have HB2 : Hid (Below W.heap.size W w2) := below_lower hb hb2
  have q1 : w2.cell? ⟨W.heap.size, 1, none⟩ = some (.int .i64 e.f1) := by
    refine (hb2.cell (by simp)).trans ?_
    rw [World.cell?_alloc_new]
    rfl
  have hz : W.heap.size < w2.heap.size := World.block_lt_of_cell? w2 _ q1
  clear hlk hb2 hb c0 c1 c2 c3 c4 c5 HF
  cases is with
  | false =>
    have hk : Hid (keepOne true t e = false) := by
      show keepOne _ t e = false
      unfold keepOne
      rw [HLK.out]
      rfl
    go_wp2_with fail
    go_ret
    exact ⟨by rw [hk.out]; rfl, by repeat (first | exact HB2.out | apply Below.setCell | apply Below.alloc | (simp; omega) | omega)⟩
  | true =>
    have hk : Hid (keepOne true t e = okB true e.f1 s) := by
      show keepOne _ t e = _
      unfold keepOne
      rw [HLK.out]
      rfl
    go_wp2_with fail
    go_ret
    exact ⟨by rw [hk.out, okB_t]; rfl, by repeat (first | exact HB2.out | apply Below.setCell | apply Below.alloc | (simp; omega) | omega)⟩
end Go.Proofs.YtceankldidkohaaDoor.Core
/-! Walks: slices.ContainsFunc at the two closures. -/
namespace Go.Proofs.YtceankldidkohaaDoor.Core
open Go.RowKit Go.Proofs.YtceankldidkohaaDoorW.PrintWords Go.Proofs.YtceankldidkohaaDoorW.PrintMore Go.Proofs.YtceankldidkohaaDoor.PAuditTwice Go.Proofs.YtceankldidkohaaDoor
set_option linter.unusedVariables false
set_option linter.unusedSimpArgs false
theorem any_take {q : S40 → Bool} {s : List S40} {j : Nat} (hj : j < s.length) (h : (s.take j).any q = false) : (s.take (j + 1)).any q = q s[j] := by
  rw [List.take_succ_eq_append_getElem hj, List.any_append, h]
  simp
set_option maxHeartbeats 4000000 in
theorem index_within {W : World} {s t : List S40} {A At : Option Addr} {c ct : Nat} (bt : Nat) (N : Option Addr) (b0 b1 b2 b3 : Int) (hbt : W.heap[bt]? = some (.cells #[.pointer N, .slice At t.length ct, .int .i64 b0, .int .i64 b1, .int .i64 b2, .int .i64 b3] 47 (0, 0)))
    (hL : Log t) (hS : s.length ≤ 1000) (hsp : ∀ e ∈ s, e.f0.length ≤ 1000) (hT : Kd.C k40 W At t.length t) (hC : Kd.C k40 W A s.length s) :
    Calls Tryd.prog 37 #[.slice A s.length c, .func (.func 28) #[] #[.pointer (some ⟨bt, 0, none⟩)]] W fun r W' => ∃ k : Int, r = .returned (.int .i64 k) ∧ decide (0 ≤ k) = s.any (fun e => !keepOne false t e) ∧ Below W.heap.size W W' := by
  have HQ : Hid (∀ X (e : S40) (Be : Option Addr) (de : Nat), Below W.heap.size W X → e.f0.length ≤ 1000 → (Kd.int .i64).C X Be e.f0.length e.f0 → Calls Tryd.prog 28 #[.agg #[.slice Be e.f0.length de, .int .i64 e.f1], .pointer (some ⟨bt, 0, none⟩)] X fun r W' => r = .returned (.bool (!keepOne false t e)) ∧ Below X.heap.size X W') := fun X e Be de hb hel hE => within_cl bt N b0 b1 b2 b3 (blk_below hbt hb) hL hel (Kd.C_below hT hb) hE
  have HC := Lib.hid hC
  have HSP := Lib.hid hsp
  obtain ⟨q, hq⟩ : ∃ q : S40 → Bool, q = fun e => !keepOne false t e := ⟨_, rfl⟩
  have hqe : ∀ e, (!keepOne false t e) = q e := fun e => by rw [hq]
  simp only [hqe] at HQ
  rw [← hq]
  obtain ⟨n, hnn⟩ : ∃ n, n = s.length := ⟨_, rfl⟩
  have HN := Lib.hid hnn
  rw [← hnn] at hS HC ⊢
  clear hbt hL hsp hT hC hq hqe hnn
  go_enter Tryd.func37, Tryd.ntmps37
  go_wp2_with fail
  go_loopg [8] n (fun k v8 X => ∃ (j : Nat), j + k = n ∧ v8 = .int .i64 j ∧ Hid ((s.take j).any q = false) ∧ Hid (Below W.heap.size W X))
  case atStart => exact ⟨0, by omega, rfl, rfl, Below.refl _ _⟩
  case round =>
    obtain ⟨j, hjk, rfl, hA, hB⟩ := hrel
    have HK := Lib.hid hjk
    clear hjk
    obtain ⟨X, hX⟩ : ∃ X, X = wr := ⟨_, rfl⟩
    subst hX
    by_cases hlt : j < n
    · have hl : j < s.length := by have := HN.out; omega
      have HLT := Lib.hid hlt
      obtain ⟨ad, B0, d0, rfl, g0, g1, l0, r0⟩ := at_T40 (Kd.C_below HC.out hB.out) (j : Int) (Int.natCast_nonneg _) (by omega)
      have hy : rd_T40 s (j : Int) = s[j] := by rw [rd40 hl]
      have hyl := HSP.out _ (List.getElem_mem hl)
      have HSU := Lib.hid (any_take hl hA.out)
      rw [← hy] at hyl HSU
      clear hy hl
      obtain ⟨y, hyy⟩ : ∃ y, y = rd_T40 s (j : Int) := ⟨_, rfl⟩
      rw [← hyy] at g0 g1 r0 hyl HSU
      simp only [Int.toNat_natCast] at g0 g1
      have HCL := Lib.hid (HQ.out X y B0 d0 hB.out hyl r0)
      clear hyy l0 r0 hyl
      obtain ⟨yl, hyl⟩ : ∃ yl, yl = y.f0.length := ⟨_, rfl⟩
      rw [← hyl] at g0 HCL
      clear hyl
      have hjb : (j : Int) + 1 ≤ 1000000 := by omega
      go_wp2_with fail
      refine HCL.out.mono ?_
      rintro r w2 ⟨rfl, hb2⟩
      have B2 : Hid (Below W.heap.size W w2) := below_lower hB.out hb2
      clear hb2 HCL
      cases hqy : q y with
      | true =>
        have HQY := Lib.hid hqy
        clear hqy
        go_wp2_with fail
        go_ret
        refine ⟨_, rfl, ?_, B2.out⟩
        have h1 := HSU.out
        rw [HQY.out] at h1
        have h2 : s.any q = true := by
          rw [List.any_eq_true] at h1 ⊢
          obtain ⟨x, hx, h⟩ := h1
          exact ⟨x, List.mem_of_mem_take hx, h⟩
        rw [h2]
        simp
      | false =>
        have HQY := Lib.hid hqy
        clear hqy
        go_wp2_with fail
        go_roundg (n - (j + 1))
        case measure => have := HK.out; have := HLT.out; omega
        case rel => exact ⟨j + 1, by have := HLT.out; omega, by go_num, HSU.out.trans HQY.out, B2.out⟩
    · obtain rfl : j = n := by have := HK.out; omega
      have h1 := hA.out
      rw [List.take_of_length_le (by have := HN.out; omega)] at h1
      have H1 := Lib.hid h1
      clear h1
      go_wp2_with fail
      go_ret
      exact ⟨_, rfl, by rw [H1.out]; rfl, hB.out⟩
theorem contains_within {W : World} {s t : List S40} {A At : Option Addr} {c ct : Nat} (bt : Nat) (N : Option Addr) (b0 b1 b2 b3 : Int) (hbt : W.heap[bt]? = some (.cells #[.pointer N, .slice At t.length ct, .int .i64 b0, .int .i64 b1, .int .i64 b2, .int .i64 b3] 47 (0, 0)))
    (hL : Log t) (hS : s.length ≤ 1000) (hsp : ∀ e ∈ s, e.f0.length ≤ 1000) (hT : Kd.C k40 W At t.length t) (hC : Kd.C k40 W A s.length s) :
    Calls Tryd.prog 27 #[.slice A s.length c, .func (.func 28) #[] #[.pointer (some ⟨bt, 0, none⟩)]] W fun r W' => r = .returned (.bool (s.any fun e => !keepOne false t e)) ∧ Below W.heap.size W W' := by
  have H := Lib.hid (index_within (c := c) bt N b0 b1 b2 b3 hbt hL hS hsp hT hC)
  obtain ⟨n, hnn⟩ : ∃ n, n = s.length := ⟨_, rfl⟩
  obtain ⟨r, hr⟩ : ∃ r, r = s.any (fun e => !keepOne false t e) := ⟨_, rfl⟩
  rw [← hnn, ← hr] at H ⊢
  clear hbt hL hS hsp hT hC hnn hr
  go_enter Tryd.func27, Tryd.ntmps27
  go_wp2_with fail
  refine H.out.mono ?_
  rintro e w2 ⟨k, rfl, hk, hb⟩
  have HK := Lib.hid hk
  have HB := Lib.hid hb
  clear hk hb H
  go_wp2_with fail
  go_ret
  exact ⟨by rw [HK.out]; rfl, HB.out⟩
set_option maxHeartbeats 4000000 in
theorem index_covers {W : World} {s t : List S40} {A At : Option Addr} {c ct : Nat} (bt : Nat) (N : Option Addr) (b0 b1 b2 b3 : Int) (hbt : W.heap[bt]? = some (.cells #[.pointer N, .slice At t.length ct, .int .i64 b0, .int .i64 b1, .int .i64 b2, .int .i64 b3] 47 (0, 0)))
    (hL : Log t) (hS : s.length ≤ 1000) (hsp : ∀ e ∈ s, e.f0.length ≤ 1000) (hT : Kd.C k40 W At t.length t) (hC : Kd.C k40 W A s.length s) :
    Calls Tryd.prog 37 #[.slice A s.length c, .func (.func 30) #[] #[.pointer (some ⟨bt, 0, none⟩)]] W fun r W' => ∃ k : Int, r = .returned (.int .i64 k) ∧ decide (0 ≤ k) = s.any (fun e => !keepOne true t e) ∧ Below W.heap.size W W' := by
  have HQ : Hid (∀ X (e : S40) (Be : Option Addr) (de : Nat), Below W.heap.size W X → e.f0.length ≤ 1000 → (Kd.int .i64).C X Be e.f0.length e.f0 → Calls Tryd.prog 30 #[.agg #[.slice Be e.f0.length de, .int .i64 e.f1], .pointer (some ⟨bt, 0, none⟩)] X fun r W' => r = .returned (.bool (!keepOne true t e)) ∧ Below X.heap.size X W') := fun X e Be de hb hel hE => covers_cl bt N b0 b1 b2 b3 (blk_below hbt hb) hL hel (Kd.C_below hT hb) hE
  have HC := Lib.hid hC
  have HSP := Lib.hid hsp
  obtain ⟨q, hq⟩ : ∃ q : S40 → Bool, q = fun e => !keepOne true t e := ⟨_, rfl⟩
  have hqe : ∀ e, (!keepOne true t e) = q e := fun e => by rw [hq]
  simp only [hqe] at HQ
  rw [← hq]
  obtain ⟨n, hnn⟩ : ∃ n, n = s.length := ⟨_, rfl⟩
  have HN := Lib.hid hnn
  rw [← hnn] at hS HC ⊢
  clear hbt hL hsp hT hC hq hqe hnn
  go_enter Tryd.func37, Tryd.ntmps37
  go_wp2_with fail
  go_loopg [8] n (fun k v8 X => ∃ (j : Nat), j + k = n ∧ v8 = .int .i64 j ∧ Hid ((s.take j).any q = false) ∧ Hid (Below W.heap.size W X))
  case atStart => exact ⟨0, by omega, rfl, rfl, Below.refl _ _⟩
  case round =>
    obtain ⟨j, hjk, rfl, hA, hB⟩ := hrel
    have HK := Lib.hid hjk
    clear hjk
    obtain ⟨X, hX⟩ : ∃ X, X = wr := ⟨_, rfl⟩
    subst hX
    by_cases hlt : j < n
    · have hl : j < s.length := by have := HN.out; omega
      have HLT := Lib.hid hlt
      obtain ⟨ad, B0, d0, rfl, g0, g1, l0, r0⟩ := at_T40 (Kd.C_below HC.out hB.out) (j : Int) (Int.natCast_nonneg _) (by omega)
      have hy : rd_T40 s (j : Int) = s[j] := by rw [rd40 hl]
      have hyl := HSP.out _ (List.getElem_mem hl)
      have HSU := Lib.hid (any_take hl hA.out)
      rw [← hy] at hyl HSU
      clear hy hl
      obtain ⟨y, hyy⟩ : ∃ y, y = rd_T40 s (j : Int) := ⟨_, rfl⟩
      rw [← hyy] at g0 g1 r0 hyl HSU
      simp only [Int.toNat_natCast] at g0 g1
      have HCL := Lib.hid (HQ.out X y B0 d0 hB.out hyl r0)
      clear hyy l0 r0 hyl
      obtain ⟨yl, hyl⟩ : ∃ yl, yl = y.f0.length := ⟨_, rfl⟩
      rw [← hyl] at g0 HCL
      clear hyl
      have hjb : (j : Int) + 1 ≤ 1000000 := by omega
      go_wp2_with fail
      refine HCL.out.mono ?_
      rintro r w2 ⟨rfl, hb2⟩
      have B2 : Hid (Below W.heap.size W w2) := below_lower hB.out hb2
      clear hb2 HCL
      cases hqy : q y with
      | true =>
        have HQY := Lib.hid hqy
        clear hqy
        go_wp2_with fail
        go_ret
        refine ⟨_, rfl, ?_, B2.out⟩
        have h1 := HSU.out
        rw [HQY.out] at h1
        have h2 : s.any q = true := by
          rw [List.any_eq_true] at h1 ⊢
          obtain ⟨x, hx, h⟩ := h1
          exact ⟨x, List.mem_of_mem_take hx, h⟩
        rw [h2]
        simp
      | false =>
        have HQY := Lib.hid hqy
        clear hqy
        go_wp2_with fail
        go_roundg (n - (j + 1))
        case measure => have := HK.out; have := HLT.out; omega
        case rel => exact ⟨j + 1, by have := HLT.out; omega, by go_num, HSU.out.trans HQY.out, B2.out⟩
    · obtain rfl : j = n := by have := HK.out; omega
      have h1 := hA.out
      rw [List.take_of_length_le (by have := HN.out; omega)] at h1
      have H1 := Lib.hid h1
      clear h1
      go_wp2_with fail
      go_ret
      exact ⟨_, rfl, by rw [H1.out]; rfl, hB.out⟩
theorem contains_covers {W : World} {s t : List S40} {A At : Option Addr} {c ct : Nat} (bt : Nat) (N : Option Addr) (b0 b1 b2 b3 : Int) (hbt : W.heap[bt]? = some (.cells #[.pointer N, .slice At t.length ct, .int .i64 b0, .int .i64 b1, .int .i64 b2, .int .i64 b3] 47 (0, 0)))
    (hL : Log t) (hS : s.length ≤ 1000) (hsp : ∀ e ∈ s, e.f0.length ≤ 1000) (hT : Kd.C k40 W At t.length t) (hC : Kd.C k40 W A s.length s) :
    Calls Tryd.prog 27 #[.slice A s.length c, .func (.func 30) #[] #[.pointer (some ⟨bt, 0, none⟩)]] W fun r W' => r = .returned (.bool (s.any fun e => !keepOne true t e)) ∧ Below W.heap.size W W' := by
  have H := Lib.hid (index_covers (c := c) bt N b0 b1 b2 b3 hbt hL hS hsp hT hC)
  obtain ⟨n, hnn⟩ : ∃ n, n = s.length := ⟨_, rfl⟩
  obtain ⟨r, hr⟩ : ∃ r, r = s.any (fun e => !keepOne true t e) := ⟨_, rfl⟩
  rw [← hnn, ← hr] at H ⊢
  clear hbt hL hS hsp hT hC hnn hr
  go_enter Tryd.func27, Tryd.ntmps27
  go_wp2_with fail
  refine H.out.mono ?_
  rintro e w2 ⟨k, rfl, hk, hb⟩
  have HK := Lib.hid hk
  have HB := Lib.hid hb
  clear hk hb H
  go_wp2_with fail
  go_ret
  exact ⟨by rw [HK.out]; rfl, HB.out⟩
end Go.Proofs.YtceankldidkohaaDoor.Core
/-! Walks: audit.Within, audit.Covers. -/
namespace Go.Proofs.YtceankldidkohaaDoor.Core
open Go.RowKit Go.Proofs.YtceankldidkohaaDoorW.PrintWords Go.Proofs.YtceankldidkohaaDoorW.PrintMore Go.Proofs.YtceankldidkohaaDoor.PAuditTwice Go.Proofs.YtceankldidkohaaDoor
set_option linter.unusedVariables false
set_option linter.unusedSimpArgs false
theorem not_any (q : S40 → Bool) (s : List S40) : (!(s.any fun e => !q e)) = s.all q := by
  induction s with
  | nil => rfl
  | cons x s ih => simp only [List.any_cons, List.all_cons, Bool.not_or, Bool.not_not, ih]
set_option maxHeartbeats 4000000 in
theorem within_any {w : World} {l : List S29} {s t : List S40} {A At : Option Addr} {c ct : Nat} (job : Int) (N : Option Addr) (b0 b1 b2 b3 : Int)
    (hD : ∀ W, Below w.heap.size w W → Calls Tryd.prog 13 #[.slice A l.length c, .int .i64 job] W fun e W' => ∃ v, e = .returned v ∧ Kd.N k40 38 W' W.heap.size (fun _ => True) v s ∧ Below W.heap.size W W')
    (hL : Log t) (hS : s.length ≤ 1000) (hsp : ∀ e ∈ s, e.f0.length ≤ 1000) (hT : Kd.C k40 w At t.length t) :
    Calls Tryd.prog 15 #[.slice A l.length c, .int .i64 job, .agg #[.pointer N, .slice At t.length ct, .int .i64 b0, .int .i64 b1, .int .i64 b2, .int .i64 b3]] w fun e W' => e = .returned (.bool (s.all (keepOne false t))) ∧ Below w.heap.size w W' := by
  have HD := Lib.hid hD
  have HC : Hid (∀ W A c, Below w.heap.size w W → W.heap[w.heap.size]? = some (.cells #[.pointer N, .slice At t.length ct, .int .i64 b0, .int .i64 b1, .int .i64 b2, .int .i64 b3] 47 (0, 0)) → Kd.C k40 W A s.length s → Calls Tryd.prog 27 #[.slice A s.length c, .func (.func 28) #[] #[.pointer (some ⟨w.heap.size, 0, none⟩)]] W fun r W' => r = .returned (.bool (s.any fun e => !keepOne false t e)) ∧ Below W.heap.size W W') := fun W A c hb hbt hC => contains_within w.heap.size N b0 b1 b2 b3 hbt hL hS hsp (Kd.C_below hT hb) hC
  obtain ⟨n, hnn⟩ : ∃ n, n = l.length := ⟨_, rfl⟩
  obtain ⟨m, hmm⟩ : ∃ m, m = t.length := ⟨_, rfl⟩
  obtain ⟨r, hr⟩ : ∃ r, r = s.any (fun e => !keepOne false t e) := ⟨_, rfl⟩
  have hr2 := not_any (keepOne false t) s
  rw [← hr] at hr2
  rw [← hr2]
  rw [← hnn] at HD ⊢
  rw [← hmm, ← hr] at HC
  rw [← hmm]
  clear hD hL hS hsp hT hnn hmm hr hr2
  go_enter Tryd.func15, Tryd.ntmps15
  go_wp2_with fail
  have hb : Below w.heap.size w (w.alloc (.cells #[.pointer N, .slice At m ct, .int .i64 b0, .int .i64 b1, .int .i64 b2, .int .i64 b3] 47)) := (Below.refl _ _).alloc (Nat.le_refl _) _
  refine (HD.out _ hb).mono ?_
  rintro e w2 ⟨v, rfl, hN, hb2⟩
  obtain ⟨A2, c2, rfl, _, hC2⟩ := Kd.N_reads hN
  have HC2 := Lib.hid hC2
  have hbt := blk_below (blk_new w (.cells #[.pointer N, .slice At m ct, .int .i64 b0, .int .i64 b1, .int .i64 b2, .int .i64 b3] 47)) hb2
  have HBT := Lib.hid hbt
  have HB2 : Hid (Below w.heap.size w w2) := below_lower hb hb2
  clear hN hC2 hbt hb2 hb HD
  have HC3 := Lib.hid (HC.out w2 A2 c2 HB2.out HBT.out HC2.out)
  obtain ⟨q, hq⟩ : ∃ q, q = s.length := ⟨_, rfl⟩
  rw [← hq] at HC3 ⊢
  clear hq HC
  go_wp2_with fail
  refine HC3.out.mono ?_
  rintro e w3 ⟨rfl, hb3⟩
  have HB3 : Hid (Below w.heap.size w w3) := below_lower HB2.out hb3
  clear hb3 HC3
  go_wp2_with fail
  go_ret
  exact ⟨rfl, HB3.out⟩
set_option maxHeartbeats 4000000 in
theorem covers_any {w : World} {l : List S29} {s t : List S40} {A At : Option Addr} {c ct : Nat} (job : Int) (N : Option Addr) (b0 b1 b2 b3 : Int)
    (hD : ∀ W, Below w.heap.size w W → Calls Tryd.prog 13 #[.slice A l.length c, .int .i64 job] W fun e W' => ∃ v, e = .returned v ∧ Kd.N k40 38 W' W.heap.size (fun _ => True) v s ∧ Below W.heap.size W W')
    (hL : Log t) (hS : s.length ≤ 1000) (hsp : ∀ e ∈ s, e.f0.length ≤ 1000) (hT : Kd.C k40 w At t.length t) :
    Calls Tryd.prog 18 #[.slice A l.length c, .int .i64 job, .agg #[.pointer N, .slice At t.length ct, .int .i64 b0, .int .i64 b1, .int .i64 b2, .int .i64 b3]] w fun e W' => e = .returned (.bool (s.all (keepOne true t) && s.length == t.length)) ∧ Below w.heap.size w W' := by
  have HD := Lib.hid hD
  have HC : Hid (∀ W A c, Below w.heap.size w W → W.heap[w.heap.size]? = some (.cells #[.pointer N, .slice At t.length ct, .int .i64 b0, .int .i64 b1, .int .i64 b2, .int .i64 b3] 47 (0, 0)) → Kd.C k40 W A s.length s → Calls Tryd.prog 27 #[.slice A s.length c, .func (.func 30) #[] #[.pointer (some ⟨w.heap.size, 0, none⟩)]] W fun r W' => r = .returned (.bool (s.any fun e => !keepOne true t e)) ∧ Below W.heap.size W W') := fun W A c hb hbt hC => contains_covers w.heap.size N b0 b1 b2 b3 hbt hL hS hsp (Kd.C_below hT hb) hC
  obtain ⟨n, hnn⟩ : ∃ n, n = l.length := ⟨_, rfl⟩
  obtain ⟨m, hmm⟩ : ∃ m, m = t.length := ⟨_, rfl⟩
  obtain ⟨r, hr⟩ : ∃ r, r = s.any (fun e => !keepOne true t e) := ⟨_, rfl⟩
  have hr2 := not_any (keepOne true t) s
  rw [← hr] at hr2
  rw [← hr2]
  rw [← hnn] at HD ⊢
  rw [← hmm, ← hr] at HC
  rw [← hmm]
  obtain ⟨q, hq⟩ : ∃ q, q = s.length := ⟨_, rfl⟩
  rw [← hq] at HC ⊢
  have HQ := Lib.hid hq
  clear hD hL hS hsp hT hnn hmm hr hr2 hq
  go_enter Tryd.func18, Tryd.ntmps18
  go_wp2_with fail
  have hb : Below w.heap.size w (w.alloc (.cells #[.pointer N, .slice At m ct, .int .i64 b0, .int .i64 b1, .int .i64 b2, .int .i64 b3] 47)) := (Below.refl _ _).alloc (Nat.le_refl _) _
  refine (HD.out _ hb).mono ?_
  rintro e w2 ⟨v, rfl, hN, hb2⟩
  obtain ⟨A2, c2, hv2, _, hC2⟩ := Kd.N_reads hN
  rw [← HQ.out] at hv2 hC2
  subst hv2
  have HC2 := Lib.hid hC2
  have hbt := blk_below (blk_new w (.cells #[.pointer N, .slice At m ct, .int .i64 b0, .int .i64 b1, .int .i64 b2, .int .i64 b3] 47)) hb2
  have HBT := Lib.hid hbt
  have HB2 : Hid (Below w.heap.size w w2) := below_lower hb hb2
  have q1 := blk_cell hbt 1
  simp only [List.getElem?_toArray, List.getElem?_cons_zero, List.getElem?_cons_succ] at q1
  clear hN hC2 hbt hb2 hb HD
  have HC3 := Lib.hid (HC.out w2 A2 c2 HB2.out HBT.out HC2.out)
  clear HC
  by_cases hqm : q = m
  · have hb1 : ((q : Int) == (m : Int)) = true := by simp; omega
    have HQM : Hid ((q == m) = true) := by show _ = _; simpa using hqm
    clear hqm
    go_wp2_with fail
    refine HC3.out.mono ?_
    rintro e w3 ⟨rfl, hb3⟩
    have HB3 : Hid (Below w.heap.size w w3) := below_lower HB2.out hb3
    clear hb3 HC3
    go_wp2_with fail
    go_ret
    exact ⟨by rw [HQM.out, Bool.and_true]; rfl, HB3.out⟩
  · have hb1 : ((q : Int) == (m : Int)) = false := by simp; omega
    have HQM : Hid ((q == m) = false) := by show _ = _; simpa using hqm
    clear hqm
    go_wp2_with fail
    go_ret
    exact ⟨by rw [HQM.out, Bool.and_false]; rfl, HB2.out⟩
end Go.Proofs.YtceankldidkohaaDoor.Core
/-! The row that haymowlaw20.tree builds in a struct's field. -/
namespace Go.Proofs.YtceankldidkohaaDoor.Core
open Go.RowKit Go.Proofs.YtceankldidkohaaDoorW.PrintWords Go.Proofs.YtceankldidkohaaDoorW.PrintMore Go.Proofs.YtceankldidkohaaDoor.PAuditTwice Go.Proofs.YtceankldidkohaaDoor
set_option linter.unusedVariables false
set_option linter.unusedSimpArgs false
/-- The struct's block g holds u in its field; v is the row. -/
structure Tn (w W : World) (g : Nat) (v u : Value) (xs : List S40) : Prop where
  below : Below w.heap.size w W
  blk : W.heap[g]? = some (.cells #[.pointer none, u, .int .i64 0, .int .i64 0, .int .i64 0, .int .i64 0] 47 (0, 0))
  gb : w.heap.size < g
  row : Kd.N k40 38 W w.heap.size (fun q => q ≠ g ∧ q ≠ w.heap.size) v xs
  rb : W.heap[w.heap.size]? = some (.cells #[.pointer none, .slice none 0 0, .int .i64 0, .int .i64 0, .int .i64 0, .int .i64 0] 47 (0, 0))
/-- An element's row that was made aside. -/
def As (w W : World) (g : Nat) (v fl : Value) (y : S40) : Prop := ∃ gq c, fl = .slice (some ⟨gq, 0, none⟩) 1 c ∧ w.heap.size < gq ∧ gq ≠ g ∧ v.ownBlock ≠ some gq ∧ Kd.F k40 W (fun q => q < w.heap.size ∨ q = gq) (some ⟨gq, 0, none⟩) 1 [y]
theorem Tn.drew {w W : World} {g : Nat} {v u : Value} {xs : List S40} (h : Tn w W g v u xs) : Tn w W.drew g v u xs := ⟨below_drew h.below, h.blk, h.gb, Kd.N_drew h.row, h.rb⟩
section
variable {ops : Array Oper} {o : Oper} {a : Act} {Q : Exit → Act → World → Prop} {Kc : Act → World → Prop} {w W : World} {g : Nat} {v u : Value} {xs : List S40} {y : S40}
theorem Tn.aside (h : Tn w W g v u xs) (hw : Region.wanted o (yielded ops a.tmps) = true) {N' : Tmp} (hd : o.dst = some N') {cs : List Value}
    (hrun : (execOp a.eval o).run Tryd.prog W = .ok (.value (.slice (some ⟨W.heap.size, 0, none⟩) 1 1)) (W.alloc (.cells cs.toArray 38)))
    (hcs : Kd.FK k40 w (fun q => q < w.heap.size) y cs)
    (hc : ∀ v1 w1, Tn w w1 g v u xs → As w w1 g v v1 y → Kc (a.put o.dst v1) w1) :
    if Region.wanted o (yielded ops a.tmps) = true then Oper.wp Tryd.prog o a W Kc Q else Kc (a.put o.dst undef) W := by
  have hcw := Kd.FK_below hcs h.below
  have hlen : cs.length = k40.sz := k40.K_len (Kd.FK_now hcw)
  have hgl := blk_lt h.blk
  refine Kd.N_lit_step k40 w.heap.size 38 hw hd (xs := [y]) (inner := cs) (ok := fun q => q < w.heap.size ∨ q = W.heap.size) (okp := fun q => q < w.heap.size) hrun ⟨by simp [hlen], fun j x hx => ?_⟩ (fun _ hk => .inl hk) (.inr rfl) h.below h.below.size (by simp) ?_
  · cases j with
    | zero =>
      obtain rfl : y = x := by simpa using hx
      simpa [← hlen] using hcw
    | succ j => simp at hx
  · intro v1 w1 hN hB hg hat
    obtain ⟨gq, cap, rfl, h1, h2, _⟩ := Kd.N_form hN (by simp)
    obtain ⟨b, hb, hle⟩ := hat
    have hgb : gq = b := by simpa [Value.ownBlock] using hb
    subst hgb
    have hgw : gq = W.heap.size := by
      rcases hN.1 gq hb with h | h
      · omega
      · exact h
    refine hc _ w1 ⟨hB, blk_grown h.blk hg (by simp), h.gb, Kd.N_grown h.row hg (fun _ _ => by simp), blk_grown h.rb hg (by simp)⟩ ⟨gq, cap, rfl, by have := blk_lt h.rb; omega, by omega, fun he => ?_, ?_⟩
    · have := Kd.N_lt h.row gq he
      omega
    · exact Kd.F_mono (Kd.N_F hN) (fun k hk => by rw [hgw]; exact hk)
theorem Tn.take (h : Tn w W g v u xs) {fl : Value} (hA : As w W g v fl y) (hw : Region.wanted o (yielded ops a.tmps) = true) (s x : Operand)
    (ho : o.op = .call { callee := .builtin .append, args := #[s, x], argTypes := #[35, 35] })
    (hs : a.eval s = v) (hx : a.eval x = fl) (hl : (xs.length + 1) * 32 ≤ 140737488355328)
    (hc : ∀ v1 w1, Tn w w1 g v1 u (xs ++ [y]) → Kc (a.put o.dst v1) w1) :
    if Region.wanted o (yielded ops a.tmps) = true then Oper.wp Tryd.prog o a W Kc Q else Kc (a.put o.dst undef) W := by
  obtain ⟨gq, c, rfl, h1, h2, h3, h4⟩ := hA
  have hgl := blk_lt h.blk
  refine Kd.N_append_rows_step k40 w.heap.size hw s x 35 38 _ 32 ho Tryd.underlying35 info38 rfl (by decide) (by decide) v xs [y] _ 1 c (fun q => q ≠ g ∧ q ≠ w.heap.size) _ hs hx h.row h4 (fun k hk => ⟨?_, fun he => ?_⟩) (fun k hk => ?_) h.below h.below.size hl ?_
  · rcases hk with hk | rfl
    · have := h.gb; omega
    · exact ⟨h2, by omega⟩
  · rcases hk with hk | rfl
    · have := Kd.N_base h.row k he.symm
      omega
    · exact h3 he.symm
  · have := blk_lt h.rb
    omega
  · intro v1 w1 hN hB hg hat
    exact hc v1 w1 ⟨hB, blk_grown h.blk hg (fun he => (h.row.1 g he.symm).1 rfl), h.gb, hN, blk_grown h.rb hg (fun he => (h.row.1 _ he.symm).2 rfl)⟩
end
theorem Tn.store {w W : World} {g : Nat} {v u : Value} {xs : List S40} (h : Tn w W g v u xs) : Tn w (W.setCell ⟨g, 1, none⟩ v) g v v xs :=
  ⟨h.below.setCell (Nat.le_of_lt h.gb) _, by simpa using blk_set h.blk 1 v, h.gb, Kd.N_far h.row (fun k hk => hk.1) _, blk_far h.rb (by show w.heap.size ≠ g; have := h.gb; omega) _⟩
end Go.Proofs.YtceankldidkohaaDoor.Core
/-! The walk of haymowlaw20.tree. Written by gen_audit_tree.py. -/
namespace Go.Proofs.YtceankldidkohaaDoor.Core
open Go.RowKit Go.Proofs.YtceankldidkohaaDoorW.PrintWords Go.Proofs.YtceankldidkohaaDoorW.PrintMore Go.Proofs.YtceankldidkohaaDoor.PAuditTwice Go.Proofs.YtceankldidkohaaDoor
set_option linter.unusedVariables false
set_option linter.unusedSimpArgs false
theorem Tn.cell {w W : World} {g : Nat} {v u : Value} {xs : List S40} (h : Tn w W g v u xs) : W.cell? ⟨g, 1, none⟩ = some u := by
  rw [blk_cell h.blk 1]
  rfl
theorem Tn.start (w : World) (Y : Array Value) (hY : Y = #[.pointer none, .slice none 0 0, .int .i64 0, .int .i64 0, .int .i64 0, .int .i64 0]) : Tn w ((w.alloc (.cells Y 47)).alloc (.cells Y 47)) (w.heap.size + 1) (.slice none 0 0) (.slice none 0 0) [] := by
  subst hY
  refine ⟨((Below.refl _ _).alloc (Nat.le_refl _) _).alloc (by simp) _, ?_, by omega, Kd.N_nil _ _ _ _ _, blk_alloc (blk_new _ _) _⟩
  have h := blk_new (w.alloc (.cells #[.pointer none, .slice none 0 0, .int .i64 0, .int .i64 0, .int .i64 0, .int .i64 0] 47)) (.cells #[.pointer none, .slice none 0 0, .int .i64 0, .int .i64 0, .int .i64 0, .int .i64 0] 47)
  simpa using h
theorem at_H40 {w : World} {A : Option Addr} {n : Nat} {xs : List S40} (h : Kd.C k40 w A n xs) (i : Int) (h0 : 0 ≤ i) (h1 : i < n) : ∃ ad A0 c0, A = some ad ∧ w.cell? (ad.add (i.toNat * 2)) = some (.slice A0 (rd_T40 xs i).f0.length c0) ∧ w.cell? ⟨(ad.add (i.toNat * 2)).block, (ad.add (i.toNat * 2)).off + 1, none⟩ = some (.int .i64 (rd_T40 xs i).f1) ∧ Kd.FK k40 w (fun q => q < w.heap.size) (rd_T40 xs i) [.slice A0 (rd_T40 xs i).f0.length c0, .int .i64 (rd_T40 xs i).f1] := by
  have heap40 : Kd.Heap k40 := Kd.heap_iso _ (Kd.heap_pair (Kd.heap_slice 3 (Kd.heap_int _)) (Kd.heap_int _))
  obtain ⟨ad, c, e, _, hK, hc0, _⟩ := Kd.F_get (Kd.C_F heap40 h) z40 i h0 h1
  have hc : ∀ j u, c[j]? = some u → w.cell? (ad.add (i.toNat * 2 + j)) = some u := hc0
  obtain ⟨A0, c0, rfl, _, _⟩ := k40_openF hK
  exact ⟨ad, A0, c0, e, hc 0 _ rfl, by rw [← add_field _ _ 1 (by omega)]; exact hc 1 _ rfl, hK⟩
set_option maxHeartbeats 4000000 in
set_option maxRecDepth 100000 in
theorem tree_any {w : World} {t : List S40} {A : Option Addr} {c : Nat} (hC : Kd.C k40 w A t.length t) (htl : t.length ≤ 1000) :
    Calls Tryd.prog 16 #[.slice A t.length c] w fun e W' => ∃ At ct, e = .returned (.agg #[.pointer none, .slice At t.length ct, .int .i64 0, .int .i64 0, .int .i64 0, .int .i64 0]) ∧ Kd.C k40 W' At t.length t ∧ Below w.heap.size w W' := by
  have HC := Lib.hid hC
  obtain ⟨n, hnn⟩ : ∃ n, n = t.length := ⟨_, rfl⟩
  have HN := Lib.hid hnn
  rw [← hnn] at htl ⊢
  clear hC hnn
  go_enter Tryd.func16, Tryd.ntmps16
  go_wp2_with fail
  go_loopg [4] n (fun k v4 X => ∃ (j : Nat) (vr : Value), j + k = n ∧ v4 = .int .i64 j ∧ Hid (Tn w X (w.heap.size + 1) vr vr (t.take j)))
  case atStart => exact ⟨0, _, by omega, rfl, Tn.start w _ rfl⟩
  case round =>
    obtain ⟨j, vr, hjk, rfl, hA⟩ := hrel
    have HK := Lib.hid hjk
    clear hjk
    obtain ⟨X, hX⟩ : ∃ X, X = wr := ⟨_, rfl⟩
    subst hX
    by_cases hlt : j < n
    · have hl : j < t.length := by have := HN.out; omega
      have HLT := Lib.hid hlt
      obtain ⟨ad, B0, d0, rfl, g0, g1, hfk⟩ := at_H40 HC.out (j : Int) (Int.natCast_nonneg _) (by omega)
      have hx : rd_T40 t (j : Int) = t[j] := rd40 hl
      have hd : t.take (j + 1) = t.take j ++ [rd_T40 t (j : Int)] := by rw [hx]; exact List.take_succ_eq_append_getElem hl
      have HD := Lib.hid hd
      obtain ⟨y, hyy⟩ : ∃ y, y = rd_T40 t (j : Int) := ⟨_, rfl⟩
      rw [← hyy] at g0 g1 hfk HD
      simp only [Int.toNat_natCast] at g0 g1
      clear hd hx hyy
      obtain ⟨yl, hyl⟩ : ∃ yl, yl = y.f0.length := ⟨_, rfl⟩
      rw [← hyl] at g0 hfk
      clear hyl
      have HFK := Lib.hid hfk
      have HCL : Hid (∀ W, Below w.heap.size w W → W.cell? (ad.add (j * 2)) = some (.slice B0 yl d0) ∧ W.cell? ⟨(ad.add (j * 2)).block, (ad.add (j * 2)).off + 1, none⟩ = some (.int .i64 y.f1)) := fun W hb => ⟨(hb.cell (block_lt_of_cell g0)).trans g0, (hb.cell (block_lt_of_cell g1)).trans g1⟩
      have HLEN : Hid (((t.take j).length + 1) * 32 ≤ 140737488355328) := by
        show _ ≤ _
        have := List.length_take_le j t
        omega
      have hjb : (j : Int) + 1 ≤ 1000000 := by omega
      clear hfk g0 g1 hl
      go_wp2_with fail
      refine Reg.wp_region_phase (by kernel_rfl) [13, 14, 16] (fun i => match i with | 0 => fun v => v = .pointer (some ⟨w.heap.size + 1, 1, none⟩) | 1 => fun v => v = vr | 2 => fun v => v = .slice (some ad) n c | 3 => fun v => v = .int .i64 (j : Int) | 4 => fun v => v = .pointer (some (ad.add (j * 2))) | 5 => fun v => v = .pointer (some (ad.add (j * 2))) | 6 => fun v => v = .slice B0 yl d0 | 7 => fun v => v = .slice (some ad) n c | 8 => fun v => v = .int .i64 (j : Int) | 9 => fun v => v = .pointer (some (ad.add (j * 2))) | 10 => fun v => v = .pointer (some ⟨(ad.add (j * 2)).block, (ad.add (j * 2)).off + 1, none⟩) | 11 => fun v => v = .int .i64 y.f1 | 12 => fun v => v = .agg #[.slice B0 yl d0, .int .i64 y.f1] | 15 => fun v => v = .pointer (some ⟨w.heap.size + 1, 1, none⟩) | _ => fun _ => True) (fun k f W => match k with
    | 0 => Tn w W (w.heap.size + 1) vr vr (t.take j)
    | 1 => Tn w W (w.heap.size + 1) vr vr (t.take j) ∧ As w W (w.heap.size + 1) vr (f 24) y
    | 2 => Tn w W (w.heap.size + 1) (f 25) vr (t.take j ++ [y])
    | _ => Tn w W (w.heap.size + 1) (f 25) (f 25) (t.take j ++ [y])) (by kernel_rfl) (by kernel_rfl) (by decide) (by decide) ?hJ ?h0 ?pure ?act ?fin
      case hJ => (intro k f f' W h hj; match k, hj with
    | 0, hj => exact hj
    | 1, hj => (rw [h 0 (by omega) (by decide) 24 (by kernel_rfl)] at hj; exact hj)
    | 2, hj => (rw [h 1 (by omega) (by decide) 25 (by kernel_rfl)] at hj; exact hj)
    | k + 3, hj => (rw [h 1 (by omega) (by decide) 25 (by kernel_rfl)] at hj; exact hj))
      case h0 => exact hA.out.drew
      case pure =>
        intro i o k a w_ ho hE hk hmc hf hst hkn hj
        have hi : i < 17 := (Array.getElem?_eq_some_iff.1 ho).1
        obtain rfl | rfl | rfl | rfl | rfl | rfl | rfl | rfl | rfl | rfl | rfl | rfl | rfl | rfl : i = 0 ∨ i = 1 ∨ i = 2 ∨ i = 3 ∨ i = 4 ∨ i = 5 ∨ i = 6 ∨ i = 7 ∨ i = 8 ∨ i = 9 ∨ i = 10 ∨ i = 11 ∨ i = 12 ∨ i = 15 := by
          simp only [List.mem_cons, List.not_mem_nil, or_false, not_or] at hE
          omega
        · as_aux_lemma =>
          obtain rfl := Reg.oper_eq ho rfl
          have e3 : a.eval (.tmp 3) = .pointer (some ⟨w.heap.size + 1, 0, none⟩) := (hf.eval 3 (by kernel_rfl)).trans rfl
          have g3 := Reg.eval_getD e3
          exact Reg.op_value rfl rfl (by simp only [List.getElem_toArray, List.getElem_cons_zero, List.getElem_cons_succ, execOp, e3]; go_simp) ⟨_, rfl, rfl, hj⟩
        · as_aux_lemma =>
          obtain rfl := Reg.oper_eq ho rfl
          have e11 : a.eval (.tmp 11) = .pointer (some ⟨w.heap.size + 1, 1, none⟩) := hkn.eval 0 11 (by kernel_rfl) (by kernel_rfl)
          have g11 := Reg.eval_getD e11
          have hbw : Below w.heap.size w w_ := by
            match k, hj with
            | 0, hj => exact hj.below
            | 1, hj => exact hj.1.below
            | 2, hj => exact hj.below
            | k + 3, hj => exact hj.below
          obtain ⟨g0, g1⟩ := HCL.out w_ hbw
          exact Reg.op_value rfl rfl (by have hb : w_.cell? ⟨w.heap.size + 1, 1, none⟩ = some vr := (match k, hk, hj, hmc with | 0, _, hj, _ => Tn.cell hj | 1, _, hj, _ => Tn.cell hj.1 | 2, _, hj, _ => Tn.cell hj | 3, _, _, hmc => absurd hmc (Bool.eq_false_iff.1 (by kernel_rfl)) | k + 4, hk, _, _ => absurd hk (by simp)); simp only [List.getElem_toArray, List.getElem_cons_zero, List.getElem_cons_succ, execOp, e11]; go_simp) ⟨_, rfl, rfl, hj⟩
        · as_aux_lemma =>
          obtain rfl := Reg.oper_eq ho rfl
          have e0 : a.eval (.tmp 0) = .slice (some ad) n c := (hf.eval 0 (by kernel_rfl)).trans rfl
          have g0 := Reg.eval_getD e0
          exact Reg.op_value rfl rfl (by simp only [List.getElem_toArray, List.getElem_cons_zero, List.getElem_cons_succ, execOp, e0]; go_simp) ⟨_, rfl, rfl, hj⟩
        · as_aux_lemma =>
          obtain rfl := Reg.oper_eq ho rfl
          have e4 : a.eval (.tmp 4) = .int .i64 (j : Int) := (hf.eval 4 (by kernel_rfl)).trans rfl
          have g4 := Reg.eval_getD e4
          exact Reg.op_value rfl rfl (by simp only [List.getElem_toArray, List.getElem_cons_zero, List.getElem_cons_succ, execOp, e4]; go_simp) ⟨_, rfl, rfl, hj⟩
        · as_aux_lemma =>
          obtain rfl := Reg.oper_eq ho rfl
          have e13 : a.eval (.tmp 13) = .slice (some ad) n c := hkn.eval 2 13 (by kernel_rfl) (by kernel_rfl)
          have e14 : a.eval (.tmp 14) = .int .i64 (j : Int) := hkn.eval 3 14 (by kernel_rfl) (by kernel_rfl)
          have g13 := Reg.eval_getD e13
          have g14 := Reg.eval_getD e14
          exact Reg.op_value rfl rfl (by simp only [List.getElem_toArray, List.getElem_cons_zero, List.getElem_cons_succ, execOp, e13, e14]; go_simp) ⟨_, rfl, rfl, hj⟩
        · as_aux_lemma =>
          obtain rfl := Reg.oper_eq ho rfl
          have e15 : a.eval (.tmp 15) = .pointer (some (ad.add (j * 2))) := hkn.eval 4 15 (by kernel_rfl) (by kernel_rfl)
          have g15 := Reg.eval_getD e15
          exact Reg.op_value rfl rfl (by simp only [List.getElem_toArray, List.getElem_cons_zero, List.getElem_cons_succ, execOp, e15]; go_simp) ⟨_, rfl, rfl, hj⟩
        · as_aux_lemma =>
          obtain rfl := Reg.oper_eq ho rfl
          have e16 : a.eval (.tmp 16) = .pointer (some (ad.add (j * 2))) := hkn.eval 5 16 (by kernel_rfl) (by kernel_rfl)
          have g16 := Reg.eval_getD e16
          have hbw : Below w.heap.size w w_ := by
            match k, hj with
            | 0, hj => exact hj.below
            | 1, hj => exact hj.1.below
            | 2, hj => exact hj.below
            | k + 3, hj => exact hj.below
          obtain ⟨g0, g1⟩ := HCL.out w_ hbw
          exact Reg.op_value rfl rfl (by simp only [List.getElem_toArray, List.getElem_cons_zero, List.getElem_cons_succ, execOp, e16]; go_simp) ⟨_, rfl, rfl, hj⟩
        · as_aux_lemma =>
          obtain rfl := Reg.oper_eq ho rfl
          have e0 : a.eval (.tmp 0) = .slice (some ad) n c := (hf.eval 0 (by kernel_rfl)).trans rfl
          have g0 := Reg.eval_getD e0
          exact Reg.op_value rfl rfl (by simp only [List.getElem_toArray, List.getElem_cons_zero, List.getElem_cons_succ, execOp, e0]; go_simp) ⟨_, rfl, rfl, hj⟩
        · as_aux_lemma =>
          obtain rfl := Reg.oper_eq ho rfl
          have e4 : a.eval (.tmp 4) = .int .i64 (j : Int) := (hf.eval 4 (by kernel_rfl)).trans rfl
          have g4 := Reg.eval_getD e4
          exact Reg.op_value rfl rfl (by simp only [List.getElem_toArray, List.getElem_cons_zero, List.getElem_cons_succ, execOp, e4]; go_simp) ⟨_, rfl, rfl, hj⟩
        · as_aux_lemma =>
          obtain rfl := Reg.oper_eq ho rfl
          have e18 : a.eval (.tmp 18) = .slice (some ad) n c := hkn.eval 7 18 (by kernel_rfl) (by kernel_rfl)
          have e19 : a.eval (.tmp 19) = .int .i64 (j : Int) := hkn.eval 8 19 (by kernel_rfl) (by kernel_rfl)
          have g18 := Reg.eval_getD e18
          have g19 := Reg.eval_getD e19
          exact Reg.op_value rfl rfl (by simp only [List.getElem_toArray, List.getElem_cons_zero, List.getElem_cons_succ, execOp, e18, e19]; go_simp) ⟨_, rfl, rfl, hj⟩
        · as_aux_lemma =>
          obtain rfl := Reg.oper_eq ho rfl
          have e20 : a.eval (.tmp 20) = .pointer (some (ad.add (j * 2))) := hkn.eval 9 20 (by kernel_rfl) (by kernel_rfl)
          have g20 := Reg.eval_getD e20
          exact Reg.op_value rfl rfl (by simp only [List.getElem_toArray, List.getElem_cons_zero, List.getElem_cons_succ, execOp, e20]; go_simp) ⟨_, rfl, rfl, hj⟩
        · as_aux_lemma =>
          obtain rfl := Reg.oper_eq ho rfl
          have e21 : a.eval (.tmp 21) = .pointer (some ⟨(ad.add (j * 2)).block, (ad.add (j * 2)).off + 1, none⟩) := hkn.eval 10 21 (by kernel_rfl) (by kernel_rfl)
          have g21 := Reg.eval_getD e21
          have hbw : Below w.heap.size w w_ := by
            match k, hj with
            | 0, hj => exact hj.below
            | 1, hj => exact hj.1.below
            | 2, hj => exact hj.below
            | k + 3, hj => exact hj.below
          obtain ⟨g0, g1⟩ := HCL.out w_ hbw
          exact Reg.op_value rfl rfl (by simp only [List.getElem_toArray, List.getElem_cons_zero, List.getElem_cons_succ, execOp, e21]; go_simp) ⟨_, rfl, rfl, hj⟩
        · as_aux_lemma =>
          obtain rfl := Reg.oper_eq ho rfl
          have e17 : a.eval (.tmp 17) = .slice B0 yl d0 := hkn.eval 6 17 (by kernel_rfl) (by kernel_rfl)
          have e22 : a.eval (.tmp 22) = .int .i64 y.f1 := hkn.eval 11 22 (by kernel_rfl) (by kernel_rfl)
          have g17 := Reg.eval_getD e17
          have g22 := Reg.eval_getD e22
          exact Reg.op_value rfl rfl (by simp only [List.getElem_toArray, List.getElem_cons_zero, List.getElem_cons_succ, execOp, e17, e22]; go_simp) ⟨_, rfl, rfl, hj⟩
        · as_aux_lemma =>
          obtain rfl := Reg.oper_eq ho rfl
          have e3 : a.eval (.tmp 3) = .pointer (some ⟨w.heap.size + 1, 0, none⟩) := (hf.eval 3 (by kernel_rfl)).trans rfl
          have g3 := Reg.eval_getD e3
          exact Reg.op_value rfl rfl (by simp only [List.getElem_toArray, List.getElem_cons_zero, List.getElem_cons_succ, execOp, e3]; go_simp) ⟨_, rfl, rfl, hj⟩
      case act =>
        intro k o a w_ hk ho hf hst hkn hj
        obtain rfl | rfl | rfl : k = 0 ∨ k = 1 ∨ k = 2 := by simp only [List.length_cons, List.length_nil] at hk; omega
        · as_aux_lemma =>
          obtain rfl := Reg.oper_eq ho rfl
          have e23 : a.eval (.tmp 23) = .agg #[.slice B0 yl d0, .int .i64 y.f1] := hkn.eval 12 23 (by kernel_rfl) (by kernel_rfl)
          have g23 := Reg.eval_getD e23
          refine Reg.op_wp rfl rfl ?_
          refine Tn.aside hj rfl rfl (cs := [.slice B0 yl d0, .int .i64 y.f1]) (by simp only [List.getElem_toArray, List.getElem_cons_zero, List.getElem_cons_succ, execOp, e23]; go_simp) HFK.out ?_
          intro v1 w1 hj1 hA1
          refine ⟨_, rfl, trivial, hj1, ?_⟩
          show As w w1 _ vr (Reg.val (a.put (some 24) v1) 24) y
          rw [Reg.val_put_in hf (by kernel_rfl)]
          exact hA1
        · as_aux_lemma =>
          obtain rfl := Reg.oper_eq ho rfl
          have e12 : a.eval (.tmp 12) = vr := hkn.eval 1 12 (by kernel_rfl) (by kernel_rfl)
          have g12 := Reg.eval_getD e12
          obtain ⟨hj0, hA0⟩ : Tn w w_ (w.heap.size + 1) vr vr (t.take j) ∧ As w w_ (w.heap.size + 1) vr (Reg.val a 24) y := hj
          refine Reg.op_wp rfl rfl ?_
          refine Tn.take hj0 hA0 rfl (.tmp 12) (.tmp 24) rfl e12 (Reg.eval_val a 24) HLEN.out ?_
          intro v1 w1 hj1
          refine ⟨_, rfl, trivial, ?_⟩
          show Tn w w1 _ (Reg.val (a.put (some 25) v1) 25) vr _
          rw [Reg.val_put_in hf (by kernel_rfl)]
          exact hj1
        · as_aux_lemma =>
          obtain rfl := Reg.oper_eq ho rfl
          have e26 : a.eval (.tmp 26) = .pointer (some ⟨w.heap.size + 1, 1, none⟩) := hkn.eval 15 26 (by kernel_rfl) (by kernel_rfl)
          have g26 := Reg.eval_getD e26
          have hj : Tn w w_ (w.heap.size + 1) (Reg.val a 25) vr (t.take j ++ [y]) := hj
          obtain ⟨A25, c25, hv25⟩ := Kd.N_slice hj.row
          have e25 : a.eval (.tmp 25) = .slice A25 (t.take j ++ [y]).length c25 := (Reg.eval_val a 25).trans hv25
          have g25 := Reg.eval_getD e25
          have hS := hj.store
          rw [hv25] at hS
          have q1 := hj.cell
          have q2 : w_.frozen? ⟨w.heap.size + 1, 1, none⟩ = false := blk_frozen hj.blk 1
          refine Reg.op_unit (w' := w_.setCell ⟨w.heap.size + 1, 1, none⟩ (.slice A25 (t.take j ++ [y]).length c25)) rfl rfl ?_ ⟨_, rfl, trivial, ?_⟩
          · clear hS hj hv25
            generalize (t.take j ++ [y]).length = m25 at *
            simp only [List.getElem_toArray, List.getElem_cons_zero, List.getElem_cons_succ, execOp, e26, e25]
            go_simp
          · show Tn w _ _ (Reg.val a 25) (Reg.val a 25) _
            rw [hv25]
            exact hS
      case fin =>
        intro a w_ hf hkn hj
        have e11 : Reg.val a 11 = _ := hkn 0 11 (by show _ < _; decide) (by kernel_rfl)
        have e12 : Reg.val a 12 = _ := hkn 1 12 (by show _ < _; decide) (by kernel_rfl)
        have e13 : Reg.val a 13 = _ := hkn 2 13 (by show _ < _; decide) (by kernel_rfl)
        have e14 : Reg.val a 14 = _ := hkn 3 14 (by show _ < _; decide) (by kernel_rfl)
        have e15 : Reg.val a 15 = _ := hkn 4 15 (by show _ < _; decide) (by kernel_rfl)
        have e16 : Reg.val a 16 = _ := hkn 5 16 (by show _ < _; decide) (by kernel_rfl)
        have e17 : Reg.val a 17 = _ := hkn 6 17 (by show _ < _; decide) (by kernel_rfl)
        have e18 : Reg.val a 18 = _ := hkn 7 18 (by show _ < _; decide) (by kernel_rfl)
        have e19 : Reg.val a 19 = _ := hkn 8 19 (by show _ < _; decide) (by kernel_rfl)
        have e20 : Reg.val a 20 = _ := hkn 9 20 (by show _ < _; decide) (by kernel_rfl)
        have e21 : Reg.val a 21 = _ := hkn 10 21 (by show _ < _; decide) (by kernel_rfl)
        have e22 : Reg.val a 22 = _ := hkn 11 22 (by show _ < _; decide) (by kernel_rfl)
        have e23 : Reg.val a 23 = _ := hkn 12 23 (by show _ < _; decide) (by kernel_rfl)
        have e26 : Reg.val a 26 = _ := hkn 15 26 (by show _ < _; decide) (by kernel_rfl)
        rw [Reg.frm_fold hf [11, 12, 13, 14, 15, 16, 17, 18, 19, 20, 21, 22, 23, 24, 25, 26] (by kernel_rfl) (by kernel_rfl)]
        simp only [List.foldl_cons, List.foldl_nil, Act.put, List.setIfInBounds_toArray, List.set_cons_zero, List.set_cons_succ, e11, e12, e13, e14, e15, e16, e17, e18, e19, e20, e21, e22, e23, e26]
        generalize Reg.val a 24 = v24_ at *
        generalize Reg.val a 25 = v25_ at *
        clear hkn hf e11 e12 e13 e14 e15 e16 e17 e18 e19 e20 e21 e22 e23 e26
        have HT := Lib.hid (show Tn w w_ (w.heap.size + 1) v25_ v25_ (t.take j ++ [y]) from hj)
        clear hj
        go_wp2_with fail
        go_roundg (n - (j + 1))
        case measure => have := HK.out; have := HLT.out; omega
        case rel =>
          refine ⟨j + 1, v25_, by have := HLT.out; omega, by go_num, ?_⟩
          show Tn w _ _ _ _ _
          rw [HD.out]
          exact HT.out
    · obtain rfl : j = n := by have := HK.out; omega
      have h1 := hA.out
      rw [List.take_of_length_le (by have := HN.out; omega)] at h1
      obtain ⟨A6, c6, hv6, _, hC6⟩ := Kd.N_reads h1.row
      rw [← HN.out] at hv6 hC6
      subst hv6
      have HT := Lib.hid h1
      have HC6 := Lib.hid hC6
      have k1 := blk_cell h1.blk 0
      have k2 := blk_cell h1.blk 1
      have k3 := blk_cell h1.blk 2
      have k4 := blk_cell h1.blk 3
      have k5 := blk_cell h1.blk 4
      have k6 := blk_cell h1.blk 5
      simp only [List.getElem?_toArray, List.getElem?_cons_zero, List.getElem?_cons_succ] at k1 k2 k3 k4 k5 k6
      have r1 := blk_cell h1.rb 0
      have r2 := blk_cell h1.rb 1
      have r3 := blk_cell h1.rb 2
      have r4 := blk_cell h1.rb 3
      have r5 := blk_cell h1.rb 4
      have r6 := blk_cell h1.rb 5
      simp only [List.getElem?_toArray, List.getElem?_cons_zero, List.getElem?_cons_succ] at r1 r2 r3 r4 r5 r6
      have f1 := blk_frozen h1.rb 0
      have f2 := blk_frozen h1.rb 1
      have f3 := blk_frozen h1.rb 2
      have f4 := blk_frozen h1.rb 3
      have f5 := blk_frozen h1.rb 4
      have f6 := blk_frozen h1.rb 5
      clear h1 hC6 hA
      go_wp2_with fail
      have hblk := blk_set (blk_set (blk_set (blk_set (blk_set (blk_set HT.out.rb 0 (.pointer none)) 1 (.slice A6 j c6)) 2 (.int .i64 0)) 3 (.int .i64 0)) 4 (.int .i64 0)) 5 (.int .i64 0)
      refine bodyPost_ret (results_cell_row rfl _ _ w.heap.size 47 #[.pointer none, .slice A6 j c6, .int .i64 0, .int .i64 0, .int .i64 0, .int .i64 0] (0, 0) _ rfl (by simpa using hblk) Tryd.underlying47 rfl (by kernel_rfl)) rfl ?_
      have hr := Kd.N_far (p := ⟨w.heap.size, 5, none⟩) (Kd.N_far (p := ⟨w.heap.size, 4, none⟩) (Kd.N_far (p := ⟨w.heap.size, 3, none⟩) (Kd.N_far (p := ⟨w.heap.size, 2, none⟩) (Kd.N_far (p := ⟨w.heap.size, 1, none⟩) (Kd.N_far (p := ⟨w.heap.size, 0, none⟩) HT.out.row (fun k hk => hk.2) (.pointer none)) (fun k hk => hk.2) (.slice A6 j c6)) (fun k hk => hk.2) (.int .i64 0)) (fun k hk => hk.2) (.int .i64 0)) (fun k hk => hk.2) (.int .i64 0)) (fun k hk => hk.2) (.int .i64 0)
      have hcc := (Kd.N_reads' hr).2.2
      rw [← HN.out] at hcc
      exact ⟨A6, c6, rfl, hcc, ((((((HT.out.below.setCell (Nat.le_refl _) _).setCell (Nat.le_refl _) _).setCell (Nat.le_refl _) _).setCell (Nat.le_refl _) _).setCell (Nat.le_refl _) _).setCell (Nat.le_refl _) _)⟩
end Go.Proofs.YtceankldidkohaaDoor.Core

