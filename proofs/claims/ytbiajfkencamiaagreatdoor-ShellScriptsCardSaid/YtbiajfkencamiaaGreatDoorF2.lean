/- shell: numbers and arguments of a line's words. -/
import Derived.Test.YtbiajfkencamiaaGreatDoorF1
import Derived.Deep.LoopGhost
/-! F2 -/
namespace Go.Proofs.YtbiajfkencamiaaGreatDoor.SH
open Go.RowKit Go.Shelf Go.Proofs.YtbiajfkencamiaaGreatDoorW.PrintWords Go.Proofs.YtbiajfkencamiaaGreatDoorW.PrintMore Go.Proofs.YtbiajfkencamiaaGreatDoor.P1 Go.Proofs.YtbiajfkencamiaaGreatDoor Go.Proofs.YtbiajfkencamiaaGreatDoor.Core
set_option linter.unusedVariables false
set_option linter.unusedSimpArgs false
/-- Words that can be read. -/
def WordsR (W : World) (v : Value) (ws : List (List UInt8)) : Prop := ∃ bk o c, v = .slice (some ⟨bk, o, none⟩) ws.length c ∧ ws.length ≤ c ∧ bk < W.heap.size ∧ ∀ (j : Nat) x, ws[j]? = some x → W.cell? ⟨bk, o + j, none⟩ = some (.string ⟨x.toArray⟩)
theorem WordsR.below {W W' : World} {v : Value} {ws : List (List UInt8)} (h : WordsR W v ws) (hb : Below W.heap.size W W') : WordsR W' v ws := by
  obtain ⟨bk, o, c, e, hc, hlt, h⟩ := h
  exact ⟨bk, o, c, e, hc, Nat.lt_of_lt_of_le hlt hb.size, fun j x hj => (hb.cell (p := ⟨bk, o + j, none⟩) hlt).trans (h j x hj)⟩
def mapP (f : List UInt8 → Option Int) : List (List UInt8) → Option (List Int)
  | [] => some []
  | x :: l => (f x).bind fun n => (mapP f l).map (n :: ·)
theorem mapP_snoc (f : List UInt8 → Option Int) : ∀ (l : List (List UInt8)) (x : List UInt8), mapP f (l ++ [x]) = (mapP f l).bind fun r => (f x).map fun n => r ++ [n]
  | [], x => by
    show (f x).bind (fun n => some [n]) = (f x).map fun n => [] ++ [n]
    cases f x <;> rfl
  | y :: l, x => by
    show (f y).bind (fun n => (mapP f (l ++ [x])).map (n :: ·)) = ((f y).bind fun n => (mapP f l).map (n :: ·)).bind _
    rw [mapP_snoc f l x]
    cases f y with
    | none => rfl
    | some n =>
      cases mapP f l with
      | none => rfl
      | some r => cases f x <;> rfl
theorem mapP_none {f : List UInt8 → Option Int} : ∀ (l m : List (List UInt8)), mapP f l = none → mapP f (l ++ m) = none
  | [], m, h => by cases h
  | y :: l, m, h => by
    show (f y).bind (fun n => (mapP f (l ++ m)).map (n :: ·)) = none
    cases hf : f y with
    | none => rfl
    | some n =>
      have h' : (mapP f l).map (n :: ·) = none := by
        have : (f y).bind (fun n => (mapP f l).map (n :: ·)) = none := h
        rwa [hf] at this
      rw [Option.map_eq_none_iff] at h'
      show (mapP f (l ++ m)).map (n :: ·) = none
      rw [mapP_none l m h']
      rfl
theorem mapP_len {f : List UInt8 → Option Int} : ∀ (l : List (List UInt8)) (r : List Int), mapP f l = some r → r.length = l.length
  | [], r, h => by injection h with h; subst h; rfl
  | y :: l, r, h => by
    have h' : (f y).bind (fun n => (mapP f l).map (n :: ·)) = some r := h
    obtain ⟨n, h1, h2⟩ := Option.bind_eq_some_iff.1 h'
    obtain ⟨r2, h3, rfl⟩ := Option.map_eq_some_iff.1 h2
    simp [mapP_len l r2 h3]
theorem take_snoc {l : List (List UInt8)} {q : Nat} {x : List UInt8} (h : l[q]? = some x) : l.take (q + 1) = l.take q ++ [x] := by
  rw [List.take_add_one, h]
  rfl
theorem mapP_stop {f : List UInt8 → Option Int} {l : List (List UInt8)} {q : Nat} {x : List UInt8} (h : l[q]? = some x) (hx : f x = none) : mapP f l = none := by
  have e : l = l.take (q + 1) ++ l.drop (q + 1) := (List.take_append_drop _ _).symm
  rw [e]
  refine mapP_none _ _ ?_
  rw [take_snoc h, mapP_snoc, hx]
  cases mapP f (l.take q) <;> rfl
/-- Numbers, or a panic. -/
def GivesNs (ty : Nat) (k : IntKind) (w : World) : Option (List Int) → Ending → World → Prop
  | some l, e, w' => ∃ v, e = .returned v ∧ w'.ownsRow w.heap.size ty 1 v l.length (nums k l) ∧ Below w.heap.size w w'
  | none, e, w' => e = .panicked (wrongS 13) ∧ Below w.heap.size w w'
def numbersS (ws : List (List UInt8)) (many : Nat) : Option (List Int) := if ws.length = many then mapP plainS ws else none
theorem info3 : (Tryz.prog.info? 3).map (fun i => (i.zero, i.size, i.bytes)) = some (some (.int .i64 0), 1, 8) := by kernel_rfl
theorem info2 : (Tryz.prog.info? 2).map (fun i => (i.zero, i.size, i.bytes)) = some (some (.int .i64 0), 1, 8) := by kernel_rfl
set_option maxRecDepth 100000 in
set_option maxHeartbeats 4000000 in
theorem numbers_any (ws : List (List UInt8)) (many : Nat) (v : Value) (w : World) (h : WordsR w v ws) (hl : ws.length ≤ 1000000) : Calls Tryz.prog 41 #[v, .int .i64 (many : Int)] w (GivesNs 3 .i64 w (numbersS ws many)) := by
  obtain ⟨bk, o, c, rfl, hc, hlt, hr⟩ := h
  obtain ⟨r, hrr⟩ : ∃ r, numbersS ws many = r := ⟨_, rfl⟩
  rw [hrr]
  obtain ⟨n, hn⟩ : ∃ n, n = ws.length := ⟨_, rfl⟩
  rw [← hn] at hc hl ⊢
  have HR := Lib.hid hr
  have HN := Lib.hid hn
  have HRR := Lib.hid hrr
  have HLT := Lib.hid hlt
  have HL := Lib.hid hl
  clear hr hrr hlt hl
  by_cases hm : n = many
  · subst hm
    have e0 : ((n : Int) == (n : Int)) = true := by simp
    have HF : Hid (r = mapP plainS ws) := by
      show r = _
      rw [← HRR.out]
      unfold numbersS
      rw [if_pos HN.out.symm]
    clear hn
    go_enter Tryz.func41, Tryz.ntmps41
    go_wp2_with fail
    refine (need_ok 13 _).mono ?_
    rintro _ _ ⟨rfl, rfl⟩
    clear e0
    go_wp2_with fail
    go_loopg [5, 15] n (fun d v5 v15 X => ∃ q : Nat, q + d = n ∧ v15 = .int .i64 (q : Int) ∧ Hid (∃ l, mapP plainS (ws.take q) = some l ∧ X.ownsRow w.heap.size 3 1 v5 l.length (nums .i64 l) ∧ Below w.heap.size w X))
    case atStart => exact ⟨0, by omega, rfl, [], rfl, own_nil _ _ _ _, Below.refl _ _⟩
    case round =>
      obtain ⟨q, hqd, rfl, hS⟩ := hrel
      obtain ⟨l, hl, hO, hB⟩ := hS.out
      by_cases hq : q < n
      · have hq0 : (0 : Int) ≤ (q : Int) := by omega
        have hq1 : (q : Int) < (n : Int) := by omega
        have hq2 : decide ((q : Int) < (n : Int)) = true := decide_eq_true hq1
        have hqw : wrap64 ((q : Int) + 1) = ((q + 1 : Nat) : Int) := by have := HL.out; unfold wrap64; omega
        obtain ⟨x, hx⟩ : ∃ x, ws[q]? = some x := ⟨_, List.getElem?_eq_getElem (by rw [← HN.out]; exact hq)⟩
        have cx : wr.cell? ⟨bk, o + q, none⟩ = some (.string ⟨x.toArray⟩) := (hB.cell (p := ⟨bk, o + q, none⟩) HLT.out).trans (HR.out q x hx)
        have hll := mapP_len _ _ hl
        have HX := Lib.hid hx
        have HML := Lib.hid hl
        have HLL : Hid (l.length ≤ 1000000) := by
          have h1 := HL.out
          have h2 := List.length_take_le q ws
          have h3 := HN.out
          show l.length ≤ 1000000
          omega
        have HO := Lib.hid hO
        have HB := Lib.hid hB
        have HQ := Lib.hid hq
        have HQD := Lib.hid hqd
        clear hx hl hO hB hq hqd hll hS
        go_wp2_with fail
        refine (plain_any x _).mono ?_
        intro e9 w9 hg
        cases hp : plainS x with
        | none =>
          rw [hp] at hg
          obtain ⟨rfl, hb9⟩ := hg
          have hF := HF.out
          rw [mapP_stop HX.out hp] at hF
          rw [hF]
          exact ⟨rfl, rfl, HB.out.trans (hb9.mono HB.out.size)⟩
        | some k =>
          rw [hp] at hg
          obtain ⟨rfl, hb9⟩ := hg
          have HO9 := Lib.hid (pw_own_below HO.out hb9)
          have HB9 : Hid (Below w.heap.size w w9) := HB.out.trans (hb9.mono HB.out.size)
          have HP := Lib.hid hp
          clear hp hb9 cx
          obtain ⟨A5, c5, rfl⟩ := own_slice HO9.out
          go_wp2_with ((with_reducible refine gate_builtin (b := .append) (xs := #[.tmp 19, .tmp 22]) rfl ?_); refine print_append_num (w0 := w) w.heap.size rfl (.tmp 19) (.tmp 22) 73 3 .i64 8 rfl Tryz.underlying73 info3 (by decide) _ l k rfl rfl HO9.out HB9.out HB9.out.size (by have := HLL.out; omega) ?_; intro v1 w1 hR1 hB1 _ _; have HR1 := Lib.hid hR1; have HB1 := Lib.hid hB1; clear hR1 hB1)
          go_roundg (n - (q + 1))
          case measure => exact step_lt HQD.out HQ.out
          case rel =>
            refine ⟨q + 1, step_eq HQ.out, by go_num, l ++ [k], ?_, HR1.out, HB1.out⟩
            rw [take_snoc HX.out, mapP_snoc, HML.out, HP.out]
            rfl
      · have hq1 : ¬ (q : Int) < (n : Int) := by omega
        have hq2 : decide ((q : Int) < (n : Int)) = false := decide_eq_false hq1
        obtain rfl : q = n := by omega
        have hF := HF.out
        rw [HN.out, List.take_length] at hl
        rw [hl] at hF
        have HF2 := Lib.hid hF
        have HO := Lib.hid hO
        have HB := Lib.hid hB
        clear hF hl hO hB hq hqd hS
        go_wp2_with fail
        go_ret
        rw [HF2.out]
        exact ⟨_, rfl, HO.out, HB.out⟩
  · have e0 : ((n : Int) == (many : Int)) = false := by rw [beq_eq_false_iff_ne]; omega
    have HF : Hid (r = none) := by
      show r = _
      rw [← HRR.out]
      unfold numbersS
      rw [if_neg (by rw [← HN.out]; exact hm)]
    clear hn hm
    go_enter Tryz.func41, Tryz.ntmps41
    go_wp2_with fail
    refine (need_no 13 _).mono ?_
    rintro _ _ ⟨rfl, rfl⟩
    rw [HF.out]
    exact ⟨rfl, rfl, Below.refl _ _⟩
/-- What a word tells as an argument. -/
def argS (x : List UInt8) : Option Int := (plainS (Lib.trimPrefix x [45])).bind fun n => if Lib.hasPrefix x [45] = true then (if 0 < n then some (-n) else none) else some n
def argsS (ws : List (List UInt8)) : Option (List Int) := mapP argS ws
theorem wneg {n : Int} (h0 : 0 ≤ n) (h : n < 1000000000) : wrap64 (-n) = -n := by unfold wrap64; omega
set_option maxRecDepth 100000 in
set_option maxHeartbeats 4000000 in
theorem arguments_any (ws : List (List UInt8)) (v : Value) (w : World) (h : WordsR w v ws) (hl : ws.length ≤ 1000000) : Calls Tryz.prog 43 #[v] w (GivesNs 2 .i64 w (argsS ws)) := by
  obtain ⟨bk, o, c, rfl, hc, hlt, hr⟩ := h
  obtain ⟨r, hrr⟩ : ∃ r, argsS ws = r := ⟨_, rfl⟩
  rw [hrr]
  obtain ⟨n, hn⟩ : ∃ n, n = ws.length := ⟨_, rfl⟩
  rw [← hn] at hc hl ⊢
  have HR := Lib.hid hr
  have HN := Lib.hid hn
  have HF : Hid (mapP argS ws = r) := hrr
  have HLT := Lib.hid hlt
  have HL := Lib.hid hl
  clear hr hrr hlt hl hn
  go_enter Tryz.func43, Tryz.ntmps43
  go_wp2_with fail
  go_loopg [3, 11] n (fun d v5 v15 X => ∃ q : Nat, q + d = n ∧ v15 = .int .i64 (q : Int) ∧ Hid (∃ l, mapP argS (ws.take q) = some l ∧ X.ownsRow w.heap.size 2 1 v5 l.length (nums .i64 l) ∧ Below w.heap.size w X))
  case atStart => exact ⟨0, by omega, rfl, [], rfl, own_nil _ _ _ _, Below.refl _ _⟩
  case round =>
    obtain ⟨q, hqd, rfl, hS⟩ := hrel
    obtain ⟨l, hl, hO, hB⟩ := hS.out
    by_cases hq : q < n
    · have hq0 : (0 : Int) ≤ (q : Int) := by omega
      have hq1 : (q : Int) < (n : Int) := by omega
      have hq2 : decide ((q : Int) < (n : Int)) = true := decide_eq_true hq1
      have hqw : wrap64 ((q : Int) + 1) = ((q + 1 : Nat) : Int) := by have := HL.out; unfold wrap64; omega
      obtain ⟨x, hx⟩ : ∃ x, ws[q]? = some x := ⟨_, List.getElem?_eq_getElem (by rw [← HN.out]; exact hq)⟩
      have cx : wr.cell? ⟨bk, o + q, none⟩ = some (.string ⟨x.toArray⟩) := (hB.cell (p := ⟨bk, o + q, none⟩) HLT.out).trans (HR.out q x hx)
      have hll := mapP_len _ _ hl
      have HX := Lib.hid hx
      have HML := Lib.hid hl
      have HLL : Hid (l.length ≤ 1000000) := by
        have h1 := HL.out
        have h2 := List.length_take_le q ws
        have h3 := HN.out
        show l.length ≤ 1000000
        omega
      obtain ⟨A5, c5, rfl⟩ := own_slice hO
      have HO := Lib.hid hO
      have HB := Lib.hid hB
      have HQ := Lib.hid hq
      have HQD := Lib.hid hqd
      have HCT := Lib.hid (fun W => cut_any x [45] W)
      have HPL := Lib.hid (fun W => plain_any (Lib.trimPrefix x [45]) W)
      obtain ⟨rs, hrs⟩ : ∃ rs, plainS (Lib.trimPrefix x [45]) = rs := ⟨_, rfl⟩
      obtain ⟨bl, hbl⟩ : ∃ bl, Lib.hasPrefix x [45] = bl := ⟨_, rfl⟩
      obtain ⟨tp, htp⟩ : ∃ tp, Lib.trimPrefix x [45] = tp := ⟨_, rfl⟩
      have HAS : Hid (argS x = rs.bind fun n => if bl = true then (if 0 < n then some (-n) else none) else some n) := by
        show argS x = _
        unfold argS
        rw [hrs, hbl]
      rw [hrs] at HPL
      rw [hbl] at HCT
      rw [htp] at HPL HCT
      have HRG : Hid (∀ k, rs = some k → 0 ≤ k ∧ k < 1000000000) := fun k hk => plainS_range (hrs.trans hk)
      clear hrs hbl htp
      clear hx hl hO hB hq hqd hll hS
      go_wp2_with fail
      refine (HCT.out _).mono ?_
      rintro _ w8 ⟨rfl, hw8⟩
      obtain rfl := hw8.symm
      go_wp2_with fail
      refine (HPL.out _).mono ?_
      intro e9 w9 hg
      cases rs with
      | none =>
        obtain ⟨rfl, hb9⟩ := hg
        have hF := HF.out
        rw [mapP_stop HX.out HAS.out] at hF
        rw [← hF]
        exact ⟨rfl, rfl, HB.out.trans (hb9.mono HB.out.size)⟩
      | some k =>
        obtain ⟨rfl, hb9⟩ := hg
        have HO9 := Lib.hid (pw_own_below HO.out hb9)
        have HB9 : Hid (Below w.heap.size w w9) := HB.out.trans (hb9.mono HB.out.size)
        obtain ⟨k0, k1⟩ := HRG.out k rfl
        have HK := Lib.hid (And.intro k0 k1)
        clear k0 k1 hb9 cx
        cases bl with
        | true =>
          by_cases hk : 0 < k
          · have g1 : decide (k > 0) = true := decide_eq_true hk
            have g2 : wrap64 (-k) = -k := wneg HK.out.1 HK.out.2
            have HA2 : Hid (argS x = some (-k)) := by
              show _ = _
              rw [HAS.out]
              show (if true = true then (if 0 < k then some (-k) else none) else some k) = _
              rw [if_pos rfl, if_pos hk]
            clear hk
            go_wp2_with fail
            refine (need_ok 13 _).mono ?_
            rintro _ _ ⟨rfl, rfl⟩
            clear g1
            go_wp2_with ((with_reducible refine gate_builtin (b := .append) (xs := #[.tmp 28, .tmp 30]) rfl ?_); refine print_append_num (w0 := w) w.heap.size rfl (.tmp 28) (.tmp 30) 80 2 .i64 8 rfl Tryz.underlying80 info2 (by decide) _ l (-k) rfl rfl HO9.out HB9.out HB9.out.size (by have := HLL.out; omega) ?_; intro v1 w1 hR1 hB1 _ _; have HR1 := Lib.hid hR1; have HB1 := Lib.hid hB1; clear hR1 hB1)
            go_roundg (n - (q + 1))
            case measure => exact step_lt HQD.out HQ.out
            case rel =>
              refine ⟨q + 1, step_eq HQ.out, by go_num, l ++ [-k], ?_, HR1.out, HB1.out⟩
              rw [take_snoc HX.out, mapP_snoc, HML.out, HA2.out]
              rfl
          · have g1 : decide (k > 0) = false := decide_eq_false hk
            have HA2 : Hid (argS x = none) := by
              show _ = _
              rw [HAS.out]
              show (if true = true then (if 0 < k then some (-k) else none) else some k) = _
              rw [if_pos rfl, if_neg hk]
            clear hk
            go_wp2_with fail
            refine (need_no 13 _).mono ?_
            rintro _ _ ⟨rfl, rfl⟩
            have hF := HF.out
            rw [mapP_stop HX.out HA2.out] at hF
            rw [← hF]
            exact ⟨rfl, rfl, HB9.out⟩
        | false =>
          have HA2 : Hid (argS x = some k) := HAS.out
          go_wp2_with ((with_reducible refine gate_builtin (b := .append) (xs := #[.tmp 28, .tmp 30]) rfl ?_); refine print_append_num (w0 := w) w.heap.size rfl (.tmp 28) (.tmp 30) 80 2 .i64 8 rfl Tryz.underlying80 info2 (by decide) _ l k rfl rfl HO9.out HB9.out HB9.out.size (by have := HLL.out; omega) ?_; intro v1 w1 hR1 hB1 _ _; have HR1 := Lib.hid hR1; have HB1 := Lib.hid hB1; clear hR1 hB1)
          go_roundg (n - (q + 1))
          case measure => exact step_lt HQD.out HQ.out
          case rel =>
            refine ⟨q + 1, step_eq HQ.out, by go_num, l ++ [k], ?_, HR1.out, HB1.out⟩
            rw [take_snoc HX.out, mapP_snoc, HML.out, HA2.out]
            rfl
    · have hq1 : ¬ (q : Int) < (n : Int) := by omega
      have hq2 : decide ((q : Int) < (n : Int)) = false := decide_eq_false hq1
      obtain rfl : q = n := by omega
      have hF := HF.out
      rw [HN.out, List.take_length] at hl
      rw [hl] at hF
      have HF2 := Lib.hid hF
      have HO := Lib.hid hO
      have HB := Lib.hid hB
      clear hF hl hO hB hq hqd hS
      go_wp2_with fail
      go_ret
      rw [← HF2.out]
      exact ⟨_, rfl, HO.out, HB.out⟩
end Go.Proofs.YtbiajfkencamiaaGreatDoor.SH
