/- shell: what a job came to is told. -/
import Derived.Test.YtbiajfkencamiaaGreatDoorF3
import Derived.Test.YtbiajfkencamiaaGreatDoorE13
import Derived.Lib.ItoaLen
/-! F4 -/
namespace Go.Proofs.YtbiajfkencamiaaGreatDoor.SH
open Go.RowKit Go.Shelf Go.Proofs.YtbiajfkencamiaaGreatDoorW.PrintWords Go.Proofs.YtbiajfkencamiaaGreatDoorW.PrintMore Go.Proofs.YtbiajfkencamiaaGreatDoor.P1 Go.Proofs.YtbiajfkencamiaaGreatDoor Go.Proofs.YtbiajfkencamiaaGreatDoor.Core
open Go.Proofs.YtbiajfkencamiaaGreatDoor.EV (R64)
set_option linter.unusedVariables false
set_option linter.unusedSimpArgs false
theorem fmt_any (n : Int) (hn : R64 n) (w : World) (ht : Tab w) : Calls Tryz.prog 82 #[.int .i64 n, .int .i64 10] w fun e w' => e = .returned (.string ⟨(Lib.itoa n).toArray⟩) ∧ Below w.heap.size w w' := by
  refine (Tryz.strconv_FormatInt_10 n hn.1 hn.2 w ht).mono ?_
  rintro e w' ⟨rfl, k, os, rfl⟩
  exact ⟨rfl, Lib.below_grow _ _ (Nat.le_refl _) _ _⟩
theorem itoa_any (n : Int) (hn : R64 n) (w : World) (ht : Tab w) : Calls Tryz.prog 18 #[.int .i64 n] w fun e w' => e = .returned (.string ⟨(Lib.itoa n).toArray⟩) ∧ Below w.heap.size w w' := by
  refine (Tryz.strconv_Itoa n hn.1 hn.2 w ht).mono ?_
  rintro e w' ⟨rfl, k, os, rfl⟩
  exact ⟨rfl, Lib.below_grow _ _ (Nat.le_refl _) _ _⟩
def tellsL (l : List Int) : List UInt8 := l.flatMap fun n => 32 :: Lib.itoa n
theorem tellsL_snoc (l : List Int) (n : Int) : tellsL (l ++ [n]) = tellsL l ++ (32 :: Lib.itoa n) := by simp [tellsL]
theorem tellsL_len : ∀ (l : List Int), (∀ n ∈ l, R64 n) → (tellsL l).length ≤ l.length * 22
  | [], _ => by simp [tellsL]
  | n :: l, h => by
    have h1 := tellsL_len l (fun x hx => h x (List.mem_cons_of_mem _ hx))
    have hn := h n (List.mem_cons_self ..)
    have h2 := Lib.itoa_length_le n hn.1 hn.2
    have e : tellsL (n :: l) = (32 :: Lib.itoa n) ++ tellsL l := by simp [tellsL]
    rw [e]
    simp only [List.length_append, List.length_cons]
    omega
def headL (v f : Int) : List UInt8 := if f = 0 then [100, 111, 110, 101, 32] ++ Lib.itoa v else [102, 97, 105, 108, 115, 32] ++ Lib.itoa f
def endedL (v f : Int) (l : List Int) : List UInt8 := headL v f ++ [32, 58] ++ tellsL l ++ [10]
theorem bx_app (a b : List UInt8) : (⟨a.toArray⟩ : ByteArray) ++ ⟨b.toArray⟩ = ⟨(a ++ b).toArray⟩ := by
  apply ByteArray.ext
  simp
set_option maxRecDepth 100000 in
set_option maxHeartbeats 4000000 in
theorem ended_any (v f : Int) (l : List Int) (A : Option Addr) (c : Nat) (w : World) (hv : R64 v) (hf : R64 f) (hl : ∀ n ∈ l, R64 n) (hlen : l.length ≤ 20000) (ht : Tab w) (hr : w.ownsRow 0 2 1 (.slice A l.length c) l.length (l.map (.int .i64))) :
    Calls Tryz.prog 49 #[.int .i64 v, .int .i64 f, .slice A l.length c] w fun e w' => e = .returned (.string ⟨(endedL v f l).toArray⟩) ∧ Below w.heap.size w w' := by
  have HV := Lib.hid (fun W (h : Below w.heap.size w W) => fmt_any v hv W (ht.below h))
  have HF := Lib.hid (fun W (h : Below w.heap.size w W) => itoa_any f hf W (ht.below h))
  have HT := Lib.hid (fun x (hx : x ∈ l) W (h : Below w.heap.size w W) => fmt_any x (hl x hx) W (ht.below h))
  have lv := Lib.itoa_length_le v hv.1 hv.2
  have lf := Lib.itoa_length_le f hf.1 hf.2
  have HL := Lib.hid (And.intro hl hlen)
  have HRR := Lib.hid hr
  obtain ⟨hd, hhd⟩ : ∃ hd, headL v f = hd := ⟨_, rfl⟩
  obtain ⟨en, hen⟩ : ∃ en, endedL v f l = en := ⟨_, rfl⟩
  rw [hen]
  have HEN : Hid (hd ++ [32, 58] ++ tellsL l ++ [10] = en) := by
    show _ = _
    rw [← hhd]
    exact hen
  have hdl : hd.length ≤ 40 := by
    rw [← hhd]
    unfold headL
    split <;> simp <;> omega
  have HD := Lib.hid hdl
  obtain ⟨n, hn⟩ : ∃ n, n = l.length := ⟨_, rfl⟩
  rw [← hn]
  have HN := Lib.hid hn
  obtain ⟨sv, hsv⟩ : ∃ sv, Lib.itoa v = sv := ⟨_, rfl⟩
  obtain ⟨sf, hsf⟩ : ∃ sf, Lib.itoa f = sf := ⟨_, rfl⟩
  rw [hsv] at HV lv
  rw [hsf] at HF lf
  have z1 : (⟨#[100, 111, 110, 101, 32]⟩ : ByteArray).size + (⟨sv.toArray⟩ : ByteArray).size ≤ 9223372036854775807 := by simp [ByteArray.size]; omega
  have z2 : (⟨#[102, 97, 105, 108, 115, 32]⟩ : ByteArray).size + (⟨sf.toArray⟩ : ByteArray).size ≤ 9223372036854775807 := by simp [ByteArray.size]; omega
  have HHD : Hid (hd = if f = 0 then [100, 111, 110, 101, 32] ++ sv else [102, 97, 105, 108, 115, 32] ++ sf) := by
    show hd = _
    rw [← hhd, ← hsv, ← hsf]
    rfl
  clear hv hf hl hlen ht hr hhd hen hdl hn hsv hsf lv lf
  go_enter Tryz.func49, Tryz.ntmps49
  go_wp2_with fail
  refine (HV.out _ (Below.refl _ _)).mono ?_
  rintro _ w1 ⟨rfl, hb1⟩
  have HB1 := Lib.hid hb1
  clear hb1
  by_cases h0 : f = 0
  · have e0 : (f != 0) = false := by simp [h0]
    have e1 : (f == 0) = true := by simp [h0]
    have HH : Hid (hd = [100, 111, 110, 101, 32] ++ sv) := by show hd = _; rw [HHD.out, if_pos h0]
    have z3 : ((⟨#[100, 111, 110, 101, 32]⟩ : ByteArray) ++ ⟨sv.toArray⟩).size + (⟨#[32, 58]⟩ : ByteArray).size ≤ 9223372036854775807 := by
      have h3 := HD.out
      rw [HH.out] at h3
      rw [show ((⟨#[100, 111, 110, 101, 32]⟩ : ByteArray) ++ ⟨sv.toArray⟩) = ⟨([100, 111, 110, 101, 32] ++ sv).toArray⟩ from bx_app _ _]
      have h4 : (⟨([100, 111, 110, 101, 32] ++ sv).toArray⟩ : ByteArray).size = ([100, 111, 110, 101, 32] ++ sv).length := by simp [ByteArray.size]
      have h5 : (⟨#[32, 58]⟩ : ByteArray).size = 2 := rfl
      omega
    have HB2 : Hid (Below w.heap.size w w1) := HB1.out
    clear h0
    go_wp2_with fail
    go_loopg [7, 22] n (fun d v7 v22 X => ∃ (q : Nat) (S : ByteArray), q + d = n ∧ v7 = .string S ∧ v22 = .int .i64 (q : Int) ∧ Hid (S = ⟨(hd ++ [32, 58] ++ tellsL (l.take q)).toArray⟩ ∧ Below w.heap.size w X))
    case atStart => exact ⟨0, _, by omega, rfl, rfl, by rw [HH.out]; simp only [bx_app, List.take_zero, tellsL, List.flatMap_nil, List.append_nil], HB2.out⟩
    case round =>
      obtain ⟨q, S, hqd, rfl, rfl, hS⟩ := hrel
      by_cases hq : q < n
      · have hq0 : (0 : Int) ≤ (q : Int) := by omega
        have hq1 : (q : Int) < (n : Int) := by omega
        have hq2 : decide ((q : Int) < (n : Int)) = true := decide_eq_true hq1
        have hn2 : n ≤ 20000 := by rw [HN.out]; exact HL.out.2
        have hqw : wrap64 ((q : Int) + 1) = ((q + 1 : Nat) : Int) := by unfold wrap64; omega
        have hql : q < l.length := by rw [← HN.out]; exact hq
        obtain ⟨x, hx⟩ : ∃ x, l[q]? = some x := ⟨_, List.getElem?_eq_getElem hql⟩
        have hmx := List.mem_of_getElem? hx
        obtain ⟨m, hm⟩ : ∃ m, n = m + 1 := ⟨n - 1, by omega⟩
        obtain ⟨g, hg⟩ : ∃ g, A = some ⟨g, 0, none⟩ := by
          have ho := HRR.out
          rw [← HN.out, hm] at ho
          obtain ⟨g, cap, e⟩ := ownsRow_succ ho
          injection e with e1 e2 e3
          exact ⟨g, e1⟩
        subst hg
        have cx0 : w.cell? ⟨g, q, none⟩ = some (.int .i64 x) := by
          have := World.ownsRow.cellAt HRR.out q (by rw [Nat.mul_one]; exact hql)
          rw [this, List.getElem?_map, hx]
          rfl
        have cx : wr.cell? ⟨g, q, none⟩ = some (.int .i64 x) := (hS.out.2.cell (p := ⟨g, q, none⟩) (World.block_lt_of_cell? _ _ cx0)).trans cx0
        have hfx := HT.out x hmx wr hS.out.2
        have lx := Lib.itoa_length_le x (HL.out.1 x hmx).1 (HL.out.1 x hmx).2
        have hts : tellsL (l.take (q + 1)) = tellsL (l.take q) ++ (32 :: Lib.itoa x) := by
          rw [List.take_add_one, hx]
          exact tellsL_snoc _ _
        have hsz : S.size ≤ 1000000 := by
          rw [hS.out.1]
          have h1 := tellsL_len (l.take q) (fun y hy => HL.out.1 y (List.mem_of_mem_take hy))
          have h2 := List.length_take_le q l
          have h3 := HD.out
          simp [ByteArray.size]
          omega
        obtain ⟨D, hD⟩ : ∃ D, Lib.itoa x = D := ⟨_, rfl⟩
        rw [hD] at hfx hts lx
        have z3 : (⟨#[32]⟩ : ByteArray).size + (⟨D.toArray⟩ : ByteArray).size ≤ 9223372036854775807 := by simp [ByteArray.size]; omega
        have z4 : S.size + ((⟨#[32]⟩ : ByteArray) ++ ⟨D.toArray⟩).size ≤ 9223372036854775807 := by
          rw [show ((⟨#[32]⟩ : ByteArray) ++ ⟨D.toArray⟩) = ⟨(32 :: D).toArray⟩ from bx_app [32] D]
          have : (⟨(32 :: D).toArray⟩ : ByteArray).size = D.length + 1 := by simp [ByteArray.size]
          omega
        have HFX := Lib.hid hfx
        have HTS := Lib.hid hts
        have HQ := Lib.hid hq
        have HQD := Lib.hid hqd
        clear hx hmx hm cx0 hfx lx hts hsz hD hq hqd hql hn2
        go_wp2_with (refine HFX.out.mono ?_; rintro _ w3 ⟨rfl, hb3⟩; have HB3 := Lib.hid hb3; clear hb3)
        go_roundg (n - (q + 1))
        case measure => exact step_lt HQD.out HQ.out
        case rel =>
          refine ⟨q + 1, _, step_eq HQ.out, rfl, by go_num, ?_, hS.out.2.trans (HB3.out.mono hS.out.2.size)⟩
          rw [hS.out.1, HTS.out, show ((⟨#[32]⟩ : ByteArray) ++ ⟨D.toArray⟩) = ⟨(32 :: D).toArray⟩ from bx_app [32] D, bx_app, List.append_assoc]
      · have hq1 : ¬ (q : Int) < (n : Int) := by omega
        have hq2 : decide ((q : Int) < (n : Int)) = false := decide_eq_false hq1
        obtain rfl : q = n := by omega
        have hsz : S.size ≤ 1000000 := by
          rw [hS.out.1]
          have h1 := tellsL_len (l.take q) (fun y hy => HL.out.1 y (List.mem_of_mem_take hy))
          have h2 := List.length_take_le' q l
          have h3 := HD.out
          have h4 := HL.out.2
          simp [ByteArray.size]
          omega
        have z4 : S.size + (⟨#[10]⟩ : ByteArray).size ≤ 9223372036854775807 := by
          have : (⟨#[10]⟩ : ByteArray).size = 1 := rfl
          omega
        clear hq hqd hsz
        go_wp2_with fail
        go_ret
        refine ⟨?_, hS.out.2⟩
        have e9 : S ++ (⟨#[10]⟩ : ByteArray) = ⟨en.toArray⟩ := by
          rw [hS.out.1, ← HEN.out, HN.out, List.take_length]
          exact bx_app _ _
        exact congrArg (fun s => Ending.returned (.string s)) e9
  · have e0 : (f != 0) = true := by simp [h0]
    have e1 : (f == 0) = false := by simp [h0]
    have HH : Hid (hd = [102, 97, 105, 108, 115, 32] ++ sf) := by show hd = _; rw [HHD.out, if_neg h0]
    have z3 : ((⟨#[102, 97, 105, 108, 115, 32]⟩ : ByteArray) ++ ⟨sf.toArray⟩).size + (⟨#[32, 58]⟩ : ByteArray).size ≤ 9223372036854775807 := by
      have h3 := HD.out
      rw [HH.out] at h3
      rw [show ((⟨#[102, 97, 105, 108, 115, 32]⟩ : ByteArray) ++ ⟨sf.toArray⟩) = ⟨([102, 97, 105, 108, 115, 32] ++ sf).toArray⟩ from bx_app _ _]
      have h4 : (⟨([102, 97, 105, 108, 115, 32] ++ sf).toArray⟩ : ByteArray).size = ([102, 97, 105, 108, 115, 32] ++ sf).length := by simp [ByteArray.size]
      have h5 : (⟨#[32, 58]⟩ : ByteArray).size = 2 := rfl
      omega
    clear h0
    go_wp2_with (refine (HF.out _ HB1.out).mono ?_; rintro _ w2 ⟨rfl, hb2⟩; have HB2 : Hid (Below w.heap.size w w2) := HB1.out.trans (hb2.mono HB1.out.size); clear hb2)
    go_loopg [7, 22] n (fun d v7 v22 X => ∃ (q : Nat) (S : ByteArray), q + d = n ∧ v7 = .string S ∧ v22 = .int .i64 (q : Int) ∧ Hid (S = ⟨(hd ++ [32, 58] ++ tellsL (l.take q)).toArray⟩ ∧ Below w.heap.size w X))
    case atStart => exact ⟨0, _, by omega, rfl, rfl, by rw [HH.out]; simp only [bx_app, List.take_zero, tellsL, List.flatMap_nil, List.append_nil], HB2.out⟩
    case round =>
      obtain ⟨q, S, hqd, rfl, rfl, hS⟩ := hrel
      by_cases hq : q < n
      · have hq0 : (0 : Int) ≤ (q : Int) := by omega
        have hq1 : (q : Int) < (n : Int) := by omega
        have hq2 : decide ((q : Int) < (n : Int)) = true := decide_eq_true hq1
        have hn2 : n ≤ 20000 := by rw [HN.out]; exact HL.out.2
        have hqw : wrap64 ((q : Int) + 1) = ((q + 1 : Nat) : Int) := by unfold wrap64; omega
        have hql : q < l.length := by rw [← HN.out]; exact hq
        obtain ⟨x, hx⟩ : ∃ x, l[q]? = some x := ⟨_, List.getElem?_eq_getElem hql⟩
        have hmx := List.mem_of_getElem? hx
        obtain ⟨m, hm⟩ : ∃ m, n = m + 1 := ⟨n - 1, by omega⟩
        obtain ⟨g, hg⟩ : ∃ g, A = some ⟨g, 0, none⟩ := by
          have ho := HRR.out
          rw [← HN.out, hm] at ho
          obtain ⟨g, cap, e⟩ := ownsRow_succ ho
          injection e with e1 e2 e3
          exact ⟨g, e1⟩
        subst hg
        have cx0 : w.cell? ⟨g, q, none⟩ = some (.int .i64 x) := by
          have := World.ownsRow.cellAt HRR.out q (by rw [Nat.mul_one]; exact hql)
          rw [this, List.getElem?_map, hx]
          rfl
        have cx : wr.cell? ⟨g, q, none⟩ = some (.int .i64 x) := (hS.out.2.cell (p := ⟨g, q, none⟩) (World.block_lt_of_cell? _ _ cx0)).trans cx0
        have hfx := HT.out x hmx wr hS.out.2
        have lx := Lib.itoa_length_le x (HL.out.1 x hmx).1 (HL.out.1 x hmx).2
        have hts : tellsL (l.take (q + 1)) = tellsL (l.take q) ++ (32 :: Lib.itoa x) := by
          rw [List.take_add_one, hx]
          exact tellsL_snoc _ _
        have hsz : S.size ≤ 1000000 := by
          rw [hS.out.1]
          have h1 := tellsL_len (l.take q) (fun y hy => HL.out.1 y (List.mem_of_mem_take hy))
          have h2 := List.length_take_le q l
          have h3 := HD.out
          simp [ByteArray.size]
          omega
        obtain ⟨D, hD⟩ : ∃ D, Lib.itoa x = D := ⟨_, rfl⟩
        rw [hD] at hfx hts lx
        have z3 : (⟨#[32]⟩ : ByteArray).size + (⟨D.toArray⟩ : ByteArray).size ≤ 9223372036854775807 := by simp [ByteArray.size]; omega
        have z4 : S.size + ((⟨#[32]⟩ : ByteArray) ++ ⟨D.toArray⟩).size ≤ 9223372036854775807 := by
          rw [show ((⟨#[32]⟩ : ByteArray) ++ ⟨D.toArray⟩) = ⟨(32 :: D).toArray⟩ from bx_app [32] D]
          have : (⟨(32 :: D).toArray⟩ : ByteArray).size = D.length + 1 := by simp [ByteArray.size]
          omega
        have HFX := Lib.hid hfx
        have HTS := Lib.hid hts
        have HQ := Lib.hid hq
        have HQD := Lib.hid hqd
        clear hx hmx hm cx0 hfx lx hts hsz hD hq hqd hql hn2
        go_wp2_with (refine HFX.out.mono ?_; rintro _ w3 ⟨rfl, hb3⟩; have HB3 := Lib.hid hb3; clear hb3)
        go_roundg (n - (q + 1))
        case measure => exact step_lt HQD.out HQ.out
        case rel =>
          refine ⟨q + 1, _, step_eq HQ.out, rfl, by go_num, ?_, hS.out.2.trans (HB3.out.mono hS.out.2.size)⟩
          rw [hS.out.1, HTS.out, show ((⟨#[32]⟩ : ByteArray) ++ ⟨D.toArray⟩) = ⟨(32 :: D).toArray⟩ from bx_app [32] D, bx_app, List.append_assoc]
      · have hq1 : ¬ (q : Int) < (n : Int) := by omega
        have hq2 : decide ((q : Int) < (n : Int)) = false := decide_eq_false hq1
        obtain rfl : q = n := by omega
        have hsz : S.size ≤ 1000000 := by
          rw [hS.out.1]
          have h1 := tellsL_len (l.take q) (fun y hy => HL.out.1 y (List.mem_of_mem_take hy))
          have h2 := List.length_take_le' q l
          have h3 := HD.out
          have h4 := HL.out.2
          simp [ByteArray.size]
          omega
        have z4 : S.size + (⟨#[10]⟩ : ByteArray).size ≤ 9223372036854775807 := by
          have : (⟨#[10]⟩ : ByteArray).size = 1 := rfl
          omega
        clear hq hqd hsz
        go_wp2_with fail
        go_ret
        refine ⟨?_, hS.out.2⟩
        have e9 : S ++ (⟨#[10]⟩ : ByteArray) = ⟨en.toArray⟩ := by
          rw [hS.out.1, ← HEN.out, HN.out, List.take_length]
          exact bx_app _ _
        exact congrArg (fun s => Ending.returned (.string s)) e9
end Go.Proofs.YtbiajfkencamiaaGreatDoor.SH
