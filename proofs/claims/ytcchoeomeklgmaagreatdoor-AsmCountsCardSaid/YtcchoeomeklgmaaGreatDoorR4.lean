/- The document's text of a program: the walk. Printed by gen_r4.py. -/
import Derived.Test.YtcchoeomeklgmaaGreatDoorR3
namespace Go.Proofs.YtcchoeomeklgmaaGreatDoor.Core
open Go.RowKit Go.Shelf Go.Proofs.YtcchoeomeklgmaaGreatDoorW.PrintWords Go.Proofs.YtcchoeomeklgmaaGreatDoorW.PrintMore Go.Proofs.YtcchoeomeklgmaaGreatDoor.P1 Go.Proofs.YtcchoeomeklgmaaGreatDoor
open Go.Proofs.YtcchoeomeklgmaaGreatDoor.PAsmPrints (S56 k56 z56 S49 k49 z49 at_T49 at_T56 rd_T49 rd_T56 S59 k59 z59 S39 k39 z39 at_T39 at_T59 rd_T39 rd_T59)
set_option linter.unusedVariables false
set_option linter.unusedSimpArgs false
theorem joinN_app (a b : List (List UInt8)) : joinN (a ++ b) = joinN a ++ joinN b := by simp [joinN]
theorem textT_take (p : List Fn) (q : Nat) (h : q < p.length) (f : Fn) (hf : p.getD q (0, []) = f) : textT (p.take (q + 1)) = textT (p.take q) ++ (headT f ++ [10]) ++ joinN (f.2.map lineT) := by
  have e : p[q] = f := by rw [← hf, List.getD, List.getElem?_eq_getElem h]; rfl
  rw [List.take_succ_eq_append_getElem h, e]
  unfold textT linesT
  rw [List.flatMap_append, joinN_app]
  simp [joinN]
/-- The instruction's four fields. -/
theorem good_four (i : Int × List Int) (h : GoodI i) : (i.1, [i.2.getD 0 0, i.2.getD 1 0, i.2.getD 2 0, i.2.getD 3 0]) = i := by
  obtain ⟨o, vs⟩ := i
  have hl := (fieldsOk_at _ _ h.2.2).1
  rw [marksL_len] at hl
  simp only at hl
  match vs, hl with
  | [a, b, c, d], _ => rfl
/-- A program whose text is told: its parts are few. -/
def Told (p : List Fn) : Prop := p.length ≤ 20 ∧ ∀ q, q < p.length → (0 ≤ (p.getD q (0, [])).1 ∧ (p.getD q (0, [])).1 ≤ 255) ∧ (p.getD q (0, [])).2.length ≤ 70 ∧ ∀ r, r < (p.getD q (0, [])).2.length → GoodI ((p.getD q (0, [])).2.getD r (0, []))
theorem lines_len (is : List (Int × List Int)) (h : ∀ i ∈ is, GoodI i) : (joinN (is.map lineT)).length ≤ 59 * is.length := by
  have := joinN_len (is.map lineT) 58 (fun l hl => by
    obtain ⟨i, hi, rfl⟩ := List.mem_map.1 hl
    exact (lineT_ok i (h i hi)).2)
  rwa [List.length_map] at this
theorem told_lines {f : Fn} {n : Nat} (h : ∀ r, r < f.2.length → GoodI (f.2.getD r (0, []))) : ∀ i ∈ f.2.take n, GoodI i := by
  intro i hi
  obtain ⟨r, hr, rfl⟩ := List.mem_iff_getElem.1 (List.mem_of_mem_take hi)
  have := h r hr
  rwa [List.getD, List.getElem?_eq_getElem hr] at this
theorem told_len {p : List Fn} (h : Told p) : ∀ q, q ≤ p.length → (textT (p.take q)).length ≤ 5000 * q
  | 0, _ => by simp [textT, linesT, joinN]
  | q + 1, hq => by
    obtain ⟨h1, h2, h3⟩ := h.2 q (by omega)
    rw [textT_take p q (by omega) _ rfl]
    have i1 := told_len h q (by omega)
    obtain ⟨f, hf⟩ : ∃ f, p.getD q (0, []) = f := ⟨_, rfl⟩
    rw [hf] at h1 h2 h3 ⊢
    have i2 := lines_len f.2 (fun i hi => told_lines (n := f.2.length) h3 i (by rwa [List.take_length]))
    have i3 := (headT_ok f h1.1 h1.2).2
    simp only [List.length_append, List.length_cons, List.length_nil]
    omega
theorem head_bytes (f : Fn) : headT f = [102, 117, 110, 99, 32] ++ Lib.itoa f.1 := by
  unfold headT spaced
  rw [show funcW = [102, 117, 110, 99] from rfl]
  simp
theorem y_size {p : List Fn} {q : Nat} {f : Fn} {r : Nat} {Y : ByteArray} (hY : Y = bx (textT (p.take q) ++ (headT f ++ [10]) ++ joinN ((f.2.take r).map lineT))) (h3 : (textT (p.take q)).length ≤ 100000) (h1 : 0 ≤ f.1 ∧ f.1 ≤ 255) (ht : ∀ r, r < f.2.length → GoodI (f.2.getD r (0, []))) (hl : f.2.length ≤ 70) : Y.size ≤ 200000 := by
  rw [hY, bx_size]
  have h4 := lines_len (f.2.take r) (told_lines ht)
  have h2 := (headT_ok f h1.1 h1.2).2
  rw [List.length_take] at h4
  simp only [List.length_append, List.length_cons, List.length_nil]
  omega
set_option maxRecDepth 100000 in
set_option maxHeartbeats 16000000 in
theorem rprint_any (p : List Fn) (hT : Told p) (A : Option Addr) (c : Nat) (w : World) (hC : Kd.C k39 w A p.length (p.map RT.toP)) :
    Calls Tryz.prog 11 #[.slice A p.length c] w fun e w' => e = .returned (.string (bx (textT p))) ∧ Below w.heap.size w w' := by
  obtain ⟨n, hn⟩ : ∃ n, n = p.length := ⟨_, rfl⟩
  obtain ⟨TX, hTX⟩ : ∃ B, B = textT p := ⟨_, rfl⟩
  rw [← hTX]
  have hn20 := hT.1
  rw [← hn] at hC hn20 ⊢
  have HN := Lib.hid hn
  have HTX := Lib.hid hTX
  have HC := Lib.hid hC
  have HT := Lib.hid hT
  clear hn hTX hC hT
  go_enter Tryz.func11, Tryz.ntmps11
  go_wp2_with fail
  go_loopg [3, 4] n (fun d s i W => ∃ (q : Nat) (X : ByteArray), q + d = n ∧ i = .int .i64 q ∧ s = .string X ∧ Hid (X = bx (textT (p.take q))) ∧ Hid (Below w.heap.size w W))
  case atStart => exact ⟨0, ⟨#[]⟩, by omega, rfl, rfl, by show _ = _; simp [textT, linesT, joinN, bx], Below.refl _ _⟩
  case round =>
    obtain ⟨q, X, hqd, rfl, rfl, hX, hB⟩ := hrel
    by_cases hq : q < n
    · have hq1 : (q : Int) < (n : Int) := by omega
      have hq2 : decide ((q : Int) < (n : Int)) = true := decide_eq_true hq1
      have hq0 : (0 : Int) ≤ (q : Int) := by omega
      have hqw : wrap64 ((q : Int) + 1) = ((q + 1 : Nat) : Int) := by unfold wrap64; omega
      have HQD := Lib.hid hqd
      have hql : q < p.length := by have := HN.out; omega
      obtain ⟨ad, A1, c1, hA, f0, f1, hl, hC1⟩ := at_T39 HC.out q hq0 hq1
      subst hA
      rw [rd39 p q hql] at f0 f1 hl hC1
      have hXl := told_len HT.out q (by omega)
      have htk := textT_take p q hql _ rfl
      obtain ⟨t1, t2, t3⟩ := HT.out.2 q hql
      obtain ⟨f, hf⟩ : ∃ f, p.getD q (0, []) = f := ⟨_, rfl⟩
      rw [hf] at f0 f1 hl hC1 htk t1 t2 t3
      rw [Int.toNat_natCast] at f0 f1
      change w.cell? (ad.add (q * 2)) = some (.int .i64 f.1) at f0
      rw [show (RT.toP f).f1.length = f.2.length by simp [RT.toP]] at f1 hl hC1
      obtain ⟨cl, hcl⟩ : ∃ cl, cl = f.2.length := ⟨_, rfl⟩
      have HCL := Lib.hid hcl
      rw [← hcl] at f1 hl hC1 t2
      have HCW : Hid (Kd.C k59 w A1 cl (f.2.map RT.toI)) := hC1
      have HF1 := Lib.hid f1
      have HTK := Lib.hid htk
      have HT1 := Lib.hid t1
      have HT2 : Hid (f.2.length ≤ 70) := by show _ ≤ _; rw [← HCL.out]; exact t2
      have HT3 := Lib.hid t3
      replace f0 := (hB.out.cell (World.block_lt_of_cell? w _ f0)).trans f0
      have HD := Lib.hid (fun W => rdigits_any f.1 (by omega) (by omega) W)
      have hdl := (itoa_word f.1 (by omega) (by omega)).2
      have hXs : X.size ≤ 100000 := by rw [hX.out, bx_size]; omega
      obtain ⟨D, hD⟩ : ∃ B, B = bx (Lib.itoa f.1) := ⟨_, rfl⟩
      have hDs : D.size ≤ 100 := by rw [hD, bx_size]; omega
      rw [← hD] at HD
      have HX1 : Hid (X ++ ((⟨#[102, 117, 110, 99, 32]⟩ : ByteArray) ++ D ++ ⟨#[10]⟩) = bx (textT (p.take q) ++ (headT f ++ [10]) ++ joinN ((f.2.take 0).map lineT))) := by
        show _ = _
        rw [hX.out, hD, head_bytes, show (⟨#[102, 117, 110, 99, 32]⟩ : ByteArray) = bx [102, 117, 110, 99, 32] from rfl, show (⟨#[10]⟩ : ByteArray) = bx [10] from rfl, bx_app, bx_app, bx_app]
        simp [joinN]
      have hz1 : 5 + D.size ≤ 9223372036854775807 := by omega
      have hz2 : 5 + D.size + 1 ≤ 9223372036854775807 := by omega
      have hz3 : X.size + (5 + D.size + 1) ≤ 9223372036854775807 := by omega
      have HXL : Hid ((textT (p.take q)).length ≤ 100000) := by show _ ≤ _; omega
      clear hf hC1 hqd hcl f1 htk t1 t3 hD hdl hXl
      go_wp2_with fail
      refine (HD.out _).mono ?_
      rintro _ w6 ⟨rfl, hb6⟩
      have HB6 : Hid (Below w.heap.size w w6) := hB.out.trans (hb6.mono hB.out.size)
      clear hb6 f0
      go_wp2_with fail
      go_loopg [3, 5] cl (fun d s i W => ∃ (r : Nat) (X : ByteArray), r + d = cl ∧ i = .int .i64 r ∧ s = .string X ∧ Hid (X = bx (textT (p.take q) ++ (headT f ++ [10]) ++ joinN ((f.2.take r).map lineT))) ∧ Hid (Below w.heap.size w W))
      case atStart => exact ⟨0, _, by omega, rfl, rfl, HX1.out, HB6.out⟩
      case round =>
        obtain ⟨r, Y, hrd, rfl, rfl, hY, hB4⟩ := hrel
        have HRD := Lib.hid hrd
        have f1 := (hB4.out.cell (World.block_lt_of_cell? w _ HF1.out)).trans HF1.out
        by_cases hr : r < cl
        · have hr1 : (r : Int) < (cl : Int) := by omega
          have hr2 : decide ((r : Int) < (cl : Int)) = true := decide_eq_true hr1
          have hr0 : (0 : Int) ≤ (r : Int) := by omega
          have hrw : wrap64 ((r : Int) + 1) = ((r + 1 : Nat) : Int) := by unfold wrap64; omega
          have hrl : r < f.2.length := by rw [← HCL.out]; exact hr
          obtain ⟨ad3, hA3, i0, i1, i2, i3, i4⟩ := at_T59 (Kd.C_below HCW.out hB4.out) r hr0 hr1
          subst hA3
          rw [rd59 _ r hrl, Int.toNat_natCast] at i0 i1 i2 i3 i4
          have hgi := HT3.out r hrl
          have htk2 : joinN ((f.2.take (r + 1)).map lineT) = joinN ((f.2.take r).map lineT) ++ (lineT (f.2.getD r (0, [])) ++ [10]) := by
            rw [List.take_succ_eq_append_getElem hrl, List.map_append, joinN_app, List.getD, List.getElem?_eq_getElem hrl]
            simp [joinN]
          obtain ⟨i, hi⟩ : ∃ i, f.2.getD r (0, []) = i := ⟨_, rfl⟩
          rw [hi] at i0 i1 i2 i3 i4 hgi htk2
          have hll := (lineT_ok i hgi).2
          have hYs : Y.size ≤ 200000 := y_size hY.out HXL.out HT1.out HT3.out HT2.out
          have h4 := good_four i hgi
          have HL : Hid (∀ W, Calls Tryz.prog 21 #[.agg #[.int .i64 i.1, .int .i64 (i.2.getD 0 0), .int .i64 (i.2.getD 1 0), .int .i64 (i.2.getD 2 0), .int .i64 (i.2.getD 3 0)]] W fun e w' => e = .returned (.string (bx (lineT i ++ [10]))) ∧ Below W.heap.size W w') := fun W => by
            have := rline_any i.1 (i.2.getD 0 0) (i.2.getD 1 0) (i.2.getD 2 0) (i.2.getD 3 0) (by rw [h4]; exact hgi) W
            rwa [h4] at this
          change _ = some (Value.int .i64 i.1) at i0
          change _ = some (Value.int .i64 (i.2.getD 0 0)) at i1
          change _ = some (Value.int .i64 (i.2.getD 1 0)) at i2
          change _ = some (Value.int .i64 (i.2.getD 2 0)) at i3
          change _ = some (Value.int .i64 (i.2.getD 3 0)) at i4
          obtain ⟨E, hE⟩ : ∃ B, B = bx (lineT i ++ [10]) := ⟨_, rfl⟩
          have hEs : E.size ≤ 60 := by rw [hE, bx_size]; simp; omega
          have HY2 : Hid (Y ++ E = bx (textT (p.take q) ++ (headT f ++ [10]) ++ joinN ((f.2.take (r + 1)).map lineT))) := by
            show _ = _
            rw [hY.out, hE, bx_app, htk2]
            simp
          rw [← hE] at HL
          have hz1 : Y.size + E.size ≤ 9223372036854775807 := by omega
          generalize i.2.getD 0 0 = x1 at *
          generalize i.2.getD 1 0 = x2 at *
          generalize i.2.getD 2 0 = x3 at *
          generalize i.2.getD 3 0 = x4 at *
          obtain ⟨x0, hx0⟩ : ∃ x, i.1 = x := ⟨_, rfl⟩
          rw [hx0] at i0 HL
          clear hrd hi hx0 hgi htk2 h4 hE hll
          go_wp2_with fail
          refine (HL.out _).mono ?_
          rintro _ w7 ⟨rfl, hb7⟩
          have HB7 : Hid (Below w.heap.size w w7) := hB4.out.trans (hb7.mono hB4.out.size)
          clear hb7 i0 i1 i2 i3 i4 f1
          go_wp2_with fail
          go_roundg (cl - (r + 1))
          case measure => exact step_lt HRD.out hr
          case rel => exact ⟨r + 1, _, step_eq hr, by go_num, rfl, HY2.out, HB7.out⟩
        · have hr1 : ¬ (r : Int) < (cl : Int) := by omega
          have hr2 : decide ((r : Int) < (cl : Int)) = false := decide_eq_false hr1
          have hrc : r = f.2.length := by have := HCL.out; omega
          have HX9 : Hid (Y = bx (textT (p.take (q + 1)))) := by
            show _ = _
            rw [hY.out, hrc, List.take_length, HTK.out]
          clear hrd HRD hrc
          go_wp2_with fail
          go_roundg (n - (q + 1))
          case measure => exact step_lt HQD.out hq
          case rel => exact ⟨q + 1, Y, step_eq hq, by go_num, rfl, HX9.out, hB4.out⟩
    · have hq1 : ¬ (q : Int) < (n : Int) := by omega
      have hq2 : decide ((q : Int) < (n : Int)) = false := decide_eq_false hq1
      have hqn : q = p.length := by have := HN.out; omega
      have HX9 : Hid (X = bx TX) := by
        show _ = _
        rw [hX.out, hqn, List.take_length, HTX.out]
      clear hqd hqn
      go_wp2_with fail
      go_ret
      exact ⟨by rw [HX9.out]; rfl, hB.out⟩
end Go.Proofs.YtcchoeomeklgmaaGreatDoor.Core
