/- asm.Print: a program's text: the walk. Printed by gen_a2.py. -/
import Derived.Test.YtcchoeomeklgmaaGreatDoorG8
import Derived.Test.YtcchoeomeklgmaaGreatDoorA1
import Derived.Test.YtcchoeomeklgmaaGreatDoorBu
namespace Go.Proofs.YtcchoeomeklgmaaGreatDoor.Core
open Go.RowKit Go.Shelf Go.Proofs.YtcchoeomeklgmaaGreatDoorW.PrintWords Go.Proofs.YtcchoeomeklgmaaGreatDoorW.PrintMore Go.Proofs.YtcchoeomeklgmaaGreatDoor.P1 Go.Proofs.YtcchoeomeklgmaaGreatDoor
open Go.Proofs.YtcchoeomeklgmaaGreatDoor.PAsmPrints (S56 k56 z56 S49 k49 z49 at_T49 at_T56 rd_T49 rd_T56 S59 k59 z59 S39 k39 z39 at_T39 at_T59 rd_T39 rd_T59)
set_option linter.unusedVariables false
set_option linter.unusedSimpArgs false
theorem builder_below {T e : TypeId} {B b : Nat} {bs : List Value} {W W' : World} (h : Lib.IsBuilder T e B b bs W) (hb : Below W.heap.size W W') : Lib.IsBuilder T e B b bs W' := by
  have hk : ∀ p, Lib.BuilderAt T e B b p bs W → Lib.BuilderAt T e B b p bs W' := fun p h => by
    have hlt := h.lt
    obtain ⟨hB, v, hv, hown, hne⟩ := h
    exact ⟨hB, v, (hb.block b hlt).trans hv, hown.kept (row := none) ⟨hb.os, hb.tape, hb.output, hb.size, fun k hk _ => hb.block k hk⟩ (Classical.em _), hne⟩
  exact h.elim (fun x => .inl (hk _ x)) (fun x => .inr (hk _ x))
/-- What the library's own variables hold. -/
def TabB (w : World) : Prop := TabA w ∧ TabP w
theorem TabB.below {w w' : World} (h : TabB w) (hb : Below w.heap.size w w') : TabB w' := ⟨h.1.below hb, h.2.below hb⟩
/-- What asm.Print holds while it goes on. -/
structure PW (w : World) (t : List UInt8) (W : World) : Prop where
  below : Below w.heap.size w W
  b : Lib.IsBuilder 46 5 w.heap.size w.heap.size (Lib.byteCells t) W
theorem y_len {p : List Fn} {q : Nat} {f : Fn} {r : Nat} {l : List UInt8} (h3 : (textT (p.take q)).length ≤ 100000) (h1 : 0 ≤ f.1 ∧ f.1 ≤ 255) (ht : ∀ r, r < f.2.length → GoodI (f.2.getD r (0, []))) (hl : f.2.length ≤ 70) (hll : l.length ≤ 58) :
    (textT (p.take q) ++ (headT f ++ [10]) ++ joinN ((f.2.take r).map lineT)).length + (l ++ [10]).length ≤ 1000000 := by
  have h4 := lines_len (f.2.take r) (told_lines ht)
  have h2 := (headT_ok f h1.1 h1.2).2
  rw [List.length_take] at h4
  simp only [List.length_append, List.length_cons, List.length_nil]
  omega
theorem PW.drawn {w : World} {t : List UInt8} {W W' : World} (h : PW w t W) (hb : Below W.heap.size W W') : PW w t W' := ⟨h.below.trans (hb.mono h.below.size), builder_below h.b hb⟩
/-- What asm.Print answers. -/
def GivesPr (w : World) (p : List Fn) (e : Ending) (w' : World) : Prop := e = .returned (.tuple #[.string (if validB p = true then bx (textT p) else ⟨#[]⟩), .int .i64 (if validB p = true then 0 else 4)]) ∧ Below w.heap.size w w'
set_option maxRecDepth 100000 in
set_option maxHeartbeats 16000000 in
theorem print_any (p : List Fn) (h4 : Four p) (A : Option Addr) (c : Nat) (w : World) (hC : Kd.C k49 w A p.length (p.map toP)) (ht : TabB w) :
    Calls Tryz.prog 7 #[.slice A p.length c] w (GivesPr w p) := by
  have HCK := Lib.hid (vcheck_any p A c w hC)
  obtain ⟨n, hn⟩ : ∃ n, n = p.length := ⟨_, rfl⟩
  obtain ⟨PB, hPB⟩ : ∃ Q, Q = GivesPr w p := ⟨_, rfl⟩
  rw [← hPB]
  rw [← hn] at hC HCK ⊢
  have HPB := Lib.hid hPB
  have HN := Lib.hid hn
  have HC := Lib.hid hC
  have HT := Lib.hid ht
  have HV4 : Hid (validB p = true → Told p) := fun h => valid_told h h4
  obtain ⟨B, hB⟩ : ∃ B, B = validB p := ⟨_, rfl⟩
  rw [← hB] at HCK HV4
  have HB := Lib.hid hB
  clear hn hPB hC ht h4 hB
  go_enter Tryz.func7, Tryz.ntmps7
  go_wp2_with fail
  refine HCK.out.mono ?_
  rintro e w1 ⟨fx, ax, er, rfl, hiff, hb1⟩
  cases B with
  | false =>
    have her : er ≠ 0 := fun h => by
      have := hiff.2 h
      cases this
    have e1 : (er != 0) = true := bne_iff_ne.2 her
    have HB1 := Lib.hid hb1
    clear hiff hb1 her
    go_wp2_with fail
    rw [HPB.out]
    refine ⟨?_, HB1.out⟩
    rw [← HB.out, if_neg (by simp), if_neg (by simp)]
    rfl
  | true =>
    obtain rfl : er = 0 := hiff.1 rfl
    have hT : Told p := HV4.out rfl
    have HT20 : Hid (Told p) := hT
    have hn20 : n ≤ 20 := by have := hT.1; rw [HN.out]; exact this
    have HPW0 : Hid (PW w1 [] (w1.alloc (.cells #[.pointer none, .slice none 0 0] 46))) := ⟨(Below.refl _ _).alloc (Nat.le_refl _) _, Lib.fresh_isBuilder 46 5 w1⟩
    have HB1 := Lib.hid hb1
    clear hiff hb1 hT HV4
    go_wp2_with fail
    go_loopg [22] n (fun d i W => ∃ (q : Nat), q + d = n ∧ i = .int .i64 q ∧ Hid (PW w1 (textT (p.take q)) W))
    case atStart => exact ⟨0, by omega, rfl, by show PW _ _ _; have := HPW0.out; simpa [textT, linesT, joinN] using this⟩
    case round =>
      obtain ⟨q, hqd, rfl, hV⟩ := hrel
      by_cases hq : q < n
      · have hq1 : (q : Int) < (n : Int) := by omega
        have hq2 : decide ((q : Int) < (n : Int)) = true := decide_eq_true hq1
        have hq0 : (0 : Int) ≤ (q : Int) := by omega
        have hqw : wrap64 ((q : Int) + 1) = ((q + 1 : Nat) : Int) := by unfold wrap64; omega
        have HQD := Lib.hid hqd
        have hql : q < p.length := by have := HN.out; omega
        obtain ⟨ad, A1, c1, hA, f0, f1, hl, hC1⟩ := at_T49 HC.out q hq0 hq1
        subst hA
        rw [rd49 p q hql] at f0 f1 hl hC1
        have hXl := told_len HT20.out q (by omega)
        have htk := textT_take p q hql _ rfl
        obtain ⟨t1, t2, t3⟩ := HT20.out.2 q hql
        obtain ⟨f, hf⟩ : ∃ f, p.getD q (0, []) = f := ⟨_, rfl⟩
        rw [hf] at f0 f1 hl hC1 htk t1 t2 t3
        rw [Int.toNat_natCast] at f0 f1
        change w.cell? (ad.add (q * 2)) = some (.int .i64 f.1) at f0
        rw [show (toP f).f1.length = f.2.length by simp [toP]] at f1 hl hC1
        obtain ⟨cl, hcl⟩ : ∃ cl, cl = f.2.length := ⟨_, rfl⟩
        have HCL := Lib.hid hcl
        rw [← hcl] at f1 hl hC1 t2
        have HCW : Hid (Kd.C k56 w A1 cl (f.2.map toI)) := hC1
        have HTK := Lib.hid htk
        have HT1 := Lib.hid t1
        have HT2 : Hid (f.2.length ≤ 70) := by show _ ≤ _; rw [← HCL.out]; exact t2
        have HT3 := Lib.hid t3
        have hbw : Below w.heap.size w wr := HB1.out.trans (hV.out.below.mono HB1.out.size)
        have HBW := Lib.hid hbw
        replace f0 := (hbw.cell (World.block_lt_of_cell? w _ f0)).trans f0
        replace f1 := (hbw.cell (World.block_lt_of_cell? w _ f1)).trans f1
        have HD := Lib.hid (fun W (h : Below w.heap.size w W) => itoa_any f.1 (by omega) (by omega) W (HT.out.2.below h))
        have hdl := (itoa_word f.1 (by omega) (by omega)).2
        obtain ⟨D, hD⟩ : ∃ B, B = bx (Lib.itoa f.1) := ⟨_, rfl⟩
        have hDs : D.size ≤ 100 := by rw [hD, bx_size]; omega
        rw [← hD] at HD
        have HX1 : Hid ((⟨#[102, 117, 110, 99, 32]⟩ : ByteArray) ++ D ++ ⟨#[10]⟩ = bx (headT f ++ [10])) := by
          show _ = _
          rw [hD, head_bytes, show (⟨#[102, 117, 110, 99, 32]⟩ : ByteArray) = bx [102, 117, 110, 99, 32] from rfl, show (⟨#[10]⟩ : ByteArray) = bx [10] from rfl, bx_app, bx_app]
        have hz1 : 5 + D.size ≤ 9223372036854775807 := by omega
        have hz2 : 5 + D.size + 1 ≤ 9223372036854775807 := by omega
        have HHL : Hid ((textT (p.take q)).length + (headT f ++ [10]).length ≤ 1000000) := by
          show _ ≤ _
          have := (headT_ok f t1.1 t1.2).2
          simp only [List.length_append, List.length_cons, List.length_nil]
          omega
        have HXL : Hid ((textT (p.take q)).length ≤ 100000) := by show _ ≤ _; omega
        have HFO : Hid (PW w1 (textT (p.take q)) (wr.alloc (.cells #[.int .i64 f.1, .slice A1 cl c1] 49))) := hV.out.drawn ((Below.refl _ _).alloc (Nat.le_refl _) _)
        have hfb : (wr.alloc (.cells #[.int .i64 f.1, .slice A1 cl c1] 49)).heap[wr.heap.size]? = some (.cells #[.int .i64 f.1, .slice A1 cl c1] 49 (0, 0)) := heap_alloc_new _ _
        have HFB := Lib.hid hfb
        clear hf hC1 hqd hcl htk t1 t3 hD hdl hXl hbw hfb hDs
        go_wp2_with fail
        refine (HD.out _ (HB1.out.trans (HFO.out.below.mono HB1.out.size))).mono ?_
        rintro _ w6 ⟨rfl, hb6⟩
        have HV6 := Lib.hid (HFO.out.drawn hb6)
        have HFB6 := Lib.hid (blk_below HFB.out hb6)
        clear hb6 f0 f1
        go_wp2_with fail
        rw [HX1.out]
        refine (write_any w1.heap.size w1.heap.size (textT (p.take q)) (headT f ++ [10]) w6 HV6.out.b HHL.out HV6.out.below.size).mono ?_
        rintro _ w7 ⟨rfl, hbu, hb7, hk7⟩
        have HV7 : Hid (PW w1 (textT (p.take q) ++ (headT f ++ [10]) ++ joinN ((f.2.take 0).map lineT)) w7) := ⟨HV6.out.below.trans hb7, by simpa [joinN] using hbu⟩
        have HFB7 : Hid (w7.heap[wr.heap.size]? = some (.cells #[.int .i64 f.1, .slice A1 cl c1] 49 (0, 0))) := hk7 _ _ _ _ HFB6.out (by decide) (by decide)
        have m1 := (blk_cell HFB7.out 1).trans rfl
        clear hbu hb7 hk7
        go_wp2_with fail
        clear m1
        go_loopg [35] cl (fun d i W => ∃ (r : Nat), r + d = cl ∧ i = .int .i64 r ∧ Hid (PW w1 (textT (p.take q) ++ (headT f ++ [10]) ++ joinN ((f.2.take r).map lineT)) W))
        case atStart => exact ⟨0, by omega, rfl, HV7.out⟩
        case round =>
          obtain ⟨r, hrd, rfl, hV4⟩ := hrel
          have HRD := Lib.hid hrd
          by_cases hr : r < cl
          · have hr1 : (r : Int) < (cl : Int) := by omega
            have hr2 : decide ((r : Int) < (cl : Int)) = true := decide_eq_true hr1
            have hr0 : (0 : Int) ≤ (r : Int) := by omega
            have hrw : wrap64 ((r : Int) + 1) = ((r + 1 : Nat) : Int) := by unfold wrap64; omega
            have hrl : r < f.2.length := by rw [← HCL.out]; exact hr
            have hbw : Below w.heap.size w wr := HB1.out.trans (hV4.out.below.mono HB1.out.size)
            obtain ⟨ad3, hA3, i0, i1, i2, i3, i4⟩ := at_T56 (Kd.C_below HCW.out hbw) r hr0 hr1
            subst hA3
            rw [rd56 _ r hrl, Int.toNat_natCast] at i0 i1 i2 i3 i4
            have hgi := HT3.out r hrl
            have htk2 : joinN ((f.2.take (r + 1)).map lineT) = joinN ((f.2.take r).map lineT) ++ (lineT (f.2.getD r (0, [])) ++ [10]) := by
              rw [List.take_succ_eq_append_getElem hrl, List.map_append, joinN_app, List.getD, List.getElem?_eq_getElem hrl]
              simp [joinN]
            obtain ⟨i, hi⟩ : ∃ i, f.2.getD r (0, []) = i := ⟨_, rfl⟩
            rw [hi] at i0 i1 i2 i3 i4 hgi htk2
            have hll := (lineT_ok i hgi).2
            have HYL : Hid ((textT (p.take q) ++ (headT f ++ [10]) ++ joinN ((f.2.take r).map lineT)).length + (lineT i ++ [10]).length ≤ 1000000) := y_len HXL.out HT1.out HT3.out HT2.out hll
            have h4 := good_four i hgi
            have HL : Hid (∀ W, Below w.heap.size w W → Calls Tryz.prog 17 #[.agg #[.int .i64 i.1, .int .i64 (i.2.getD 0 0), .int .i64 (i.2.getD 1 0), .int .i64 (i.2.getD 2 0), .int .i64 (i.2.getD 3 0)]] W fun e w' => e = .returned (.string (bx (lineT i ++ [10]))) ∧ Below W.heap.size W w') := fun W hb => by
              have ht := HT.out.below hb
              have := line_any i.1 (i.2.getD 0 0) (i.2.getD 1 0) (i.2.getD 2 0) (i.2.getD 3 0) (by rw [h4]; exact hgi) W ht.1.1 ht.2
              rwa [h4] at this
            change _ = some (Value.int .i64 i.1) at i0
            change _ = some (Value.int .i64 (i.2.getD 0 0)) at i1
            change _ = some (Value.int .i64 (i.2.getD 1 0)) at i2
            change _ = some (Value.int .i64 (i.2.getD 2 0)) at i3
            change _ = some (Value.int .i64 (i.2.getD 3 0)) at i4
            have HY2 : Hid (textT (p.take q) ++ (headT f ++ [10]) ++ joinN ((f.2.take r).map lineT) ++ (lineT i ++ [10]) = textT (p.take q) ++ (headT f ++ [10]) ++ joinN ((f.2.take (r + 1)).map lineT)) := by
              show _ = _
              rw [htk2]
              simp
            obtain ⟨YT, hYT⟩ : ∃ Y, Y = textT (p.take q) ++ (headT f ++ [10]) ++ joinN ((f.2.take r).map lineT) := ⟨_, rfl⟩
            obtain ⟨LT, hLT⟩ : ∃ Y, Y = lineT i ++ [10] := ⟨_, rfl⟩
            rw [← hYT, ← hLT] at HY2 HYL
            rw [← hLT] at HL
            have HV4 : Hid (PW w1 YT wr) := by rw [hYT]; exact hV4.out
            generalize i.2.getD 0 0 = x1 at *
            generalize i.2.getD 1 0 = x2 at *
            generalize i.2.getD 2 0 = x3 at *
            generalize i.2.getD 3 0 = x4 at *
            obtain ⟨x0, hx0⟩ : ∃ x, i.1 = x := ⟨_, rfl⟩
            rw [hx0] at i0 HL
            have HV5 : Hid (PW w1 YT (wr.alloc (.cells #[.int .i64 x0, .int .i64 x1, .int .i64 x2, .int .i64 x3, .int .i64 x4] 56))) := HV4.out.drawn ((Below.refl _ _).alloc (Nat.le_refl _) _)
            clear hrd hi hx0 hgi htk2 h4 hll hbw hYT hLT
            go_wp2_with fail
            refine (HL.out _ (HB1.out.trans (HV5.out.below.mono HB1.out.size))).mono ?_
            rintro _ w7 ⟨rfl, hb7⟩
            have HV7' := Lib.hid (HV5.out.drawn hb7)
            clear hb7 i0 i1 i2 i3 i4
            go_wp2_with fail
            refine (write_any w1.heap.size w1.heap.size YT LT w7 HV7'.out.b HYL.out HV7'.out.below.size).mono ?_
            rintro _ w8 ⟨rfl, hbu, hb8, _⟩
            have HV8 : Hid (PW w1 (textT (p.take q) ++ (headT f ++ [10]) ++ joinN ((f.2.take (r + 1)).map lineT)) w8) := ⟨HV7'.out.below.trans hb8, by rw [← HY2.out]; exact hbu⟩
            clear hbu hb8
            go_wp2_with fail
            go_roundg (cl - (r + 1))
            case measure => exact step_lt HRD.out hr
            case rel => exact ⟨r + 1, step_eq hr, by go_num, HV8.out⟩
          · have hr1 : ¬ (r : Int) < (cl : Int) := by omega
            have hr2 : decide ((r : Int) < (cl : Int)) = false := decide_eq_false hr1
            have hrc : r = f.2.length := by have := HCL.out; omega
            have HX9 : Hid (PW w1 (textT (p.take (q + 1))) wr) := by
              have h := hV4.out
              rw [hrc, List.take_length, ← HTK.out] at h
              exact h
            clear hrd HRD hrc
            go_wp2_with fail
            go_roundg (n - (q + 1))
            case measure => exact step_lt HQD.out hq
            case rel => exact ⟨q + 1, step_eq hq, by go_num, HX9.out⟩
      · have hq1 : ¬ (q : Int) < (n : Int) := by omega
        have hq2 : decide ((q : Int) < (n : Int)) = false := decide_eq_false hq1
        have hqn : q = p.length := by have := HN.out; omega
        have HX9 : Hid (PW w1 (textT p) wr) := by
          have h := hV.out
          rw [hqn, List.take_length] at h
          exact h
        clear hqd hqn
        go_wp2_with fail
        refine (Tryz.Builder_String_any w1.heap.size w1.heap.size (textT p) wr HX9.out.b HX9.out.below.size).mono ?_
        rintro _ w9 ⟨rfl, hb9⟩
        have HB9 : Hid (Below w.heap.size w w9) := HB1.out.trans ((HX9.out.below.trans hb9).mono HB1.out.size)
        clear hb9
        go_wp2_with fail
        rw [HPB.out]
        refine ⟨?_, HB9.out⟩
        rw [← HB.out, if_pos rfl, if_pos rfl]
        rfl
end Go.Proofs.YtcchoeomeklgmaaGreatDoor.Core
