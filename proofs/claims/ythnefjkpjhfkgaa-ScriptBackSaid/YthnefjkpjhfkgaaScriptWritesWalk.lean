/- The walk of haymowlaw18.ScriptWrites: it returns true and turns nothing that was there, for every argument that can be read. -/
import Derived.Test.YthnefjkpjhfkgaaScriptWritesPure
import Derived.Test.YthnefjkpjhfkgaaScriptWritesK
import Derived.Test.YthnefjkpjhfkgaaC6
namespace Go.Proofs.Ythnefjkpjhfkgaa.RScriptWrites
open Go.RowKit Go.Proofs.YthnefjkpjhfkgaaW.PrintWords Go.Proofs.YthnefjkpjhfkgaaW.PrintMore Go.Proofs.Ythnefjkpjhfkgaa.PScriptWrites Go.Proofs.Ythnefjkpjhfkgaa.KScriptWrites Go.Proofs.Ythnefjkpjhfkgaa.Core
set_option linter.unusedVariables false
set_option linter.unusedSimpArgs false

theorem heap33 : Kd.Heap k33 := Kd.heap_iso _ (Kd.heap_pair (Kd.heap_int _) (Kd.heap_pair (Kd.heap_int _) (Kd.heap_pair (Kd.heap_int _) (Kd.heap_pair (Kd.heap_int _) (Kd.heap_pair (Kd.heap_slice 5 (Kd.heap_int _)) (Kd.heap_slice 2 (Kd.heap_int _)))))))
theorem V_of_C {w : World} {A : Option Addr} {c : Nat} {l : List S33} (h : Kd.C k33 w A l.length l) (hc : l.length ≤ c) (base : Nat) : Kd.V k33 33 w base (fun _ => True) (.slice A l.length c) l :=
  Kd.V_mk hc (fun W' hW => Kd.Heap.C heap33 (fun k hk => hW k trivial hk) h)
theorem fine_of {l : List S33} (hw : ∀ e ∈ l, w33 e) (hl : ∀ x ∈ l, x.f4.length ≤ 300 ∧ x.f5.length ≤ 300) : ∀ x ∈ l.map cv, Fine x := by
  intro x hx
  obtain ⟨y, hy, rfl⟩ := List.mem_map.1 hx
  have h1 := hw y hy
  have h2 := hl y hy
  simp [w33, Lit.wf, IntKind.min, IntKind.max, IntKind.bits, IntKind.signed] at h1
  exact ⟨by simp [cv]; omega, by simp [cv]; omega, by simp [cv]; omega, by simp [cv]; omega, by simp [cv]; omega⟩

set_option maxHeartbeats 1000000 in
theorem walk_no (w : World) (A0 : Option Addr) (c0 k : Nat) (l : List S33) (hr : Kd.C k33 w A0 l.length l) (hc : l.length ≤ c0) (hf : haymowlaw18_light.f k l = some false) :
    Calls Try.prog 3 #[.slice A0 l.length c0] w fun e w' => e = .returned (.bool true) ∧ Below w.heap.size w w' := by
  have H := Lib.hid (haymowlaw18_light.calls k A0 c0 l false w hr hc hf)
  clear hr hf
  go_enter Try.func3, Try.ntmps3
  go_wp2_with fail
  refine H.out.mono ?_
  rintro e w1 ⟨rfl, hd⟩
  have hb := Lib.hid hd.below
  clear hd
  go_wp2
  go_ret
  exact ⟨rfl, hb.out⟩

set_option maxHeartbeats 4000000 in
set_option maxRecDepth 100000 in
theorem walk_yes (w : World) (A0 : Option Addr) (c0 k : Nat) (l : List S33) (hr : Kd.C k33 w A0 l.length l) (hc : l.length ≤ c0) (hw : ∀ e ∈ l, w33 e) (hf : haymowlaw18_light.f k l = some true) (hn : l.length ≤ 60) (hl : ∀ x ∈ l, x.f4.length ≤ 300 ∧ x.f5.length ≤ 300) :
    Calls Try.prog 3 #[.slice A0 l.length c0] w fun e w' => e = .returned (.bool true) ∧ Below w.heap.size w w' := by
  have H := Lib.hid (haymowlaw18_light.calls k A0 c0 l true w hr hc hf)
  have HR := Lib.hid hr
  have HF := Lib.hid (fine_of hw hl)
  have HL := Lib.hid hl
  have hml : (l.map cv).length = l.length := List.length_map ..
  have HO := Lib.hid (of_f l hn)
  obtain ⟨m, hm⟩ : ∃ m, l.map cv = m := ⟨_, rfl⟩
  rw [hm] at hml HF HO
  have HM := Lib.hid hm
  have HML := Lib.hid hml
  clear hr hf hw hl hm hml
  go_enter Try.func3, Try.ntmps3
  go_wp2_with fail
  refine H.out.mono ?_
  rintro e w1 ⟨rfl, hd⟩
  have hb := hd.below
  have HB1 := Lib.hid hb
  have H1 := Lib.hid (Kd.C_below HR.out hb)
  clear hd hb H
  go_wp2_with fail
  refine (haymowlaw18_of.calls _ (fun _ => True) A0 c0 l m w1 (V_of_C H1.out hc _) HO.out).mono ?_
  rintro e w2 ⟨v, rfl, hv, hb2⟩
  obtain ⟨A2, c2, rfl, hc2, hr2⟩ := Kd.N_reads hv
  have HB2 : Hid (Below w.heap.size w w2) := HB1.out.trans (hb2.mono HB1.out.size)
  have HR2 := Lib.hid hr2
  clear hv hb2 hr2 H1 HB1
  go_wp2_with fail
  refine (Write_any m A2 c2 w2 HR2.out (by have := HML.out; omega) HF.out).mono ?_
  rintro e w3 hw3
  have hW : ∃ v3 e3, e = .returned (.tuple #[v3, .int .i64 e3]) ∧ Below w2.heap.size w2 w3 ∧ e3 = errL m ∧ (errL m = 0 → Kd.R (Kd.int .u8) 5 w3 w2.heap.size (fun _ => True) v3 (bytL m)) ∧ (errL m ≠ 0 → v3 = .slice none 0 0) ∧ ∃ A3 n3 c3, v3 = .slice A3 n3 c3 := by
    rcases hw3 with ⟨h0, v, rfl, hr, hb⟩ | ⟨h0, rfl, hb⟩
    · obtain ⟨A3, c3, e3⟩ := Kd.R_slice hr
      exact ⟨v, 0, rfl, hb, h0.symm, fun _ => hr, fun h => absurd h0 h, _, _, _, e3⟩
    · exact ⟨_, _, rfl, hb, rfl, fun h => absurd h h0, fun _ => rfl, _, _, _, rfl⟩
  clear hw3
  obtain ⟨v3, e3, rfl, hb3, he3, hok, hno, A3, n3, c3, rfl⟩ := hW
  have HB3 : Hid (Below w.heap.size w w3) := HB2.out.trans (hb3.mono HB2.out.size)
  have HE3 := Lib.hid he3
  have HOK := Lib.hid hok
  have HNO := Lib.hid hno
  clear hb3 he3 hok hno HR2
  have hz3 := HB3.out.size
  go_wp2_with fail
  go_loopg [5, 6] l.length (fun k v5 i W => ∃ j : Nat, j + k = l.length ∧ i = .int .i64 j ∧ Hid (errL (m.take j) = 0) ∧ Hid (Below w3.heap.size w3 W) ∧ Hid (Kd.R (Kd.int .u8) 5 W w3.heap.size (fun _ => True) v5 (bytL (m.take j))))
  case atStart => exact ⟨0, by omega, rfl, rfl, Below.refl _ _, Kd.R_nil _ _ _ _ _⟩
  case round =>
    obtain ⟨j, hjk, rfl, hE, hB, hR⟩ := hrel
    have HJ := Lib.hid hjk
    clear hjk
    have hBw : Hid (Below w.heap.size w wr) := HB3.out.trans (hB.out.mono hz3)
    by_cases hlt : j < l.length
    · obtain ⟨ad, A4, c4, A5, c5, rfl, h0, h1, h2, h3, h4, h5, l4, r4, l5, r5⟩ := at_T33 (Kd.C_below HR.out hBw.out) (j : Int) (Int.natCast_nonneg j) (Int.ofNat_lt.2 hlt)
      have hx : l[j]? = some (rd_T33 l j) := by simp [rd_T33, List.getD, List.getElem?_eq_getElem hlt]
      have hxl := HL.out _ (List.mem_of_getElem? hx)
      generalize rd_T33 l j = x at *
      simp only [Int.toNat_natCast] at h0 h1 h2 h3 h4 h5
      have hmx : m[j]? = some (cv x) := by rw [← HM.out, List.getElem?_map, hx]; rfl
      have HMX := Lib.hid hmx
      have H4 := Lib.hid r4
      have H5 := Lib.hid r5
      have HXL := Lib.hid hxl
      have HWR := Lib.hid (wrong_f x hxl.1 hxl.2)
      clear r4 r5 hx hxl hmx
      go_wp2_with fail
      refine (haymowref18_Wrong.calls _ _ _ _ _ _ c4 _ _ c5 _ _ wr H4.out l4 H5.out l5 HWR.out).mono ?_
      rintro e w4 ⟨rfl, hb4⟩
      have HB4 : Hid (Below w.heap.size w w4) := hBw.out.trans (hb4.mono hBw.out.size)
      have hB4 : Hid (Below w3.heap.size w3 w4) := hB.out.trans (hb4.mono hB.out.size)
      have hR4 := Lib.hid (Kd.R_below hR.out hb4)
      have H4b := Lib.hid (Kd.C_below H4.out hb4)
      have H5b := Lib.hid (Kd.C_below H5.out hb4)
      have g0 := pw_cell_below hb4 h0; have g1 := pw_cell_below hb4 h1; have g2 := pw_cell_below hb4 h2; have g3 := pw_cell_below hb4 h3; have g4 := pw_cell_below hb4 h4; have g5 := pw_cell_below hb4 h5
      clear hb4 hB hBw h0 h1 h2 h3 h4 h5 hR
      by_cases hq : errOf (cv x) = 0
      · obtain ⟨kw, hkw⟩ := refw_f x HXL.out.1 HXL.out.2 hq
        have HKW := Lib.hid hkw
        have HQ := Lib.hid hq
        rw [HQ.out]
        clear hkw hq
        go_wp2_with fail
        refine (haymowref18_Write.calls _ _ _ _ _ _ c4 _ _ c5 _ _ w4 H4b.out l4 H5b.out l5 HKW.out).mono ?_
        rintro e w5 ⟨v5, rfl, hr5, hb5⟩
        obtain ⟨A5', c5', rfl, hc5, hC5⟩ := Kd.R_reads hr5
        have HB5 : Hid (Below w.heap.size w w5) := HB4.out.trans (hb5.mono HB4.out.size)
        have hB5 : Hid (Below w3.heap.size w3 w5) := hB4.out.trans (hb5.mono hB4.out.size)
        have hR5 := Lib.hid (Kd.R_below hR4.out hb5)
        have HC5 := Lib.hid hC5
        obtain ⟨nb, hnb⟩ : ∃ nb, (byts (cv x)).length = nb := ⟨_, rfl⟩
        have HNB := Lib.hid hnb
        have hcl : (bytL (m.take j)).length + nb ≤ 100000000 := by
          have a := bytL_len (errL_mem hE.out) (fun y hy => HF.out y (List.mem_of_mem_take hy))
          have b : (m.take j).length ≤ 60 := by have := HML.out; rw [List.length_take]; omega
          have c := byts_len HQ.out (HF.out _ (List.mem_of_getElem? HMX.out))
          omega
        have HCL := Lib.hid hcl
        rw [hnb]
        clear hr5 hb5 hC5 hnb hcl hB4 HB4 hR4 hc5 g0 g1 g2 g3 g4 g5
        go_wp2_with ((with_reducible refine gate_builtin (b := .append) (xs := #[.tmp 41, .tmp 46]) rfl ?_); at_builtin; refine Kd.R_append_row (Value.int .u8) (0 : Int) (h1 := fun _ => rfl) (w0 := w3) w3.heap.size rfl (.tmp 41) (.tmp 46) 24 5 (.int .u8 0) 1 rfl Try.underlying24 info5 rfl (by omega) u5 (bytL (m.take j)) (byts (cv x)) A5' nb c5' (fun _ => True) rfl rfl (fun _ _ => trivial) ?aO ?aR ?aB ?aS ?aL ?_; (case aO => exact hR5.out); (case aR => rw [← HNB.out]; exact HC5.out); (case aB => exact hB5.out); (case aS => exact hB5.out.size); (case aL => have := HCL.out; omega); intro v6 w6 hr6 hb6 hg6 _; have HR6 : Hid (Kd.R (Kd.int .u8) 5 w6 w3.heap.size (fun _ => True) v6 (bytL (m.take j) ++ byts (cv x))) := hr6; have HB6 := Lib.hid hb6; clear hr6 hb6 hg6 hR5 HC5)
        go_roundg (l.length - (j + 1))
        case measure => have := HJ.out; omega
        case rel =>
          obtain ⟨hl', hx'⟩ := List.getElem?_eq_some_iff.1 HMX.out
          have e1 : m.take (j + 1) = m.take j ++ [cv x] := by rw [List.take_succ_eq_append_getElem hl', hx']
          refine ⟨j + 1, by omega, by go_num, ?_, HB6, ?_⟩
          · rw [e1]; exact errL_snoc hE.out HQ.out
          · rw [e1, show bytL (m.take j ++ [cv x]) = bytL (m.take j) ++ byts (cv x) by simp [bytL]]; exact HR6
      · have hEE : errL m = errOf (cv x) := errL_at HMX.out hE.out hq
        have hv := HNO.out (by rw [hEE]; exact hq)
        simp only [Value.slice.injEq] at hv
        obtain ⟨rfl, rfl, rfl⟩ := hv
        have he : e3 = errOf (cv x) := by rw [HE3.out, hEE]
        subst he
        generalize errOf (cv x) = q at *
        have hq1 : (q != 0) = true := by simpa using hq
        have HEE := Lib.hid hEE
        clear hEE g0 g1 g2 g3 g4 g5
        go_wp2_with fail
        refine (awake_any _).mono ?_
        rintro e w5 ⟨rfl, hb5⟩
        have HB5 : Hid (Below w.heap.size w w5) := HB4.out.trans (hb5.mono HB4.out.size)
        clear hb5 HB4 hB4
        go_wp2_with fail
        go_ret
        exact ⟨rfl, HB5.out⟩
    · obtain rfl : j = l.length := by have := HJ.out; omega
      have hm1 : m.take l.length = m := by rw [← HML.out, List.take_length]
      have hE0 : errL m = 0 := by have := hE.out; rwa [hm1] at this
      have hR0 : Kd.R (Kd.int .u8) 5 wr w3.heap.size (fun _ => True) u5 (bytL m) := by have := hR.out; rwa [hm1] at this
      obtain ⟨A5, c5, rfl, hc5, hC5⟩ := Kd.R_reads hR0
      obtain ⟨A3', c3', e3', hc3', hC3⟩ := Kd.R_reads (HOK.out hE0)
      have hC3' := Kd.C_below hC3 hB.out
      simp only [Value.slice.injEq] at e3'
      obtain ⟨rfl, rfl, rfl⟩ := e3'
      have s1 := Kd.C_string (P := Try.prog) (src := 24) (dst := 9) (c := c3) Try.underlying24 Try.underlying5 Try.underlying9 hC3'
      have s2 := Kd.C_string (P := Try.prog) (src := 24) (dst := 9) (c := c5) Try.underlying24 Try.underlying5 Try.underlying9 hC5
      obtain rfl : e3 = 0 := by rw [HE3.out, hE0]
      generalize strOfNums (bytL m) = sb at *
      generalize (bytL m).length = nb at *
      clear hR0 hC5 hC3 hC3' hR hE hE0 hm1 HOK HNO HE3
      go_wp2_with fail
      refine (awake_any _).mono ?_
      rintro e w5 ⟨rfl, hb5⟩
      have HB5 : Hid (Below w.heap.size w w5) := hBw.out.trans (hb5.mono hBw.out.size)
      clear hb5
      go_wp2_with fail
      go_ret
      exact ⟨rfl, HB5.out⟩

theorem walk (w : World) (A0 : Option Addr) (c0 : Nat) (l0 : List (S33)) (hr0 : Kd.C k33 w A0 l0.length l0) (hc0 : l0.length ≤ c0) (w0 : (∀ e ∈ l0, w33 e)) :
    Calls Try.prog 3 #[.slice A0 l0.length c0] w fun e w' => e = .returned (.bool true) ∧ Below w.heap.size w w' := by
  obtain ⟨k, b, hf, hl⟩ := light_f l0
  cases b with
  | false => exact walk_no w A0 c0 k l0 hr0 hc0 hf
  | true => exact walk_yes w A0 c0 k l0 hr0 hc0 w0 hf (hl rfl).1 (hl rfl).2
end Go.Proofs.Ythnefjkpjhfkgaa.RScriptWrites
