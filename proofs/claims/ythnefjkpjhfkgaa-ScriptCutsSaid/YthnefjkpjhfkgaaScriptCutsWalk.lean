/- The walk of haymowlaw18.ScriptCuts: it returns true and turns nothing that was there, for every argument that can be read. -/
import Derived.Test.YthnefjkpjhfkgaaScriptWritesWalk
import Derived.Test.YthnefjkpjhfkgaaC16
import Derived.Test.YthnefjkpjhfkgaaC17
import Derived.Test.YthnefjkpjhfkgaaScriptCutsK
namespace Go.Proofs.Ythnefjkpjhfkgaa.RScriptCuts
open Go.RowKit Go.Proofs.YthnefjkpjhfkgaaW.PrintWords Go.Proofs.YthnefjkpjhfkgaaW.PrintMore Go.Proofs.Ythnefjkpjhfkgaa.PScriptWrites Go.Proofs.Ythnefjkpjhfkgaa.KScriptCuts Go.Proofs.Ythnefjkpjhfkgaa.Core Go.Proofs.Ythnefjkpjhfkgaa.RScriptWrites
set_option linter.unusedVariables false
set_option linter.unusedSimpArgs false
theorem byts_of {l : List Int} (h : ∀ e ∈ l, (Lit.int .u8 e).wf = true) : Byts l := by
  intro x hx
  have := h x hx
  simp [Lit.wf, IntKind.min, IntKind.max, IntKind.signed, IntKind.bits] at this
  omega
theorem good_of {l : List S33} (hw : ∀ e ∈ l, w33 e) (hl : ∀ x ∈ l, x.f4.length ≤ 300 ∧ x.f5.length ≤ 300) : (∀ x ∈ l.map cv, Core.Good x) ∧ (∀ x ∈ l.map cv, Byts x.f4) ∧ (∀ x ∈ l.map cv, x.f4.length ≤ 300 ∧ x.f5.length ≤ 300) := by
  refine ⟨fun x hx => ?_, fun x hx => ?_, fun x hx => ?_⟩
  · obtain ⟨y, hy, rfl⟩ := List.mem_map.1 hx
    have h1 := hw y hy
    have h2 := hl y hy
    refine ⟨by show y.f4.length ≤ _; omega, by show y.f5.length ≤ _; omega, fun n hn => ?_⟩
    have := h1.2.2.2.2.2 n hn
    simp [Lit.wf, IntKind.min, IntKind.max, IntKind.bits, IntKind.signed] at this
    omega
  · obtain ⟨y, hy, rfl⟩ := List.mem_map.1 hx
    exact byts_of (hw y hy).2.2.2.2.1
  · obtain ⟨y, hy, rfl⟩ := List.mem_map.1 hx
    exact hl y hy
theorem un_cv (l : List S33) : (l.map cv).map un = l := by
  rw [List.map_map]
  have : un ∘ cv = id := by funext x; rfl
  rw [this, List.map_id]
theorem P_succ {m : List S47} {j : Nat} {x : S47} (h : m[j]? = some x) : bytL (m.take (j + 1)) = bytL (m.take j) ++ byts x := by
  obtain ⟨hl, hx⟩ := List.getElem?_eq_some_iff.1 h
  rw [List.take_succ_eq_append_getElem hl, hx]
  simp [bytL]
theorem P_cut {m : List S47} {j : Nat} {x : S47} (h : m[j]? = some x) {q : Nat} (h1 : (bytL (m.take j)).length ≤ q) (h2 : q ≤ (bytL (m.take j)).length + (byts x).length) : (bytL m).take q = bytL (m.take j) ++ (byts x).take (q - (bytL (m.take j)).length) := by
  obtain ⟨hl, hx⟩ := List.getElem?_eq_some_iff.1 h
  have e : bytL m = bytL (m.take j) ++ (byts x ++ bytL (m.drop (j + 1))) := by
    have h3 : m = m.take j ++ (x :: m.drop (j + 1)) := by rw [← hx, ← List.drop_eq_getElem_cons hl, List.take_append_drop]
    conv => lhs; rw [h3]
    simp [bytL]
  rw [e, List.take_append, List.take_of_length_le h1, List.take_append_of_le_length (by omega)]
set_option maxHeartbeats 1000000 in
theorem walk_no (w : World) (A0 : Option Addr) (c0 k : Nat) (a1 : Int) (l : List S33) (hr : Kd.C k33 w A0 l.length l) (hc : l.length ≤ c0) (hf : haymowlaw18_light.f k l = some false) :
    Calls Try.prog 7 #[.slice A0 l.length c0, .int .u16 a1] w fun e w' => e = .returned (.bool true) ∧ Below w.heap.size w w' := by
  have H := Lib.hid (haymowlaw18_light.calls k A0 c0 l false w hr hc hf)
  clear hr hf
  go_enter Try.func7, Try.ntmps7
  go_wp2_with fail
  refine H.out.mono ?_
  rintro e w1 ⟨rfl, hd⟩
  have hb := Lib.hid hd.below
  clear hd
  go_wp2
  go_ret
  exact ⟨rfl, hb.out⟩
set_option maxHeartbeats 4000000 in
set_option maxRecDepth 100000 in
theorem walk_yes (w : World) (A0 : Option Addr) (c0 k : Nat) (a1 : Int) (h10 : 0 ≤ a1) (h11 : a1 < 65536) (l : List S33) (hr : Kd.C k33 w A0 l.length l) (hc : l.length ≤ c0) (hw : ∀ e ∈ l, w33 e) (hf : haymowlaw18_light.f k l = some true) (hn : l.length ≤ 60) (hl : ∀ x ∈ l, x.f4.length ≤ 300 ∧ x.f5.length ≤ 300) :
    Calls Try.prog 7 #[.slice A0 l.length c0, .int .u16 a1] w fun e w' => e = .returned (.bool true) ∧ Below w.heap.size w w' := by
  have H := Lib.hid (haymowlaw18_light.calls k A0 c0 l true w hr hc hf)
  have HR := Lib.hid hr
  obtain ⟨m, HF, HO, HML, HG, HUN, HMN, HM, HL⟩ : ∃ m, Hid (∀ x ∈ m, Fine x) ∧ Hid (haymowlaw18_of.f (l.length + 1) l = some m) ∧ Hid (m.length = l.length) ∧ Hid ((∀ x ∈ m, Core.Good x) ∧ (∀ x ∈ m, Byts x.f4) ∧ (∀ x ∈ m, x.f4.length ≤ 300 ∧ x.f5.length ≤ 300)) ∧ Hid (m.map un = l) ∧ Hid (m.length ≤ 60) ∧ Hid (l.map cv = m) ∧ Hid (∀ x ∈ l, x.f4.length ≤ 300 ∧ x.f5.length ≤ 300) :=
    ⟨l.map cv, fine_of hw hl, of_f l hn, List.length_map .., good_of hw hl, un_cv l, by show (l.map cv).length ≤ 60; rw [List.length_map]; exact hn, rfl, hl⟩
  clear hr hf hw hl hn
  go_enter Try.func7, Try.ntmps7
  go_wp2_with fail
  refine H.out.mono ?_
  rintro e w1 ⟨rfl, hd1⟩
  have HB1 : Hid (Below w.heap.size w w1) := hd1.below
  clear hd1 H
  go_wp2_with fail
  refine (haymowlaw18_of.calls _ (fun _ => True) A0 c0 l m w1 (V_of_C (Kd.C_below HR.out HB1.out) hc _) HO.out).mono ?_
  rintro e w2 ⟨v, rfl, hv, hb2⟩
  obtain ⟨A2, c2, rfl, hc2, hr2⟩ := Kd.N_reads hv
  have HB2 : Hid (Below w.heap.size w w2) := HB1.out.trans (hb2.mono HB1.out.size)
  have HR2 := Lib.hid hr2
  clear hv hb2 hr2 HB1
  go_wp2_with fail
  refine (Write_any m A2 c2 w2 HR2.out (by have := HMN.out; omega) HF.out).mono ?_
  rintro e w3 hw3
  obtain ⟨A3, n3, c3, ev, rfl, hb3, hev, hok, hno⟩ := WOut_of hw3
  have HB3 : Hid (Below w.heap.size w w3) := HB2.out.trans (hb3.mono HB2.out.size)
  have HOK := Lib.hid hok
  have HEV := Lib.hid hev
  clear hw3 hb3 hok hno hev HB2 HR2
  by_cases h0 : ev = 0
  · have hE : errL m = 0 := by rw [← HEV.out]; exact h0
    obtain ⟨e1, hc3, hC3⟩ := HOK.out hE
    have HE : Hid (∀ x ∈ m, errOf x = 0) := errL_mem hE
    have HC3 := Lib.hid hC3
    have HL3 := Lib.hid hc3
    have HN3 := Lib.hid e1
    have HBB : Hid ((bytL m).length ≤ 1000000) := by have a := bytL_small HG.out.2.2; have b := HMN.out; show (bytL m).length ≤ 1000000; omega
    have b0 : (ev != 0) = false := by simpa using h0
    clear hE e1 hc3 hC3 h0 HOK
    by_cases hz : n3 = 0
    · have b1 : ((n3 : Int) == 0) = true := by simpa using hz
      go_wp2_with fail
      refine (awake_any w3).mono ?_
      rintro e wc ⟨rfl, hbc⟩
      have HBc : Hid (Below w.heap.size w wc) := HB3.out.trans (hbc.mono HB3.out.size)
      clear hbc
      go_wp2_with fail
      go_ret
      exact ⟨rfl, HBc.out⟩
    · have b1 : ((n3 : Int) == 0) = false := by simpa using hz
      have hp : 0 < n3 := by omega
      have hb3 : n3 ≤ 1000000 := by have := HN3.out; have := HBB.out; omega
      clear hz
      obtain ⟨q, hq⟩ : ∃ q : Nat, a1 % (n3 : Int) = q := ⟨(a1 % (n3 : Int)).toNat, by have := Int.emod_nonneg a1 (show (n3 : Int) ≠ 0 by omega); omega⟩
      have hqn : q < n3 := by have := Int.emod_lt_of_pos a1 (show (0 : Int) < n3 by omega); omega
      have HQ := Lib.hid hq
      clear hq
      go_wp2_with fail
      rw [HQ.out]
      have hz3 := HB3.out.size
      have hl60 : l.length ≤ 60 := by have := HMN.out; have := HML.out; omega
      go_loopg [8, 9, 10] l.length (fun k v8 v9 v10 W => ∃ j : Nat, j + k = l.length ∧ v8 = .int .i64 ((bytL (m.take j)).length : Int) ∧ v9 = .int .i64 j ∧ v10 = .int .i64 j ∧ Hid ((bytL (m.take j)).length ≤ q) ∧ Hid (Below w3.heap.size w3 W))
      case atStart => exact ⟨0, by omega, rfl, rfl, rfl, Nat.zero_le _, Below.refl _ _⟩
      case round =>
        obtain ⟨j, hjk, rfl, rfl, rfl, hP, hB⟩ := hrel
        have HJ := Lib.hid hjk
        clear hjk
        have hBw : Hid (Below w.heap.size w wr) := HB3.out.trans (hB.out.mono hz3)
        have hlt : j < l.length := by
          rcases Nat.lt_or_ge j l.length with h | h
          · exact h
          · have h1 := hP.out
            have h2 := HN3.out
            have h3 := HML.out
            rw [List.take_of_length_le (by omega)] at h1
            omega
        obtain ⟨ad, A4, c4, A5, c5, rfl, h0, h1, h2, h3, h4, h5, l4, r4, l5, r5⟩ := at_T33 (Kd.C_below HR.out hBw.out) (j : Int) (Int.natCast_nonneg j) (Int.ofNat_lt.2 hlt)
        have hx : l[j]? = some (rd_T33 l j) := by simp [rd_T33, List.getD, List.getElem?_eq_getElem hlt]
        have hxl := HL.out _ (List.mem_of_getElem? hx)
        generalize rd_T33 l j = x at *
        simp only [Int.toNat_natCast] at h0 h1 h2 h3 h4 h5
        have hmx : m[j]? = some (cv x) := by rw [← HM.out, List.getElem?_map, hx]; rfl
        have HMX := Lib.hid hmx
        have hEx := HE.out _ (List.mem_of_getElem? hmx)
        obtain ⟨kw, hkw⟩ := refw_f x hxl.1 hxl.2 hEx
        have HEX := Lib.hid hEx
        have H4 := Lib.hid r4
        have H5 := Lib.hid r5
        have HKW := Lib.hid hkw
        obtain ⟨nb, hnb⟩ : ∃ nb, nb = (byts (cv x)).length := ⟨_, rfl⟩
        obtain ⟨pj, hpj⟩ : ∃ pj, pj = (bytL (m.take j)).length := ⟨_, rfl⟩
        have HNB := Lib.hid hnb
        have HPJ := Lib.hid hpj
        have bpj : pj ≤ q := by have := hP.out; omega
        have bnb : nb ≤ 2800 := by have := byts_small (x := cv x) hxl.1 hxl.2; omega
        rw [← hpj]
        clear r4 r5 hx hxl hmx hEx hkw hnb hpj
        go_wp2_with fail
        refine (haymowref18_Write.calls _ _ _ _ _ _ c4 _ _ c5 _ _ wr H4.out l4 H5.out l5 HKW.out).mono ?_
        rintro e w5 ⟨v5, rfl, hr5, hb5⟩
        obtain ⟨A5', c5', rfl, hc5, hC5⟩ := Kd.R_reads hr5
        have HB5 : Hid (Below w3.heap.size w3 w5) := hB.out.trans (hb5.mono hB.out.size)
        have HBz : Hid (Below w.heap.size w w5) := hBw.out.trans (hb5.mono hBw.out.size)
        rw [← HNB.out]
        clear hr5 hb5 hC5 hB hBw h0 h1 h2 h3 h4 h5 hc5 hP
        by_cases hg : pj + nb ≤ q
        · have hg0 : (decide ((pj : Int) + nb > q)) = false := by simp; omega
          go_wp2_with fail
          go_roundg (l.length - (j + 1))
          case measure => have := HJ.out; omega
          case rel =>
            have e1 := P_succ HMX.out
            have e2 : (bytL (m.take (j + 1))).length = pj + nb := by rw [e1, List.length_append, HPJ.out, HNB.out]
            refine ⟨j + 1, by omega, by rw [e2]; go_num, by go_num, by go_num, ?_, HB5⟩
            show (bytL (m.take (j + 1))).length ≤ q
            omega
        · have hg0 : (decide ((pj : Int) + nb > q)) = true := by simp; omega
          obtain ⟨i5, hi5, hs5⟩ : ∃ i, Try.prog.info? 5 = some i ∧ i.size = 1 := by
            have := info5
            rcases hq : Try.prog.info? 5 with _ | i
            · rw [hq] at this; cases this
            · rw [hq] at this
              simp only [Option.map_some, Option.some.injEq, Prod.mk.injEq] at this
              exact ⟨i, rfl, this.2.1⟩
          obtain ⟨i33, hi33⟩ : ∃ i, Try.prog.info? 33 = some i := by
            have : (Try.prog.info? 33).isSome = true := by kernel_rfl
            exact Option.isSome_iff_exists.1 this
          have ht1 := cut_to (P := Try.prog) 24 5 .i64 Try.underlying24 hi5 A3 n3 c3 (q : Int) (by omega) (by omega) (by have := HL3.out; have := HN3.out; omega)
          have ht2 := cut_to (P := Try.prog) 22 33 .i64 Try.underlying22 hi33 (some ad) l.length c0 (j : Int) (by omega) (by omega) hc
          have hcut := P_cut (q := q) HMX.out (by have := HPJ.out; omega) (by have := HPJ.out; have := HNB.out; omega)
          have HCUT := Lib.hid hcut
          clear hcut hi5 hs5 hi33
          go_wp2_with fail
          have hq2 : ((bytL m).take q).length = q := by rw [List.length_take]; have := HN3.out; omega
          have hjl : (m.take j).length = j := by rw [List.length_take]; have := HML.out; omega
          have hBYT : Byts ((bytL m).take q) := (bytL_byts HE.out HG.out.2.1).take q
          have hRD := Read_any ((bytL m).take q) A3 c3 w5 (Kd.C_take (Kd.C_below HC3.out HB5.out) (by have := HN3.out; omega)) (by rw [hq2]; have := HL3.out; have := HN3.out; omega) hBYT (by rw [hq2]; omega)
          rw [hq2] at hRD
          have HTE : Hid (∀ y ∈ m.take j, errOf y = 0) := fun y hy => HE.out y (List.mem_of_mem_take hy)
          have HTG : Hid (∀ y ∈ m.take j, Core.Good y) := fun y hy => HG.out.1 y (List.mem_of_mem_take hy)
          have HJL := Lib.hid hjl
          have HGX := Lib.hid (HG.out.1 _ (List.mem_of_getElem? HMX.out))
          refine hRD.mono ?_
          clear hq2 hRD hBYT hjl
          rintro e w6 hw6
          rw [HCUT.out] at hw6
          by_cases he : pj = q
          · have hs : Core.Steps (bytL (m.take j) ++ (byts (cv x)).take (q - (bytL (m.take j)).length)) (m.take j) [] := by
              have e0 : q - (bytL (m.take j)).length = 0 := by have := HPJ.out; omega
              rw [e0, List.take_zero]
              exact steps_back HTE.out HTG.out
            obtain ⟨A6, c6, rfl, hc6, hC6, hb6⟩ := Read_of hs hw6
            have HB6 : Hid (Below w.heap.size w w6) := HBz.out.trans (hb6.mono HBz.out.size)
            have hUN : (m.take j).map un = l.take j := by rw [List.map_take, HUN.out]
            have hC33 : Kd.C k33 w6 (some ad) (m.take j).length ((m.take j).map un) := by
              have h := Kd.C_take (m := j) (Kd.C_below HR.out HB6.out) (by omega)
              rw [hUN]
              have e5 : (m.take j).length = (l.take j).length := by rw [HJL.out, List.length_take]; omega
              rw [e5]
              exact h
            have hT := told_true (m.take j) A6 (some ad) c6 c0 w6 hC6 hC33 (by rw [HJL.out]; omega) (fun y hy => by have := HG.out.2.2 y (List.mem_of_mem_take hy); omega)
            rw [HJL.out] at hT
            have HT := Lib.hid hT
            rw [HJL.out]
            have he2 : ((pj : Int) == (q : Int)) = true := beq_iff_eq.2 (by omega)
            clear hw6 hs hc6 hC6 hb6 hUN hC33 hT he
            go_wp2_with fail
            refine HT.out.mono ?_
            rintro e w7 ⟨rfl, hd7⟩
            have HB7 : Hid (Below w.heap.size w w7) := HB6.out.trans (hd7.below.mono HB6.out.size)
            clear hd7 HT
            go_wp2_with fail
            refine (awake_any w7).mono ?_
            rintro e wc ⟨rfl, hbc⟩
            have HBc : Hid (Below w.heap.size w wc) := HB7.out.trans (hbc.mono HB7.out.size)
            clear hbc
            go_wp2_with fail
            go_ret
            exact ⟨rfl, HBc.out⟩
          · have hs : Core.Steps (bytL (m.take j) ++ (byts (cv x)).take (q - (bytL (m.take j)).length)) (m.take j) ((byts (cv x)).take (q - (bytL (m.take j)).length)) := steps_back HTE.out HTG.out
            have hlen : q - (bytL (m.take j)).length < (byts (cv x)).length := by have := HPJ.out; have := HNB.out; omega
            have hde := dec_cut HEX.out HGX.out hlen
            have hne : (byts (cv x)).take (q - (bytL (m.take j)).length) ≠ [] := by
              intro e0
              have g1 := congrArg List.length e0
              rw [List.length_take, List.length_nil] at g1
              have g2 := HPJ.out
              omega
            obtain ⟨rfl, hb6⟩ := Read_no hs hde hne hw6
            have HB6 : Hid (Below w.heap.size w w6) := HBz.out.trans (hb6.mono HBz.out.size)
            have he2 : ((pj : Int) == (q : Int)) = false := beq_eq_false_iff_ne.2 (by omega)
            clear hw6 hs hlen hde hne hb6 he
            go_wp2_with fail
            refine (awake_any w6).mono ?_
            rintro e wc ⟨rfl, hbc⟩
            have HBc : Hid (Below w.heap.size w wc) := HB6.out.trans (hbc.mono HB6.out.size)
            clear hbc
            go_wp2_with fail
            go_ret
            exact ⟨rfl, HBc.out⟩
  · have b0 : (ev != 0) = true := by simpa using h0
    go_wp2_with fail
    refine (awake_any w3).mono ?_
    rintro e wc ⟨rfl, hbc⟩
    have HBc : Hid (Below w.heap.size w wc) := HB3.out.trans (hbc.mono HB3.out.size)
    clear hbc
    go_wp2_with fail
    go_ret
    exact ⟨rfl, HBc.out⟩
theorem walk (w : World) (A0 : Option Addr) (c0 : Nat) (l0 : List (S33)) (hr0 : Kd.C k33 w A0 l0.length l0) (hc0 : l0.length ≤ c0) (w0 : (∀ e ∈ l0, w33 e)) (a1 : Int) (w1 : (Lit.int .u16 a1).wf = true) :
    Calls Try.prog 7 #[.slice A0 l0.length c0, .int .u16 a1] w fun e w' => e = .returned (.bool true) ∧ Below w.heap.size w w' := by
  obtain ⟨k, b, hf, hl⟩ := light_f l0
  cases b with
  | false => exact walk_no w A0 c0 k a1 l0 hr0 hc0 hf
  | true =>
    simp [Lit.wf, IntKind.min, IntKind.max, IntKind.bits, IntKind.signed] at w1
    exact walk_yes w A0 c0 k a1 (by omega) (by omega) l0 hr0 hc0 w0 hf (hl rfl).1 (hl rfl).2
end Go.Proofs.Ythnefjkpjhfkgaa.RScriptCuts
