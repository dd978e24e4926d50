/- The walk of haymowlaw18.ScriptBack: it returns true and turns nothing that was there, for every argument that can be read. -/
import Derived.Test.YthnefjkpjhfkgaaScriptWritesWalk
import Derived.Test.YthnefjkpjhfkgaaC16
import Derived.Test.YthnefjkpjhfkgaaC17
import Derived.Test.YthnefjkpjhfkgaaScriptBackK
namespace Go.Proofs.Ythnefjkpjhfkgaa.RScriptBack
open Go.RowKit Go.Proofs.YthnefjkpjhfkgaaW.PrintWords Go.Proofs.YthnefjkpjhfkgaaW.PrintMore Go.Proofs.Ythnefjkpjhfkgaa.PScriptWrites Go.Proofs.Ythnefjkpjhfkgaa.KScriptBack Go.Proofs.Ythnefjkpjhfkgaa.Core Go.Proofs.Ythnefjkpjhfkgaa.RScriptWrites
set_option linter.unusedVariables false
set_option linter.unusedSimpArgs false
theorem byts_of {l : List Int} (h : ∀ e ∈ l, (Lit.int .u8 e).wf = true) : Byts l := by
  intro x hx
  have := h x hx
  simp [Lit.wf, IntKind.min, IntKind.max, IntKind.signed, IntKind.bits] at this
  omega
theorem good_of {l : List S33} (hw : ∀ e ∈ l, w33 e) (hl : ∀ x ∈ l, x.f4.length ≤ 300 ∧ x.f5.length ≤ 300) : (∀ x ∈ l.map cv, Core.Good x) ∧ (∀ x ∈ l.map cv, Byts x.f4) ∧ (∀ x ∈ l.map cv, x.f4.length ≤ 300 ∧ x.f5.length ≤ 300) := by
  refine ⟨fun x hx => ?_, fun x hx => ?_, fun x hx => ?_⟩
  · obtain ⟨y, hy, rfl⟩ := List.mem_map.1 hx
    have h1 := hw y hy
    have h2 := hl y hy
    refine ⟨by show y.f4.length ≤ _; omega, by show y.f5.length ≤ _; omega, fun n hn => ?_⟩
    have := h1.2.2.2.2.2 n hn
    simp [Lit.wf, IntKind.min, IntKind.max, IntKind.bits, IntKind.signed] at this
    omega
  · obtain ⟨y, hy, rfl⟩ := List.mem_map.1 hx
    exact byts_of (hw y hy).2.2.2.2.1
  · obtain ⟨y, hy, rfl⟩ := List.mem_map.1 hx
    exact hl y hy
theorem un_cv (l : List S33) : (l.map cv).map un = l := by
  rw [List.map_map]
  have : un ∘ cv = id := by funext x; rfl
  rw [this, List.map_id]
set_option maxHeartbeats 1000000 in
theorem walk_no (w : World) (A0 A1 : Option Addr) (c0 c1 n1 k : Nat) (l : List S33) (hr : Kd.C k33 w A0 l.length l) (hc : l.length ≤ c0) (hf : haymowlaw18_light.f k l = some false) :
    Calls Try.prog 6 #[.slice A0 l.length c0, .slice A1 n1 c1] w fun e w' => e = .returned (.bool true) ∧ Below w.heap.size w w' := by
  have H := Lib.hid (haymowlaw18_light.calls k A0 c0 l false w hr hc hf)
  clear hr hf
  go_enter Try.func6, Try.ntmps6
  go_wp2_with fail
  refine H.out.mono ?_
  rintro e w1 ⟨rfl, hd⟩
  have hb := Lib.hid hd.below
  clear hd
  go_wp2
  go_ret
  exact ⟨rfl, hb.out⟩
set_option maxHeartbeats 1000000 in
theorem walk_long (w : World) (A0 A1 : Option Addr) (c0 c1 n1 k : Nat) (l : List S33) (hr : Kd.C k33 w A0 l.length l) (hc : l.length ≤ c0) (hf : haymowlaw18_light.f k l = some true) (hn : 3000 < n1) :
    Calls Try.prog 6 #[.slice A0 l.length c0, .slice A1 n1 c1] w fun e w' => e = .returned (.bool true) ∧ Below w.heap.size w w' := by
  have H := Lib.hid (haymowlaw18_light.calls k A0 c0 l true w hr hc hf)
  have hd : (decide ((n1 : Int) > 3000)) = true := by simp; omega
  clear hr hf
  go_enter Try.func6, Try.ntmps6
  go_wp2_with fail
  refine H.out.mono ?_
  rintro e w1 ⟨rfl, hd⟩
  have hb := Lib.hid hd.below
  clear hd
  go_wp2
  go_ret
  exact ⟨rfl, hb.out⟩
set_option maxHeartbeats 4000000 in
set_option maxRecDepth 100000 in
theorem walk_yes (w : World) (A0 A1 : Option Addr) (c0 c1 k : Nat) (l : List S33) (b : List Int) (hr : Kd.C k33 w A0 l.length l) (hc : l.length ≤ c0) (hw : ∀ e ∈ l, w33 e) (hf : haymowlaw18_light.f k l = some true) (hn : l.length ≤ 60) (hl : ∀ x ∈ l, x.f4.length ≤ 300 ∧ x.f5.length ≤ 300)
    (hr1 : (Kd.int .u8).C w A1 b.length b) (hc1 : b.length ≤ c1) (hby : Byts b) (hn1 : b.length ≤ 3000) :
    Calls Try.prog 6 #[.slice A0 l.length c0, .slice A1 b.length c1] w fun e w' => e = .returned (.bool true) ∧ Below w.heap.size w w' := by
  have H := Lib.hid (haymowlaw18_light.calls k A0 c0 l true w hr hc hf)
  have HR := Lib.hid hr
  have HR1 := Lib.hid hr1
  have HC1 := Lib.hid hc1
  have HBY := Lib.hid hby
  have HN1 := Lib.hid hn1
  obtain ⟨m, HF, HO, HML, HG, HUN, HMN⟩ : ∃ m, Hid (∀ x ∈ m, Fine x) ∧ Hid (haymowlaw18_of.f (l.length + 1) l = some m) ∧ Hid (m.length = l.length) ∧ Hid ((∀ x ∈ m, Core.Good x) ∧ (∀ x ∈ m, Byts x.f4) ∧ (∀ x ∈ m, x.f4.length ≤ 300 ∧ x.f5.length ≤ 300)) ∧ Hid (m.map un = l) ∧ Hid (m.length ≤ 60) :=
    ⟨l.map cv, fine_of hw hl, of_f l hn, List.length_map .., good_of hw hl, un_cv l, by show (l.map cv).length ≤ 60; rw [List.length_map]; exact hn⟩
  obtain ⟨n, hnn⟩ : ∃ n, n = b.length := ⟨_, rfl⟩
  have hd : (decide ((n : Int) > 3000)) = false := by simp; omega
  have HNN := Lib.hid hnn
  rw [← hnn]
  clear hr hf hw hl hr1 hc1 hby hn1 hn hnn
  go_enter Try.func6, Try.ntmps6
  go_wp2_with fail
  refine H.out.mono ?_
  rintro e w1 ⟨rfl, hd1⟩
  have HB1 : Hid (Below w.heap.size w w1) := hd1.below
  clear hd1 H
  go_wp2_with fail
  refine (haymowlaw18_of.calls _ (fun _ => True) A0 c0 l m w1 (V_of_C (Kd.C_below HR.out HB1.out) hc _) HO.out).mono ?_
  rintro e w2 ⟨v, rfl, hv, hb2⟩
  obtain ⟨A2, c2, rfl, hc2, hr2⟩ := Kd.N_reads hv
  have HB2 : Hid (Below w.heap.size w w2) := HB1.out.trans (hb2.mono HB1.out.size)
  have HR2 := Lib.hid hr2
  clear hv hb2 hr2 HB1
  go_wp2_with fail
  refine (Write_any m A2 c2 w2 HR2.out (by have := HMN.out; omega) HF.out).mono ?_
  rintro e w3 hw3
  obtain ⟨A3, n3, c3, ev, rfl, hb3, hev, hok, hno⟩ := WOut_of hw3
  have HB3 : Hid (Below w.heap.size w w3) := HB2.out.trans (hb3.mono HB2.out.size)
  have HOK := Lib.hid hok
  have HEV := Lib.hid hev
  clear hw3 hb3 hok hno hev HB2 HR2
  by_cases h0 : ev = 0
  · have hE : errL m = 0 := by rw [← HEV.out]; exact h0
    obtain ⟨e1, hc3, hC3⟩ := HOK.out hE
    have HE : Hid (∀ x ∈ m, errOf x = 0) := errL_mem hE
    have HC3 := Lib.hid hC3
    have HL3 := Lib.hid hc3
    have HN3 := Lib.hid e1
    have HBB : Hid ((bytL m).length ≤ 1000000) := by have a := bytL_small HG.out.2.2; have b := HMN.out; show (bytL m).length ≤ 1000000; omega
    have b0 : (ev == 0) = true := by simpa using h0
    clear hE e1 hc3 hC3 h0 HOK
    go_wp2_with fail
    rw [HN3.out]
    refine (Read_any (bytL m) A3 c3 w3 HC3.out (by have := HL3.out; have := HN3.out; omega) (bytL_byts HE.out HG.out.2.1) HBB.out).mono ?_
    rintro e w4 hw4
    obtain ⟨A4, c4, rfl, hc4, hC4, hb4⟩ := Read_of (by have := steps_back (r := []) HE.out HG.out.1; rwa [List.append_nil] at this) hw4
    have HB4 : Hid (Below w.heap.size w w4) := HB3.out.trans (hb4.mono HB3.out.size)
    have HC4 := Lib.hid hC4
    clear hw4 hc4 hC4 hb4 HC3 HB3
    have HUR : Hid (Kd.C k33 w4 A0 m.length (m.map un)) := by
      have h := Kd.C_below HR.out HB4.out
      rw [← HUN.out] at h
      rwa [List.length_map] at h
    have e5 := HML.out
    rw [e5]
    clear e5
    go_wp2_with fail
    rw [← HML.out]
    refine (told_true m A4 A0 c4 c0 w4 HC4.out HUR.out (by have := HMN.out; omega) (fun x hx => by have := HG.out.2.2 x hx; omega)).mono ?_
    rintro e w5 ⟨rfl, hd5⟩
    have HZ : Hid (Below w.heap.size w w5) := HB4.out.trans (hd5.below.mono HB4.out.size)
    obtain ⟨wz, rfl⟩ : ∃ wz, wz = w5 := ⟨_, rfl⟩
    clear hd5 HUR HC4 HB4
    go_wp2_with fail
    rw [HNN.out]
    refine (Read_any b A1 c1 wz (Kd.C_below HR1.out HZ.out) HC1.out HBY.out (by have := HN1.out; omega)).mono ?_
    rintro e wa (⟨x, Aa, ca, hs, rfl, hca, hCa, hba⟩ | ⟨x, rs, en, hs, hde, hrs, rfl, hba⟩)
    · have HBa : Hid (Below w.heap.size w wa) := HZ.out.trans (hba.mono HZ.out.size)
      have hsf := steps_forth HBY.out hs
      have HEE := Lib.hid hsf.1
      have HXB : Hid (b = bytL x) := hsf.2.trans (List.append_nil _)
      have HFX : Hid (∀ y ∈ x, Fine y) := fun y hy => fine_err (HEE.out y hy) (by have := steps_lens hs y hy; have := HN1.out; omega) (by have := steps_lens hs y hy; have := HN1.out; omega)
      have HLX : Hid (x.length ≤ 10000) := by have := hs.len; have := HN1.out; show x.length ≤ 10000; omega
      have HCa := Lib.hid hCa
      obtain ⟨nx, hnx⟩ : ∃ nx, nx = x.length := ⟨_, rfl⟩
      have HNX := Lib.hid hnx
      rw [← hnx]
      have HN := Lib.hid HNN.out
      clear hsf hs hca hCa hba hnx
      go_wp2_with fail
      rw [HNX.out]
      refine (Write_any x Aa ca wa HCa.out HLX.out HFX.out).mono ?_
      rintro e wb hwb
      obtain ⟨Ab, nb, cb, eb, rfl, hbb, heb, hokb, _⟩ := WOut_of hwb
      have hE : errL x = 0 := errL_zero HEE.out
      obtain rfl : eb = 0 := heb.trans hE
      obtain ⟨e1, _, hCb⟩ := hokb hE
      have HBb : Hid (Below w.heap.size w wb) := HBa.out.trans (hbb.mono HBa.out.size)
      rw [← HXB.out] at e1 hCb
      obtain rfl : nb = n := e1.trans HNN.out.symm
      have s1 := Kd.C_string (P := Try.prog) (src := 24) (dst := 9) (c := cb) Try.underlying24 Try.underlying5 Try.underlying9 hCb
      have s2 := Kd.C_string (P := Try.prog) (src := 24) (dst := 9) (c := c1) Try.underlying24 Try.underlying5 Try.underlying9 (Kd.C_below HR1.out HBb.out)
      rw [← HNN.out] at s1
      generalize strOfNums b = sb at *
      clear hwb hbb heb hokb hE e1 hCb
      go_wp2_with fail
      refine (awake_any wb).mono ?_
      rintro e wc ⟨rfl, hbc⟩
      have HBc : Hid (Below w.heap.size w wc) := HBb.out.trans (hbc.mono HBb.out.size)
      clear hbc s1 s2
      go_wp2_with fail
      go_ret
      exact ⟨rfl, HBc.out⟩
    · have HBa : Hid (Below w.heap.size w wa) := HZ.out.trans (hba.mono HZ.out.size)
      have e0 : (en == 0) = false := by rcases dec_err hde with rfl | rfl <;> rfl
      clear hs hde hrs hba
      go_wp2_with fail
      refine (awake_any wa).mono ?_
      rintro e wc ⟨rfl, hbc⟩
      have HBc : Hid (Below w.heap.size w wc) := HBa.out.trans (hbc.mono HBa.out.size)
      clear hbc
      go_wp2_with fail
      go_ret
      exact ⟨rfl, HBc.out⟩
  · have b0 : (ev == 0) = false := by simpa using h0
    have HZ := HB3
    obtain ⟨wz, rfl⟩ : ∃ wz, wz = w3 := ⟨_, rfl⟩
    clear h0 HOK HB3
    go_wp2_with fail
    rw [HNN.out]
    refine (Read_any b A1 c1 wz (Kd.C_below HR1.out HZ.out) HC1.out HBY.out (by have := HN1.out; omega)).mono ?_
    rintro e wa (⟨x, Aa, ca, hs, rfl, hca, hCa, hba⟩ | ⟨x, rs, en, hs, hde, hrs, rfl, hba⟩)
    · have HBa : Hid (Below w.heap.size w wa) := HZ.out.trans (hba.mono HZ.out.size)
      have hsf := steps_forth HBY.out hs
      have HEE := Lib.hid hsf.1
      have HXB : Hid (b = bytL x) := hsf.2.trans (List.append_nil _)
      have HFX : Hid (∀ y ∈ x, Fine y) := fun y hy => fine_err (HEE.out y hy) (by have := steps_lens hs y hy; have := HN1.out; omega) (by have := steps_lens hs y hy; have := HN1.out; omega)
      have HLX : Hid (x.length ≤ 10000) := by have := hs.len; have := HN1.out; show x.length ≤ 10000; omega
      have HCa := Lib.hid hCa
      obtain ⟨nx, hnx⟩ : ∃ nx, nx = x.length := ⟨_, rfl⟩
      have HNX := Lib.hid hnx
      rw [← hnx]
      have HN := Lib.hid HNN.out
      clear hsf hs hca hCa hba hnx
      go_wp2_with fail
      rw [HNX.out]
      refine (Write_any x Aa ca wa HCa.out HLX.out HFX.out).mono ?_
      rintro e wb hwb
      obtain ⟨Ab, nb, cb, eb, rfl, hbb, heb, hokb, _⟩ := WOut_of hwb
      have hE : errL x = 0 := errL_zero HEE.out
      obtain rfl : eb = 0 := heb.trans hE
      obtain ⟨e1, _, hCb⟩ := hokb hE
      have HBb : Hid (Below w.heap.size w wb) := HBa.out.trans (hbb.mono HBa.out.size)
      rw [← HXB.out] at e1 hCb
      obtain rfl : nb = n := e1.trans HNN.out.symm
      have s1 := Kd.C_string (P := Try.prog) (src := 24) (dst := 9) (c := cb) Try.underlying24 Try.underlying5 Try.underlying9 hCb
      have s2 := Kd.C_string (P := Try.prog) (src := 24) (dst := 9) (c := c1) Try.underlying24 Try.underlying5 Try.underlying9 (Kd.C_below HR1.out HBb.out)
      rw [← HNN.out] at s1
      generalize strOfNums b = sb at *
      clear hwb hbb heb hokb hE e1 hCb
      go_wp2_with fail
      refine (awake_any wb).mono ?_
      rintro e wc ⟨rfl, hbc⟩
      have HBc : Hid (Below w.heap.size w wc) := HBb.out.trans (hbc.mono HBb.out.size)
      clear hbc s1 s2
      go_wp2_with fail
      go_ret
      exact ⟨rfl, HBc.out⟩
    · have HBa : Hid (Below w.heap.size w wa) := HZ.out.trans (hba.mono HZ.out.size)
      have e0 : (en == 0) = false := by rcases dec_err hde with rfl | rfl <;> rfl
      clear hs hde hrs hba
      go_wp2_with fail
      refine (awake_any wa).mono ?_
      rintro e wc ⟨rfl, hbc⟩
      have HBc : Hid (Below w.heap.size w wc) := HBa.out.trans (hbc.mono HBa.out.size)
      clear hbc
      go_wp2_with fail
      go_ret
      exact ⟨rfl, HBc.out⟩
theorem walk (w : World) (A0 : Option Addr) (c0 : Nat) (l0 : List (S33)) (hr0 : Kd.C k33 w A0 l0.length l0) (hc0 : l0.length ≤ c0) (w0 : (∀ e ∈ l0, w33 e)) (A1 : Option Addr) (c1 : Nat) (l1 : List (Int)) (hr1 : Kd.C (Kd.int .u8) w A1 l1.length l1) (hc1 : l1.length ≤ c1) (w1 : (∀ e ∈ l1, (Lit.int .u8 e).wf = true)) :
    Calls Try.prog 6 #[.slice A0 l0.length c0, .slice A1 l1.length c1] w fun e w' => e = .returned (.bool true) ∧ Below w.heap.size w w' := by
  obtain ⟨k, b, hf, hl⟩ := light_f l0
  cases b with
  | false => exact walk_no w A0 A1 c0 c1 _ k l0 hr0 hc0 hf
  | true =>
    by_cases hn : l1.length ≤ 3000
    · exact walk_yes w A0 A1 c0 c1 k l0 l1 hr0 hc0 w0 hf (hl rfl).1 (hl rfl).2 hr1 hc1 (byts_of w1) hn
    · exact walk_long w A0 A1 c0 c1 _ k l0 hr0 hc0 hf (by omega)
end Go.Proofs.Ythnefjkpjhfkgaa.RScriptBack
