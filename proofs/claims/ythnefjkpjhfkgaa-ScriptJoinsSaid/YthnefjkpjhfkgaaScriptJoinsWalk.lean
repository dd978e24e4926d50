/- The walk of haymowlaw18.ScriptJoins: it returns true and turns nothing that was there, for every argument that can be read. -/
import Derived.Test.YthnefjkpjhfkgaaScriptWritesWalk
import Derived.Test.YthnefjkpjhfkgaaScriptJoinsK
namespace Go.Proofs.Ythnefjkpjhfkgaa.RScriptJoins
open Go.RowKit Go.Proofs.YthnefjkpjhfkgaaW.PrintWords Go.Proofs.YthnefjkpjhfkgaaW.PrintMore Go.Proofs.Ythnefjkpjhfkgaa.PScriptWrites Go.Proofs.Ythnefjkpjhfkgaa.KScriptJoins Go.Proofs.Ythnefjkpjhfkgaa.Core Go.Proofs.Ythnefjkpjhfkgaa.RScriptWrites
set_option linter.unusedVariables false
set_option linter.unusedSimpArgs false

/-- What Write comes to, as a row, an error, bytes. -/
def WOut (w : World) (m : List S47) (e : Ending) (w' : World) : Prop :=
  ∃ A n c ev, e = .returned (.tuple #[.slice A n c, .int .i64 ev]) ∧ Below w.heap.size w w' ∧ ev = errL m ∧ (errL m = 0 → n = (bytL m).length ∧ n ≤ c ∧ Kd.C (Kd.int .u8) w' A (bytL m).length (bytL m)) ∧ (errL m ≠ 0 → n = 0)
theorem WOut_of {w w' : World} {m : List S47} {e : Ending} (h : bodyOf w m e w') : WOut w m e w' := by
  rcases h with ⟨h0, v, rfl, hr, hb⟩ | ⟨h0, rfl, hb⟩
  · obtain ⟨A, c, rfl, hc, hC⟩ := Kd.R_reads hr
    exact ⟨A, _, c, 0, rfl, hb, h0.symm, fun _ => ⟨rfl, hc, hC⟩, fun h => absurd h0 h⟩
  · exact ⟨none, 0, 0, _, rfl, hb, rfl, fun h => absurd h h0, fun _ => rfl⟩
theorem errL_app0 (a b : List S47) (h : errL a = 0) : errL (a ++ b) = errL b := by
  induction a with
  | nil => rfl
  | cons x a ih =>
    have e : errL (x :: a) = if errOf x = 0 then errL a else errOf x := rfl
    have e2 : errL (x :: a ++ b) = if errOf x = 0 then errL (a ++ b) else errOf x := rfl
    rw [e2]
    rw [e] at h
    by_cases hx : errOf x = 0
    · rw [if_pos hx] at h ⊢
      exact ih h
    · rw [if_neg hx] at h
      exact absurd h hx
theorem errL_app1 (a b : List S47) (h : errL a ≠ 0) : errL (a ++ b) = errL a := by
  induction a with
  | nil => exact absurd rfl h
  | cons x a ih =>
    have e : errL (x :: a) = if errOf x = 0 then errL a else errOf x := rfl
    have e2 : errL (x :: a ++ b) = if errOf x = 0 then errL (a ++ b) else errOf x := rfl
    rw [e2, e]
    rw [e] at h
    by_cases hx : errOf x = 0
    · rw [if_pos hx] at h
      rw [if_pos hx, if_pos hx]
      exact ih h
    · rw [if_neg hx, if_neg hx]
theorem strOfNums_app (a b : List Int) : strOfNums (a ++ b) = strOfNums a ++ strOfNums b := by
  apply ByteArray.ext
  simp [strOfNums]
theorem bytL_app (a b : List S47) : bytL (a ++ b) = bytL a ++ bytL b := by simp [bytL]

set_option maxHeartbeats 1000000 in
theorem walk_no1 (w : World) (A0 A1 : Option Addr) (c0 c1 k : Nat) (a b : List S33) (hr : Kd.C k33 w A0 a.length a) (hc : a.length ≤ c0) (hf : haymowlaw18_light.f k a = some false) :
    Calls Try.prog 4 #[.slice A0 a.length c0, .slice A1 b.length c1] w fun e w' => e = .returned (.bool true) ∧ Below w.heap.size w w' := by
  have H := Lib.hid (haymowlaw18_light.calls k A0 c0 a false w hr hc hf)
  clear hr hf
  go_enter Try.func4, Try.ntmps4
  go_wp2_with fail
  refine H.out.mono ?_
  rintro e w1 ⟨rfl, hd⟩
  have hb := Lib.hid hd.below
  clear hd
  go_wp2
  go_ret
  exact ⟨rfl, hb.out⟩
set_option maxHeartbeats 1000000 in
theorem walk_no2 (w : World) (A0 A1 : Option Addr) (c0 c1 k k2 : Nat) (a b : List S33) (hr : Kd.C k33 w A0 a.length a) (hc : a.length ≤ c0) (hf : haymowlaw18_light.f k a = some true) (hr1 : Kd.C k33 w A1 b.length b) (hc1 : b.length ≤ c1) (hf1 : haymowlaw18_light.f k2 b = some false) :
    Calls Try.prog 4 #[.slice A0 a.length c0, .slice A1 b.length c1] w fun e w' => e = .returned (.bool true) ∧ Below w.heap.size w w' := by
  have H := Lib.hid (haymowlaw18_light.calls k A0 c0 a true w hr hc hf)
  have HR := Lib.hid hr1
  have HF := Lib.hid hf1
  clear hr hf hr1 hf1
  go_enter Try.func4, Try.ntmps4
  go_wp2_with fail
  refine H.out.mono ?_
  rintro e w1 ⟨rfl, hd⟩
  have hb := Lib.hid hd.below
  clear hd
  go_wp2_with fail
  refine (haymowlaw18_light.calls k2 A1 c1 b false w1 (Kd.C_below HR.out hb.out) hc1 HF.out).mono ?_
  rintro e w2 ⟨rfl, hd⟩
  have hb2 := Lib.hid (hb.out.trans (hd.below.mono hb.out.size))
  clear hd
  go_wp2
  go_ret
  exact ⟨rfl, hb2.out⟩

set_option maxHeartbeats 4000000 in
set_option maxRecDepth 100000 in
theorem walk_yes (w : World) (A0 A1 : Option Addr) (c0 c1 k k2 : Nat) (a b : List S33) (hr : Kd.C k33 w A0 a.length a) (hc : a.length ≤ c0) (hw : ∀ e ∈ a, w33 e) (hf : haymowlaw18_light.f k a = some true) (hn : a.length ≤ 60) (hl : ∀ x ∈ a, x.f4.length ≤ 300 ∧ x.f5.length ≤ 300)
    (hr1 : Kd.C k33 w A1 b.length b) (hc1 : b.length ≤ c1) (hw1 : ∀ e ∈ b, w33 e) (hf1 : haymowlaw18_light.f k2 b = some true) (hn1 : b.length ≤ 60) (hl1 : ∀ x ∈ b, x.f4.length ≤ 300 ∧ x.f5.length ≤ 300) :
    Calls Try.prog 4 #[.slice A0 a.length c0, .slice A1 b.length c1] w fun e w' => e = .returned (.bool true) ∧ Below w.heap.size w w' := by
  have H := Lib.hid (haymowlaw18_light.calls k A0 c0 a true w hr hc hf)
  have HR := Lib.hid hr
  have HR1 := Lib.hid hr1
  have HLI := Lib.hid hf1
  obtain ⟨m, HF, HO, HML⟩ : ∃ m, Hid (∀ x ∈ m, Fine x) ∧ Hid (haymowlaw18_of.f (a.length + 1) a = some m) ∧ Hid (m.length ≤ 60) := ⟨_, fine_of hw hl, of_f a hn, by show (a.map cv).length ≤ 60; rw [List.length_map]; exact hn⟩
  obtain ⟨m1, HF1, HO1, HML1⟩ : ∃ m, Hid (∀ x ∈ m, Fine x) ∧ Hid (haymowlaw18_of.f (b.length + 1) b = some m) ∧ Hid (m.length ≤ 60) := ⟨_, fine_of hw1 hl1, of_f b hn1, by show (b.map cv).length ≤ 60; rw [List.length_map]; exact hn1⟩
  clear hr hf hw hl hr1 hf1 hw1 hl1 hn hn1
  go_enter Try.func4, Try.ntmps4
  go_wp2_with fail
  refine H.out.mono ?_
  rintro e wa ⟨rfl, hd⟩
  have BA : Hid (Below w.heap.size w wa) := hd.below
  clear hd H
  go_wp2_with fail
  refine (haymowlaw18_light.calls k2 A1 c1 b true wa (Kd.C_below HR1.out BA.out) hc1 HLI.out).mono ?_
  rintro e wb ⟨rfl, hd⟩
  have BB : Hid (Below w.heap.size w wb) := BA.out.trans (hd.below.mono BA.out.size)
  clear hd HLI BA
  go_wp2_with fail
  refine (haymowlaw18_of.calls _ (fun _ => True) A0 c0 a m wb (V_of_C (Kd.C_below HR.out BB.out) hc _) HO.out).mono ?_
  rintro e wc ⟨v, rfl, hv, hb⟩
  obtain ⟨A2, c2, rfl, hc2, hr2⟩ := Kd.N_reads hv
  have HR2 := Lib.hid hr2
  have BC : Hid (Below w.heap.size w wc) := BB.out.trans (hb.mono BB.out.size)
  clear hv hb hr2 BB
  go_wp2_with fail
  refine (Write_any m A2 c2 wc HR2.out (by have := HML.out; omega) HF.out).mono ?_
  rintro e wd hwd
  obtain ⟨Ax, nx, cx, ex, rfl, hbx, hex, hokx, hnox⟩ := WOut_of hwd
  have BD : Hid (Below w.heap.size w wd) := BC.out.trans (hbx.mono BC.out.size)
  have EX := Lib.hid hex
  have OKX := Lib.hid hokx
  clear hwd hbx hex hokx hnox BC HR2
  go_wp2_with fail
  refine (haymowlaw18_of.calls _ (fun _ => True) A1 c1 b m1 wd (V_of_C (Kd.C_below HR1.out BD.out) hc1 _) HO1.out).mono ?_
  rintro e we ⟨v, rfl, hv, hb⟩
  obtain ⟨A3, c3, rfl, hc3, hr3⟩ := Kd.N_reads hv
  have HR3 := Lib.hid hr3
  have OKX2 : Hid (errL m = 0 → nx = (bytL m).length ∧ nx ≤ cx ∧ Kd.C (Kd.int .u8) we Ax (bytL m).length (bytL m)) := fun h => ⟨(OKX.out h).1, (OKX.out h).2.1, Kd.C_below (OKX.out h).2.2 hb⟩
  have BE : Hid (Below w.heap.size w we) := BD.out.trans (hb.mono BD.out.size)
  clear hv hb hr3 BD OKX
  go_wp2_with fail
  refine (Write_any m1 A3 c3 we HR3.out (by have := HML1.out; omega) HF1.out).mono ?_
  rintro e wf hwf
  obtain ⟨Ay, ny, cy, ey, rfl, hby, hey, hoky, hnoy⟩ := WOut_of hwf
  have OKX3 : Hid (errL m = 0 → nx = (bytL m).length ∧ nx ≤ cx ∧ Kd.C (Kd.int .u8) wf Ax (bytL m).length (bytL m)) := fun h => ⟨(OKX2.out h).1, (OKX2.out h).2.1, Kd.C_below (OKX2.out h).2.2 hby⟩
  have BF : Hid (Below w.heap.size w wf) := BE.out.trans (hby.mono BE.out.size)
  have EY := Lib.hid hey
  have OKY := Lib.hid hoky
  clear hwf hby hey hoky hnoy BE HR3 OKX2
  have VA : Hid (Kd.V k33 33 wf wf.heap.size (fun k => True ∧ k < wf.heap.size) (.slice A0 a.length c0) a) := Kd.V_bound (V_of_C (Kd.C_below HR.out BF.out) hc _)
  have VB : Hid (Kd.V k33 33 wf wf.heap.size (fun k => True ∧ k < wf.heap.size) (.slice A1 b.length c1) b) := Kd.V_bound (V_of_C (Kd.C_below HR1.out BF.out) hc1 _)
  go_wp2_with fail
  refine (haymowlaw18_of.calls _ _ A0 c0 a m wf VA.out HO.out).mono ?_
  rintro e wg ⟨v4, rfl, hv4, hb4⟩
  have BG : Hid (Below w.heap.size w wg) := BF.out.trans (hb4.mono BF.out.size)
  have N4 := Lib.hid hv4
  have VB2 : Hid (Kd.V k33 33 wg wg.heap.size (fun k => True ∧ k < wf.heap.size) (.slice A1 b.length c1) b) := Kd.V_below VB.out hb4
  have B4 : Hid (Below wf.heap.size wf wg) := hb4
  have hzg := hb4.size
  clear hb4 hv4 VA VB
  go_wp2_with fail
  refine (haymowlaw18_of.calls _ _ A1 c1 b m1 wg VB2.out HO1.out).mono ?_
  rintro e wh ⟨v5, rfl, hv5, hb5⟩
  have N4b := Lib.hid (Kd.N_below N4.out hb5)
  have N4lt := Lib.hid (Kd.N_lt N4.out)
  have N4ge := Lib.hid (Kd.N_base N4.out)
  obtain ⟨A5, c5, rfl⟩ := Kd.N_slice hv5
  have N5 := Lib.hid (Kd.N_F hv5)
  have B5 : Hid (Below wf.heap.size wf wh) := B4.out.trans (hb5.mono B4.out.size)
  have hzh := hb5.size
  clear hb5 hv5 VB2 BG N4
  go_wp2_with ((with_reducible refine gate_builtin (b := .append) (xs := #[.tmp 33, .tmp 35]) rfl ?_); at_builtin; refine Kd.N_append_rows k47 (w0 := wf) wf.heap.size rfl (.tmp 33) (.tmp 35) 28 47 (.agg #[.int .i64 0, .int .i64 0, .int .i64 0, .int .i64 0, .slice none 0 0, .slice none 0 0]) 80 rfl Try.underlying28 info47 rfl (by decide) (by omega) v4 m m1 A5 m1.length c5 (fun _ => True) (fun k => (True ∧ k < wf.heap.size) ∨ wg.heap.size ≤ k) rfl rfl ?aO ?aR ?aP ?aF ?aB ?aS ?aL ?_; skip)
  case aO => exact Kd.N_mono N4b.out (fun _ _ => trivial)
  case aR => exact N5.out
  case aP =>
    intro k hk
    refine ⟨trivial, fun he => ?_⟩
    have h1 := N4ge.out k he.symm
    have h2 := N4lt.out k he.symm
    omega
  case aF => exact fun _ _ => trivial
  case aB => exact B5.out
  case aS => exact B5.out.size
  case aL => have := HML.out; have := HML1.out; omega
  intro v6 wi hN hb hg hat
  have OX : Hid (errL m = 0 → nx = (bytL m).length ∧ nx ≤ cx ∧ Kd.C (Kd.int .u8) wi Ax (bytL m).length (bytL m)) := fun h => ⟨(OKX3.out h).1, (OKX3.out h).2.1, Kd.C_below (OKX3.out h).2.2 hb⟩
  have OY : Hid (errL m1 = 0 → ny = (bytL m1).length ∧ ny ≤ cy ∧ Kd.C (Kd.int .u8) wi Ay (bytL m1).length (bytL m1)) := fun h => ⟨(OKY.out h).1, (OKY.out h).2.1, Kd.C_below (OKY.out h).2.2 hb⟩
  have BI : Hid (Below w.heap.size w wi) := BF.out.trans (hb.mono BF.out.size)
  obtain ⟨mm, hmm⟩ : ∃ mm, m ++ m1 = mm := ⟨_, rfl⟩
  rw [hmm] at hN
  obtain ⟨A6, c6, rfl, hc6, hr6⟩ := Kd.N_reads hN
  have HMM := Lib.hid hmm
  have HR6 := Lib.hid hr6
  clear hr6 hN hb hg hat hzh hzg N4b N4lt N4ge N5 B4 B5 OKX3 OKY BF HR HR1 hmm
  go_wp2_with fail
  refine (Write_any mm A6 c6 wi HR6.out (by have := HML.out; have := HML1.out; rw [← HMM.out, List.length_append]; omega) (fun x hx => by rcases List.mem_append.1 (HMM.out.symm ▸ hx) with h | h; exact HF.out x h; exact HF1.out x h)).mono ?_
  rintro e wj hwj
  obtain ⟨Az, nz, cz, ez, rfl, hbz, hez, hokz, hnoz⟩ := WOut_of hwj
  have BJ : Hid (Below w.heap.size w wj) := BI.out.trans (hbz.mono BI.out.size)
  have OX2 : Hid (errL m = 0 → nx = (bytL m).length ∧ nx ≤ cx ∧ Kd.C (Kd.int .u8) wj Ax (bytL m).length (bytL m)) := fun h => ⟨(OX.out h).1, (OX.out h).2.1, Kd.C_below (OX.out h).2.2 hbz⟩
  have OY2 : Hid (errL m1 = 0 → ny = (bytL m1).length ∧ ny ≤ cy ∧ Kd.C (Kd.int .u8) wj Ay (bytL m1).length (bytL m1)) := fun h => ⟨(OY.out h).1, (OY.out h).2.1, Kd.C_below (OY.out h).2.2 hbz⟩
  have EZ := Lib.hid hez
  have OZ := Lib.hid hokz
  have NZ := Lib.hid hnoz
  have LEN : Hid (errL m = 0 → errL m1 = 0 → (bytL m).length + (bytL m1).length ≤ 9223372036854775807) := fun q0 q1 => by
    have := bytL_len (errL_mem q0) HF.out
    have := bytL_len (errL_mem q1) HF1.out
    have := HML.out
    have := HML1.out
    omega
  clear hwj hbz hez hokz hnoz OX OY BI HR6 HF HF1 HO HO1 HML HML1
  by_cases hx0 : errL m = 0
  · have ex0 : ex = 0 := EX.out.trans hx0
    by_cases hy0 : errL m1 = 0
    · have ey0 : ey = 0 := EY.out.trans hy0
      have ez1 : errL mm = 0 := HMM.out ▸ (errL_app0 m m1 hx0).trans hy0
      have ez0 : ez = 0 := EZ.out.trans ez1
      obtain ⟨h1, h2, h3⟩ := OX2.out hx0
      obtain ⟨h4, h5, h6⟩ := OY2.out hy0
      obtain ⟨h7, h8, h9⟩ := OZ.out ez1
      rw [← h1] at h3
      rw [← h4] at h6
      rw [← h7] at h9
      have hsx := Kd.C_string (P := Try.prog) (src := 24) (dst := 9) (c := cx) Try.underlying24 Try.underlying5 Try.underlying9 h3
      have hsy := Kd.C_string (P := Try.prog) (src := 24) (dst := 9) (c := cy) Try.underlying24 Try.underlying5 Try.underlying9 h6
      have hsz := Kd.C_string (P := Try.prog) (src := 24) (dst := 9) (c := cz) Try.underlying24 Try.underlying5 Try.underlying9 h9
      rw [← HMM.out, bytL_app, strOfNums_app] at hsz
      have hsum : (strOfNums (bytL m)).size + (strOfNums (bytL m1)).size ≤ 9223372036854775807 := by
        have q1 : ∀ l, (strOfNums l).size = l.length := fun l => by simp [strOfNums, ByteArray.size]
        rw [q1, q1]
        exact LEN.out hx0 hy0
      have hadd : ∀ W, (Op.stringOp .add (strOfNums (bytL m)) (strOfNums (bytL m1))).run Try.prog W = .ok (.string (strOfNums (bytL m) ++ strOfNums (bytL m1))) W := fun W => run_string_add_sum W _ _ hsum
      clear hsum
      generalize strOfNums (bytL m) = sx at hsx hsz hadd
      generalize strOfNums (bytL m1) = sy at hsy hsz hadd
      have e0 : (((0 : Int) == 0) = true) := rfl
      have e1 : (((0 : Int) != 0) = false) := rfl
      have e2 : (((sx ++ sy).toList == (sx ++ sy).toList) = true) := by simp
      clear h1 h2 h3 h4 h5 h6 h7 h8 h9 EX EY EZ OX2 OY2 OZ NZ hx0 hy0 ez1
      subst ex0 ey0 ez0
      go_wp2_with fail
      refine (awake_any wj).mono ?_
      rintro e wk ⟨rfl, hbk⟩
      have BK : Hid (Below w.heap.size w wk) := BJ.out.trans (hbk.mono BJ.out.size)
      clear hbk
      go_wp2
      go_ret
      exact ⟨rfl, BK.out⟩
    · have ez1 : errL mm = errL m1 := HMM.out ▸ errL_app0 m m1 hx0
      have ez0 : ez = ey := (EZ.out.trans ez1).trans EY.out.symm
      have hy1 : ey ≠ 0 := fun h => hy0 (EY.out.symm.trans h)
      have hnz : nz = 0 := NZ.out (by rw [ez1]; exact hy0)
      have e0 : (((0 : Int) == 0) = true) := rfl
      have e1 : (((0 : Int) != 0) = false) := rfl
      have e2 : ((ey != 0) = true) := by simpa using hy1
      have e3 : ((ey == 0) = false) := by simpa using hy1
      have e4 : ((ey == ey) = true) := by simp
      clear EX EY EZ OX2 OY2 OZ NZ hx0 hy0 ez1 hy1
      subst ex0 ez0 hnz
      go_wp2_with fail
      refine (awake_any wj).mono ?_
      rintro e wk ⟨rfl, hbk⟩
      have BK : Hid (Below w.heap.size w wk) := BJ.out.trans (hbk.mono BJ.out.size)
      clear hbk
      go_wp2
      go_ret
      exact ⟨rfl, BK.out⟩
  · have ez1 : errL mm = errL m := HMM.out ▸ errL_app1 m m1 hx0
    have ez0 : ez = ex := (EZ.out.trans ez1).trans EX.out.symm
    have hx1 : ex ≠ 0 := fun h => hx0 (EX.out.symm.trans h)
    have hnz : nz = 0 := NZ.out (by rw [ez1]; exact hx0)
    have e0 : (((0 : Int) == 0) = true) := rfl
    have e1 : (((0 : Int) != 0) = false) := rfl
    have e2 : ((ex != 0) = true) := by simpa using hx1
    have e3 : ((ex == 0) = false) := by simpa using hx1
    have e4 : ((ex == ex) = true) := by simp
    clear EX EY EZ OX2 OY2 OZ NZ hx0 ez1 hx1
    subst ez0 hnz
    go_wp2_with fail
    refine (awake_any wj).mono ?_
    rintro e wk ⟨rfl, hbk⟩
    have BK : Hid (Below w.heap.size w wk) := BJ.out.trans (hbk.mono BJ.out.size)
    clear hbk
    go_wp2
    go_ret
    exact ⟨rfl, BK.out⟩

theorem walk (w : World) (A0 : Option Addr) (c0 : Nat) (a : List S33) (hr : Kd.C k33 w A0 a.length a) (hc : a.length ≤ c0) (hw : ∀ e ∈ a, w33 e)
    (A1 : Option Addr) (c1 : Nat) (b : List S33) (hr1 : Kd.C k33 w A1 b.length b) (hc1 : b.length ≤ c1) (hw1 : ∀ e ∈ b, w33 e) :
    Calls Try.prog 4 #[.slice A0 a.length c0, .slice A1 b.length c1] w fun e w' => e = .returned (.bool true) ∧ Below w.heap.size w w' := by
  obtain ⟨k, x, hf, hl⟩ := light_f a
  obtain ⟨k2, y, hf2, hl2⟩ := light_f b
  cases x with
  | false => exact walk_no1 w A0 A1 c0 c1 k a b hr hc hf
  | true =>
    cases y with
    | false => exact walk_no2 w A0 A1 c0 c1 k k2 a b hr hc hf hr1 hc1 hf2
    | true => exact walk_yes w A0 A1 c0 c1 k k2 a b hr hc hw hf (hl rfl).1 (hl rfl).2 hr1 hc1 hw1 hf2 (hl2 rfl).1 (hl2 rfl).2
end Go.Proofs.Ythnefjkpjhfkgaa.RScriptJoins
