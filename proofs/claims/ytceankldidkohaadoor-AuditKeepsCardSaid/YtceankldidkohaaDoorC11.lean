/- audit.Did: the loop. -/
import Derived.Test.YtceankldidkohaaDoorC10
namespace Go.Proofs.YtceankldidkohaaDoor.Core
open Go.RowKit Go.Maps Go.ChangeMaps Go.WideMaps Go.WideAt Go.Proofs.YtceankldidkohaaDoorW.PrintWords Go.Proofs.YtceankldidkohaaDoorW.PrintMore Go.Proofs.YtceankldidkohaaDoor.PAuditTwice Go.Proofs.YtceankldidkohaaDoor
set_option linter.unusedVariables false
set_option linter.unusedSimpArgs false
/-- The state behind so many events. -/
structure Ad (w X : World) (job : Int) (v : Value) (out : List S40) (n : Nat) : Prop where
  below : Below w.heap.size w X
  mp : ∃ D : DataW Unit, X.ownsMap Tryd.prog 9 (plainElem Tryd.prog 3) w.heap.size n D ∧ Mk D job out
  row : Kd.N k40 38 X w.heap.size (fun q => q ≠ w.heap.size) v out
  small : ∀ x ∈ out, x.f0.length ≤ 1000000
  lt : w.heap.size < X.heap.size
theorem Ad.start (w : World) (job : Int) : Ad w (w.alloc (.map #[] 0)) job (.slice none 0 0) [] 0 :=
  ⟨(Below.refl _ _).alloc (Nat.le_refl _) _, ⟨.map [], World.ownsMap_made _ _ _ _, Mk.start job⟩, Kd.N_nil _ _ _ _ _, (fun x hx => by cases hx), by simp⟩
theorem Ad.keep {w X X' : World} {job : Int} {v : Value} {out : List S40} {n : Nat} (h : Ad w X job v out n) (hb : Below X.heap.size X X') : Ad w X' job v out n := by
  obtain ⟨D, h1, h2⟩ := h.mp
  exact ⟨below_lower h.below hb, ⟨D, h1.kept (grown_of_below hb none) (by simp), h2⟩, Kd.N_below h.row hb, h.small, Nat.lt_of_lt_of_le h.lt hb.size⟩
theorem at_G28 {w : World} {ok : Nat → Prop} {A : Option Addr} {n : Nat} {xs : List S28} (h : Kd.F k28 w ok A n xs) (i : Int) (h0 : 0 ≤ i) (h1 : i < n) : ∃ ad A2 c2, A = some ad ∧ w.cell? (ad.add (i.toNat * 3)) = some (.int .i64 (rd_T28 xs i).f0) ∧ w.cell? ⟨(ad.add (i.toNat * 3)).block, (ad.add (i.toNat * 3)).off + 1, none⟩ = some (.int .i64 (rd_T28 xs i).f1) ∧ w.cell? ⟨(ad.add (i.toNat * 3)).block, (ad.add (i.toNat * 3)).off + 2, none⟩ = some (.slice A2 (rd_T28 xs i).f2.length c2) ∧ (rd_T28 xs i).f2.length ≤ c2 ∧ Kd.F (Kd.int .i64) w ok A2 (rd_T28 xs i).f2.length (rd_T28 xs i).f2 := by
  obtain ⟨ad, c, e, _, hK, hc0, _⟩ := Kd.F_get h z28 i h0 h1
  have hc : ∀ j u, c[j]? = some u → w.cell? (ad.add (i.toNat * 3 + j)) = some u := hc0
  obtain ⟨A2, c2, rfl, l2, g2⟩ := k28_openF hK
  exact ⟨ad, A2, c2, e, hc 0 _ rfl, by rw [← add_field _ _ 1 (by omega)]; exact hc 1 _ rfl, by rw [← add_field _ _ 2 (by omega)]; exact hc 2 _ rfl, l2, g2⟩
theorem Ad.head {w X : World} {job : Int} {ad : Addr} {cap n : Nat} {out : List S40} (h : Ad w X job (.slice (some ad) out.length cap) out n) (hp : 0 < out.length) : ∃ g, ad = ⟨g, 0, none⟩ := by
  obtain ⟨g, cap', e, _⟩ := Kd.N_form h.row hp
  injection e with e
  injection e with e
  exact ⟨g, e⟩
theorem Ad.froz {w X : World} {job : Int} {ad : Addr} {cap n p : Nat} {out : List S40} (h : Ad w X job (.slice (some ad) out.length cap) out n) (hp : p < out.length) : X.frozen? ⟨(ad.add (p * 2)).block, (ad.add (p * 2)).off + 1, none⟩ = false := by
  obtain ⟨g, rfl⟩ := h.head (by omega)
  obtain ⟨c, hcl, hK, hcc, hfr⟩ := Kd.N_elem h.row z40 (p : Int) (by omega) (by omega)
  have := hfr 1
  rw [add_at, Nat.zero_add]
  simp only [Int.toNat_natCast] at this
  exact this
theorem Ad.inc {w X : World} {job : Int} {ad : Addr} {cap n p : Nat} {out : List S40} (h : Ad w X job (.slice (some ad) out.length cap) out n) (hp : p < out.length) (u : Int) :
    Ad w (X.setCell ⟨(ad.add (p * 2)).block, (ad.add (p * 2)).off + 1, none⟩ (.int .i64 u)) job (.slice (some ad) out.length cap) (out.set p ⟨out[p].f0, u⟩) n := by
  obtain ⟨g, rfl⟩ := h.head (by omega)
  obtain ⟨c, hcl, hK, hcc, _⟩ := Kd.N_elem h.row z40 (p : Int) (by omega) (by omega)
  simp only [Int.toNat_natCast] at hcc hK
  have hx : out.getD p z40 = out[p] := by simp [List.getD, List.getElem?_eq_getElem hp]
  rw [hx] at hK
  obtain ⟨A0, c0, rfl, l0, g0⟩ := k40_openF hK
  have hbase := Kd.N_base h.row g (by simp [Value.ownBlock])
  have hgw : g ≠ w.heap.size := h.row.1 g (by simp [Value.ownBlock])
  obtain ⟨h1, h2⟩ := Kd.N_seg h.row (p : Int) (by omega) (by omega) (c := [.slice A0 out[p].f0.length c0, .int .i64 out[p].f1]) (seg := [.int .i64 u]) (j := 1) hcl hcc (show (2 : Nat) ≤ 2 by omega) (x' := ⟨out[p].f0, u⟩) (okp := fun k => k ≠ w.heap.size ∧ k ≠ g) (k40_mkF X _ ⟨out[p].f0, u⟩ l0 g0) (fun k hk => hk)
  simp only [Int.toNat_natCast] at h1 h2
  have e : (X.setCell ⟨((⟨g, 0, none⟩ : Addr).add (p * 2)).block, ((⟨g, 0, none⟩ : Addr).add (p * 2)).off + 1, none⟩ (.int .i64 u)) = X.setCells g (p * k40.sz + 1) [.int .i64 u] := by
    rw [add_at, Nat.zero_add]
    rfl
  rw [e]
  obtain ⟨D, d1, d2⟩ := h.mp
  refine ⟨h.below.grown h2 h.below.size (fun k hk => by injection hk with hk; omega), ⟨D, d1.kept h2 (by simp; omega), d2.set hp u⟩, h1, fun x hx => ?_, Nat.lt_of_lt_of_le h.lt h2.size⟩
  rcases List.mem_or_eq_of_mem_set hx with hx | rfl
  · exact h.small x hx
  · exact h.small out[p] (List.getElem_mem hp)
set_option maxHeartbeats 4000000 in
set_option maxRecDepth 100000 in
theorem aDid_loop {w0 w : World} (T : Tab w0) (hW : Below w0.heap.size w0 w) (l : List S28) (A : Option Addr) (c : Nat) (job : Int) (hj : In64 job) (hF : Kd.F k28 w (fun q => q < w.heap.size) A l.length l) (hn : l.length ≤ 1000000) (hE : ∀ e ∈ l, Ev e)
    (hsort : ∀ X v n, Ad w X job v (rawF job [] l) n → Calls Tryd.prog 24 #[v, .func (.func 25) #[] #[]] X fun e W' => e = .returned (.tuple #[]) ∧ ∃ s, Kd.N k40 38 W' w.heap.size (fun _ => True) v s ∧ s.Perm (rawF job [] l) ∧ Asc s ∧ Below w.heap.size w W') :
    Calls Tryd.prog 13 #[.slice A l.length c, .int .i64 job] w fun e W' => ∃ v s, e = .returned v ∧ Kd.N k40 38 W' w.heap.size (fun _ => True) v s ∧ s.Perm (rawF job [] l) ∧ Asc s ∧ Below w.heap.size w W' := by
  have HF := Lib.hid hF
  have HE := Lib.hid hE
  have HT := Lib.hid T
  have HW := Lib.hid hW
  have HJ64 := Lib.hid hj
  have HSORT := Lib.hid hsort
  obtain ⟨n, hnn⟩ : ∃ n, n = l.length := ⟨_, rfl⟩
  have HN := Lib.hid hnn
  rw [← hnn] at hn ⊢
  have A0 := Lib.hid (Ad.start w job)
  have HZ := Lib.hid hW.size
  clear hF hE T hW hj hnn hsort
  have hmm := @run_makeMap Tryd.prog
  go_enter Tryd.func13, Tryd.ntmps13
  go_wp2_with fail
  clear hmm
  go_loopg [6, 15] n (fun k v6 v15 X => ∃ (j : Nat) (out : List S40), j + k = n ∧ v15 = .int .i64 j ∧ Hid (∃ m, m ≤ j ∧ Ad w X job v6 out m) ∧ Hid (rawF job out (l.drop j) = rawF job [] l) ∧ Hid (out.length ≤ j))
  case atStart => exact ⟨0, [], by omega, rfl, ⟨0, Nat.le_refl _, A0.out⟩, rfl, Nat.le_refl _⟩
  case round =>
    obtain ⟨j, out, hjk, rfl, hA, hS, hL⟩ := hrel
    have HK := Lib.hid hjk
    clear hjk A0
    obtain ⟨mm, hmj, hA⟩ := hA.out
    have HMJ := Lib.hid hmj
    have HA := Lib.hid hA
    clear hmj hA
    obtain ⟨X, hX⟩ : ∃ X, X = wr := ⟨_, rfl⟩
    subst hX
    by_cases hlt : j < n
    · have hl : j < l.length := by have := HN.out; omega
      have HLT := Lib.hid hlt
      obtain ⟨ad, A2, c2, hAd, i0, i1, i2, l2, rF⟩ := at_G28 HF.out (j : Int) (Int.natCast_nonneg j) (Int.ofNat_lt.2 hl)
      subst hAd
      have h0 := (HA.out.below.cell (block_lt_of_cell i0)).trans i0
      have h1 := (HA.out.below.cell (block_lt_of_cell i1)).trans i1
      have h2 := (HA.out.below.cell (block_lt_of_cell i2)).trans i2
      have r2 := Kd.C_below (Kd.F_now rF) HA.out.below
      clear i0 i1 i2
      have hx : rd_T28 l j = l[j] := by simp [rd_T28, List.getD, List.getElem?_eq_getElem hl]
      have hd : l.drop j = rd_T28 l j :: l.drop (j + 1) := by rw [hx]; exact List.drop_eq_getElem_cons hl
      have hEx := HE.out _ (List.getElem_mem hl)
      rw [← hx] at hEx
      clear hx
      generalize rd_T28 l j = x at *
      simp only [Int.toNat_natCast] at h0 h1 h2
      have HPF : Hid (Kd.F (Kd.int .i64) w (fun q => q < w.heap.size) A2 x.f2.length x.f2) := rF
      clear rF
      have HEX := Lib.hid hEx
      have HD' := Lib.hid hd
      have R2 := Lib.hid r2
      have L2 := Lib.hid l2
      clear hd hEx r2 l2
      have hnj : (j : Int) + 1 ≤ 1000000 := by omega
      have hbA : Hid (Below X.heap.size X (X.alloc (.cells #[.int .i64 x.f0, .int .i64 x.f1, .slice A2 x.f2.length c2] 28))) := (Below.refl _ _).alloc (Nat.le_refl _) _
      by_cases hj : x.f0 = job
      · have hb0 : (x.f0 != job) = false := by rw [hj]; simp
        have HJ := Lib.hid hj
        clear hj
        have HP2 : Hid (Kd.F (Kd.int .i64) w (fun q => q < w.heap.size) A2 x.f2.length x.f2) := HPF.out
        obtain ⟨A6, c6, hv6, hc6, hC6⟩ := Kd.N_reads HA.out.row
        obtain ⟨m6, hm6⟩ : ∃ m, m = out.length := ⟨_, rfl⟩
        rw [← hm6] at hv6 hc6
        subst hv6
        have HM6 := Lib.hid hm6
        have HC6 := Lib.hid hC6
        have HCC6 := Lib.hid hc6
        clear hm6 hC6 hc6
        go_wp2_with fail
        have hna := name_any HT.out (HW.out.trans ((below_lower HA.out.below hbA.out).mono HZ.out)) job HJ64.out x.f2 HEX.out.path HEX.out.len A2 c2 (Kd.C_below R2.out hbA.out)
        have HNA := Lib.hid hna
        clear hna
        refine HNA.out.mono ?_
        rintro e w2 ⟨rfl, hb2⟩
        have HX2 : Hid (Below X.heap.size X w2) := below_lower hbA.out hb2
        have HA2 : Hid (Ad w w2 job (.slice A6 m6 c6) out mm) := HA.out.keep HX2.out
        have q2 : w2.cell? ⟨X.heap.size, 2, none⟩ = some (.slice A2 x.f2.length c2) := by
          refine (hb2.cell (by simp)).trans ?_
          rw [World.cell?_alloc_new]
          rfl
        clear hb2 HNA h0 h1 h2
        obtain ⟨D, hown, hD⟩ := HA2.out.mp
        have HOWN := Lib.hid hown
        have HD := Lib.hid hD
        clear hown hD
        obtain ⟨s, hs⟩ : ∃ s, s = nm job x.f2 := ⟨_, rfl⟩
        have hsl : s.length ≤ 100000 := by have := nm_len HJ64.out HEX.out.path; have := HEX.out.len; rw [hs]; omega
        have HS := Lib.hid hs
        have HKY : Hid (keyOf Tryd.prog 9 (.string ⟨s.toArray⟩) = some (.string s)) := by
          have := keyOf_string_mk (P := Tryd.prog) (k := 9) (s := ⟨s.toArray⟩) Tryd.underlying9 (by simp [maxLen, ByteArray.size]; omega)
          show keyOf Tryd.prog 9 (.string ⟨s.toArray⟩) = some (.string s)
          simpa using this
        rw [← hs]
        clear hs hsl
        cases hpos : pos out x.f2 with
        | some i =>
          have HPOS := Lib.hid hpos
          have hhas : Maps.has D (.string s) = true := by rw [HS.out, HD.out.has, hpos]; rfl
          have hat0 : Hid (D.atKey (.string s) (.lit (.int .i64 0)) = .lit (.int .i64 i)) := by rw [HS.out]; exact HD.out.at_ _ _ hpos
          have hil : i < m6 := by rw [HM6.out]; exact (pos_lt hpos).1
          have HIL := Lib.hid hil
          clear hpos
          obtain ⟨a6, B0, d0, hA6, g0, g1, m0, q0⟩ := at_T40 (Kd.C_below HC6.out HX2.out) (i : Int) (Int.natCast_nonneg i) (by have := HM6.out; omega)
          subst hA6
          have hy : rd_T40 out i = out[i]'(HM6.out ▸ HIL.out) := rd40 (HM6.out ▸ HIL.out)
          generalize rd_T40 out i = y at *
          simp only [Int.toNat_natCast] at g0 g1
          have HY := Lib.hid hy
          have hfr : w2.frozen? ⟨(a6.add (i * 2)).block, (a6.add (i * 2)).off + 1, none⟩ = false := by
            have h := HA2.out
            rw [HM6.out] at h
            exact h.froz (HM6.out ▸ HIL.out)
          clear hy m0 q0
          go_wp2_with (first
            | (at_lookup; refine wpList_lookup_own_ok_int _ rfl _ _ 54 rfl 9 3 .i64 law9 Tryd.underlying54 Tryd.underlying3 (zero3 _) w.heap.size mm _ rfl HOWN.out _ _ rfl HKY.out ?_; intro c9 hat hwc; obtain rfl : c9 = (i : Int) := lit_inj (hat0.out.symm.trans hat); clear hat hwc; rw [hhas]))
          go_roundg (n - (j + 1))
          case measure => have := HK.out; have := HLT.out; omega
          case rel =>
            refine ⟨j + 1, out.set i ⟨y.f0, wrap64 (y.f1 + 1)⟩, by have := HLT.out; omega, by go_num, ⟨mm, by have := HMJ.out; omega, ?_⟩, ?_, ?_⟩
            · have h := HA2.out
              rw [HM6.out] at h ⊢
              have h := h.inc (HM6.out ▸ HIL.out) (wrap64 (y.f1 + 1))
              rw [← HY.out] at h
              exact h
            · show rawF job _ (l.drop (j + 1)) = _
              rw [← hS.out, HD'.out]
              show _ = if x.f0 = job then rawF job (addD out x.f2) (l.drop (j + 1)) else _
              rw [if_pos HJ.out, add_pos HPOS.out, ← HY.out]
            · show (out.set _ _).length ≤ _
              rw [List.length_set]
              have := hL.out
              omega
        | none =>
          have HPOS := Lib.hid hpos
          have hhas : Maps.has D (.string s) = false := by rw [HS.out, HD.out.has, hpos]; rfl
          clear hpos
          have hmb : mm ≤ 1000000 := by have := HMJ.out; omega
          have hm6b : m6 ≤ 1000000 := by have := HM6.out; have := hL.out; omega
          have hbl : Hid (w.heap.size < X.heap.size) := HA.out.lt
          have hxl2 : Hid (X.heap.size < w2.heap.size) := by
            show _ < _
            by_cases h : X.heap.size < w2.heap.size
            · exact h
            · have := World.block_lt_of_cell? w2 _ q2
              exact absurd this h
          go_wp2_with (first
            | (at_lookup; refine wpList_lookup_own_ok_int _ rfl _ _ 54 rfl 9 3 .i64 law9 Tryd.underlying54 Tryd.underlying3 (zero3 _) w.heap.size mm _ rfl HOWN.out _ _ rfl HKY.out ?_; intro c9 hat hwc; clear hat hwc; rw [hhas])
            | (at_mapUpdate; refine wpList_mapUpdate_own _ rfl _ _ _ 54 rfl 9 3 law9 Tryd.underlying54 _ w.heap.size mm _ rfl HOWN.out (by unfold maxLen; omega) _ _ _ rfl rfl HKY.out _ [] (plainElem_int Tryd.underlying3 (WalkArith.wf_i64 (by omega))) ?_; intro w3 hown3 hgrow3; have q3 : w3.cell? ⟨X.heap.size, 2, none⟩ = some (.slice A2 x.f2.length c2) := (by have e := hgrow3.block X.heap.size hxl2.out (by simp; have := hbl.out; omega); rw [← q2]; simp only [World.cell?, e]); have HOWN3 := Lib.hid hown3; have HG3 := Lib.hid hgrow3; clear hown3 hgrow3 q2))
          have HB3 : Hid (Below w.heap.size w w3) := HA2.out.below.grown HG3.out HA2.out.below.size (fun k hk => by injection hk with hk; omega)
          have HR3 : Hid (Kd.N k40 38 w3 w.heap.size (fun q => q ≠ w.heap.size) (.slice A6 m6 c6) out) := Kd.N_grown HA2.out.row HG3.out (fun q hq he => hq (by injection he))
          have HC3 : Hid ((Kd.int .i64).C w3 A2 x.f2.length x.f2) := Kd.F_now (Kd.F_step (Kd.F_bound (Kd.F_below HP2.out HA2.out.below)) (fun q hq hlt => HG3.out.block q hlt (by simp; have := hq.1; omega)))
          have hcl := clone_any (c := c2) (Nat.le_trans HEX.out.len (by omega)) HC3.out
          have HCLN := Lib.hid hcl
          clear hcl q3
          refine HCLN.out.mono ?_
          rintro e w4 ⟨A7, c7, rfl, h7, hF7, hb7⟩
          have HB4 : Hid (Below w.heap.size w w4) := below_lower HB3.out hb7
          have HR4 : Hid (Kd.N k40 38 w4 w.heap.size (fun q => q ≠ w.heap.size) (.slice A6 m6 c6) out) := Kd.N_below HR3.out hb7
          have HM4 : Hid (w4.ownsMap Tryd.prog 9 (plainElem Tryd.prog 3) w.heap.size (mm + 1) (D.put (.string s) (.lit (.int .i64 m6)))) := HOWN3.out.kept (grown_of_below hb7 none) (by simp)
          have HFK4 : Hid (Kd.FK k40 w4 (fun q => w3.heap.size ≤ q ∧ q < w4.heap.size) ⟨x.f2, 0⟩ [.slice A7 x.f2.length c7, .int .i64 0]) := k40_mkF w4 _ ⟨x.f2, 0⟩ h7 hF7
          have HZ34 : Hid (w3.heap.size ≤ w4.heap.size) := hb7.size
          have HZ3 : Hid (w.heap.size < w3.heap.size) := Nat.lt_of_lt_of_le (Nat.lt_trans hbl.out hxl2.out) HG3.out.size
          have HLT3 := Lib.hid (Kd.N_lt HR3.out)
          clear h7 hF7 hb7 HCLN
          go_wp2_with ((with_reducible refine gate_builtin (b := .append) (xs := #[.tmp 40, .tmp 45]) rfl ?_); at_builtin; refine Kd.N_append k40 (w0 := w) w.heap.size rfl (.tmp 40) (.tmp 45) 35 38 (.agg #[(.slice none 0 0), (.int .i64 0)]) 32 rfl Tryd.underlying35 info38 rfl (by decide) (by decide) (.slice A6 m6 c6) out ⟨x.f2, 0⟩ [.slice A7 x.f2.length c7, .int .i64 0] (fun q => q ≠ w.heap.size) (fun q => w3.heap.size ≤ q ∧ q < w4.heap.size) rfl rfl HFK4.out ?aK ?aF HR4.out HB4.out HB4.out.size ?aL ?_; (case aK => exact fun q hq => ⟨by have := HZ3.out; omega, fun he => by have := HLT3.out q he.symm; omega⟩); (case aF => exact fun q hq => by have := HZ3.out; have := HZ34.out; omega); (case aL => have := hL.out; omega); intro v5 w5 hN hB hg hat; have HN5 := Lib.hid hN; have HB5 := Lib.hid hB; have HG5 := Lib.hid hg; clear hN hB hg hat; obtain ⟨A5', cap5, hv5, _, hCr⟩ := Kd.N_reads HN5.out; rw [show (out ++ [(⟨x.f2, 0⟩ : S40)]).length = m6 + 1 from by rw [List.length_append, HM6.out]; rfl] at hv5; subst hv5; obtain ⟨a5, B5, d5, hA5, g0, g1, _, _⟩ := at_T40 hCr (m6 : Int) (Int.natCast_nonneg _) (by have := HM6.out; simp; omega); subst hA5; simp only [Int.toNat_natCast] at g0 g1; have hrd : (rd_T40 (out ++ [(⟨x.f2, 0⟩ : S40)]) m6).f1 = 0 := (by simp [rd_T40, List.getD, HM6.out]); rw [hrd] at g1; have HA5 : Hid (Ad w w5 job (.slice (some a5) (m6 + 1) cap5) (out ++ [⟨x.f2, 0⟩]) (mm + 1)) := ⟨HB5.out, ⟨_, HM4.out.kept HG5.out (fun he => HR4.out.1 _ he.symm rfl), (by have h := HD.out.snoc (s := 0) HPOS.out; rw [← HS.out, ← HM6.out] at h; exact h)⟩, HN5.out, (fun z hz => by rcases List.mem_append.1 hz with hz | hz; exact HA.out.small z hz; obtain rfl := List.mem_singleton.1 hz; exact Nat.le_trans HEX.out.len (by omega)), Nat.lt_of_lt_of_le (Nat.lt_of_lt_of_le HZ3.out HZ34.out) HG5.out.size⟩; have hfr : w5.frozen? ⟨(a5.add (m6 * 2)).block, (a5.add (m6 * 2)).off + 1, none⟩ = false := (by have h := HA5.out; rw [← (show (out ++ [(⟨x.f2, 0⟩ : S40)]).length = m6 + 1 from by rw [List.length_append, HM6.out]; rfl)] at h; exact h.froz (by rw [List.length_append, HM6.out]; simp)); clear hCr hrd; have hm61 : (m6 : Int) < ((m6 + 1 : Nat) : Int) := (by omega))
          go_roundg (n - (j + 1))
          case measure => have := HK.out; have := HLT.out; omega
          case rel =>
            refine ⟨j + 1, addD out x.f2, by have := HLT.out; omega, by go_num, ⟨mm + 1, by have := HMJ.out; omega, ?_⟩, ?_, ?_⟩
            · have h := HA5.out
              have hl5 : (out ++ [(⟨x.f2, 0⟩ : S40)]).length = m6 + 1 := by rw [List.length_append, HM6.out]; rfl
              rw [← hl5] at h
              have h := h.inc (p := m6) (by rw [hl5]; omega) 1
              have e : addD out x.f2 = (out ++ [(⟨x.f2, 0⟩ : S40)]).set m6 ⟨((out ++ [(⟨x.f2, 0⟩ : S40)])[m6]'(by rw [hl5]; omega)).f0, 1⟩ := by
                rw [add_none HPOS.out]
                have hm := HM6.out
                subst hm
                simp
              rw [← e, hl5] at h
              exact h
            · show rawF job _ (l.drop (j + 1)) = _
              rw [← hS.out, HD'.out]
              exact (if_pos HJ.out).symm
            · show (addD _ _).length ≤ _
              rw [add_none HPOS.out, List.length_append]
              have := hL.out
              simp
              omega
      · have hb0 : (x.f0 != job) = true := by simpa using hj
        go_wp2_with fail
        go_roundg (n - (j + 1))
        case measure => have := HK.out; have := HLT.out; omega
        case rel =>
          refine ⟨j + 1, out, by have := HLT.out; omega, by go_num, ⟨mm, by have := HMJ.out; omega, HA.out.keep hbA.out⟩, ?_, by have := hL.out; show _ ≤ _; omega⟩
          show rawF job out (l.drop (j + 1)) = _
          rw [← hS.out, HD'.out]
          exact (if_neg hj).symm
    · obtain rfl : j = n := by have := HK.out; omega
      have hfin := hS.out
      rw [List.drop_of_length_le (by have := HN.out; omega)] at hfin
      have HFIN : Hid (out = rawF job [] l) := hfin
      clear hfin
      have h9 := HA.out
      rw [HFIN.out] at h9
      have HA9 := Lib.hid (HSORT.out _ _ _ h9)
      clear h9
      go_wp2_with fail
      refine HA9.out.mono ?_
      rintro e w9 ⟨rfl, s9, h1, h2, h3, h4⟩
      have H1 := Lib.hid h1
      have H2 := Lib.hid h2
      have H3 := Lib.hid h3
      have H4 := Lib.hid h4
      clear h1 h2 h3 h4
      go_wp2_with fail
      go_ret
      exact ⟨_, s9, rfl, H1.out, H2.out, H3.out, H4.out⟩
end Go.Proofs.YtceankldidkohaaDoor.Core
