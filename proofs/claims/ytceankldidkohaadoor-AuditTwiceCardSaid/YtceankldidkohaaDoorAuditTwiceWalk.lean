/- The walk of haymowlaw20.AuditTwice: it returns true and turns nothing that was there, for every argument that can be read. Written by gen_audit_twice.py. -/
import Derived.Test.YtceankldidkohaaDoorC6
import Derived.LaidSub
import Derived.Test.YtceankldidkohaaDoorAuditTwiceK
namespace Go.Proofs.YtceankldidkohaaDoor.RAuditTwice
open Go.RowKit Go.Proofs.YtceankldidkohaaDoorW.PrintWords Go.Proofs.YtceankldidkohaaDoorW.PrintMore Go.Proofs.YtceankldidkohaaDoor.PAuditTwice Go.Proofs.YtceankldidkohaaDoor.Core Go.Proofs.YtceankldidkohaaDoor
set_option linter.unusedVariables false
set_option linter.unusedSimpArgs false
theorem heap29 : Kd.Heap k29 := Kd.heap_iso _ (Kd.heap_pair (Kd.heap_int _) (Kd.heap_pair (Kd.heap_int _) (Kd.heap_slice 3 (Kd.heap_int _))))
theorem V_of_C {w : World} {A : Option Addr} {c : Nat} {l : List S29} (h : Kd.C k29 w A l.length l) (hc : l.length ≤ c) (base : Nat) : Kd.V k29 29 w base (fun _ => True) (.slice A l.length c) l :=
  Kd.V_mk hc (fun W' hW => Kd.Heap.C heap29 (fun k hk => hW k trivial hk) h)
theorem two_C29 (W : World) (x z : S29) (Ax Az : Option Addr) (cx cz : Nat) (hx : (Kd.int .i64).C W Ax x.f2.length x.f2) (hcx : x.f2.length ≤ cx) (hz : (Kd.int .i64).C W Az z.f2.length z.f2) (hcz : z.f2.length ≤ cz) :
    Kd.C k29 (W.alloc (.cells #[.int .i64 x.f0, .int .i64 x.f1, .slice Ax x.f2.length cx, .int .i64 z.f0, .int .i64 z.f1, .slice Az z.f2.length cz] 29)) (some ⟨W.heap.size, 0, none⟩) 2 [x, z] := by
  refine ⟨rfl, by omega, fun _ => ⟨_, rfl, fun j p hj => ?_⟩⟩
  have key : ∀ (k : Nat) (u : Value), [Value.int .i64 x.f0, .int .i64 x.f1, .slice Ax x.f2.length cx, .int .i64 z.f0, .int .i64 z.f1, .slice Az z.f2.length cz][k]? = some u → (W.alloc (.cells #[.int .i64 x.f0, .int .i64 x.f1, .slice Ax x.f2.length cx, .int .i64 z.f0, .int .i64 z.f1, .slice Az z.f2.length cz] 29)).cell? ((⟨W.heap.size, 0, none⟩ : Addr).add k) = some u := by
    intro k u h
    rw [add_at, World.cell?_alloc_new, Nat.zero_add]
    simpa using h
  match j, hj with
  | 0, hj =>
    obtain rfl : x = p := by simpa using hj
    refine ⟨[.int .i64 x.f0, .int .i64 x.f1, .slice Ax x.f2.length cx], rfl, k29_mk _ x hcx (Kd.C_below hx ((Below.refl _ _).alloc (Nat.le_refl _) _)), fun i u hu => ?_⟩
    refine key _ u ?_
    match i, hu with
    | 0, hu => exact hu
    | 1, hu => exact hu
    | 2, hu => exact hu
  | 1, hj =>
    obtain rfl : z = p := by simpa using hj
    refine ⟨[.int .i64 z.f0, .int .i64 z.f1, .slice Az z.f2.length cz], rfl, k29_mk _ z hcz (Kd.C_below hz ((Below.refl _ _).alloc (Nat.le_refl _) _)), fun i u hu => ?_⟩
    refine key _ u ?_
    match i, hu with
    | 0, hu => exact hu
    | 1, hu => exact hu
    | 2, hu => exact hu
theorem at_F28 {w : World} {ok : Nat → Prop} {A : Option Addr} {n : Nat} {xs : List S28} (h : Kd.F k28 w ok A n xs) (i : Int) (h0 : 0 ≤ i) (h1 : i < n) : ∃ ad A2 c2, A = some ad ∧ w.cell? (ad.add (i.toNat * 3)) = some (.int .i64 (rd_T28 xs i).f0) ∧ w.cell? ⟨(ad.add (i.toNat * 3)).block, (ad.add (i.toNat * 3)).off + 1, none⟩ = some (.int .i64 (rd_T28 xs i).f1) ∧ w.cell? ⟨(ad.add (i.toNat * 3)).block, (ad.add (i.toNat * 3)).off + 2, none⟩ = some (.slice A2 (rd_T28 xs i).f2.length c2) ∧ (rd_T28 xs i).f2.length ≤ c2 ∧ Kd.FK k28 w ok (rd_T28 xs i) [.int .i64 (rd_T28 xs i).f0, .int .i64 (rd_T28 xs i).f1, .slice A2 (rd_T28 xs i).f2.length c2] := by
  obtain ⟨ad, c, e, _, hK, hc0, _⟩ := Kd.F_get h z28 i h0 h1
  have hc : ∀ j u, c[j]? = some u → w.cell? (ad.add (i.toNat * 3 + j)) = some u := hc0
  obtain ⟨A2, c2, rfl, l2, g2⟩ := k28_openF hK
  exact ⟨ad, A2, c2, e, hc 0 _ rfl, by rw [← add_field _ _ 1 (by omega)]; exact hc 1 _ rfl, by rw [← add_field _ _ 2 (by omega)]; exact hc 2 _ rfl, l2, hK⟩
theorem any_step {p : S29 → Bool} {l : List S29} {i j : Nat} (h : i ≤ j) (hj : j < l.length) : ((l.take (j + 1)).drop i).any p = (((l.take j).drop i).any p || p l[j]) := by
  rw [List.take_succ_eq_append_getElem hj, List.drop_append_of_le_length (by rw [List.length_take]; omega), List.any_append]
  simp
theorem rd28 {l : List S28} {j : Nat} (hj : j < l.length) : rd_T28 l j = l[j] := by simp [rd_T28, List.getD, List.getElem?_eq_getElem hj]
set_option maxHeartbeats 400000 in
theorem run_two {a : Act} {o : Oper} {x0 x1 z0 z1 : Int} {Ax Az : Option Addr} {xl cx zl cz : Nat} (ho : o.op = .buildSlice 22 2 #[(0, .tmp 81), (1, .tmp 85)]) (h1 : a.eval (.tmp 81) = .agg #[.int .i64 x0, .int .i64 x1, .slice Ax xl cx]) (h2 : a.eval (.tmp 85) = .agg #[.int .i64 z0, .int .i64 z1, .slice Az zl cz]) (w : World) :
    (execOp a.eval o).run Tryd.prog w = .ok (.value (.slice (some ⟨w.heap.size, 0, none⟩) 2 2)) (w.alloc (.cells #[.int .i64 x0, .int .i64 x1, .slice Ax xl cx, .int .i64 z0, .int .i64 z1, .slice Az zl cz] 29)) := by
  have g1 := Reg.eval_getD h1
  have g2 := Reg.eval_getD h2
  simp only [execOp, ho, h1, h2]
  simp only [List.map_toArray, List.map_cons, List.map_nil, h1, h2]
  clear g1 g2 h1 h2 ho
  go_simp
/-! The three short ways out. -/
set_option maxHeartbeats 1000000 in
theorem walk_dark (w : World) (A0 : Option Addr) (c0 : Nat) (l : List S29) (hC : Kd.C k29 w A0 l.length l) (hc : l.length ≤ c0) (h : lit2 l = false) (a1 : Int) :
    Calls Tryd.prog 3 #[.slice A0 l.length c0, .int .u8 a1] w fun e w' => e = .returned (.bool true) ∧ Below w.heap.size w w' := by
  have H := Lib.hid (haymowlaw20_light.calls _ A0 c0 l _ w hC hc (light_f l))
  rw [h] at H
  clear hC h
  obtain ⟨n, hnn⟩ : ∃ n, n = l.length := ⟨_, rfl⟩
  rw [← hnn] at H hc ⊢
  clear hnn
  go_enter Tryd.func3, Tryd.ntmps3
  go_wp2_with fail
  refine H.out.mono ?_
  rintro e w1 ⟨rfl, hd⟩
  have HB : Hid (Below w.heap.size w w1) := hd.below
  clear hd H
  go_wp2_with fail
  go_ret
  exact ⟨rfl, HB.out⟩
set_option maxHeartbeats 1000000 in
theorem walk_none (w : World) (A0 : Option Addr) (c0 : Nat) (hC : Kd.C k29 w A0 0 ([] : List S29)) (a1 : Int) :
    Calls Tryd.prog 3 #[.slice A0 0 c0, .int .u8 a1] w fun e w' => e = .returned (.bool true) ∧ Below w.heap.size w w' := by
  have H := Lib.hid (haymowlaw20_light.calls _ A0 c0 [] _ w hC (Nat.zero_le _) (light_f []))
  have e : lit2 [] = true := by decide
  rw [e] at H
  clear hC e
  go_enter Tryd.func3, Tryd.ntmps3
  go_wp2_with fail
  refine H.out.mono ?_
  rintro e w1 ⟨rfl, hd⟩
  have HB : Hid (Below w.heap.size w w1) := hd.below
  clear hd H
  go_wp2_with fail
  go_ret
  exact ⟨rfl, HB.out⟩
set_option maxHeartbeats 1000000 in
theorem walk_bad (w : World) (A0 : Option Addr) (c0 : Nat) (l : List S29) (hC : Kd.C k29 w A0 l.length l) (hc : l.length ≤ c0) (h : lit2 l = true) (hpos : 0 < l.length) (hn : l.length ≤ 1000) (hp : ∀ e ∈ l, e.f2.length ≤ 1000) (hs : sndL [] (l.map cvE) = false) (a1 : Int) :
    Calls Tryd.prog 3 #[.slice A0 l.length c0, .int .u8 a1] w fun e w' => e = .returned (.bool true) ∧ Below w.heap.size w w' := by
  have H := Lib.hid (haymowlaw20_light.calls _ A0 c0 l _ w hC hc (light_f l))
  rw [h] at H
  have H2 : Hid (∀ W, Below w.heap.size w W → Calls Tryd.prog 8 #[.slice A0 l.length c0] W fun e w' => e = .returned (.bool false) ∧ Below W.heap.size W w') := fun W hb => haymowref20_Sound.calls _ A0 c0 l _ W (Kd.C_below hC hb) hc ((rsound_f hn hp).trans (congrArg some hs))
  clear hC h hs
  obtain ⟨n, hnn⟩ : ∃ n, n = l.length := ⟨_, rfl⟩
  rw [← hnn] at H H2 hc hpos hn ⊢
  clear hnn
  have b0 : ((n : Int) == 0) = false := by simp; omega
  go_enter Tryd.func3, Tryd.ntmps3
  go_wp2_with fail
  refine H.out.mono ?_
  rintro e w1 ⟨rfl, hd⟩
  have HB : Hid (Below w.heap.size w w1) := hd.below
  clear hd H
  go_wp2_with fail
  refine (H2.out _ HB.out).mono ?_
  rintro e w2 ⟨rfl, hd⟩
  have HB2 : Hid (Below w.heap.size w w2) := below_lower HB.out hd
  clear hd H2 HB
  go_wp2_with fail
  go_ret
  exact ⟨rfl, HB2.out⟩
set_option maxHeartbeats 8000000 in
set_option maxRecDepth 100000 in
theorem walk_main (w : World) (T : Tab w) (a0 : Addr) (c0 : Nat) (l : List S29) (hC : Kd.C k29 w (some a0) l.length l) (hc : l.length ≤ c0) (h : lit2 l = true) (hpos : 0 < l.length) (hn : l.length ≤ 1000) (hp : ∀ e ∈ l, e.f2.length ≤ 1000) (hE : ∀ e ∈ l.map cvE, Ev e) (hs : sndL [] (l.map cvE) = true) (a1 : Int) (h10 : 0 ≤ a1) (h11 : a1 < 256) :
    Calls Tryd.prog 3 #[.slice (some a0) l.length c0, .int .u8 a1] w fun e w' => e = .returned (.bool true) ∧ Below w.heap.size w w' := by
  have H := Lib.hid (haymowlaw20_light.calls _ (some a0) c0 l _ w hC hc (light_f l))
  rw [h] at H
  have H2 : Hid (∀ W, Below w.heap.size w W → Calls Tryd.prog 8 #[.slice (some a0) l.length c0] W fun e w' => e = .returned (.bool true) ∧ Below W.heap.size W w') := fun W hb => haymowref20_Sound.calls _ (some a0) c0 l _ W (Kd.C_below hC hb) hc ((rsound_f hn hp).trans (congrArg some hs))
  obtain ⟨xs, hxs⟩ : ∃ xs, xs = l.map cvE := ⟨_, rfl⟩
  rw [← hxs] at hE hs
  have hxl : xs.length = l.length := by rw [hxs, List.length_map]
  have H3 : Hid (∀ W, Below w.heap.size w W → Calls Tryd.prog 9 #[.slice (some a0) l.length c0] W fun e w' => ∃ v0_ : Value, e = .returned (v0_) ∧ Kd.N k28 28 w' W.heap.size (fun _ => True) v0_ xs ∧ Below W.heap.size W w') := fun W hb => (haymowlaw20_of.calls _ (fun _ => True) (some a0) c0 l _ W (V_of_C (Kd.C_below hC hb) hc _) ((of_f l (by omega)).trans (congrArg some hxs.symm))).mono (by
    rintro e w' ⟨v, he, hN, hB⟩
    exact ⟨v, he, Kd.N_mono hN (fun _ _ => trivial), hB⟩)
  have HC := Lib.hid hC
  have HP := Lib.hid hp
  have HE := Lib.hid hE
  have HS := Lib.hid hs
  have HXS := Lib.hid hxs
  have HT0 := Lib.hid T
  clear hC h hs T hE hp hxs
  obtain ⟨n, hnn⟩ : ∃ n, n = l.length := ⟨_, rfl⟩
  have HN := Lib.hid hnn
  rw [← hnn] at H H2 H3 hc hpos hn hxl ⊢
  clear hnn
  have HXL := Lib.hid hxl
  obtain ⟨ix, hk⟩ : ∃ k : Nat, a1 % (n : Int) = k := ⟨(a1 % (n : Int)).toNat, by have := Int.emod_nonneg a1 (show (n : Int) ≠ 0 by omega); omega⟩
  have hkn : ix < n := by have := Int.emod_lt_of_pos a1 (show (0 : Int) < (n : Int) by omega); omega
  clear hxl
  obtain ⟨i28, hi28, hs28⟩ : ∃ i, Tryd.prog.info? 28 = some i ∧ i.size = 3 := by
    have h := info28
    cases hq : Tryd.prog.info? 28 with
    | none => rw [hq] at h; cases h
    | some i => rw [hq] at h; injection h with h; injection h with _ h; injection h with h; exact ⟨i, rfl, h⟩
  have HI28 := Lib.hid hi28
  have HS28 := Lib.hid hs28
  have b0 : ((n : Int) == 0) = false := by simp; omega
  clear hi28 hs28
  go_enter Tryd.func3, Tryd.ntmps3
  go_wp2_with fail
  refine H.out.mono ?_
  rintro e w1 ⟨rfl, hd⟩
  have HB : Hid (Below w.heap.size w w1) := hd.below
  clear hd H
  go_wp2_with fail
  refine (H2.out _ HB.out).mono ?_
  rintro e w2 ⟨rfl, hd⟩
  have HB2 : Hid (Below w.heap.size w w2) := below_lower HB.out hd
  clear hd H2 HB
  go_wp2_with fail
  refine (H3.out _ HB2.out).mono ?_
  rintro e W0 ⟨v5, rfl, hN5, hb5⟩
  have HB3 : Hid (Below w.heap.size w W0) := below_lower HB2.out hb5
  clear H3 HB2 hb5
  obtain ⟨A5, c5, hv5, hc5, hC5⟩ := Kd.N_reads hN5
  rw [HXL.out] at hv5 hc5 hC5
  subst hv5
  have hF5 : Kd.F k28 W0 (fun q => q < W0.heap.size) A5 n xs := Kd.F_mono (Kd.N_F (Kd.N_bound hN5)) (fun q hq => hq.2)
  obtain ⟨ad, A2, c2, rfl, y0, y1, y2, l2, hFK⟩ := at_F28 hF5 (ix : Int) (by omega) (by omega)
  have hy : rd_T28 xs ix = xs[ix]'(by rw [HXL.out]; exact hkn) := rd28 (by rw [HXL.out]; exact hkn)
  obtain ⟨y, hyy⟩ : ∃ y, y = rd_T28 xs ix := ⟨_, rfl⟩
  rw [← hyy] at hy y0 y1 y2 l2 hFK
  simp only [Int.toNat_natCast] at y0 y1 y2
  obtain ⟨yl, hyl⟩ : ∃ yl, yl = y.f2.length := ⟨_, rfl⟩
  rw [← hyl] at y2 hFK l2
  have HY := Lib.hid hy
  have HFK : Hid (Kd.FK k28 W0 (fun q => q < W0.heap.size) y [.int .i64 y.f0, .int .i64 y.f1, .slice A2 yl c2]) := hFK
  have HCL : Hid (∀ W, Below W0.heap.size W0 W → W.cell? (ad.add (ix * 3)) = some (.int .i64 y.f0) ∧ W.cell? ⟨(ad.add (ix * 3)).block, (ad.add (ix * 3)).off + 1, none⟩ = some (.int .i64 y.f1) ∧ W.cell? ⟨(ad.add (ix * 3)).block, (ad.add (ix * 3)).off + 2, none⟩ = some (.slice A2 yl c2)) := fun W hb =>
    ⟨(hb.cell (block_lt_of_cell y0)).trans y0, (hb.cell (block_lt_of_cell y1)).trans y1, (hb.cell (block_lt_of_cell y2)).trans y2⟩
  have hxx : xs.length = n := HXL.out
  have hF6 : Kd.F k28 W0 (fun q => q < W0.heap.size) (some ad) xs.length xs := by rw [hxx]; exact hF5
  have HX : Hid (Kd.F k28 W0 (fun q => q < W0.heap.size) (some ad) n xs) := hF5
  have l1 : (xs.take (ix + 1)).length = ix + 1 := by rw [List.length_take]; omega
  have l0 : (xs.take ix).length = ix := by rw [List.length_take]; omega
  have l3 : (xs.drop (ix + 1)).length = n - (ix + 1) := by rw [List.length_drop]; omega
  have HTK1 : Hid (Kd.F k28 W0 (fun q => q < W0.heap.size) (some ad) (ix + 1) (xs.take (ix + 1))) := by
    have h := Kd.F_take hF6 (m := ix + 1) (by omega)
    rw [l1] at h
    exact h
  obtain ⟨AD, hAD⟩ : ∃ AD : Option Addr, AD = (if c5 = ix + 1 then some ad else (some ad).map (·.add ((ix + 1) * 3))) := ⟨_, rfl⟩
  have HDK : Hid (Kd.F k28 W0 (fun q => q < W0.heap.size) AD (n - (ix + 1)) (xs.drop (ix + 1))) := by
    have h := Kd.F_cut hF6 (m := ix + 1) (c := c5) (by omega) (by omega)
    rw [l3] at h
    rw [hAD]
    exact h
  have HTK0' : Hid (Kd.F k28 W0 (fun q => q < W0.heap.size) (some ad) ix (xs.take ix)) := by
    have h := Kd.F_take hF6 (m := ix) (by omega)
    rw [l0] at h
    exact h
  have hcut1 := cut_to (P := Tryd.prog) 24 28 .i64 Tryd.underlying24 HI28.out (some ad) n c5 ((ix : Int) + 1) (by omega) (by omega) hc5
  have hcut0 := cut_to (P := Tryd.prog) 24 28 .i64 Tryd.underlying24 HI28.out (some ad) n c5 (ix : Int) (by omega) (by omega) hc5
  have hcf := cut_from (P := Tryd.prog) 24 28 .i64 Tryd.underlying24 HI28.out 3 HS28.out (some ad) n c5 ((ix : Int) + 1) (by omega) (by omega)
  have et : ((ix : Int) + 1).toNat = ix + 1 := by omega
  rw [et] at hcut1 hcf
  rw [Int.toNat_natCast] at hcut0
  rw [← hAD] at hcf
  have HL1 := Lib.hid l1
  have HL0 := Lib.hid l0
  have HL3 := Lib.hid l3
  have HW1 : Hid (sndL [] (xs.take (ix + 1) ++ [y] ++ xs.drop (ix + 1)) = false) := by rw [HY.out]; exact snd_twice HS.out (by rw [hxx]; exact hkn)
  have HW0 : Hid (sndL [] (xs.take ix ++ xs.drop (ix + 1)) = !((xs.drop (ix + 1)).any fun e => sameE e y)) := by rw [HY.out]; exact snd_drop HS.out (by rw [hxx]; exact hkn)
  have HEV1 : Hid (∀ e ∈ xs.take (ix + 1) ++ [y] ++ xs.drop (ix + 1), Ev e) := by
    intro e he
    rcases List.mem_append.1 he with he | he
    · rcases List.mem_append.1 he with he | he
      · exact HE.out e (List.mem_of_mem_take he)
      · obtain rfl := List.mem_singleton.1 he
        rw [HY.out]
        exact HE.out _ (List.getElem_mem _)
    · exact HE.out e (List.mem_of_mem_drop he)
  have HEV0 : Hid (∀ e ∈ xs.take ix ++ xs.drop (ix + 1), Ev e) := by
    intro e he
    rcases List.mem_append.1 he with he | he
    · exact HE.out e (List.mem_of_mem_take he)
    · exact HE.out e (List.mem_of_mem_drop he)
  have HANY : Hid ((xs.drop (ix + 1)).any (fun e => sameE e y) = (l.drop (ix + 1)).any fun e => sameE (cvE e) y) := by
    show _ = _
    rw [HXS.out, ← List.map_drop, List.any_map]
    rfl
  obtain ⟨tk1, ht1⟩ : ∃ t, t = xs.take (ix + 1) := ⟨_, rfl⟩
  obtain ⟨tk0, ht0⟩ : ∃ t, t = xs.take ix := ⟨_, rfl⟩
  obtain ⟨dk, hdk⟩ : ∃ t, t = xs.drop (ix + 1) := ⟨_, rfl⟩
  rw [← ht1] at HTK1 HL1
  rw [← ht1, ← hdk] at HW1 HEV1
  rw [← ht0, ← hdk] at HW0 HEV0
  rw [← ht0] at HTK0' HL0
  rw [← hdk] at HDK HL3 HANY
  have HLN : Hid (n ≤ 1000 ∧ ix < n ∧ tk1.length = ix + 1 ∧ tk0.length = ix ∧ dk.length = n - (ix + 1)) := ⟨hn, hkn, HL1.out, HL0.out, HL3.out⟩
  have HCUT0 := Lib.hid hcut0
  have HCF := Lib.hid hcf
  have HCUT1 := Lib.hid hcut1
  have hk1 : (ix : Int) + 1 ≤ 1000000 := by omega
  have hwr : IntKind.i64.wrap ((ix : Int) + 1) = (ix : Int) + 1 := IntWalk.i64_in _ (by omega)
  clear hF5 hF6 hFK y0 y1 y2 l2 l0 l1 l3 hN5 hC5 hAD hxx et ht1 ht0 hdk hcut0 hyy hy hyl hcf hcut1
  go_wp2_with fail
  rw [hk]
  have hcut1 := HCUT1.out
  have hcf := HCF.out
  refine Reg.wp_region_float (by kernel_rfl) [0, 5, 11, 16, 17] 10 (fun i => match i with | 1 => fun v => v = .slice (some ad) n c5 | 2 => fun v => v = .int .i64 (ix : Int) | 3 => fun v => v = .int .i64 ((ix : Int) + 1) | 4 => fun v => v = .slice (some ad) (ix + 1) c5 | 6 => fun v => v = .slice (some ad) n c5 | 7 => fun v => v = .int .i64 (ix : Int) | 8 => fun v => v = .pointer (some (ad.add (ix * 3))) | 9 => fun v => v = .agg #[.int .i64 y.f0, .int .i64 y.f1, .slice A2 yl c2] | 12 => fun v => v = .slice (some ad) n c5 | 13 => fun v => v = .int .i64 (ix : Int) | 14 => fun v => v = .int .i64 ((ix : Int) + 1) | 15 => fun v => v = .slice AD (n - (ix + 1)) (c5 - (ix + 1)) | _ => fun _ => True) (fun k b f W => match k with
    | 0 => Reg.Rw k28 28 W0 W b (f 41) (.slice none 0 0) [] y
    | 1 => Reg.Rw k28 28 W0 W b (f 41) (f 31) [] y
    | 2 => Reg.Rw k28 28 W0 W b (f 41) (f 36) tk1 y
    | 3 => Reg.Rw k28 28 W0 W false undef (f 42) (tk1 ++ [y]) y
    | 4 => Reg.Rw k28 28 W0 W false undef (f 47) (tk1 ++ [y] ++ dk) y
    | _ => Reg.Rw k28 28 W0 W false undef (f 47) (tk1 ++ [y] ++ dk) y ∧ f 7 = f 47) (by kernel_rfl) (by kernel_rfl) (by decide) (by decide) (by decide) (by decide) ?hJ ?h0 ?pure ?flo ?act ?fin
  case hJ => (intro k b f f' W h hb hj; match k, hj with
    | 0, hj => exact Reg.Rw.free hj (fun e => hb e 41 (by kernel_rfl))
    | 1, hj => (rw [h 0 (by omega) (by decide) 31 (by kernel_rfl)] at hj; exact Reg.Rw.free hj (fun e => hb e 41 (by kernel_rfl)))
    | 2, hj => (rw [h 1 (by omega) (by decide) 36 (by kernel_rfl)] at hj; exact Reg.Rw.free hj (fun e => hb e 41 (by kernel_rfl)))
    | 3, hj => (rw [h 2 (by omega) (by decide) 42 (by kernel_rfl)] at hj; exact hj)
    | 4, hj => (rw [h 3 (by omega) (by decide) 47 (by kernel_rfl)] at hj; exact hj)
    | k + 5, hj => (rw [h 3 (by omega) (by decide) 47 (by kernel_rfl), h 4 (by omega) (by decide) 7 (by kernel_rfl)] at hj; exact hj))
  case h0 => exact Reg.Rw.start (below_drew (Below.refl _ _)) _ _
  case pure =>
    intro i o k bq a w_ ho hE hne hk hmc hf hst hkn hj
    have hi : i < 18 := (Array.getElem?_eq_some_iff.1 ho).1
    obtain rfl | rfl | rfl | rfl | rfl | rfl | rfl | rfl | rfl | rfl | rfl | rfl : i = 1 ∨ i = 2 ∨ i = 3 ∨ i = 4 ∨ i = 6 ∨ i = 7 ∨ i = 8 ∨ i = 9 ∨ i = 12 ∨ i = 13 ∨ i = 14 ∨ i = 15 := by
      simp only [List.mem_cons, List.not_mem_nil, or_false, not_or] at hE
      omega
    · as_aux_lemma =>
      obtain rfl := Reg.oper_eq ho rfl
      have e5 : a.eval (.tmp 5) = .slice (some ad) n c5 := (hf.eval 5 (by kernel_rfl)).trans rfl
      have g5 := Reg.eval_getD e5
      exact Reg.op_value rfl rfl (by simp only [List.getElem_toArray, List.getElem_cons_zero, List.getElem_cons_succ, execOp, e5]; go_simp) ⟨_, rfl, rfl, hj⟩
    · as_aux_lemma =>
      obtain rfl := Reg.oper_eq ho rfl
      have e6 : a.eval (.tmp 6) = .int .i64 (ix : Int) := (hf.eval 6 (by kernel_rfl)).trans rfl
      have g6 := Reg.eval_getD e6
      exact Reg.op_value rfl rfl (by simp only [List.getElem_toArray, List.getElem_cons_zero, List.getElem_cons_succ, execOp, e6]; go_simp) ⟨_, rfl, rfl, hj⟩
    · as_aux_lemma =>
      obtain rfl := Reg.oper_eq ho rfl
      have e33 : a.eval (.tmp 33) = .int .i64 (ix : Int) := hkn.eval 2 33 (by kernel_rfl) (by kernel_rfl)
      have g33 := Reg.eval_getD e33
      exact Reg.op_value rfl rfl (by simp only [List.getElem_toArray, List.getElem_cons_zero, List.getElem_cons_succ, execOp, e33]; go_simp) ⟨_, rfl, rfl, hj⟩
    · as_aux_lemma =>
      obtain rfl := Reg.oper_eq ho rfl
      have e32 : a.eval (.tmp 32) = .slice (some ad) n c5 := hkn.eval 1 32 (by kernel_rfl) (by kernel_rfl)
      have e34 : a.eval (.tmp 34) = .int .i64 ((ix : Int) + 1) := hkn.eval 3 34 (by kernel_rfl) (by kernel_rfl)
      have g32 := Reg.eval_getD e32
      have g34 := Reg.eval_getD e34
      exact Reg.op_value rfl rfl (by simp only [List.getElem_toArray, List.getElem_cons_zero, List.getElem_cons_succ, execOp, e32, e34]; go_simp) ⟨_, rfl, rfl, hj⟩
    · as_aux_lemma =>
      obtain rfl := Reg.oper_eq ho rfl
      have e5 : a.eval (.tmp 5) = .slice (some ad) n c5 := (hf.eval 5 (by kernel_rfl)).trans rfl
      have g5 := Reg.eval_getD e5
      exact Reg.op_value rfl rfl (by simp only [List.getElem_toArray, List.getElem_cons_zero, List.getElem_cons_succ, execOp, e5]; go_simp) ⟨_, rfl, rfl, hj⟩
    · as_aux_lemma =>
      obtain rfl := Reg.oper_eq ho rfl
      have e6 : a.eval (.tmp 6) = .int .i64 (ix : Int) := (hf.eval 6 (by kernel_rfl)).trans rfl
      have g6 := Reg.eval_getD e6
      exact Reg.op_value rfl rfl (by simp only [List.getElem_toArray, List.getElem_cons_zero, List.getElem_cons_succ, execOp, e6]; go_simp) ⟨_, rfl, rfl, hj⟩
    · as_aux_lemma =>
      obtain rfl := Reg.oper_eq ho rfl
      have e37 : a.eval (.tmp 37) = .slice (some ad) n c5 := hkn.eval 6 37 (by kernel_rfl) (by kernel_rfl)
      have e38 : a.eval (.tmp 38) = .int .i64 (ix : Int) := hkn.eval 7 38 (by kernel_rfl) (by kernel_rfl)
      have g37 := Reg.eval_getD e37
      have g38 := Reg.eval_getD e38
      exact Reg.op_value rfl rfl (by simp only [List.getElem_toArray, List.getElem_cons_zero, List.getElem_cons_succ, execOp, e37, e38]; go_simp) ⟨_, rfl, rfl, hj⟩
    · as_aux_lemma =>
      obtain rfl := Reg.oper_eq ho rfl
      have e39 : a.eval (.tmp 39) = .pointer (some (ad.add (ix * 3))) := hkn.eval 8 39 (by kernel_rfl) (by kernel_rfl)
      have g39 := Reg.eval_getD e39
      have hbw : Below W0.heap.size W0 w_ := by
        match k, hj with
        | 0, hj => exact Reg.Rw.below hj
        | 1, hj => exact Reg.Rw.below hj
        | 2, hj => exact Reg.Rw.below hj
        | 3, hj => exact Reg.Rw.below hj
        | 4, hj => exact Reg.Rw.below hj
        | k + 5, hj => exact Reg.Rw.below hj.1
      obtain ⟨y0, y1, y2⟩ := HCL.out w_ hbw
      exact Reg.op_value rfl rfl (by simp only [List.getElem_toArray, List.getElem_cons_zero, List.getElem_cons_succ, execOp, e39]; go_simp) ⟨_, rfl, rfl, hj⟩
    · as_aux_lemma =>
      obtain rfl := Reg.oper_eq ho rfl
      have e5 : a.eval (.tmp 5) = .slice (some ad) n c5 := (hf.eval 5 (by kernel_rfl)).trans rfl
      have g5 := Reg.eval_getD e5
      exact Reg.op_value rfl rfl (by simp only [List.getElem_toArray, List.getElem_cons_zero, List.getElem_cons_succ, execOp, e5]; go_simp) ⟨_, rfl, rfl, hj⟩
    · as_aux_lemma =>
      obtain rfl := Reg.oper_eq ho rfl
      have e6 : a.eval (.tmp 6) = .int .i64 (ix : Int) := (hf.eval 6 (by kernel_rfl)).trans rfl
      have g6 := Reg.eval_getD e6
      exact Reg.op_value rfl rfl (by simp only [List.getElem_toArray, List.getElem_cons_zero, List.getElem_cons_succ, execOp, e6]; go_simp) ⟨_, rfl, rfl, hj⟩
    · as_aux_lemma =>
      obtain rfl := Reg.oper_eq ho rfl
      have e44 : a.eval (.tmp 44) = .int .i64 (ix : Int) := hkn.eval 13 44 (by kernel_rfl) (by kernel_rfl)
      have g44 := Reg.eval_getD e44
      exact Reg.op_value rfl rfl (by simp only [List.getElem_toArray, List.getElem_cons_zero, List.getElem_cons_succ, execOp, e44]; go_simp) ⟨_, rfl, rfl, hj⟩
    · as_aux_lemma =>
      obtain rfl := Reg.oper_eq ho rfl
      have e43 : a.eval (.tmp 43) = .slice (some ad) n c5 := hkn.eval 12 43 (by kernel_rfl) (by kernel_rfl)
      have e45 : a.eval (.tmp 45) = .int .i64 ((ix : Int) + 1) := hkn.eval 14 45 (by kernel_rfl) (by kernel_rfl)
      have g43 := Reg.eval_getD e43
      have g45 := Reg.eval_getD e45
      exact Reg.op_value rfl rfl (by simp only [List.getElem_toArray, List.getElem_cons_zero, List.getElem_cons_succ, execOp, e43, e45]; go_simp) ⟨_, rfl, rfl, hj⟩
  case flo =>
    intro o k a w_ ho hk hmc hf hst hkn hj
    · as_aux_lemma =>
      obtain rfl := Reg.oper_eq ho rfl
      have e40 : a.eval (.tmp 40) = .agg #[.int .i64 y.f0, .int .i64 y.f1, .slice A2 yl c2] := hkn.eval 9 40 (by kernel_rfl) (by kernel_rfl)
      have g40 := Reg.eval_getD e40
      match k, hj, hmc with
      | 0, hj, hmc => 
        refine Reg.op_wp rfl rfl ?_
        refine Reg.Rw.aside hj rfl rfl (cs := [.int .i64 y.f0, .int .i64 y.f1, .slice A2 yl c2]) (by simp only [List.getElem_toArray, List.getElem_cons_zero, List.getElem_cons_succ, execOp, e40]; go_simp) HFK.out ?_
        intro v1 w1 hj1
        refine ⟨_, rfl, trivial, ?_⟩
        show Reg.Rw k28 28 W0 w1 true (Reg.val (a.put (some 41) v1) 41) (.slice none 0 0) [] y
        rw [Reg.val_put_in hf (by kernel_rfl)]
        exact hj1
      | 1, hj, hmc => 
        refine Reg.op_wp rfl rfl ?_
        refine Reg.Rw.aside hj rfl rfl (cs := [.int .i64 y.f0, .int .i64 y.f1, .slice A2 yl c2]) (by simp only [List.getElem_toArray, List.getElem_cons_zero, List.getElem_cons_succ, execOp, e40]; go_simp) HFK.out ?_
        intro v1 w1 hj1
        refine ⟨_, rfl, trivial, ?_⟩
        show Reg.Rw k28 28 W0 w1 true (Reg.val (a.put (some 41) v1) 41) (Reg.val (a.put (some 41) v1) 31) [] y
        rw [Reg.val_put_in hf (by kernel_rfl), Reg.val_put_ne _ _ _ _ (by decide)]
        exact hj1
      | 2, hj, hmc => 
        refine Reg.op_wp rfl rfl ?_
        refine Reg.Rw.aside hj rfl rfl (cs := [.int .i64 y.f0, .int .i64 y.f1, .slice A2 yl c2]) (by simp only [List.getElem_toArray, List.getElem_cons_zero, List.getElem_cons_succ, execOp, e40]; go_simp) HFK.out ?_
        intro v1 w1 hj1
        refine ⟨_, rfl, trivial, ?_⟩
        show Reg.Rw k28 28 W0 w1 true (Reg.val (a.put (some 41) v1) 41) (Reg.val (a.put (some 41) v1) 36) tk1 y
        rw [Reg.val_put_in hf (by kernel_rfl), Reg.val_put_ne _ _ _ _ (by decide)]
        exact hj1
      | k + 3, hj, hmc => exact absurd hmc (by simp only [List.length_cons, List.length_nil] at hk; obtain rfl | rfl | rfl : k = 0 ∨ k = 1 ∨ k = 2 := (by omega) <;> exact Bool.eq_false_iff.1 (by kernel_rfl))
  case act =>
    intro k bq o a w_ hk ho hbf hf hst hkn hj
    obtain rfl | rfl | rfl | rfl | rfl : k = 0 ∨ k = 1 ∨ k = 2 ∨ k = 3 ∨ k = 4 := by simp only [List.length_cons, List.length_nil] at hk; omega
    · as_aux_lemma =>
      obtain rfl := Reg.oper_eq ho rfl
      refine Reg.op_wp rfl rfl ?_
      refine Reg.Rw.empty hj rfl rfl (by simp only [List.getElem_toArray, List.getElem_cons_zero, List.getElem_cons_succ, execOp]; go_simp) ?_
      intro v1 w1 hj1
      refine ⟨_, rfl, trivial, ?_⟩
      exact Reg.Rw.free ((Reg.val_put_in hf (by kernel_rfl)).symm ▸ hj1) (fun _ => (Reg.val_put_ne _ _ _ _ (by decide)).symm)
    · as_aux_lemma =>
      obtain rfl := Reg.oper_eq ho rfl
      have e35 : a.eval (.tmp 35) = .slice (some ad) (ix + 1) c5 := hkn.eval 4 35 (by kernel_rfl) (by kernel_rfl)
      have g35 := Reg.eval_getD e35
      refine Reg.op_wp rfl rfl ?_
      refine Reg.Rw.append hj rfl (.tmp 31) (.tmp 35) 24 (.agg #[(.int .i64 0), (.int .i64 0), (.slice none 0 0)]) 40 rfl Tryd.underlying24 info28 rfl (by decide) (by decide) (Reg.eval_val a 31) e35 HTK1.out (by have := HLN.out; (try simp only [List.length_append, List.length_cons, List.length_nil]); omega) ?_
      intro v1 w1 hj1
      refine ⟨_, rfl, trivial, ?_⟩
      exact Reg.Rw.free ((Reg.val_put_in hf (by kernel_rfl)).symm ▸ hj1) (fun _ => (Reg.val_put_ne _ _ _ _ (by decide)).symm)
    · as_aux_lemma =>
      obtain rfl := Reg.oper_eq ho rfl
      obtain rfl := hbf (by kernel_rfl)
      refine Reg.op_wp rfl rfl ?_
      refine Reg.Rw.take hj rfl (.tmp 36) (.tmp 41) 24 (.agg #[(.int .i64 0), (.int .i64 0), (.slice none 0 0)]) 40 rfl Tryd.underlying24 info28 rfl (by decide) (by decide) (Reg.eval_val a 36) (Reg.eval_val a 41) (by have := HLN.out; omega) ?_
      intro v1 w1 hj1
      refine ⟨_, rfl, trivial, ?_⟩
      exact (Reg.val_put_in hf (by kernel_rfl)).symm ▸ hj1
    · as_aux_lemma =>
      obtain rfl := Reg.oper_eq ho rfl
      have e46 : a.eval (.tmp 46) = .slice AD (n - (ix + 1)) (c5 - (ix + 1)) := hkn.eval 15 46 (by kernel_rfl) (by kernel_rfl)
      have g46 := Reg.eval_getD e46
      refine Reg.op_wp rfl rfl ?_
      refine Reg.Rw.append hj rfl (.tmp 42) (.tmp 46) 24 (.agg #[(.int .i64 0), (.int .i64 0), (.slice none 0 0)]) 40 rfl Tryd.underlying24 info28 rfl (by decide) (by decide) (Reg.eval_val a 42) e46 HDK.out (by have := HLN.out; (try simp only [List.length_append, List.length_cons, List.length_nil]); omega) ?_
      intro v1 w1 hj1
      refine ⟨_, rfl, trivial, ?_⟩
      exact (Reg.val_put_in hf (by kernel_rfl)).symm ▸ hj1
    · as_aux_lemma =>
      obtain rfl := Reg.oper_eq ho rfl
      have e47 : a.eval (.tmp 47) = Reg.val a 47 := Reg.eval_val a 47
      have g47 := Reg.eval_getD e47
      refine Reg.op_value (v := Reg.val a 47) (w' := w_) rfl rfl (by simp only [List.getElem_toArray, List.getElem_cons_zero, List.getElem_cons_succ, execOp, e47]; go_simp) ⟨_, rfl, trivial, ?_, ?_⟩
      · show Reg.Rw k28 28 W0 w_ false undef (Reg.val (a.put (some 7) (Reg.val a 47)) 47) _ _
        rw [Reg.val_put_ne a (some 7) _ 47 (by decide)]
        exact hj
      · show Reg.val (a.put (some 7) (Reg.val a 47)) 7 = Reg.val (a.put (some 7) (Reg.val a 47)) 47
        rw [Reg.val_put_in hf (d := 7) (by kernel_rfl), Reg.val_put_ne a (some 7) _ 47 (by decide)]
  case fin =>
    intro a w_ hf hkn hj
    have e32 : Reg.val a 32 = _ := hkn 1 32 (by show _ < _; decide) (by kernel_rfl)
    have e33 : Reg.val a 33 = _ := hkn 2 33 (by show _ < _; decide) (by kernel_rfl)
    have e34 : Reg.val a 34 = _ := hkn 3 34 (by show _ < _; decide) (by kernel_rfl)
    have e35 : Reg.val a 35 = _ := hkn 4 35 (by show _ < _; decide) (by kernel_rfl)
    have e37 : Reg.val a 37 = _ := hkn 6 37 (by show _ < _; decide) (by kernel_rfl)
    have e38 : Reg.val a 38 = _ := hkn 7 38 (by show _ < _; decide) (by kernel_rfl)
    have e39 : Reg.val a 39 = _ := hkn 8 39 (by show _ < _; decide) (by kernel_rfl)
    have e40 : Reg.val a 40 = _ := hkn 9 40 (by show _ < _; decide) (by kernel_rfl)
    have e43 : Reg.val a 43 = _ := hkn 12 43 (by show _ < _; decide) (by kernel_rfl)
    have e44 : Reg.val a 44 = _ := hkn 13 44 (by show _ < _; decide) (by kernel_rfl)
    have e45 : Reg.val a 45 = _ := hkn 14 45 (by show _ < _; decide) (by kernel_rfl)
    have e46 : Reg.val a 46 = _ := hkn 15 46 (by show _ < _; decide) (by kernel_rfl)
    rw [Reg.frm_fold hf [31, 32, 33, 34, 35, 36, 37, 38, 39, 40, 41, 42, 43, 44, 45, 46, 47, 7] (by kernel_rfl) (by kernel_rfl)]
    simp only [List.foldl_cons, List.foldl_nil, Act.put, List.setIfInBounds_toArray, List.set_cons_zero, List.set_cons_succ, e32, e33, e34, e35, e37, e38, e39, e40, e43, e44, e45, e46]
    generalize Reg.val a 31 = v31_ at *
    generalize Reg.val a 36 = v36_ at *
    generalize Reg.val a 41 = v41_ at *
    generalize Reg.val a 42 = v42_ at *
    generalize Reg.val a 47 = v47_ at *
    generalize Reg.val a 7 = v7_ at *
    clear hkn hf e32 e33 e34 e35 e37 e38 e39 e40 e43 e44 e45 e46
    obtain ⟨hj, h8⟩ := hj
    subst h8
    have HT := Lib.hid hj
    clear hj
    have hcut0 := HCUT0.out
    clear hcut1
    obtain ⟨AT, cT, hvT, hcT, hCT⟩ := Kd.N_reads HT.out.row
    obtain ⟨nt, hnt⟩ : ∃ nt, nt = (tk1 ++ [y] ++ dk).length := ⟨_, rfl⟩
    rw [← hnt] at hvT hcT hCT
    subst hvT
    have HNT := Lib.hid hnt
    have HCT := Lib.hid hCT
    have HCCT := Lib.hid hcT
    have HBT : Hid (Below W0.heap.size W0 w_) := HT.out.below
    clear hnt hCT hcT HT
    obtain ⟨W5, hW5⟩ : ∃ W5, W5 = w_ := ⟨_, rfl⟩
    subst hW5
    have HTK0 : Hid (Kd.F k28 W5 (fun q => q < W5.heap.size) (some ad) ix tk0) := Kd.F_mono (Kd.F_below HTK0'.out HBT.out) (fun q hq => Nat.lt_of_lt_of_le hq HBT.out.size)
    have HDK6 : Hid (Kd.F k28 W5 (fun q => q < W5.heap.size) AD (n - (ix + 1)) dk) := Kd.F_mono (Kd.F_below HDK.out HBT.out) (fun q hq => Nat.lt_of_lt_of_le hq HBT.out.size)
    clear HTK0' HDK HTK1
    go_wp2_with fail
    refine Reg.wp_region_phase (by kernel_rfl) [0, 4, 9, 10] (fun i => match i with | 1 => fun v => v = .slice (some ad) n c5 | 2 => fun v => v = .int .i64 (ix : Int) | 3 => fun v => v = .slice (some ad) ix c5 | 5 => fun v => v = .slice (some ad) n c5 | 6 => fun v => v = .int .i64 (ix : Int) | 7 => fun v => v = .int .i64 ((ix : Int) + 1) | 8 => fun v => v = .slice AD (n - (ix + 1)) (c5 - (ix + 1)) | _ => fun _ => True) (fun k f W => match k with
    | 0 => Reg.Rw k28 28 W5 W false undef (.slice none 0 0) [] y
    | 1 => Reg.Rw k28 28 W5 W false undef (f 48) [] y
    | 2 => Reg.Rw k28 28 W5 W false undef (f 52) tk0 y
    | 3 => Reg.Rw k28 28 W5 W false undef (f 57) (tk0 ++ dk) y
    | _ => Reg.Rw k28 28 W5 W false undef (f 57) (tk0 ++ dk) y ∧ f 8 = f 57) (by kernel_rfl) (by kernel_rfl) (by decide) (by decide) ?hJ ?h0 ?pure ?act ?fin
    case hJ => (intro k f f' W h hj; match k, hj with
    | 0, hj => exact hj
    | 1, hj => (rw [h 0 (by omega) (by decide) 48 (by kernel_rfl)] at hj; exact hj)
    | 2, hj => (rw [h 1 (by omega) (by decide) 52 (by kernel_rfl)] at hj; exact hj)
    | 3, hj => (rw [h 2 (by omega) (by decide) 57 (by kernel_rfl)] at hj; exact hj)
    | k + 4, hj => (rw [h 2 (by omega) (by decide) 57 (by kernel_rfl), h 3 (by omega) (by decide) 8 (by kernel_rfl)] at hj; exact hj))
    case h0 => exact Reg.Rw.start (below_drew (Below.refl _ _)) _ _
    case pure =>
      intro i o k a w_ ho hE hk hmc hf hst hkn hj
      have hi : i < 11 := (Array.getElem?_eq_some_iff.1 ho).1
      obtain rfl | rfl | rfl | rfl | rfl | rfl | rfl : i = 1 ∨ i = 2 ∨ i = 3 ∨ i = 5 ∨ i = 6 ∨ i = 7 ∨ i = 8 := by
        simp only [List.mem_cons, List.not_mem_nil, or_false, not_or] at hE
        omega
      · as_aux_lemma =>
        obtain rfl := Reg.oper_eq ho rfl
        have e5 : a.eval (.tmp 5) = .slice (some ad) n c5 := (hf.eval 5 (by kernel_rfl)).trans rfl
        have g5 := Reg.eval_getD e5
        exact Reg.op_value rfl rfl (by simp only [List.getElem_toArray, List.getElem_cons_zero, List.getElem_cons_succ, execOp, e5]; go_simp) ⟨_, rfl, rfl, hj⟩
      · as_aux_lemma =>
        obtain rfl := Reg.oper_eq ho rfl
        have e6 : a.eval (.tmp 6) = .int .i64 (ix : Int) := (hf.eval 6 (by kernel_rfl)).trans rfl
        have g6 := Reg.eval_getD e6
        exact Reg.op_value rfl rfl (by simp only [List.getElem_toArray, List.getElem_cons_zero, List.getElem_cons_succ, execOp, e6]; go_simp) ⟨_, rfl, rfl, hj⟩
      · as_aux_lemma =>
        obtain rfl := Reg.oper_eq ho rfl
        have e49 : a.eval (.tmp 49) = .slice (some ad) n c5 := hkn.eval 1 49 (by kernel_rfl) (by kernel_rfl)
        have e50 : a.eval (.tmp 50) = .int .i64 (ix : Int) := hkn.eval 2 50 (by kernel_rfl) (by kernel_rfl)
        have g49 := Reg.eval_getD e49
        have g50 := Reg.eval_getD e50
        exact Reg.op_value rfl rfl (by simp only [List.getElem_toArray, List.getElem_cons_zero, List.getElem_cons_succ, execOp, e49, e50]; go_simp) ⟨_, rfl, rfl, hj⟩
      · as_aux_lemma =>
        obtain rfl := Reg.oper_eq ho rfl
        have e5 : a.eval (.tmp 5) = .slice (some ad) n c5 := (hf.eval 5 (by kernel_rfl)).trans rfl
        have g5 := Reg.eval_getD e5
        exact Reg.op_value rfl rfl (by simp only [List.getElem_toArray, List.getElem_cons_zero, List.getElem_cons_succ, execOp, e5]; go_simp) ⟨_, rfl, rfl, hj⟩
      · as_aux_lemma =>
        obtain rfl := Reg.oper_eq ho rfl
        have e6 : a.eval (.tmp 6) = .int .i64 (ix : Int) := (hf.eval 6 (by kernel_rfl)).trans rfl
        have g6 := Reg.eval_getD e6
        exact Reg.op_value rfl rfl (by simp only [List.getElem_toArray, List.getElem_cons_zero, List.getElem_cons_succ, execOp, e6]; go_simp) ⟨_, rfl, rfl, hj⟩
      · as_aux_lemma =>
        obtain rfl := Reg.oper_eq ho rfl
        have e54 : a.eval (.tmp 54) = .int .i64 (ix : Int) := hkn.eval 6 54 (by kernel_rfl) (by kernel_rfl)
        have g54 := Reg.eval_getD e54
        exact Reg.op_value rfl rfl (by simp only [List.getElem_toArray, List.getElem_cons_zero, List.getElem_cons_succ, execOp, e54]; go_simp) ⟨_, rfl, rfl, hj⟩
      · as_aux_lemma =>
        obtain rfl := Reg.oper_eq ho rfl
        have e53 : a.eval (.tmp 53) = .slice (some ad) n c5 := hkn.eval 5 53 (by kernel_rfl) (by kernel_rfl)
        have e55 : a.eval (.tmp 55) = .int .i64 ((ix : Int) + 1) := hkn.eval 7 55 (by kernel_rfl) (by kernel_rfl)
        have g53 := Reg.eval_getD e53
        have g55 := Reg.eval_getD e55
        exact Reg.op_value rfl rfl (by simp only [List.getElem_toArray, List.getElem_cons_zero, List.getElem_cons_succ, execOp, e53, e55]; go_simp) ⟨_, rfl, rfl, hj⟩
    case act =>
      intro k o a w_ hk ho hf hst hkn hj
      obtain rfl | rfl | rfl | rfl : k = 0 ∨ k = 1 ∨ k = 2 ∨ k = 3 := by simp only [List.length_cons, List.length_nil] at hk; omega
      · as_aux_lemma =>
        obtain rfl := Reg.oper_eq ho rfl
        refine Reg.op_wp rfl rfl ?_
        refine Reg.Rw.empty hj rfl rfl (by simp only [List.getElem_toArray, List.getElem_cons_zero, List.getElem_cons_succ, execOp]; go_simp) ?_
        intro v1 w1 hj1
        refine ⟨_, rfl, trivial, ?_⟩
        exact (Reg.val_put_in hf (by kernel_rfl)).symm ▸ hj1
      · as_aux_lemma =>
        obtain rfl := Reg.oper_eq ho rfl
        have e51 : a.eval (.tmp 51) = .slice (some ad) ix c5 := hkn.eval 3 51 (by kernel_rfl) (by kernel_rfl)
        have g51 := Reg.eval_getD e51
        refine Reg.op_wp rfl rfl ?_
        refine Reg.Rw.append hj rfl (.tmp 48) (.tmp 51) 24 (.agg #[(.int .i64 0), (.int .i64 0), (.slice none 0 0)]) 40 rfl Tryd.underlying24 info28 rfl (by decide) (by decide) (Reg.eval_val a 48) e51 HTK0.out (by have := HLN.out; (try simp only [List.length_append, List.length_cons, List.length_nil]); omega) ?_
        intro v1 w1 hj1
        refine ⟨_, rfl, trivial, ?_⟩
        exact (Reg.val_put_in hf (by kernel_rfl)).symm ▸ hj1
      · as_aux_lemma =>
        obtain rfl := Reg.oper_eq ho rfl
        have e56 : a.eval (.tmp 56) = .slice AD (n - (ix + 1)) (c5 - (ix + 1)) := hkn.eval 8 56 (by kernel_rfl) (by kernel_rfl)
        have g56 := Reg.eval_getD e56
        refine Reg.op_wp rfl rfl ?_
        refine Reg.Rw.append hj rfl (.tmp 52) (.tmp 56) 24 (.agg #[(.int .i64 0), (.int .i64 0), (.slice none 0 0)]) 40 rfl Tryd.underlying24 info28 rfl (by decide) (by decide) (Reg.eval_val a 52) e56 HDK6.out (by have := HLN.out; (try simp only [List.length_append, List.length_cons, List.length_nil]); omega) ?_
        intro v1 w1 hj1
        refine ⟨_, rfl, trivial, ?_⟩
        exact (Reg.val_put_in hf (by kernel_rfl)).symm ▸ hj1
      · as_aux_lemma =>
        obtain rfl := Reg.oper_eq ho rfl
        have e57 : a.eval (.tmp 57) = Reg.val a 57 := Reg.eval_val a 57
        have g57 := Reg.eval_getD e57
        refine Reg.op_value (v := Reg.val a 57) (w' := w_) rfl rfl (by simp only [List.getElem_toArray, List.getElem_cons_zero, List.getElem_cons_succ, execOp, e57]; go_simp) ⟨_, rfl, trivial, ?_, ?_⟩
        · show Reg.Rw k28 28 W5 w_ false undef (Reg.val (a.put (some 8) (Reg.val a 57)) 57) _ _
          rw [Reg.val_put_ne a (some 8) _ 57 (by decide)]
          exact hj
        · show Reg.val (a.put (some 8) (Reg.val a 57)) 8 = Reg.val (a.put (some 8) (Reg.val a 57)) 57
          rw [Reg.val_put_in hf (d := 8) (by kernel_rfl), Reg.val_put_ne a (some 8) _ 57 (by decide)]
    case fin =>
      intro a w_ hf hkn hj
      have e49 : Reg.val a 49 = _ := hkn 1 49 (by show _ < _; decide) (by kernel_rfl)
      have e50 : Reg.val a 50 = _ := hkn 2 50 (by show _ < _; decide) (by kernel_rfl)
      have e51 : Reg.val a 51 = _ := hkn 3 51 (by show _ < _; decide) (by kernel_rfl)
      have e53 : Reg.val a 53 = _ := hkn 5 53 (by show _ < _; decide) (by kernel_rfl)
      have e54 : Reg.val a 54 = _ := hkn 6 54 (by show _ < _; decide) (by kernel_rfl)
      have e55 : Reg.val a 55 = _ := hkn 7 55 (by show _ < _; decide) (by kernel_rfl)
      have e56 : Reg.val a 56 = _ := hkn 8 56 (by show _ < _; decide) (by kernel_rfl)
      rw [Reg.frm_fold hf [48, 49, 50, 51, 52, 53, 54, 55, 56, 57, 8] (by kernel_rfl) (by kernel_rfl)]
      simp only [List.foldl_cons, List.foldl_nil, Act.put, List.setIfInBounds_toArray, List.set_cons_zero, List.set_cons_succ, e49, e50, e51, e53, e54, e55, e56]
      generalize Reg.val a 48 = v48_ at *
      generalize Reg.val a 52 = v52_ at *
      generalize Reg.val a 57 = v57_ at *
      generalize Reg.val a 8 = v8_ at *
      clear hkn hf e49 e50 e51 e53 e54 e55 e56
      obtain ⟨hj, h8⟩ := hj
      subst h8
      have HL := Lib.hid hj
      clear hj
      clear hcut0 hcf
      obtain ⟨AL, cL, hvL, hcL, hCL⟩ := Kd.N_reads HL.out.row
      obtain ⟨nl, hnl⟩ : ∃ nl, nl = (tk0 ++ dk).length := ⟨_, rfl⟩
      rw [← hnl] at hvL hcL hCL
      subst hvL
      have HNL := Lib.hid hnl
      have HCL6 := Lib.hid hCL
      have HCCL := Lib.hid hcL
      have HBL : Hid (Below W5.heap.size W5 w_) := HL.out.below
      clear hnl hCL hcL HL
      have HB7 : Hid (Below w.heap.size w w_) := below_lower (below_lower HB3.out HBT.out) HBL.out
      have hin : (ix : Int) + 1 ≤ n := by omega
      go_wp2_with fail
      obtain ⟨W7, hW7⟩ : ∃ W7, W7 = w_ := ⟨_, rfl⟩
      subst hW7
      obtain ⟨a0', Az, cz, hA, z0, z1, z2, lz, rz⟩ := at_T29 HC.out (ix : Int) (by omega) (by have := HN.out; omega)
      injection hA with hA
      subst hA
      have hixl : ix < l.length := by have := HN.out; omega
      have hzr : rd_T29 l ix = l[ix] := rd29 hixl
      have HZM : Hid (rd_T29 l ix ∈ l) := by show _ ∈ _; rw [hzr]; exact List.getElem_mem hixl
      have HZY : Hid (y = cvE (rd_T29 l ix)) := by
        show y = _
        have e := HY.out
        have e2 := HXS.out
        subst e2
        rw [e, hzr, List.getElem_map]
      clear hzr hixl
      generalize rd_T29 l ix = z at *
      simp only [Int.toNat_natCast] at z0 z1 z2
      obtain ⟨zl, hzl⟩ : ∃ zl, zl = z.f2.length := ⟨_, rfl⟩
      rw [← hzl] at z2
      have HZC : Hid (∀ W, Below w.heap.size w W → W.cell? (a0.add (ix * 3)) = some (.int .i64 z.f0) ∧ W.cell? ⟨(a0.add (ix * 3)).block, (a0.add (ix * 3)).off + 1, none⟩ = some (.int .i64 z.f1) ∧ W.cell? ⟨(a0.add (ix * 3)).block, (a0.add (ix * 3)).off + 2, none⟩ = some (.slice Az zl cz)) := fun W hb =>
        ⟨(hb.cell (block_lt_of_cell z0)).trans z0, (hb.cell (block_lt_of_cell z1)).trans z1, (hb.cell (block_lt_of_cell z2)).trans z2⟩
      have HZL := Lib.hid hzl
      have HLZ := Lib.hid lz
      have HRZ := Lib.hid rz
      clear z0 z1 z2 hzl lz rz
      go_loopg [9, 10] (n - (ix + 1)) (fun m v9 v10 X => ∃ (jx : Nat) (b : Bool), jx + m = n ∧ v10 = .int .i64 jx ∧ v9 = .bool b ∧ Hid (Below w.heap.size w X) ∧ Hid (Below W7.heap.size W7 X) ∧ Hid (ix + 1 ≤ jx) ∧ Hid (b = !(((l.take jx).drop (ix + 1)).any fun e => sameE (cvE e) y)))
      case atStart => exact ⟨ix + 1, true, by omega, by go_num, rfl, HB7, Below.refl _ _, Nat.le_refl _, by show _ = _; rw [List.drop_of_length_le (by rw [List.length_take]; omega)]; rfl⟩
      case round =>
        obtain ⟨jx, b, hjk, rfl, rfl, hBX, hB7X, hge, hb⟩ := hrel
        have HJK := Lib.hid hjk
        clear hjk
        obtain ⟨X, hX⟩ : ∃ X, X = wr := ⟨_, rfl⟩
        subst hX
        by_cases hlt : jx < n
        · have HLT := Lib.hid hlt
          obtain ⟨a0', Ax, cx, hA, x0, x1, x2, lx, rx⟩ := at_T29 (Kd.C_below HC.out hBX.out) (jx : Int) (by omega) (by have := HN.out; omega)
          injection hA with hA
          subst hA
          have hjl : jx < l.length := by have := HN.out; omega
          have hxr : rd_T29 l jx = l[jx] := rd29 hjl
          have HXM : Hid (rd_T29 l jx ∈ l) := by show _ ∈ _; rw [hxr]; exact List.getElem_mem hjl
          have HST : Hid (((l.take (jx + 1)).drop (ix + 1)).any (fun e => sameE (cvE e) y) = (((l.take jx).drop (ix + 1)).any (fun e => sameE (cvE e) y) || sameE (cvE (rd_T29 l jx)) y)) := by
            show _ = _
            rw [hxr]
            exact any_step hge.out hjl
          clear hxr hjl
          generalize rd_T29 l jx = x at *
          simp only [Int.toNat_natCast] at x0 x1 x2
          obtain ⟨xl, hxl⟩ : ∃ xl, xl = x.f2.length := ⟨_, rfl⟩
          rw [← hxl] at x2
          obtain ⟨z0, z1, z2⟩ := HZC.out X hBX.out
          have hnj : (jx : Int) + 1 ≤ 1000000 := by omega
          by_cases hJ : x.f0 = z.f0
          · have hjq : (x.f0 == z.f0) = true := by simpa using hJ
            obtain ⟨nd, hnd⟩ : ∃ nd, nd = (didF z.f0 [] [x, z]).length := ⟨_, rfl⟩
            obtain ⟨qb, hqb⟩ : ∃ qb : Bool, ((nd : Int) == 1) = qb := ⟨_, rfl⟩
            have HQB : Hid (qb = sameE (cvE x) y) := by
              show qb = _
              rw [← hqb, hnd, did_two x z hJ, HZY.out]
              by_cases e : x.f2 = z.f2
              · rw [if_pos e, (sameE_iff (cvE x) (cvE z)).2 ⟨hJ, e⟩]; rfl
              · rw [if_neg e]
                have : sameE (cvE x) (cvE z) = false := by
                  rw [← Bool.not_eq_true]
                  intro h
                  exact e ((sameE_iff _ _).1 h).2
                rw [this]; rfl
            have HTWO : Hid (∀ W, Below X.heap.size X W → Kd.C k29 (W.alloc (.cells #[.int .i64 x.f0, .int .i64 x.f1, .slice Ax xl cx, .int .i64 z.f0, .int .i64 z.f1, .slice Az zl cz] 29)) (some ⟨W.heap.size, 0, none⟩) 2 [x, z]) := fun W hb => by
              rw [hxl, HZL.out]
              exact two_C29 W x z Ax Az cx cz (Kd.C_below rx hb) lx (Kd.C_below HRZ.out (below_lower hBX.out hb)) HLZ.out
            have HDID : Hid (∀ W g, Kd.F k29 W (fun q => q < W.heap.size) (some ⟨g, 0, none⟩) 2 [x, z] → Calls Tryd.prog 10 #[.slice (some ⟨g, 0, none⟩) 2 2, .int .i64 z.f0] W fun e W' => ∃ A' c', e = .returned (.slice A' nd c') ∧ Below W.heap.size W W') := fun W g hF => by
              refine (rDid_any W (some ⟨g, 0, none⟩) 2 [x, z] z.f0 hF (Nat.le_refl _) (by show (2 : Nat) ≤ _; omega) (fun e he => ?_)).mono ?_
              · have hpx := HP.out x HXM.out
                have hpz := HP.out z HZM.out
                rcases List.mem_cons.1 he with rfl | he
                · omega
                · obtain rfl := List.mem_singleton.1 he
                  omega
              · rintro e W' ⟨v, rfl, hN, hbb⟩
                obtain ⟨A', c', rfl, _, _⟩ := Kd.N_reads hN
                exact ⟨A', c', by rw [hnd], hbb⟩
            have HCI : Hid (∀ W, Below X.heap.size X W → W.cell? (a0.add (jx * 3)) = some (.int .i64 x.f0) ∧ W.cell? ⟨(a0.add (jx * 3)).block, (a0.add (jx * 3)).off + 1, none⟩ = some (.int .i64 x.f1) ∧ W.cell? ⟨(a0.add (jx * 3)).block, (a0.add (jx * 3)).off + 2, none⟩ = some (.slice Ax xl cx)) := fun W hb =>
              ⟨(hb.cell (block_lt_of_cell x0)).trans x0, (hb.cell (block_lt_of_cell x1)).trans x1, (hb.cell (block_lt_of_cell x2)).trans x2⟩
            have HCK : Hid (∀ W, Below X.heap.size X W → W.cell? (a0.add (ix * 3)) = some (.int .i64 z.f0) ∧ W.cell? ⟨(a0.add (ix * 3)).block, (a0.add (ix * 3)).off + 1, none⟩ = some (.int .i64 z.f1) ∧ W.cell? ⟨(a0.add (ix * 3)).block, (a0.add (ix * 3)).off + 2, none⟩ = some (.slice Az zl cz)) := fun W hb => HZC.out W (below_lower hBX.out hb)
            clear x0 x1 x2 z0 z1 z2 hnd hJ lx rx hxl
            go_wp2_with fail
            refine Reg.wp_region_phase (by kernel_rfl) [20, 26, 27] (fun i => match i with | 0 => fun v => v = .slice (some a0) n c0 | 1 => fun v => v = .int .i64 (jx : Int) | 2 => fun v => v = .pointer (some (a0.add (jx * 3))) | 3 => fun v => v = .pointer (some (a0.add (jx * 3))) | 4 => fun v => v = .int .i64 x.f0 | 5 => fun v => v = .slice (some a0) n c0 | 6 => fun v => v = .int .i64 (ix : Int) | 7 => fun v => v = .pointer (some (a0.add (ix * 3))) | 8 => fun v => v = .pointer (some (a0.add (ix * 3))) | 9 => fun v => v = .int .i64 z.f0 | 10 => fun v => v = .bool true | 11 => fun v => v = .bool true | 12 => fun v => v = .slice (some a0) n c0 | 13 => fun v => v = .int .i64 (jx : Int) | 14 => fun v => v = .pointer (some (a0.add (jx * 3))) | 15 => fun v => v = .agg #[.int .i64 x.f0, .int .i64 x.f1, .slice Ax xl cx] | 16 => fun v => v = .slice (some a0) n c0 | 17 => fun v => v = .int .i64 (ix : Int) | 18 => fun v => v = .pointer (some (a0.add (ix * 3))) | 19 => fun v => v = .agg #[.int .i64 z.f0, .int .i64 z.f1, .slice Az zl cz] | 21 => fun v => v = .slice (some a0) n c0 | 22 => fun v => v = .int .i64 (ix : Int) | 23 => fun v => v = .pointer (some (a0.add (ix * 3))) | 24 => fun v => v = .pointer (some (a0.add (ix * 3))) | 25 => fun v => v = .int .i64 z.f0 | 27 => fun v => v = .int .i64 (nd : Int) | 28 => fun v => v = .bool qb | 29 => fun v => v = .bool qb | _ => fun _ => True) (fun k f W => match k with
    | 0 => Below X.heap.size X W
    | 1 => ∃ g, f 86 = .slice (some ⟨g, 0, none⟩) 2 2 ∧ Kd.F k29 W (fun q => q < W.heap.size) (some ⟨g, 0, none⟩) 2 [x, z] ∧ Below X.heap.size X W
    | 2 => ∃ A' c', f 92 = .slice A' nd c' ∧ Below X.heap.size X W
    | _ => Below X.heap.size X W) (by kernel_rfl) (by kernel_rfl) (by decide) (by decide) ?hJ ?h0 ?pure ?act ?fin
            case hJ => (intro k f f' W h hj; match k, hj with
    | 0, hj => exact hj
    | 1, hj => (obtain ⟨g, h1, h2⟩ := hj; exact ⟨g, by rw [← h 0 (by omega) (by decide) 86 (by kernel_rfl)]; exact h1, h2⟩)
    | 2, hj => (obtain ⟨g, c', h1, h2⟩ := hj; exact ⟨g, c', by rw [← h 1 (by omega) (by decide) 92 (by kernel_rfl)]; exact h1, h2⟩)
    | k + 3, hj => exact hj)
            case h0 => exact below_drew (Below.refl _ _)
            case pure =>
              intro i o k a w_ ho hE hk hmc hf hst hkn hj
              have hi : i < 30 := (Array.getElem?_eq_some_iff.1 ho).1
              obtain rfl | rfl | rfl | rfl | rfl | rfl | rfl | rfl | rfl | rfl | rfl | rfl | rfl | rfl | rfl | rfl | rfl | rfl | rfl | rfl | rfl | rfl | rfl | rfl | rfl | rfl | rfl : i = 0 ∨ i = 1 ∨ i = 2 ∨ i = 3 ∨ i = 4 ∨ i = 5 ∨ i = 6 ∨ i = 7 ∨ i = 8 ∨ i = 9 ∨ i = 10 ∨ i = 11 ∨ i = 12 ∨ i = 13 ∨ i = 14 ∨ i = 15 ∨ i = 16 ∨ i = 17 ∨ i = 18 ∨ i = 19 ∨ i = 21 ∨ i = 22 ∨ i = 23 ∨ i = 24 ∨ i = 25 ∨ i = 28 ∨ i = 29 := by
                simp only [List.mem_cons, List.not_mem_nil, or_false, not_or] at hE
                omega
              · as_aux_lemma =>
                obtain rfl := Reg.oper_eq ho rfl
                have e0 : a.eval (.tmp 0) = .slice (some a0) n c0 := (hf.eval 0 (by kernel_rfl)).trans rfl
                have g0 := Reg.eval_getD e0
                exact Reg.op_value rfl rfl (by simp only [List.getElem_toArray, List.getElem_cons_zero, List.getElem_cons_succ, execOp, e0]; go_simp) ⟨_, rfl, rfl, hj⟩
              · as_aux_lemma =>
                obtain rfl := Reg.oper_eq ho rfl
                have e10 : a.eval (.tmp 10) = .int .i64 (jx : Int) := (hf.eval 10 (by kernel_rfl)).trans rfl
                have g10 := Reg.eval_getD e10
                exact Reg.op_value rfl rfl (by simp only [List.getElem_toArray, List.getElem_cons_zero, List.getElem_cons_succ, execOp, e10]; go_simp) ⟨_, rfl, rfl, hj⟩
              · as_aux_lemma =>
                obtain rfl := Reg.oper_eq ho rfl
                have e66 : a.eval (.tmp 66) = .slice (some a0) n c0 := hkn.eval 0 66 (by kernel_rfl) (by kernel_rfl)
                have e67 : a.eval (.tmp 67) = .int .i64 (jx : Int) := hkn.eval 1 67 (by kernel_rfl) (by kernel_rfl)
                have g66 := Reg.eval_getD e66
                have g67 := Reg.eval_getD e67
                exact Reg.op_value rfl rfl (by simp only [List.getElem_toArray, List.getElem_cons_zero, List.getElem_cons_succ, execOp, e66, e67]; go_simp) ⟨_, rfl, rfl, hj⟩
              · as_aux_lemma =>
                obtain rfl := Reg.oper_eq ho rfl
                have e68 : a.eval (.tmp 68) = .pointer (some (a0.add (jx * 3))) := hkn.eval 2 68 (by kernel_rfl) (by kernel_rfl)
                have g68 := Reg.eval_getD e68
                exact Reg.op_value rfl rfl (by simp only [List.getElem_toArray, List.getElem_cons_zero, List.getElem_cons_succ, execOp, e68]; go_simp) ⟨_, rfl, rfl, hj⟩
              · as_aux_lemma =>
                obtain rfl := Reg.oper_eq ho rfl
                have e69 : a.eval (.tmp 69) = .pointer (some (a0.add (jx * 3))) := hkn.eval 3 69 (by kernel_rfl) (by kernel_rfl)
                have g69 := Reg.eval_getD e69
                have hbw : Below X.heap.size X w_ := by
                  match k, hj with
                  | 0, hj => exact hj
                  | 1, hj => exact hj.choose_spec.2.2
                  | 2, hj => exact hj.choose_spec.choose_spec.2
                  | k + 3, hj => exact hj
                obtain ⟨x0, x1, x2⟩ := HCI.out w_ hbw
                obtain ⟨z0, z1, z2⟩ := HCK.out w_ hbw
                exact Reg.op_value rfl rfl (by simp only [List.getElem_toArray, List.getElem_cons_zero, List.getElem_cons_succ, execOp, e69]; go_simp) ⟨_, rfl, rfl, hj⟩
              · as_aux_lemma =>
                obtain rfl := Reg.oper_eq ho rfl
                have e0 : a.eval (.tmp 0) = .slice (some a0) n c0 := (hf.eval 0 (by kernel_rfl)).trans rfl
                have g0 := Reg.eval_getD e0
                exact Reg.op_value rfl rfl (by simp only [List.getElem_toArray, List.getElem_cons_zero, List.getElem_cons_succ, execOp, e0]; go_simp) ⟨_, rfl, rfl, hj⟩
              · as_aux_lemma =>
                obtain rfl := Reg.oper_eq ho rfl
                have e6 : a.eval (.tmp 6) = .int .i64 (ix : Int) := (hf.eval 6 (by kernel_rfl)).trans rfl
                have g6 := Reg.eval_getD e6
                exact Reg.op_value rfl rfl (by simp only [List.getElem_toArray, List.getElem_cons_zero, List.getElem_cons_succ, execOp, e6]; go_simp) ⟨_, rfl, rfl, hj⟩
              · as_aux_lemma =>
                obtain rfl := Reg.oper_eq ho rfl
                have e71 : a.eval (.tmp 71) = .slice (some a0) n c0 := hkn.eval 5 71 (by kernel_rfl) (by kernel_rfl)
                have e72 : a.eval (.tmp 72) = .int .i64 (ix : Int) := hkn.eval 6 72 (by kernel_rfl) (by kernel_rfl)
                have g71 := Reg.eval_getD e71
                have g72 := Reg.eval_getD e72
                exact Reg.op_value rfl rfl (by simp only [List.getElem_toArray, List.getElem_cons_zero, List.getElem_cons_succ, execOp, e71, e72]; go_simp) ⟨_, rfl, rfl, hj⟩
              · as_aux_lemma =>
                obtain rfl := Reg.oper_eq ho rfl
                have e73 : a.eval (.tmp 73) = .pointer (some (a0.add (ix * 3))) := hkn.eval 7 73 (by kernel_rfl) (by kernel_rfl)
                have g73 := Reg.eval_getD e73
                exact Reg.op_value rfl rfl (by simp only [List.getElem_toArray, List.getElem_cons_zero, List.getElem_cons_succ, execOp, e73]; go_simp) ⟨_, rfl, rfl, hj⟩
              · as_aux_lemma =>
                obtain rfl := Reg.oper_eq ho rfl
                have e74 : a.eval (.tmp 74) = .pointer (some (a0.add (ix * 3))) := hkn.eval 8 74 (by kernel_rfl) (by kernel_rfl)
                have g74 := Reg.eval_getD e74
                have hbw : Below X.heap.size X w_ := by
                  match k, hj with
                  | 0, hj => exact hj
                  | 1, hj => exact hj.choose_spec.2.2
                  | 2, hj => exact hj.choose_spec.choose_spec.2
                  | k + 3, hj => exact hj
                obtain ⟨x0, x1, x2⟩ := HCI.out w_ hbw
                obtain ⟨z0, z1, z2⟩ := HCK.out w_ hbw
                exact Reg.op_value rfl rfl (by simp only [List.getElem_toArray, List.getElem_cons_zero, List.getElem_cons_succ, execOp, e74]; go_simp) ⟨_, rfl, rfl, hj⟩
              · as_aux_lemma =>
                obtain rfl := Reg.oper_eq ho rfl
                have e70 : a.eval (.tmp 70) = .int .i64 x.f0 := hkn.eval 4 70 (by kernel_rfl) (by kernel_rfl)
                have e75 : a.eval (.tmp 75) = .int .i64 z.f0 := hkn.eval 9 75 (by kernel_rfl) (by kernel_rfl)
                have g70 := Reg.eval_getD e70
                have g75 := Reg.eval_getD e75
                exact Reg.op_value rfl rfl (by simp only [List.getElem_toArray, List.getElem_cons_zero, List.getElem_cons_succ, execOp, e70, e75]; go_simp) ⟨_, rfl, rfl, hj⟩
              · as_aux_lemma =>
                obtain rfl := Reg.oper_eq ho rfl
                have e76 : a.eval (.tmp 76) = .bool true := hkn.eval 10 76 (by kernel_rfl) (by kernel_rfl)
                have g76 := Reg.eval_getD e76
                exact Reg.op_value rfl rfl (by simp only [List.getElem_toArray, List.getElem_cons_zero, List.getElem_cons_succ, execOp, e76]; go_simp) ⟨_, rfl, rfl, hj⟩
              · as_aux_lemma =>
                obtain rfl := Reg.oper_eq ho rfl
                have e0 : a.eval (.tmp 0) = .slice (some a0) n c0 := (hf.eval 0 (by kernel_rfl)).trans rfl
                have e77 : a.eval (.tmp 77) = .bool true := hkn.eval 11 77 (by kernel_rfl) (by kernel_rfl)
                have g0 := Reg.eval_getD e0
                have g77 := Reg.eval_getD e77
                exact Reg.op_value rfl ((Reg.wanted_of (j := 11) (d := 77) (b := true) rfl (by kernel_rfl) e77).trans rfl) (by simp only [List.getElem_toArray, List.getElem_cons_zero, List.getElem_cons_succ, execOp, e0, e77]; go_simp) ⟨_, rfl, rfl, hj⟩
              · as_aux_lemma =>
                obtain rfl := Reg.oper_eq ho rfl
                have e10 : a.eval (.tmp 10) = .int .i64 (jx : Int) := (hf.eval 10 (by kernel_rfl)).trans rfl
                have e77 : a.eval (.tmp 77) = .bool true := hkn.eval 11 77 (by kernel_rfl) (by kernel_rfl)
                have g10 := Reg.eval_getD e10
                have g77 := Reg.eval_getD e77
                exact Reg.op_value rfl ((Reg.wanted_of (j := 11) (d := 77) (b := true) rfl (by kernel_rfl) e77).trans rfl) (by simp only [List.getElem_toArray, List.getElem_cons_zero, List.getElem_cons_succ, execOp, e10, e77]; go_simp) ⟨_, rfl, rfl, hj⟩
              · as_aux_lemma =>
                obtain rfl := Reg.oper_eq ho rfl
                have e78 : a.eval (.tmp 78) = .slice (some a0) n c0 := hkn.eval 12 78 (by kernel_rfl) (by kernel_rfl)
                have e79 : a.eval (.tmp 79) = .int .i64 (jx : Int) := hkn.eval 13 79 (by kernel_rfl) (by kernel_rfl)
                have e77 : a.eval (.tmp 77) = .bool true := hkn.eval 11 77 (by kernel_rfl) (by kernel_rfl)
                have g78 := Reg.eval_getD e78
                have g79 := Reg.eval_getD e79
                have g77 := Reg.eval_getD e77
                exact Reg.op_value rfl ((Reg.wanted_of (j := 11) (d := 77) (b := true) rfl (by kernel_rfl) e77).trans rfl) (by simp only [List.getElem_toArray, List.getElem_cons_zero, List.getElem_cons_succ, execOp, e78, e79, e77]; go_simp) ⟨_, rfl, rfl, hj⟩
              · as_aux_lemma =>
                obtain rfl := Reg.oper_eq ho rfl
                have e80 : a.eval (.tmp 80) = .pointer (some (a0.add (jx * 3))) := hkn.eval 14 80 (by kernel_rfl) (by kernel_rfl)
                have e77 : a.eval (.tmp 77) = .bool true := hkn.eval 11 77 (by kernel_rfl) (by kernel_rfl)
                have g80 := Reg.eval_getD e80
                have g77 := Reg.eval_getD e77
                have hbw : Below X.heap.size X w_ := by
                  match k, hj with
                  | 0, hj => exact hj
                  | 1, hj => exact hj.choose_spec.2.2
                  | 2, hj => exact hj.choose_spec.choose_spec.2
                  | k + 3, hj => exact hj
                obtain ⟨x0, x1, x2⟩ := HCI.out w_ hbw
                obtain ⟨z0, z1, z2⟩ := HCK.out w_ hbw
                exact Reg.op_value rfl ((Reg.wanted_of (j := 11) (d := 77) (b := true) rfl (by kernel_rfl) e77).trans rfl) (by simp only [List.getElem_toArray, List.getElem_cons_zero, List.getElem_cons_succ, execOp, e80, e77]; go_simp) ⟨_, rfl, rfl, hj⟩
              · as_aux_lemma =>
                obtain rfl := Reg.oper_eq ho rfl
                have e0 : a.eval (.tmp 0) = .slice (some a0) n c0 := (hf.eval 0 (by kernel_rfl)).trans rfl
                have e77 : a.eval (.tmp 77) = .bool true := hkn.eval 11 77 (by kernel_rfl) (by kernel_rfl)
                have g0 := Reg.eval_getD e0
                have g77 := Reg.eval_getD e77
                exact Reg.op_value rfl ((Reg.wanted_of (j := 11) (d := 77) (b := true) rfl (by kernel_rfl) e77).trans rfl) (by simp only [List.getElem_toArray, List.getElem_cons_zero, List.getElem_cons_succ, execOp, e0, e77]; go_simp) ⟨_, rfl, rfl, hj⟩
              · as_aux_lemma =>
                obtain rfl := Reg.oper_eq ho rfl
                have e6 : a.eval (.tmp 6) = .int .i64 (ix : Int) := (hf.eval 6 (by kernel_rfl)).trans rfl
                have e77 : a.eval (.tmp 77) = .bool true := hkn.eval 11 77 (by kernel_rfl) (by kernel_rfl)
                have g6 := Reg.eval_getD e6
                have g77 := Reg.eval_getD e77
                exact Reg.op_value rfl ((Reg.wanted_of (j := 11) (d := 77) (b := true) rfl (by kernel_rfl) e77).trans rfl) (by simp only [List.getElem_toArray, List.getElem_cons_zero, List.getElem_cons_succ, execOp, e6, e77]; go_simp) ⟨_, rfl, rfl, hj⟩
              · as_aux_lemma =>
                obtain rfl := Reg.oper_eq ho rfl
                have e82 : a.eval (.tmp 82) = .slice (some a0) n c0 := hkn.eval 16 82 (by kernel_rfl) (by kernel_rfl)
                have e83 : a.eval (.tmp 83) = .int .i64 (ix : Int) := hkn.eval 17 83 (by kernel_rfl) (by kernel_rfl)
                have e77 : a.eval (.tmp 77) = .bool true := hkn.eval 11 77 (by kernel_rfl) (by kernel_rfl)
                have g82 := Reg.eval_getD e82
                have g83 := Reg.eval_getD e83
                have g77 := Reg.eval_getD e77
                exact Reg.op_value rfl ((Reg.wanted_of (j := 11) (d := 77) (b := true) rfl (by kernel_rfl) e77).trans rfl) (by simp only [List.getElem_toArray, List.getElem_cons_zero, List.getElem_cons_succ, execOp, e82, e83, e77]; go_simp) ⟨_, rfl, rfl, hj⟩
              · as_aux_lemma =>
                obtain rfl := Reg.oper_eq ho rfl
                have e84 : a.eval (.tmp 84) = .pointer (some (a0.add (ix * 3))) := hkn.eval 18 84 (by kernel_rfl) (by kernel_rfl)
                have e77 : a.eval (.tmp 77) = .bool true := hkn.eval 11 77 (by kernel_rfl) (by kernel_rfl)
                have g84 := Reg.eval_getD e84
                have g77 := Reg.eval_getD e77
                have hbw : Below X.heap.size X w_ := by
                  match k, hj with
                  | 0, hj => exact hj
                  | 1, hj => exact hj.choose_spec.2.2
                  | 2, hj => exact hj.choose_spec.choose_spec.2
                  | k + 3, hj => exact hj
                obtain ⟨x0, x1, x2⟩ := HCI.out w_ hbw
                obtain ⟨z0, z1, z2⟩ := HCK.out w_ hbw
                exact Reg.op_value rfl ((Reg.wanted_of (j := 11) (d := 77) (b := true) rfl (by kernel_rfl) e77).trans rfl) (by simp only [List.getElem_toArray, List.getElem_cons_zero, List.getElem_cons_succ, execOp, e84, e77]; go_simp) ⟨_, rfl, rfl, hj⟩
              · as_aux_lemma =>
                obtain rfl := Reg.oper_eq ho rfl
                have e0 : a.eval (.tmp 0) = .slice (some a0) n c0 := (hf.eval 0 (by kernel_rfl)).trans rfl
                have e77 : a.eval (.tmp 77) = .bool true := hkn.eval 11 77 (by kernel_rfl) (by kernel_rfl)
                have g0 := Reg.eval_getD e0
                have g77 := Reg.eval_getD e77
                exact Reg.op_value rfl ((Reg.wanted_of (j := 11) (d := 77) (b := true) rfl (by kernel_rfl) e77).trans rfl) (by simp only [List.getElem_toArray, List.getElem_cons_zero, List.getElem_cons_succ, execOp, e0, e77]; go_simp) ⟨_, rfl, rfl, hj⟩
              · as_aux_lemma =>
                obtain rfl := Reg.oper_eq ho rfl
                have e6 : a.eval (.tmp 6) = .int .i64 (ix : Int) := (hf.eval 6 (by kernel_rfl)).trans rfl
                have e77 : a.eval (.tmp 77) = .bool true := hkn.eval 11 77 (by kernel_rfl) (by kernel_rfl)
                have g6 := Reg.eval_getD e6
                have g77 := Reg.eval_getD e77
                exact Reg.op_value rfl ((Reg.wanted_of (j := 11) (d := 77) (b := true) rfl (by kernel_rfl) e77).trans rfl) (by simp only [List.getElem_toArray, List.getElem_cons_zero, List.getElem_cons_succ, execOp, e6, e77]; go_simp) ⟨_, rfl, rfl, hj⟩
              · as_aux_lemma =>
                obtain rfl := Reg.oper_eq ho rfl
                have e87 : a.eval (.tmp 87) = .slice (some a0) n c0 := hkn.eval 21 87 (by kernel_rfl) (by kernel_rfl)
                have e88 : a.eval (.tmp 88) = .int .i64 (ix : Int) := hkn.eval 22 88 (by kernel_rfl) (by kernel_rfl)
                have e77 : a.eval (.tmp 77) = .bool true := hkn.eval 11 77 (by kernel_rfl) (by kernel_rfl)
                have g87 := Reg.eval_getD e87
                have g88 := Reg.eval_getD e88
                have g77 := Reg.eval_getD e77
                exact Reg.op_value rfl ((Reg.wanted_of (j := 11) (d := 77) (b := true) rfl (by kernel_rfl) e77).trans rfl) (by simp only [List.getElem_toArray, List.getElem_cons_zero, List.getElem_cons_succ, execOp, e87, e88, e77]; go_simp) ⟨_, rfl, rfl, hj⟩
              · as_aux_lemma =>
                obtain rfl := Reg.oper_eq ho rfl
                have e89 : a.eval (.tmp 89) = .pointer (some (a0.add (ix * 3))) := hkn.eval 23 89 (by kernel_rfl) (by kernel_rfl)
                have e77 : a.eval (.tmp 77) = .bool true := hkn.eval 11 77 (by kernel_rfl) (by kernel_rfl)
                have g89 := Reg.eval_getD e89
                have g77 := Reg.eval_getD e77
                exact Reg.op_value rfl ((Reg.wanted_of (j := 11) (d := 77) (b := true) rfl (by kernel_rfl) e77).trans rfl) (by simp only [List.getElem_toArray, List.getElem_cons_zero, List.getElem_cons_succ, execOp, e89, e77]; go_simp) ⟨_, rfl, rfl, hj⟩
              · as_aux_lemma =>
                obtain rfl := Reg.oper_eq ho rfl
                have e90 : a.eval (.tmp 90) = .pointer (some (a0.add (ix * 3))) := hkn.eval 24 90 (by kernel_rfl) (by kernel_rfl)
                have e77 : a.eval (.tmp 77) = .bool true := hkn.eval 11 77 (by kernel_rfl) (by kernel_rfl)
                have g90 := Reg.eval_getD e90
                have g77 := Reg.eval_getD e77
                have hbw : Below X.heap.size X w_ := by
                  match k, hj with
                  | 0, hj => exact hj
                  | 1, hj => exact hj.choose_spec.2.2
                  | 2, hj => exact hj.choose_spec.choose_spec.2
                  | k + 3, hj => exact hj
                obtain ⟨x0, x1, x2⟩ := HCI.out w_ hbw
                obtain ⟨z0, z1, z2⟩ := HCK.out w_ hbw
                exact Reg.op_value rfl ((Reg.wanted_of (j := 11) (d := 77) (b := true) rfl (by kernel_rfl) e77).trans rfl) (by simp only [List.getElem_toArray, List.getElem_cons_zero, List.getElem_cons_succ, execOp, e90, e77]; go_simp) ⟨_, rfl, rfl, hj⟩
              · as_aux_lemma =>
                obtain rfl := Reg.oper_eq ho rfl
                have e93 : a.eval (.tmp 93) = .int .i64 (nd : Int) := hkn.eval 27 93 (by kernel_rfl) (by kernel_rfl)
                have e77 : a.eval (.tmp 77) = .bool true := hkn.eval 11 77 (by kernel_rfl) (by kernel_rfl)
                have g93 := Reg.eval_getD e93
                have g77 := Reg.eval_getD e77
                exact Reg.op_value rfl ((Reg.wanted_of (j := 11) (d := 77) (b := true) rfl (by kernel_rfl) e77).trans rfl) (by simp only [List.getElem_toArray, List.getElem_cons_zero, List.getElem_cons_succ, execOp, e93, e77]; go_simp) ⟨_, rfl, rfl, hj⟩
              · as_aux_lemma =>
                obtain rfl := Reg.oper_eq ho rfl
                have e77 : a.eval (.tmp 77) = .bool true := hkn.eval 11 77 (by kernel_rfl) (by kernel_rfl)
                have e94 : a.eval (.tmp 94) = .bool qb := hkn.eval 28 94 (by kernel_rfl) (by kernel_rfl)
                have g77 := Reg.eval_getD e77
                have g94 := Reg.eval_getD e94
                exact Reg.op_value rfl rfl (by simp only [List.getElem_toArray, List.getElem_cons_zero, List.getElem_cons_succ, execOp, e77, e94]; go_simp) ⟨_, rfl, rfl, hj⟩
            case act =>
              intro k o a w_ hk ho hf hst hkn hj
              obtain rfl | rfl | rfl : k = 0 ∨ k = 1 ∨ k = 2 := by simp only [List.length_cons, List.length_nil] at hk; omega
              · as_aux_lemma =>
                obtain rfl := Reg.oper_eq ho rfl
                have e81 : a.eval (.tmp 81) = .agg #[.int .i64 x.f0, .int .i64 x.f1, .slice Ax xl cx] := hkn.eval 15 81 (by kernel_rfl) (by kernel_rfl)
                have e85 : a.eval (.tmp 85) = .agg #[.int .i64 z.f0, .int .i64 z.f1, .slice Az zl cz] := hkn.eval 19 85 (by kernel_rfl) (by kernel_rfl)
                have e77 : a.eval (.tmp 77) = .bool true := hkn.eval 11 77 (by kernel_rfl) (by kernel_rfl)
                have g81 := Reg.eval_getD e81
                have g85 := Reg.eval_getD e85
                have g77 := Reg.eval_getD e77
                refine Reg.op_value (v := .slice (some ⟨w_.heap.size, 0, none⟩) 2 2) (w' := w_.alloc (.cells #[.int .i64 x.f0, .int .i64 x.f1, .slice Ax xl cx, .int .i64 z.f0, .int .i64 z.f1, .slice Az zl cz] 29)) rfl ((Reg.wanted_of (j := 11) (d := 77) (b := true) rfl (by kernel_rfl) e77).trans rfl) (run_two rfl e81 e85 w_) ⟨_, rfl, trivial, w_.heap.size, Reg.val_put_in hf (by kernel_rfl), ?_, Below.alloc hj (Below.size hj) _⟩
                exact Kd.C_F heap29 (HTWO.out w_ hj)
              · as_aux_lemma =>
                obtain rfl := Reg.oper_eq ho rfl
                have e91 : a.eval (.tmp 91) = .int .i64 z.f0 := hkn.eval 25 91 (by kernel_rfl) (by kernel_rfl)
                have e77 : a.eval (.tmp 77) = .bool true := hkn.eval 11 77 (by kernel_rfl) (by kernel_rfl)
                have g91 := Reg.eval_getD e91
                have g77 := Reg.eval_getD e77
                obtain ⟨g, hv, hF2, hj'⟩ : ∃ g, Reg.val a 86 = .slice (some ⟨g, 0, none⟩) 2 2 ∧ Kd.F k29 w_ (fun q => q < w_.heap.size) (some ⟨g, 0, none⟩) 2 [x, z] ∧ Below X.heap.size X w_ := hj
                have e86 : a.eval (.tmp 86) = .slice (some ⟨g, 0, none⟩) 2 2 := (Reg.eval_val a 86).trans hv
                have g86 := Reg.eval_getD e86
                refine Reg.op_call (f := 10) (args := #[.slice (some ⟨g, 0, none⟩) 2 2, .int .i64 z.f0]) (w' := w_) rfl ((Reg.wanted_of (j := 11) (d := 77) (b := true) rfl (by kernel_rfl) e77).trans rfl) (by simp only [List.getElem_toArray, List.getElem_cons_zero, List.getElem_cons_succ, execOp, e91, e77, e86]; go_simp) ((HDID.out w_ g hF2).mono ?_)
                rintro e W4 ⟨A', c', rfl, hd⟩
                exact .inl ⟨_, rfl, _, rfl, trivial, A', c', Reg.val_put_in hf (by kernel_rfl), below_lower hj' hd⟩
              · as_aux_lemma =>
                obtain rfl := Reg.oper_eq ho rfl
                have e77 : a.eval (.tmp 77) = .bool true := hkn.eval 11 77 (by kernel_rfl) (by kernel_rfl)
                have g77 := Reg.eval_getD e77
                obtain ⟨A', c', hv, hj'⟩ : ∃ A' c', Reg.val a 92 = .slice A' nd c' ∧ Below X.heap.size X w_ := hj
                have e92 : a.eval (.tmp 92) = .slice A' nd c' := (Reg.eval_val a 92).trans hv
                have g92 := Reg.eval_getD e92
                exact Reg.op_value rfl ((Reg.wanted_of (j := 11) (d := 77) (b := true) rfl (by kernel_rfl) e77).trans rfl) (by simp only [List.getElem_toArray, List.getElem_cons_zero, List.getElem_cons_succ, execOp, e92]; go_simp) ⟨_, rfl, rfl, hj'⟩
            case fin =>
              intro a w_ hf hkn hj
              have e66 : Reg.val a 66 = _ := hkn 0 66 (by show _ < _; decide) (by kernel_rfl)
              have e67 : Reg.val a 67 = _ := hkn 1 67 (by show _ < _; decide) (by kernel_rfl)
              have e68 : Reg.val a 68 = _ := hkn 2 68 (by show _ < _; decide) (by kernel_rfl)
              have e69 : Reg.val a 69 = _ := hkn 3 69 (by show _ < _; decide) (by kernel_rfl)
              have e70 : Reg.val a 70 = _ := hkn 4 70 (by show _ < _; decide) (by kernel_rfl)
              have e71 : Reg.val a 71 = _ := hkn 5 71 (by show _ < _; decide) (by kernel_rfl)
              have e72 : Reg.val a 72 = _ := hkn 6 72 (by show _ < _; decide) (by kernel_rfl)
              have e73 : Reg.val a 73 = _ := hkn 7 73 (by show _ < _; decide) (by kernel_rfl)
              have e74 : Reg.val a 74 = _ := hkn 8 74 (by show _ < _; decide) (by kernel_rfl)
              have e75 : Reg.val a 75 = _ := hkn 9 75 (by show _ < _; decide) (by kernel_rfl)
              have e76 : Reg.val a 76 = _ := hkn 10 76 (by show _ < _; decide) (by kernel_rfl)
              have e77 : Reg.val a 77 = _ := hkn 11 77 (by show _ < _; decide) (by kernel_rfl)
              have e78 : Reg.val a 78 = _ := hkn 12 78 (by show _ < _; decide) (by kernel_rfl)
              have e79 : Reg.val a 79 = _ := hkn 13 79 (by show _ < _; decide) (by kernel_rfl)
              have e80 : Reg.val a 80 = _ := hkn 14 80 (by show _ < _; decide) (by kernel_rfl)
              have e81 : Reg.val a 81 = _ := hkn 15 81 (by show _ < _; decide) (by kernel_rfl)
              have e82 : Reg.val a 82 = _ := hkn 16 82 (by show _ < _; decide) (by kernel_rfl)
              have e83 : Reg.val a 83 = _ := hkn 17 83 (by show _ < _; decide) (by kernel_rfl)
              have e84 : Reg.val a 84 = _ := hkn 18 84 (by show _ < _; decide) (by kernel_rfl)
              have e85 : Reg.val a 85 = _ := hkn 19 85 (by show _ < _; decide) (by kernel_rfl)
              have e87 : Reg.val a 87 = _ := hkn 21 87 (by show _ < _; decide) (by kernel_rfl)
              have e88 : Reg.val a 88 = _ := hkn 22 88 (by show _ < _; decide) (by kernel_rfl)
              have e89 : Reg.val a 89 = _ := hkn 23 89 (by show _ < _; decide) (by kernel_rfl)
              have e90 : Reg.val a 90 = _ := hkn 24 90 (by show _ < _; decide) (by kernel_rfl)
              have e91 : Reg.val a 91 = _ := hkn 25 91 (by show _ < _; decide) (by kernel_rfl)
              have e93 : Reg.val a 93 = _ := hkn 27 93 (by show _ < _; decide) (by kernel_rfl)
              have e94 : Reg.val a 94 = _ := hkn 28 94 (by show _ < _; decide) (by kernel_rfl)
              have e95 : Reg.val a 95 = _ := hkn 29 95 (by show _ < _; decide) (by kernel_rfl)
              rw [Reg.frm_fold hf [66, 67, 68, 69, 70, 71, 72, 73, 74, 75, 76, 77, 78, 79, 80, 81, 82, 83, 84, 85, 86, 87, 88, 89, 90, 91, 92, 93, 94, 95] (by kernel_rfl) (by kernel_rfl)]
              simp only [List.foldl_cons, List.foldl_nil, Act.put, List.setIfInBounds_toArray, List.set_cons_zero, List.set_cons_succ, e66, e67, e68, e69, e70, e71, e72, e73, e74, e75, e76, e77, e78, e79, e80, e81, e82, e83, e84, e85, e87, e88, e89, e90, e91, e93, e94, e95]
              generalize Reg.val a 86 = v86_ at *
              generalize Reg.val a 92 = v92_ at *
              clear hkn hf e66 e67 e68 e69 e70 e71 e72 e73 e74 e75 e76 e77 e78 e79 e80 e81 e82 e83 e84 e85 e87 e88 e89 e90 e91 e93 e94 e95
              have HBX : Hid (Below X.heap.size X w_) := hj
              clear hj
              clear hqb hjq
              cases qb with
              | true =>
                go_wp2_with fail
                go_roundg (n - (jx + 1))
                case measure => have := HJK.out; have := HLT.out; omega
                case rel =>
                  refine ⟨jx + 1, false, by have := HLT.out; omega, by go_num, rfl, below_lower hBX.out HBX.out, below_lower hB7X.out HBX.out, Nat.le_succ_of_le hge.out, ?_⟩
                  show _ = _
                  rw [HST.out, ← HQB.out, Bool.or_true]
                  rfl
              | false =>
                go_wp2_with fail
                go_roundg (n - (jx + 1))
                case measure => have := HJK.out; have := HLT.out; omega
                case rel =>
                  refine ⟨jx + 1, b, by have := HLT.out; omega, by go_num, rfl, below_lower hBX.out HBX.out, below_lower hB7X.out HBX.out, Nat.le_succ_of_le hge.out, ?_⟩
                  show _ = _
                  rw [HST.out, ← HQB.out, Bool.or_false]
                  exact hb.out
          · have hjq : (x.f0 == z.f0) = false := by simpa using hJ
            have HQB : Hid (sameE (cvE x) y = false) := by
              show _ = _
              rw [← Bool.not_eq_true, HZY.out]
              intro h
              exact hJ ((sameE_iff _ _).1 h).1
            clear hJ lx rx hxl x1 x2 z1 z2
            go_wp2_with fail
            go_quiet (fail)
            go_wp2_with fail
            go_roundg (n - (jx + 1))
            case measure => have := HJK.out; have := HLT.out; omega
            case rel =>
              refine ⟨jx + 1, b, by have := HLT.out; omega, by go_num, rfl, pw_below_drewN hBX.out _, pw_below_drewN hB7X.out _, Nat.le_succ_of_le hge.out, ?_⟩
              show _ = _
              rw [HST.out, HQB.out, Bool.or_false]
              exact hb.out
        · have hjn : jx = n := by have := HJK.out; omega
          subst hjn
          have HLAST : Hid (sndL [] (tk0 ++ dk) = b) := by
            show _ = _
            rw [HW0.out, HANY.out, hb.out, List.take_of_length_le (by have := HN.out; omega)]
          have hnl := HNL.out
          have hnt := HNT.out
          have hnn := HXL.out
          have hln := HLN.out
          have H1 : Hid (∀ W, Below X.heap.size X W → Calls Tryd.prog 11 #[.slice (some ad) jx c5] W fun e W' => e = .returned (.bool true) ∧ Below W.heap.size W W') := fun W hb => by
            have h := Sound_any HT0.out (below_lower hBX.out hb) xs (some ad) c5 (by rw [hnn]; exact Kd.F_now (Kd.F_below HX.out (below_lower (below_lower (below_lower HBT.out HBL.out) hB7X.out) hb))) (by omega) HE.out
            rw [hnn, HS.out] at h
            exact h
          have H2 : Hid (∀ W, Below X.heap.size X W → Calls Tryd.prog 11 #[.slice AT nt cT] W fun e W' => e = .returned (.bool false) ∧ Below W.heap.size W W') := fun W hb => by
            have h := Sound_any HT0.out (below_lower hBX.out hb) (tk1 ++ [y] ++ dk) AT cT (by rw [← hnt]; exact Kd.C_below HCT.out (below_lower (below_lower HBL.out hB7X.out) hb)) (by simp only [List.length_append, List.length_cons, List.length_nil]; omega) HEV1.out
            rw [← hnt, HW1.out] at h
            exact h
          have H3 : Hid (∀ W, Below X.heap.size X W → Calls Tryd.prog 11 #[.slice AL nl cL] W fun e W' => e = .returned (.bool b) ∧ Below W.heap.size W W') := fun W hb => by
            have h := Sound_any HT0.out (below_lower hBX.out hb) (tk0 ++ dk) AL cL (by rw [← hnl]; exact Kd.C_below HCL6.out (below_lower hB7X.out hb)) (by simp only [List.length_append]; omega) HEV0.out
            rw [← hnl, HLAST.out] at h
            exact h
          have H4 : Hid (∀ W, Below X.heap.size X W → Calls Tryd.prog 12 #[] W fun e W' => e = .returned (.bool true) ∧ Below W.heap.size W W') := fun W hb => awake_any HT0.out (below_lower hBX.out hb)
          clear hnl hnt hnn hln
          have hbb : (b == b) = true := by simp
          have B0 : Hid (Below X.heap.size X X) := Below.refl _ _
          go_wp2_with fail
          refine (H1.out _ B0.out).mono ?_
          rintro e w2 ⟨rfl, hd⟩
          have B2 : Hid (Below X.heap.size X w2) := below_lower B0.out hd
          clear hd
          go_wp2_with fail
          refine (H2.out _ B2.out).mono ?_
          rintro e w3 ⟨rfl, hd⟩
          have B3 : Hid (Below X.heap.size X w3) := below_lower B2.out hd
          clear hd
          go_wp2_with fail
          refine (H3.out _ B3.out).mono ?_
          rintro e w4 ⟨rfl, hd⟩
          have B4 : Hid (Below X.heap.size X w4) := below_lower B3.out hd
          clear hd
          go_wp2_with fail
          refine (H4.out _ B4.out).mono ?_
          rintro e w5 ⟨rfl, hd⟩
          have B5 : Hid (Below X.heap.size X w5) := below_lower B4.out hd
          clear hd
          go_wp2_with fail
          go_ret
          exact ⟨rfl, below_lower hBX.out B5.out⟩
theorem in64_of {x : Int} (h : (Lit.int .i64 x).wf = true) : In64 x := by
  simp [Lit.wf, IntKind.min, IntKind.max, IntKind.bits, IntKind.signed] at h
  exact ⟨by omega, by omega⟩
theorem ev_of {l : List S29} (h : ∀ e ∈ l, KAuditTwice.w29 e) (hp : ∀ e ∈ l, e.f2.length ≤ 1000) : ∀ e ∈ l.map cvE, Ev e := by
  intro e he
  obtain ⟨x, hx, rfl⟩ := List.mem_map.1 he
  obtain ⟨h0, h1, h2⟩ := h x hx
  exact ⟨in64_of h0, in64_of h1, fun z hz => in64_of (h2 z hz), hp x hx⟩
theorem lit2_of {l : List S29} (h : lit2 l = true) : l.length ≤ 1000 ∧ ∀ e ∈ l, e.f2.length ≤ 1000 := by
  unfold lit2 at h
  simp only [Bool.and_eq_true, decide_eq_true_eq, List.all_eq_true] at h
  exact ⟨by omega, fun e he => by have := h.2 e he; omega⟩
theorem walk (w : World) (T0 : Lib.TabIs Tryd.prog w "internal/strconv.uint64pow10" .u64 Lib.pow10Tab) (A0 : Option Addr) (c0 : Nat) (l0 : List (S29)) (hr0 : Kd.C k29 w A0 l0.length l0) (hc0 : l0.length ≤ c0) (w0 : (∀ e ∈ l0, KAuditTwice.w29 e)) (a1 : Int) (w1 : (Lit.int .u8 a1).wf = true) :
    Calls Tryd.prog 3 #[.slice A0 l0.length c0, .int .u8 a1] w fun e w' => e = .returned (.bool true) ∧ Below w.heap.size w w' := by
  cases h : lit2 l0 with
  | false => exact walk_dark w A0 c0 l0 hr0 hc0 h a1
  | true =>
    obtain ⟨hn, hp⟩ := lit2_of h
    rcases Nat.eq_zero_or_pos l0.length with h0 | h0
    · obtain rfl : l0 = [] := List.eq_nil_of_length_eq_zero h0
      exact walk_none w A0 c0 hr0 a1
    · obtain ⟨a0, rfl, _⟩ := hr0.2.2 h0
      cases hs : sndL [] (l0.map cvE) with
      | false => exact walk_bad w (some a0) c0 l0 hr0 hc0 h h0 hn hp hs a1
      | true =>
        simp [Lit.wf, IntKind.min, IntKind.max, IntKind.bits, IntKind.signed] at w1
        exact walk_main w (Lib.tabBelow_of_tabIs T0) a0 c0 l0 hr0 hc0 h h0 hn hp (ev_of w0 hp) hs a1 (by omega) (by omega)
end Go.Proofs.YtceankldidkohaaDoor.RAuditTwice

