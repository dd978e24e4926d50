/- The walk of haymowlaw20.AuditParts: it returns true and turns nothing that was there, for every argument that can be read. -/
import Derived.Test.YtceankldidkohaaDoorC22
import Derived.Test.YtceankldidkohaaDoorAuditPartsK
namespace Go.Proofs.YtceankldidkohaaDoor.RAuditParts
open Go.RowKit Go.Proofs.YtceankldidkohaaDoorW.PrintWords Go.Proofs.YtceankldidkohaaDoorW.PrintMore Go.Proofs.YtceankldidkohaaDoor.PAuditTwice Go.Proofs.YtceankldidkohaaDoor.Core Go.Proofs.YtceankldidkohaaDoor
set_option linter.unusedVariables false
set_option linter.unusedSimpArgs false
set_option maxHeartbeats 1000000 in
theorem walk_dark (w : World) (A0 : Option Addr) (c0 : Nat) (l : List S29) (hC : Kd.C k29 w A0 l.length l) (hc : l.length ≤ c0) (h : lit2 l = false) (a1 : Int) :
    Calls Tryd.prog 4 #[.slice A0 l.length c0, .int .i64 a1] w fun e w' => e = .returned (.bool true) ∧ Below w.heap.size w w' := by
  have H := Lib.hid (haymowlaw20_light.calls _ A0 c0 l _ w hC hc (light_f l))
  rw [h] at H
  clear hC h
  obtain ⟨n, hnn⟩ : ∃ n, n = l.length := ⟨_, rfl⟩
  rw [← hnn] at H hc ⊢
  clear hnn
  go_enter Tryd.func4, Tryd.ntmps4
  go_wp2_with fail
  refine H.out.mono ?_
  rintro e w1 ⟨rfl, hd⟩
  have HB : Hid (Below w.heap.size w w1) := hd.below
  clear hd H
  go_wp2_with fail
  go_ret
  exact ⟨rfl, HB.out⟩
set_option maxHeartbeats 1000000 in
theorem walk_none (w : World) (A0 : Option Addr) (c0 : Nat) (hC : Kd.C k29 w A0 0 ([] : List S29)) (a1 : Int) :
    Calls Tryd.prog 4 #[.slice A0 0 c0, .int .i64 a1] w fun e w' => e = .returned (.bool true) ∧ Below w.heap.size w w' := by
  have H := Lib.hid (haymowlaw20_light.calls _ A0 c0 [] _ w hC (Nat.zero_le _) (light_f []))
  have e : lit2 [] = true := by decide
  rw [e] at H
  clear hC e
  go_enter Tryd.func4, Tryd.ntmps4
  go_wp2_with fail
  refine H.out.mono ?_
  rintro e w1 ⟨rfl, hd⟩
  have HB : Hid (Below w.heap.size w w1) := hd.below
  clear hd H
  go_wp2_with fail
  go_ret
  exact ⟨rfl, HB.out⟩
/-- The state of the loop that picks a job's own events. -/
structure Ow (W0 X : World) (v : Value) (out : List S28) : Prop where
  below : Below W0.heap.size W0 X
  row : Kd.N k28 28 X W0.heap.size (fun _ => True) v out
theorem Ow.keep {W0 X X' : World} {v : Value} {out : List S28} (h : Ow W0 X v out) (hb : Below X.heap.size X X') : Ow W0 X' v out := ⟨below_lower h.below hb, Kd.N_below h.row hb⟩
theorem info28' : (Tryd.prog.info? 28).map (fun i => (i.zero, i.size, i.bytes)) = some (some (.agg #[.int .i64 0, .int .i64 0, .slice none 0 0]), 3, 40) := by kernel_rfl
set_option maxHeartbeats 4000000 in
set_option maxRecDepth 100000 in
theorem walk_main (w : World) (T : Tab w) (a0 : Addr) (c0 : Nat) (l : List S29) (hC : Kd.C k29 w (some a0) l.length l) (hc : l.length ≤ c0) (h : lit2 l = true) (hpos : 0 < l.length) (hn : l.length ≤ 1000) (hp : ∀ e ∈ l, e.f2.length ≤ 1000) (hE : ∀ e ∈ l.map cvE, Ev e) (job : Int) (hj : In64 job) :
    Calls Tryd.prog 4 #[.slice (some a0) l.length c0, .int .i64 job] w fun e w' => e = .returned (.bool true) ∧ Below w.heap.size w w' := by
  have H := Lib.hid (haymowlaw20_light.calls _ (some a0) c0 l _ w hC hc (light_f l))
  rw [h] at H
  obtain ⟨xs, hxs⟩ : ∃ xs, xs = l.map cvE := ⟨_, rfl⟩
  rw [← hxs] at hE
  have hxl : xs.length = l.length := by rw [hxs, List.length_map]
  have H3 : Hid (∀ W, Below w.heap.size w W → Calls Tryd.prog 9 #[.slice (some a0) l.length c0] W fun e w' => ∃ v0_ : Value, e = .returned (v0_) ∧ Kd.N k28 28 w' W.heap.size (fun _ => True) v0_ xs ∧ Below W.heap.size W w') := fun W hb => (haymowlaw20_of.calls _ (fun _ => True) (some a0) c0 l _ W (V_of_C (Kd.C_below hC hb) hc _) ((of_f l (by omega)).trans (congrArg some hxs.symm))).mono (by
    rintro e w' ⟨v, he, hN, hB⟩
    exact ⟨v, he, Kd.N_mono hN (fun _ _ => trivial), hB⟩)
  have HE := Lib.hid hE
  have HT := Lib.hid T
  have HJ := Lib.hid hj
  clear hC h T hE hp hxs hj
  obtain ⟨n, hnn⟩ : ∃ n, n = l.length := ⟨_, rfl⟩
  rw [← hnn] at H H3 hc hpos hn hxl ⊢
  clear hnn
  have HXL := Lib.hid hxl
  clear hxl
  obtain ⟨i28, hi28, hs28⟩ : ∃ i, Tryd.prog.info? 28 = some i ∧ i.size = 3 := by
    have h := info28'
    cases hq : Tryd.prog.info? 28 with
    | none => rw [hq] at h; cases h
    | some i => rw [hq] at h; injection h with h; injection h with _ h; injection h with h; exact ⟨i, rfl, h⟩
  have HI28 := Lib.hid hi28
  have b0 : ((n : Int) == 0) = false := by simp; omega
  clear hi28 hs28
  go_enter Tryd.func4, Tryd.ntmps4
  go_wp2_with fail
  refine H.out.mono ?_
  rintro e w1 ⟨rfl, hd⟩
  have HB : Hid (Below w.heap.size w w1) := hd.below
  clear hd H
  go_wp2_with fail
  refine (H3.out _ HB.out).mono ?_
  rintro e W0 ⟨v5, rfl, hN5, hb5⟩
  have HB0 : Hid (Below w.heap.size w W0) := below_lower HB.out hb5
  clear H3 HB hb5
  obtain ⟨A5, c5, hv5, hc5, hC5⟩ := Kd.N_reads hN5
  rw [HXL.out] at hv5 hc5 hC5
  subst hv5
  have hF5 : Kd.F k28 W0 (fun q => q < W0.heap.size) A5 n xs := Kd.F_mono (Kd.N_F (Kd.N_bound hN5)) (fun q hq => hq.2)
  have HF5 := Lib.hid hF5
  have HSA : Hid (∀ W, Below W0.heap.size W0 W → Calls Tryd.prog 11 #[.slice A5 n c5] W fun e W' => e = .returned (.bool (sndL [] xs)) ∧ Below W.heap.size W W') := fun W hb => by
    have h := Sound_any HT.out (below_lower HB0.out hb) xs A5 c5 (Kd.C_below (by rw [HXL.out]; exact Kd.F_now HF5.out) hb) (by have := HXL.out; omega) HE.out
    rw [HXL.out] at h
    exact h
  have l1 : (xs.take (n - 1)).length = n - 1 := by rw [List.length_take, HXL.out]; omega
  have HSB : Hid (sndL [] xs = true → ∀ W, Below W0.heap.size W0 W → Calls Tryd.prog 11 #[.slice A5 (n - 1 : Nat) c5] W fun e W' => e = .returned (.bool true) ∧ Below W.heap.size W W') := fun hs W hb => by
    have hF : Kd.F k28 W0 (fun q => q < W0.heap.size) A5 (xs.take (n - 1)).length (xs.take (n - 1)) := Kd.F_take (by rw [HXL.out]; exact HF5.out) (by rw [HXL.out]; omega)
    have h := Sound_any HT.out (below_lower HB0.out hb) (xs.take (n - 1)) A5 c5 (Kd.C_below (Kd.F_now hF) hb) (by omega) (fun e he => HE.out e (List.mem_of_mem_take he))
    rw [snd_take hs, l1] at h
    exact h
  have hcut := cut_to (P := Tryd.prog) 24 28 .i64 Tryd.underlying24 HI28.out A5 n c5 ((n : Int) - 1) (by omega) (by omega) hc5
  rw [show ((n : Int) - 1).toNat = n - 1 from by omega] at hcut
  have HCUT := Lib.hid hcut
  have hwr : IntKind.i64.wrap ((n : Int) - 1) = (n : Int) - 1 := IntWalk.i64_in _ (by omega)
  have HC5 := Lib.hid hc5
  clear hcut l1 hF5 hN5 hC5 hc5
  go_wp2_with fail
  cases hs : sndL [] xs
  case' false =>
    have hsa := HSA.out _ (Below.refl _ _)
    rw [hs] at hsa
    refine hsa.mono ?_
    rintro e w4 ⟨rfl, hb4⟩
    have B4 : Hid (Below W0.heap.size W0 w4) := hb4
    clear hb4 hsa hs
    go_wp2_with fail
  case' true =>
    have hsa := HSA.out _ (Below.refl _ _)
    rw [hs] at hsa
    refine hsa.mono ?_
    rintro e w3 ⟨rfl, hb3⟩
    have HSB2 := Lib.hid (HSB.out hs)
    have B3 : Hid (Below W0.heap.size W0 w3) := hb3
    clear hb3 hsa hs
    have hcut := HCUT.out
    go_wp2_with fail
    refine (HSB2.out _ B3.out).mono ?_
    rintro e w4 ⟨rfl, hb4⟩
    have B4 : Hid (Below W0.heap.size W0 w4) := below_lower B3.out hb4
    clear hb4 B3 hcut
    go_wp2_with fail
  all_goals
    clear hwr
    go_loopg [6, 8] n (fun k v6 v8 X => ∃ (j : Nat), j + k = n ∧ v8 = .int .i64 j ∧ Hid (Ow W0 X v6 (ownL job (xs.take j))))
    case atStart => exact ⟨0, by omega, rfl, ⟨B4.out, Kd.N_nil _ _ _ _ _⟩⟩
    case round =>
      obtain ⟨j, hjk, rfl, hA⟩ := hrel
      have HK := Lib.hid hjk
      clear hjk
      obtain ⟨X, hX⟩ : ∃ X, X = wr := ⟨_, rfl⟩
      subst hX
      by_cases hlt : j < n
      · have hl : j < xs.length := by have := HXL.out; omega
        have HLT := Lib.hid hlt
        obtain ⟨ad, A2, c2, rfl, i0, i1, i2, l2, rF⟩ := at_F28 HF5.out (j : Int) (Int.natCast_nonneg j) (Int.ofNat_lt.2 hlt)
        have h0 := (hA.out.below.cell (block_lt_of_cell i0)).trans i0
        have h1 := (hA.out.below.cell (block_lt_of_cell i1)).trans i1
        have h2 := (hA.out.below.cell (block_lt_of_cell i2)).trans i2
        have HFK : Hid (Kd.FK k28 X (fun q => q < W0.heap.size) (rd_T28 xs j) [.int .i64 (rd_T28 xs j).f0, .int .i64 (rd_T28 xs j).f1, .slice A2 (rd_T28 xs j).f2.length c2]) := Kd.FK_step rF (fun q hq hlt => hA.out.below.block q hq)
        clear i0 i1 i2 l2 rF
        have hx : rd_T28 xs j = xs[j] := rd28 hl
        have hd : xs.take (j + 1) = xs.take j ++ [rd_T28 xs j] := by rw [hx]; exact List.take_succ_eq_append_getElem hl
        clear hx
        have HD := Lib.hid hd
        clear hd
        obtain ⟨x, hxx⟩ : ∃ x, x = rd_T28 xs j := ⟨_, rfl⟩
        rw [← hxx] at h0 h1 h2 HFK HD
        clear hxx
        simp only [Int.toNat_natCast] at h0 h1 h2
        have hnj : (j : Int) + 1 ≤ 1000000 := by omega
        have hol : (ownL job (xs.take j)).length ≤ 1000 := by
          have h1 := own_le job (xs.take j)
          have h2 : (xs.take j).length ≤ j := List.length_take_le _ _
          omega
        have HOL := Lib.hid hol
        clear hol
        by_cases he : x.f0 = job
        · have hb0 : (x.f0 == job) = true := by simpa using he
          have HEQ := Lib.hid he
          clear he
          have AK : Hid (∀ q, q < W0.heap.size → True ∧ some q ≠ u6.ownBlock) := fun q hq => ⟨trivial, fun he => by have := Kd.N_base hA.out.row q he.symm; omega⟩
          have AL : Hid (((ownL job (xs.take j)).length + 1) * 40 ≤ 140737488355328) := by
            show _ ≤ _
            have := HOL.out
            omega
          go_wp2_with ((with_reducible refine gate_builtin (b := .append) (xs := #[.tmp 46, .tmp 51]) rfl ?_); at_builtin; refine Kd.N_append k28 (w0 := W0) W0.heap.size rfl (.tmp 46) (.tmp 51) 24 28 (.agg #[.int .i64 0, .int .i64 0, .slice none 0 0]) 40 rfl Tryd.underlying24 info28' rfl (by decide) (by decide) u6 (ownL job (xs.take j)) x [.int .i64 x.f0, .int .i64 x.f1, .slice A2 x.f2.length c2] (fun _ => True) (fun q => q < W0.heap.size) rfl rfl HFK.out AK.out (fun _ _ => trivial) hA.out.row hA.out.below hA.out.below.size AL.out ?_; intro v7 w7 hN hB hg hat; have HN7 := Lib.hid hN; have HB7 := Lib.hid hB; clear hN hB hg hat)
          go_roundg (n - (j + 1))
          case measure => have := HK.out; have := HLT.out; omega
          case rel =>
            refine ⟨j + 1, by have := HLT.out; omega, by go_num, ?_⟩
            show Ow W0 _ _ _
            rw [HD.out, own_snoc, if_pos HEQ.out]
            exact ⟨HB7.out, HN7.out⟩
        · have hb0 : (x.f0 == job) = false := by simpa using he
          go_wp2_with fail
          go_roundg (n - (j + 1))
          case measure => have := HK.out; have := HLT.out; omega
          case rel =>
            refine ⟨j + 1, by have := HLT.out; omega, by go_num, ?_⟩
            show Ow W0 _ _ _
            rw [HD.out, own_snoc, if_neg he]
            exact hA.out
      · obtain rfl : j = n := by have := HK.out; omega
        have hA2 := hA.out
        rw [List.take_of_length_le (by have := HXL.out; omega)] at hA2
        obtain ⟨own, hown⟩ : ∃ o, o = ownL job xs := ⟨_, rfl⟩
        rw [← hown] at hA2
        have HOWN := Lib.hid hown
        have hol : own.length ≤ 1000 := by
          have h1 := own_le job xs
          have h2 := HXL.out
          rw [hown]
          omega
        have hoE : ∀ e ∈ own, Ev e := fun e he => HE.out e (by rw [hown] at he; exact (List.mem_filter.1 he).1)
        have HOE := Lib.hid hoE
        clear hoE hown
        obtain ⟨A6, c6, hv6, hc6, hC6⟩ := Kd.N_reads hA2.row
        obtain ⟨m6, hm6⟩ : ∃ m, m = own.length := ⟨_, rfl⟩
        rw [← hm6] at hv6 hc6 hol
        subst hv6
        have HM6 := Lib.hid hm6
        have BX : Hid (Below W0.heap.size W0 X) := hA2.below
        have HF6 : Hid (Kd.F k28 X (fun q => q < X.heap.size) A6 own.length own) := by
          have h := Kd.F_mono (Kd.N_F (Kd.N_bound hA2.row)) (fun q hq => hq.2)
          rw [hm6] at h
          exact h
        clear hA2 hC6 hc6 hm6 hA
        have HDA : Hid (∀ W, Below X.heap.size X W → Calls Tryd.prog 13 #[.slice A5 j c5, .int .i64 job] W fun e W' => ∃ v s, e = .returned v ∧ Kd.N k40 38 W' W.heap.size (fun _ => True) v s ∧ s.Perm (rawF job [] xs) ∧ Asc s ∧ Below W.heap.size W W') := fun W hb => by
          have h := aDid_any HT.out (below_lower HB0.out (below_lower BX.out hb)) xs A5 c5 job HJ.out (Kd.F_mono (Kd.F_bound (Kd.F_below (by rw [HXL.out]; exact HF5.out) (below_lower BX.out hb))) (fun q hq => hq.2)) (by have := HXL.out; omega) HE.out
          rw [HXL.out] at h
          exact h
        have HDB : Hid (∀ W, Below X.heap.size X W → Calls Tryd.prog 13 #[.slice A6 m6 c6, .int .i64 job] W fun e W' => ∃ v s, e = .returned v ∧ Kd.N k40 38 W' W.heap.size (fun _ => True) v s ∧ s.Perm (rawF job [] xs) ∧ Asc s ∧ Below W.heap.size W W') := fun W hb => by
          have h := aDid_any HT.out (below_lower HB0.out (below_lower BX.out hb)) own A6 c6 job HJ.out (Kd.F_mono (Kd.F_bound (Kd.F_below HF6.out hb)) (fun q hq => hq.2)) (by have := HM6.out; omega) HOE.out
          rw [← HM6.out, HOWN.out, raw_own] at h
          exact h
        go_wp2_with fail
        refine (HDA.out _ (Below.refl _ _)).mono ?_
        rintro e W1 ⟨v9, s, rfl, hN9, hp9, ha9, hb9⟩
        have HP9 := Lib.hid hp9
        have HA9 := Lib.hid ha9
        have HB9 := Lib.hid hb9
        have HN9 := Lib.hid hN9
        clear hN9 hp9 ha9 hb9 HDA
        go_wp2_with fail
        refine (HDB.out _ HB9.out).mono ?_
        rintro e W2 ⟨v10, s2, rfl, hN10, hp10, ha10, hb10⟩
        obtain rfl : s = s2 := same_sorted (dis_raw job _ List.Pairwise.nil) HP9.out hp10 HA9.out ha10
        obtain ⟨A9, c9, hv9, hc9, hC9⟩ := Kd.N_reads (Kd.N_below HN9.out hb10)
        obtain ⟨A10, c10, hv10, hc10, hC10⟩ := Kd.N_reads hN10
        obtain ⟨ms, hms⟩ : ∃ m, m = s.length := ⟨_, rfl⟩
        have hcn : Cnts s (m6 : Int) := by
          have h := cnts_did (job := job) (xs := xs) (by have := HXL.out; omega) HP9.out
          rw [← HOWN.out, ← HM6.out] at h
          exact h
        have hsl : s.length ≤ 1000 := by
          have h1 := raw_len job xs []
          have h2 := HP9.out.length_eq
          have h3 := HXL.out
          simp only [List.length_nil] at h1
          omega
        rw [← hms] at hv9 hv10 hC9 hC10 hsl
        subst hv9 hv10
        have HMS := Lib.hid hms
        have HCN := Lib.hid hcn
        have HC9 := Lib.hid hC9
        have HC10 := Lib.hid hC10
        have B2 : Hid (Below X.heap.size X W2) := below_lower HB9.out hb10
        clear hms hcn hC9 hC10 hN10 hp10 ha10 hb10 hc9 hc10 HN9 HP9 HA9 HB9 HDB
        go_wp2_with fail
        go_loopg [7, 11] ms (fun k v7 v11 Y => ∃ (q : Nat), q + k = ms ∧ v11 = .int .i64 q ∧ v7 = .int .i64 (tot (s.take q)) ∧ Hid (Below W2.heap.size W2 Y))
        case atStart => exact ⟨0, by omega, rfl, rfl, Below.refl _ _⟩
        case round =>
          obtain ⟨q, hqk, rfl, rfl, hBY⟩ := hrel
          have HKQ := Lib.hid hqk
          clear hqk
          obtain ⟨Y, hY⟩ : ∃ Y, Y = wr := ⟨_, rfl⟩
          subst hY
          by_cases hqt : q < ms
          · have hql : q < s.length := by have := HMS.out; omega
            have HQT := Lib.hid hqt
            obtain ⟨a9, B9, d9, rfl, g0, g1, _, _⟩ := at_T40 (Kd.C_below HC9.out hBY.out) (q : Int) (Int.natCast_nonneg q) (Int.ofNat_lt.2 hqt)
            obtain ⟨a10, B10, d10, rfl, e0, e1, _, _⟩ := at_T40 (Kd.C_below HC10.out hBY.out) (q : Int) (Int.natCast_nonneg q) (Int.ofNat_lt.2 hqt)
            have hy : (rd_T40 s q).f1 = s[q].f1 := by rw [rd40 hql]
            have hsu := tot_succ hql
            have h3 := tot_take_le HCN.out.pos (q + 1)
            have h4 := tot_take_le HCN.out.pos q
            have h5 := HCN.out.pos _ (List.getElem_mem hql)
            have h6 := HCN.out.eq
            rw [← hy] at hsu h5
            clear hy g0 e0
            simp only [Int.toNat_natCast] at g1 e1
            have hsm : Hid (tot (s.take (q + 1)) = tot (s.take q) + (rd_T40 s q).f1) := hsu
            generalize (rd_T40 s q).f1 = f at *
            obtain ⟨t0, ht0⟩ : ∃ t0, t0 = tot (s.take q) := ⟨_, rfl⟩
            rw [← ht0] at hsu h4 hsm ⊢
            have hb1 : 0 ≤ t0 := h4.1
            have hb2 : t0 + f ≤ 1000 := by omega
            clear hsu h3 h4 h6 ht0 hql
            go_wp2_with fail
            go_quiet (fail)
            go_wp2_with fail
            go_roundg (ms - (q + 1))
            case measure => have := HKQ.out; have := HQT.out; omega
            case rel =>
              refine ⟨q + 1, by have := HQT.out; omega, by go_num, by rw [hsm.out], ?_⟩
              exact pw_below_drewN hBY.out _
          · obtain rfl : q = ms := by have := HKQ.out; omega
            have htt : tot (s.take q) = (m6 : Int) := by
              rw [List.take_of_length_le (by have := HMS.out; omega)]
              exact HCN.out.eq
            rw [htt]
            clear htt
            have BW : Hid (Below w.heap.size w Y) := below_lower HB0.out (below_lower BX.out (below_lower B2.out hBY.out))
            have HAW := Lib.hid (awake_any HT.out BW.out)
            go_wp2_with fail
            refine HAW.out.mono ?_
            rintro e w8 ⟨rfl, hb8⟩
            have B8 : Hid (Below w.heap.size w w8) := below_lower BW.out hb8
            clear hb8
            go_wp2_with fail
            go_ret
            exact ⟨rfl, B8.out⟩
theorem walk (w : World) (T0 : Lib.TabIs Tryd.prog w "internal/strconv.uint64pow10" .u64 Lib.pow10Tab) (A0 : Option Addr) (c0 : Nat) (l0 : List (S29)) (hr0 : Kd.C k29 w A0 l0.length l0) (hc0 : l0.length ≤ c0) (w0 : (∀ e ∈ l0, KAuditParts.w29 e)) (a1 : Int) (w1 : (Lit.int .i64 a1).wf = true) :
    Calls Tryd.prog 4 #[.slice A0 l0.length c0, .int .i64 a1] w fun e w' => e = .returned (.bool true) ∧ Below w.heap.size w w' := by
  cases h : lit2 l0 with
  | false => exact walk_dark w A0 c0 l0 hr0 hc0 h a1
  | true =>
    obtain ⟨hn, hp⟩ := lit2_of h
    rcases Nat.eq_zero_or_pos l0.length with h0 | h0
    · obtain rfl : l0 = [] := List.eq_nil_of_length_eq_zero h0
      exact walk_none w A0 c0 hr0 a1
    · obtain ⟨a0, rfl, _⟩ := hr0.2.2 h0
      exact walk_main w (Lib.tabBelow_of_tabIs T0) a0 c0 l0 hr0 hc0 h h0 hn hp (ev_of w0 hp) a1 (in64_of w1)
end Go.Proofs.YtceankldidkohaaDoor.RAuditParts
