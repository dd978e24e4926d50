/- AsmLong returns true whatever its arguments are: the walk. -/
import Derived.Test.YtcchoeomeklgmaaDoorAB
import Derived.Test.YtcchoeomeklgmaaDoorAsmLongK
namespace Go.Proofs.YtcchoeomeklgmaaDoor.RAsmLong
open Go.RowKit Go.Shelf Go.Proofs.YtcchoeomeklgmaaDoorW.PrintWords Go.Proofs.YtcchoeomeklgmaaDoorW.PrintMore Go.Proofs.YtcchoeomeklgmaaDoor.P1 Go.Proofs.YtcchoeomeklgmaaDoor Core
open Go.Proofs.YtcchoeomeklgmaaDoor.PAsmParses (S74 k74 z74 S48 k48 z48 at_T48 at_T74 rd_T48 rd_T74)
set_option linter.unusedVariables false
set_option linter.unusedSimpArgs false
def syncW : List UInt8 := [115, 121, 110, 99]
def syncI : Int × List Int := (12, [0, 0, 0, 0])
theorem sync_instr : instrL [syncW] = some syncI := by kernel_rfl
theorem sync_take (l : List (Int × List Int)) : takeL [(0, l)] (wordsL syncW) = if l.length < 255 then .ok [(0, l ++ [syncI])] else .error 3 := by
  have hw : wordsL syncW = [syncW] := by decide
  rw [hw, takeL_instr _ _ _ (by decide), sync_instr]
  rfl
theorem func_take : takeL [] (wordsL [102, 117, 110, 99, 32, 48]) = .ok [(0, [])] := by kernel_rfl
theorem parse_syncs (ls : List (List UInt8)) : ∀ (k n : Nat) (l : List (Int × List Int)), l.length + k ≤ 255 → parseL [(0, l)] n (List.replicate k syncW ++ ls) = parseL [(0, l ++ List.replicate k syncI)] (n + k) ls
  | 0, n, l, _ => by simp
  | k + 1, n, l, h => by
    rw [List.replicate_succ, List.cons_append, parseL, sync_take, if_pos (by omega)]
    show parseL [(0, l ++ [syncI])] (n + 1) _ = _
    rw [parse_syncs ls k (n + 1) (l ++ [syncI]) (by simp; omega), show n + 1 + k = n + (k + 1) by omega, List.append_assoc]
    rfl
theorem parse_many (k : Nat) : parseL [] 0 (splitB 10 ([102, 117, 110, 99, 32, 48, 10] ++ rep k [115, 121, 110, 99, 10])) = if k ≤ 255 then .ok [(0, List.replicate k syncI)] else .error (257, 3) := by
  have h1 := splitB_line (rep k [115, 121, 110, 99, 10]) [102, 117, 110, 99, 32, 48] (by decide)
  have h2 := splitB_rep syncW [] (by decide) k
  rw [show syncW ++ [10] = [115, 121, 110, 99, 10] from rfl, List.append_nil, show splitB 10 ([] : List UInt8) = [[]] from rfl] at h2
  rw [show ([102, 117, 110, 99, 32, 48, 10] : List UInt8) ++ rep k [115, 121, 110, 99, 10] = [102, 117, 110, 99, 32, 48] ++ 10 :: rep k [115, 121, 110, 99, 10] from rfl, h1, h2, parseL, func_take]
  show parseL [(0, [])] 1 _ = _
  by_cases hk : k ≤ 255
  · rw [if_pos hk, parse_syncs [[]] k 1 [] (by simpa using hk), List.nil_append]
    rfl
  · rw [if_neg hk]
    obtain ⟨r, rfl⟩ : ∃ r, k = 256 + r := ⟨k - 256, by omega⟩
    have e : List.replicate (256 + r) syncW ++ [[]] = List.replicate 255 syncW ++ (syncW :: (List.replicate r syncW ++ [[]])) := by
      have h3 : List.replicate (r + 1) syncW = syncW :: List.replicate r syncW := rfl
      rw [show 256 + r = 255 + (r + 1) by omega, ← List.replicate_append_replicate, h3, List.append_assoc, List.cons_append]
    rw [e, parse_syncs _ 255 1 [] (by rw [List.length_nil]; omega), parseL, sync_take, if_neg (by rw [List.nil_append, List.length_replicate]; omega)]
theorem parse_blank (m : Nat) : parseL [] 0 (splitB 10 (List.replicate m 32)) = .ok [] := by
  have hn : (10 : UInt8) ∉ List.replicate m (32 : UInt8) := by
    intro h
    exact absurd (List.eq_of_mem_replicate h) (by decide)
  have hw : ∀ m : Nat, wordsL (List.replicate m 32) = [] := by
    intro m
    unfold wordsL
    induction m with
    | zero => rfl
    | succ m ih => rw [List.replicate_succ, wl, if_neg (by decide), if_pos (by decide), if_pos rfl, ih]
  rw [splitB_last _ hn, parseL, hw]
  rfl
theorem str_blank (m : Nat) : strOfNums (List.replicate m 32) = bx (List.replicate m 32) := by
  simp [strOfNums]
theorem info5 : (Tryd.prog.info? 5).map (fun i => (i.zero, i.size, i.bytes)) = some (some (.int .u8 0), 1, 1) := by kernel_rfl
theorem set_blank (q N : Nat) (h : q < N) : (List.replicate q (32 : Int) ++ List.replicate (N - q) 0).set q 32 = List.replicate (q + 1) 32 ++ List.replicate (N - (q + 1)) 0 := by
  have e : N - q = (N - (q + 1)) + 1 := by omega
  rw [e, List.replicate_succ (n := N - (q + 1)), List.replicate_succ' (n := q)]
  rw [List.set_append_right _ _ (by simp)]
  simp
set_option maxRecDepth 100000 in
set_option maxHeartbeats 4000000 in
theorem walk (w : World) (hT : TabA w) (a0 : Int) (w0 : (Lit.int .u16 a0).wf = true) :
    Calls Tryd.prog 6 #[.int .u16 a0] w fun e w' => e = .returned (.bool true) ∧ Below w.heap.size w w' := by
  have hu16 : IntKind.u16.min = 0 ∧ IntKind.u16.max = 65535 := ⟨rfl, rfl⟩
  have b0 : 0 ≤ a0 ∧ a0 ≤ 65535 := by
    simp only [Lit.wf, Bool.and_eq_true, decide_eq_true_eq] at w0; omega
  clear w0 hu16
  obtain ⟨k, hk⟩ : ∃ k : Nat, a0 % 300 = (k : Int) := ⟨(a0 % 300).toNat, by omega⟩
  have hk3 : k < 300 := by omega
  obtain ⟨b00, b01⟩ := b0
  have HT := Lib.hid hT
  clear hT
  go_enter Tryd.func6, Tryd.ntmps6
  go_wp2_with fail
  go_loop [4, 5] (fun t i => ∃ j : Nat, j ≤ k ∧ i = .int .i64 j ∧ t = .string (bx ([102, 117, 110, 99, 32, 48, 10] ++ rep j [115, 121, 110, 99, 10]))) (fun _ i => k - (intOf i).toNat)
  case atStart => exact ⟨0, Nat.zero_le _, rfl, rfl⟩
  case round =>
    obtain ⟨j, hjk, rfl, ht⟩ := hrel
    obtain ⟨T, hTT⟩ : ∃ T, T = bx ([102, 117, 110, 99, 32, 48, 10] ++ rep j [115, 121, 110, 99, 10]) := ⟨_, rfl⟩
    rw [← hTT] at ht
    subst ht
    have HTT := Lib.hid hTT
    have hts : T.size ≤ 1507 := by rw [hTT, bx_size, List.length_append, rep_len]; simp; omega
    have hs4 : T.size + 5 ≤ 9223372036854775807 := by omega
    clear hTT
    by_cases hlt : j < k
    · go_wp2
      go_round
      case rel => exact ⟨j + 1, by omega, by go_num, by rw [HTT.out, rep_succ, ← List.append_assoc]; exact congrArg Value.string (bx_app _ [115, 121, 110, 99, 10])⟩
      case measure => simp [intOf]; omega
    · have hje : j = k := by omega
      subst hje
      have HP1 : Hid (Calls Tryd.prog 15 #[.string T] w (GivesT w (if j ≤ 255 then .ok [(0, List.replicate j syncI)] else .error (257, 3)))) := by
        have h := parse_any ([102, 117, 110, 99, 32, 48, 10] ++ rep j [115, 121, 110, 99, 10]) (by rw [List.length_append, rep_len]; simp; omega) w HT.out
        rw [parse_many] at h
        rw [HTT.out]
        exact h
      go_wp2_with fail
      refine HP1.out.mono ?_
      intro e wa hg
      have HA0 : Hid (∃ u, e = .returned (.tuple #[u, .int .i64 (if j ≤ 255 then 0 else 257), .int .i64 (if j ≤ 255 then 0 else 3)]) ∧ (if j ≤ 255 then ∃ c0, ∃ ad A1 c1, u = .slice (some ad) 1 c0 ∧ wa.cell? ⟨ad.block, ad.off + 1, none⟩ = some (.slice A1 j c1) else u = .slice none 0 0) ∧ Below w.heap.size w wa) := by
        by_cases h255 : j ≤ 255
        · rw [if_pos h255] at hg
          obtain ⟨u, rfl, hp, hb⟩ := hg
          obtain ⟨A0, c0, rfl, hc0, hC⟩ := Kd.S_reads hp
          obtain ⟨ad, A1, c1, rfl, h0, h1, h2, hC1⟩ := at_T48 hC 0 (Int.le_refl _) (by simp)
          have e1 : (rd_T48 ([((0 : Int), List.replicate j syncI)].map toP) 0).f1.length = j := by simp [rd_T48, toP]
          rw [e1] at h1
          simp only [if_pos h255]
          exact ⟨_, rfl, ⟨c0, ad, A1, c1, rfl, h1⟩, hb⟩
        · rw [if_neg h255] at hg
          obtain ⟨rfl, hb⟩ := hg
          simp only [if_neg h255]
          exact ⟨_, rfl, rfl, hb⟩
      clear hg HP1
      obtain ⟨u, rfl, hu, hba⟩ := HA0.out
      have HBA := Lib.hid hba
      have HU := Lib.hid hu
      clear hba hu HA0
      obtain ⟨n1, hn1⟩ : ∃ n1 : Int, n1 = if j ≤ 255 then 0 else 257 := ⟨_, rfl⟩
      obtain ⟨n2, hn2⟩ : ∃ n2 : Int, n2 = if j ≤ 255 then 0 else 3 := ⟨_, rfl⟩
      rw [← hn1, ← hn2]
      have HN1 := Lib.hid hn1
      have HN2 := Lib.hid hn2
      clear hn1 hn2
      obtain ⟨N, hN⟩ : ∃ N : Nat, N = 65386 + j := ⟨_, rfl⟩
      have hNe : (65386 : Int) + (j : Int) = (N : Int) := by omega
      have HNN := Lib.hid hN
      have hNb : N ≤ 65700 := by omega
      have hN0 : 0 < N := by omega
      clear hN
      go_wp2_with (first | ((with_reducible refine gate_dst (N := 32) rfl ?_); refine Kd.R_make (Kd.int .u8) (w0 := wa) wa.heap.size 5 rfl rfl 45 (.tmp 31) (.tmp 31) rfl (N : Int) rfl rfl Tryd.underlying45 (.int .u8 0) 1 info5 rfl (by decide) (by omega) (0 : Int) (okp := fun _ => False) (ok := fun _ => True) rfl (fun _ _ => trivial) trivial (by omega) (by rw [Int.toNat_natCast]; omega) (Below.refl _ _) (Nat.le_refl _) ?_; intro v1 wm hr hbm hgm hat; rw [Int.toNat_natCast] at hr; obtain ⟨g, cap, hv1, hbg, hgs, _⟩ := Kd.R_form hr (by rw [List.length_replicate]; exact hN0); rw [List.length_replicate] at hv1; subst hv1; have HR0 := Lib.hid hr; have HBM := Lib.hid hbm; have HGB := Lib.hid hbg; clear hr hbm hbg hgs hgm hat))
      go_loopg [10] N (fun d i W => ∃ q : Nat, q + d = N ∧ i = .int .i64 q ∧ Hid ((Kd.int .u8).R 5 W wa.heap.size (fun _ => True) (.slice (some ⟨g, 0, none⟩) N cap) (List.replicate q 32 ++ List.replicate (N - q) 0)) ∧ Hid (Below wa.heap.size wa W))
      case atStart => exact ⟨0, by omega, rfl, HR0, HBM⟩
      case round =>
        obtain ⟨q, hqd, rfl, hR, hB⟩ := hrel
        have HQ := Lib.hid hqd
        clear hqd
        by_cases hq : q < N
        · have hlen : (List.replicate q (32 : Int) ++ List.replicate (N - q) 0).length = N := by simp; omega
          obtain ⟨c, hcl, hM, hcc, hfr⟩ := Kd.R_elem hR.out (0 : Int) (q : Int) (by omega) (by omega)
          have hc0 := hcc 0 (.int .u8 ((List.replicate q (32 : Int) ++ List.replicate (N - q) 0).getD (q : Int).toNat 0)) (by rw [show c = _ from hM]; rfl)
          have hf0 := hfr 0
          have hseg := Kd.R_seg hR.out (q : Int) (by omega) (by omega) (c := c) (seg := [Value.int .u8 32]) (j := 0) (x' := 32) (okp := fun _ => False) hcl hcc (by show _ ≤ 1; simp) (by rw [show c = _ from hM]; rfl) (fun _ hk => hk.elim)
          have hsz : (Kd.int .u8).sz = 1 := rfl
          rw [hsz, Int.toNat_natCast, Nat.mul_one, Nat.add_zero] at hc0 hf0 hseg
          rw [set_blank q N hq, setCells_one] at hseg
          have HSG := Lib.hid hseg.1
          have HBW : Hid (Below wa.heap.size wa (wr.setCell ⟨g, q, none⟩ (.int .u8 32))) := hB.out.setCell (p := ⟨g, q, none⟩) HGB.out _
          have hqi : (q : Int) < (N : Int) := by omega
          have hqi2 : decide ((q : Int) < (N : Int)) = true := decide_eq_true hqi
          have hqb : q ≤ 65700 := by omega
          clear hlen hcl hM hcc hfr hseg hsz
          go_wp2_with fail
          go_roundg (N - (q + 1))
          case measure => have := HQ.out; omega
          case rel => exact ⟨q + 1, by omega, by go_num, HSG, HBW⟩
        · have hqe : q = N := by have := HQ.out; omega
          subst hqe
          have hRR : (Kd.int .u8).R 5 wr wa.heap.size (fun _ => True) (.slice (some ⟨g, 0, none⟩) q cap) (List.replicate q 32) := by
            have h := hR.out
            rw [Nat.sub_self] at h
            simpa using h
          have hCC := (Kd.R_reads' hRR).2.2
          rw [List.length_replicate] at hCC
          have hcv := Kd.C_string (P := Tryd.prog) (src := 45) (dst := 9) (c := cap) Tryd.underlying45 Tryd.underlying5 Tryd.underlying9 hCC
          rw [str_blank] at hcv
          have HWR : Hid (Below w.heap.size w wr) := HBA.out.trans (hB.out.mono HBA.out.size)
          have HAW : Hid (∀ W, Below w.heap.size w W → Calls Tryd.prog 16 #[] W fun e w' => e = .returned (.bool true) ∧ Below W.heap.size W w') := fun W hb => awake4_any W (HT.out.below hb)
          have HP2 : Hid (∃ r : Int, r = (if 65536 < q then 3 else 0) ∧ Calls Tryd.prog 15 #[.string (bx (List.replicate q 32))] wr fun e w' => ∃ A c, e = .returned (.tuple #[.slice A 0 c, .int .i64 0, .int .i64 r]) ∧ Below wr.heap.size wr w') := by
            by_cases hl : 65536 < q
            · refine ⟨3, by rw [if_pos hl], (parse_long (List.replicate q 32) (by rw [List.length_replicate]; exact hl) wr).mono ?_⟩
              rintro e w' ⟨rfl, hb⟩
              exact ⟨_, _, rfl, hb⟩
            · refine ⟨0, by rw [if_neg hl], ?_⟩
              have h := parse_any (List.replicate q 32) (by rw [List.length_replicate]; omega) wr (HT.out.below HWR.out)
              rw [parse_blank] at h
              refine h.mono ?_
              rintro e w' ⟨u2, rfl, hp, hb⟩
              obtain ⟨A, c, rfl, _⟩ := hp.slice
              exact ⟨A, c, rfl, hb⟩
          obtain ⟨r, hr, HPC⟩ := HP2.out
          have HPC := Lib.hid HPC
          have HU2 : Hid (if j ≤ 255 then ∃ c0, ∃ ad A1 c1, u = .slice (some ad) 1 c0 ∧ wr.cell? ⟨ad.block, ad.off + 1, none⟩ = some (.slice A1 j c1) else u = .slice none 0 0) := by
            have h := HU.out
            show (if _ then _ else _)
            by_cases h255 : j ≤ 255
            · rw [if_pos h255] at h ⊢
              obtain ⟨c0, ad, A1, c1, h1, h2⟩ := h
              exact ⟨c0, ad, A1, c1, h1, (hB.out.cell (World.block_lt_of_cell? wa _ h2)).trans h2⟩
            · rw [if_neg h255] at h ⊢
              exact h
          generalize bx (List.replicate q 32) = B at hcv HPC
          have hNq := HNN.out
          clear HP2 hRR hCC
          by_cases h65 : 65536 < q
          · rw [if_pos h65] at hr
            subst hr
            have d1 : decide ((q : Int) > 65536) = true := decide_eq_true (by omega)
            have d2 : decide ((q : Int) ≤ 65536) = false := decide_eq_false (by omega)
            have d3 : (65536 : Int) < (q : Int) := by omega
            have hqq : ¬ (q : Int) < (q : Int) := by omega
            by_cases h255 : j ≤ 255
            · obtain ⟨c0, ad, A1, c1, rfl, hcu⟩ := (by have h := HU2.out; rw [if_pos h255] at h; exact h : ∃ c0, ∃ ad A1 c1, u = .slice (some ad) 1 c0 ∧ wr.cell? ⟨ad.block, ad.off + 1, none⟩ = some (.slice A1 j c1))
              obtain rfl : n1 = 0 := by have := HN1.out; rw [if_pos h255] at this; exact this
              obtain rfl : n2 = 0 := by have := HN2.out; rw [if_pos h255] at this; exact this
              have f1 : decide ((j : Int) > 255) = false := decide_eq_false (by omega)
              have f2 : (j : Int) ≤ 255 := by omega
              have HCU := Lib.hid hcu
              clear hcu hNq
              go_wp2_with fail
              refine HPC.out.mono ?_
              rintro _ wc ⟨A9, c9, rfl, hbc⟩
              have HBC : Hid (Below w.heap.size w wc) := HWR.out.trans (hbc.mono HWR.out.size)
              have hcu : wc.cell? ⟨ad.block, ad.off + 1, none⟩ = some (.slice A1 j c1) := (hbc.cell (World.block_lt_of_cell? wr _ HCU.out)).trans HCU.out
              clear hbc
              go_wp2_with fail
              refine (HAW.out _ HBC.out).mono ?_
              rintro _ wd ⟨rfl, hbd⟩
              have HBD : Hid (Below w.heap.size w wd) := HBC.out.trans (hbd.mono HBC.out.size)
              clear hbd
              go_wp2_with fail
              go_ret
              exact ⟨rfl, HBD.out⟩
            · obtain rfl : u = .slice none 0 0 := by have h := HU2.out; rw [if_neg h255] at h; exact h
              obtain rfl : n1 = 257 := by have := HN1.out; rw [if_neg h255] at this; exact this
              obtain rfl : n2 = 3 := by have := HN2.out; rw [if_neg h255] at this; exact this
              have f1 : decide ((j : Int) > 255) = true := decide_eq_true (by omega)
              have f2 : (255 : Int) < (j : Int) := by omega
              clear hNq
              go_wp2_with fail
              refine HPC.out.mono ?_
              rintro _ wc ⟨A9, c9, rfl, hbc⟩
              have HBC : Hid (Below w.heap.size w wc) := HWR.out.trans (hbc.mono HWR.out.size)
              clear hbc
              go_wp2_with fail
              refine (HAW.out _ HBC.out).mono ?_
              rintro _ wd ⟨rfl, hbd⟩
              have HBD : Hid (Below w.heap.size w wd) := HBC.out.trans (hbd.mono HBC.out.size)
              clear hbd
              go_wp2_with fail
              go_ret
              exact ⟨rfl, HBD.out⟩
          · rw [if_neg h65] at hr
            subst hr
            have d1 : decide ((q : Int) > 65536) = false := decide_eq_false (by omega)
            have d2 : decide ((q : Int) ≤ 65536) = true := decide_eq_true (by omega)
            have d3 : (q : Int) ≤ 65536 := by omega
            have hqq : ¬ (q : Int) < (q : Int) := by omega
            by_cases h255 : j ≤ 255
            · obtain ⟨c0, ad, A1, c1, rfl, hcu⟩ := (by have h := HU2.out; rw [if_pos h255] at h; exact h : ∃ c0, ∃ ad A1 c1, u = .slice (some ad) 1 c0 ∧ wr.cell? ⟨ad.block, ad.off + 1, none⟩ = some (.slice A1 j c1))
              obtain rfl : n1 = 0 := by have := HN1.out; rw [if_pos h255] at this; exact this
              obtain rfl : n2 = 0 := by have := HN2.out; rw [if_pos h255] at this; exact this
              have f1 : decide ((j : Int) > 255) = false := decide_eq_false (by omega)
              have f2 : (j : Int) ≤ 255 := by omega
              have HCU := Lib.hid hcu
              clear hcu hNq
              go_wp2_with fail
              refine HPC.out.mono ?_
              rintro _ wc ⟨A9, c9, rfl, hbc⟩
              have HBC : Hid (Below w.heap.size w wc) := HWR.out.trans (hbc.mono HWR.out.size)
              have hcu : wc.cell? ⟨ad.block, ad.off + 1, none⟩ = some (.slice A1 j c1) := (hbc.cell (World.block_lt_of_cell? wr _ HCU.out)).trans HCU.out
              clear hbc
              go_wp2_with fail
              refine (HAW.out _ HBC.out).mono ?_
              rintro _ wd ⟨rfl, hbd⟩
              have HBD : Hid (Below w.heap.size w wd) := HBC.out.trans (hbd.mono HBC.out.size)
              clear hbd
              go_wp2_with fail
              go_ret
              exact ⟨rfl, HBD.out⟩
            · obtain rfl : u = .slice none 0 0 := by have h := HU2.out; rw [if_neg h255] at h; exact h
              obtain rfl : n1 = 257 := by have := HN1.out; rw [if_neg h255] at this; exact this
              obtain rfl : n2 = 3 := by have := HN2.out; rw [if_neg h255] at this; exact this
              have f1 : decide ((j : Int) > 255) = true := decide_eq_true (by omega)
              have f2 : (255 : Int) < (j : Int) := by omega
              clear hNq
              go_wp2_with fail
              refine HPC.out.mono ?_
              rintro _ wc ⟨A9, c9, rfl, hbc⟩
              have HBC : Hid (Below w.heap.size w wc) := HWR.out.trans (hbc.mono HWR.out.size)
              clear hbc
              go_wp2_with fail
              refine (HAW.out _ HBC.out).mono ?_
              rintro _ wd ⟨rfl, hbd⟩
              have HBD : Hid (Below w.heap.size w wd) := HBC.out.trans (hbd.mono HBC.out.size)
              clear hbd
              go_wp2_with fail
              go_ret
              exact ⟨rfl, HBD.out⟩
end Go.Proofs.YtcchoeomeklgmaaDoor.RAsmLong
