/- The walk of haymowlaw20.AuditKeeps: it returns true and turns nothing that was there, for every argument that can be read. -/
import Derived.Test.YtceankldidkohaaDoorCK
import Derived.Test.YtceankldidkohaaDoorAuditKeepsK
namespace Go.Proofs.YtceankldidkohaaDoor.RAuditKeeps
open Go.RowKit Go.Proofs.YtceankldidkohaaDoorW.PrintWords Go.Proofs.YtceankldidkohaaDoorW.PrintMore Go.Proofs.YtceankldidkohaaDoor.PAuditTwice Go.Proofs.YtceankldidkohaaDoor.Core Go.Proofs.YtceankldidkohaaDoor.P2 Go.Proofs.YtceankldidkohaaDoor
set_option linter.unusedVariables false
set_option linter.unusedSimpArgs false
theorem did_all {Q : List Int → Prop} {job : Int} : ∀ (l : List S29) (out : List S40), (∀ x ∈ out, Q x.f0) → (∀ e ∈ l, Q e.f2) → ∀ x ∈ didF job out l, Q x.f0
  | [], out, h, _ => h
  | e :: l, out, h, hl => by
    unfold didF
    split
    · exact did_all l _ (insD_all out e.f2 h (hl e (by simp))) (fun y hy => hl y (by simp [hy]))
    · exact did_all l _ h (fun y hy => hl y (by simp [hy]))
theorem did_len (job : Int) : ∀ (l : List S29) (out : List S40), (didF job out l).length ≤ out.length + l.length
  | [], out => by simp [didF]
  | e :: l, out => by
    unfold didF
    split
    · have h1 := did_len job l (insD out e.f2)
      have h2 := insD_len out e.f2
      simp only [List.length_cons]
      omega
    · have h1 := did_len job l out
      simp only [List.length_cons]
      omega
set_option maxHeartbeats 1000000 in
theorem walk_dark (w : World) (A0 : Option Addr) (c0 : Nat) (l : List S29) (hC : Kd.C k29 w A0 l.length l) (hc : l.length ≤ c0) (h : lit2 l = false) (a1 : Int) (v2 : Value) :
    Calls Tryd.prog 5 #[.slice A0 l.length c0, .int .i64 a1, v2] w fun e w' => e = .returned (.bool true) ∧ Below w.heap.size w w' := by
  have H := Lib.hid (haymowlaw20_light.calls _ A0 c0 l _ w hC hc (light_f l))
  rw [h] at H
  clear hC h
  obtain ⟨n, hnn⟩ : ∃ n, n = l.length := ⟨_, rfl⟩
  rw [← hnn] at H hc ⊢
  clear hnn
  go_enter Tryd.func5, Tryd.ntmps5
  go_wp2_with fail
  refine H.out.mono ?_
  rintro e w1 ⟨rfl, hd⟩
  have HB : Hid (Below w.heap.size w w1) := hd.below
  clear hd H
  go_wp2_with fail
  go_ret
  exact ⟨rfl, HB.out⟩
theorem asc_snoc {t : List S40} {j : Nat} (hj : j < t.length) (h : Asc (t.take j)) (hl : ∀ h0 : 0 < j, cmpL t[j - 1].f0 t[j].f0 < 0) : Asc (t.take (j + 1)) := by
  rw [List.take_succ_eq_append_getElem hj]
  refine List.pairwise_append.2 ⟨h, List.pairwise_singleton _ _, fun x hx y hy => ?_⟩
  obtain rfl := List.mem_singleton.1 hy
  obtain ⟨q, hq, rfl⟩ := List.getElem_of_mem hx
  rw [List.length_take] at hq
  rw [List.getElem_take]
  have h0 : 0 < j := by omega
  rcases Nat.lt_or_ge q (j - 1) with h1 | h1
  · have h2 := List.pairwise_iff_getElem.1 h q (j - 1) (by rw [List.length_take]; omega) (by rw [List.length_take]; omega) h1
    rw [List.getElem_take, List.getElem_take] at h2
    exact cmpL_lt_trans h2 (hl h0)
  · have hq2 : q = j - 1 := by omega
    subst hq2
    exact hl h0
set_option maxHeartbeats 4000000 in
set_option maxRecDepth 100000 in
theorem walk_main (w : World) (T : Tab w) (a0 : Option Addr) (c0 : Nat) (l : List S29) (hC : Kd.C k29 w a0 l.length l) (hc : l.length ≤ c0) (h : lit2 l = true) (hn : l.length ≤ 1000) (hp : ∀ e ∈ l, e.f2.length ≤ 1000) (hE : ∀ e ∈ l.map cvE, Ev e) (job : Int) (hj : In64 job)
    (a2 : Option Addr) (c2 : Nat) (t : List S40) (hT : Kd.C k40 w a2 t.length t) (hc2 : t.length ≤ c2) :
    Calls Tryd.prog 5 #[.slice a0 l.length c0, .int .i64 job, .slice a2 t.length c2] w fun e w' => e = .returned (.bool true) ∧ Below w.heap.size w w' := by
  have H := Lib.hid (haymowlaw20_light.calls _ a0 c0 l _ w hC hc (light_f l))
  rw [h] at H
  have H3 : Hid (∀ W, Below w.heap.size w W → Calls Tryd.prog 9 #[.slice a0 l.length c0] W fun e w' => ∃ v0_ : Value, e = .returned (v0_) ∧ Kd.N k28 28 w' W.heap.size (fun _ => True) v0_ (l.map cvE) ∧ Below W.heap.size W w') := fun W hb => (haymowlaw20_of.calls _ (fun _ => True) a0 c0 l _ W (V_of_C (Kd.C_below hC hb) hc _) (of_f l (by omega))).mono (by
    rintro e w' ⟨v, he, hN, hB⟩
    exact ⟨v, he, Kd.N_mono hN (fun _ _ => trivial), hB⟩)
  obtain ⟨s, hs⟩ : ∃ s, s = didF job [] l := ⟨_, rfl⟩
  have hsp : ∀ x ∈ s, x.f0.length ≤ 1000 := by rw [hs]; exact did_all (Q := fun p => p.length ≤ 1000) l [] (fun x hx => by cases hx) hp
  have hsl : s.length ≤ 1000 := by
    have h1 := did_len job l []
    rw [← hs, List.length_nil] at h1
    omega
  have HSP := Lib.hid hsp
  have HRD : Hid (∀ W, Below w.heap.size w W → Calls Tryd.prog 10 #[.slice a0 l.length c0, .int .i64 job] W fun e W' => ∃ v, e = .returned v ∧ Kd.N k40 40 W' W.heap.size (fun _ => True) v s ∧ Below W.heap.size W W') := fun W hb => by
    have h := rDid_any W a0 c0 l job (Kd.C_F heap29 (Kd.C_below hC hb)) hc (by omega) (fun e he => by have := hp e he; omega)
    rw [← hs] at h
    exact h
  have HTT := Lib.hid T
  have hml : (l.map cvE).length = l.length := List.length_map ..
  have HAD : Hid (∀ W A c, Below w.heap.size w W → Kd.F k28 W (fun q => q < W.heap.size) A l.length (l.map cvE) → Calls Tryd.prog 13 #[.slice A l.length c, .int .i64 job] W fun e W' => ∃ v, e = .returned v ∧ Kd.N k40 38 W' W.heap.size (fun _ => True) v s ∧ Below W.heap.size W W') := fun W A c hb hF => by
    have h := aDid_ref HTT.out hb l A c job hj hF (by omega) hE
    rw [← hs] at h
    exact h
  have HWI : Hid (∀ W A c At ct, Below w.heap.size w W → (∀ X, Below W.heap.size W X → Kd.F k28 X (fun q => q < X.heap.size) A l.length (l.map cvE)) → Log t → Kd.C k40 W At t.length t → Calls Tryd.prog 15 #[.slice A l.length c, .int .i64 job, .agg #[.pointer none, .slice At t.length ct, .int .i64 0, .int .i64 0, .int .i64 0, .int .i64 0]] W fun e W' => e = .returned (.bool (keepsB s t false)) ∧ Below W.heap.size W W') := fun W A c At ct hb hF hL hC => by
    have h := within_any (l := l) (s := s) (A := A) (c := c) (ct := ct) job none 0 0 0 0 (fun X hX => HAD.out X A c (below_lower hb hX) (hF X hX)) hL hsl hsp hC
    have e : keepsB s t false = s.all (keepOne false t) := by simp [keepsB]
    rw [e]
    exact h
  have HCO : Hid (∀ W A c At ct, Below w.heap.size w W → (∀ X, Below W.heap.size W X → Kd.F k28 X (fun q => q < X.heap.size) A l.length (l.map cvE)) → Log t → Kd.C k40 W At t.length t → Calls Tryd.prog 18 #[.slice A l.length c, .int .i64 job, .agg #[.pointer none, .slice At t.length ct, .int .i64 0, .int .i64 0, .int .i64 0, .int .i64 0]] W fun e W' => e = .returned (.bool (keepsB s t true)) ∧ Below W.heap.size W W') := fun W A c At ct hb hF hL hC => by
    have h := covers_any (l := l) (s := s) (A := A) (c := c) (ct := ct) job none 0 0 0 0 (fun X hX => HAD.out X A c (below_lower hb hX) (hF X hX)) hL hsl hsp hC
    have e : keepsB s t true = (s.all (keepOne true t) && s.length == t.length) := by simp [keepsB]
    rw [e]
    exact h
  have HRK : Hid (∀ W A c b, Below w.heap.size w W → Log t → Kd.C k40 W A s.length s → s.length ≤ c → Calls Tryd.prog 17 #[.slice A s.length c, .slice a2 t.length c2, .bool b] W fun e w' => e = .returned (.bool (keepsB s t b)) ∧ Below W.heap.size W w') := fun W A c b hb hL hC hcc =>
    (haymowref20_Keeps.calls _ A c s a2 c2 t b _ W hC hcc (Kd.C_below hT hb) hc2 (rkeeps_f hsl hL.len hsp hL.path hL.asc)).mono (fun e w' ⟨he, hd⟩ => ⟨he, hd.below⟩)
  have HTR : Hid (∀ W, Below w.heap.size w W → t.length ≤ 1000 → Calls Tryd.prog 16 #[.slice a2 t.length c2] W fun e W' => ∃ At ct, e = .returned (.agg #[.pointer none, .slice At t.length ct, .int .i64 0, .int .i64 0, .int .i64 0, .int .i64 0]) ∧ Kd.C k40 W' At t.length t ∧ Below W.heap.size W W') := fun W hb hl => tree_any (Kd.C_below hT hb) hl
  have HT := Lib.hid hT
  obtain ⟨xs, hxs⟩ : ∃ xs, xs = l.map cvE := ⟨_, rfl⟩
  rw [← hxs] at H3 HAD HWI HCO hml
  clear hC h T hE hp hxs hj hs hsp hT HAD
  obtain ⟨n, hnn⟩ : ∃ n, n = l.length := ⟨_, rfl⟩
  rw [← hnn] at H H3 HRD HWI HCO hc hn hml ⊢
  obtain ⟨m, hmm⟩ : ∃ m, m = t.length := ⟨_, rfl⟩
  rw [← hmm] at HWI HCO HRK HTR HT hc2 ⊢
  obtain ⟨sl, hsl2⟩ : ∃ m, m = s.length := ⟨_, rfl⟩
  rw [← hsl2] at HRK hsl
  have HM := Lib.hid hmm
  have HML := Lib.hid hml
  have HSL := Lib.hid hsl2
  clear hml hnn hmm hsl2
  go_enter Tryd.func5, Tryd.ntmps5
  go_wp2_with fail
  refine H.out.mono ?_
  rintro e w1 ⟨rfl, hd⟩
  have HB : Hid (Below w.heap.size w w1) := hd.below
  clear hd H
  by_cases hm100 : m ≤ 100
  · have hm1 : (decide ((100 : Int) < (m : Int))) = false := by simp; omega
    go_wp2_with fail
    go_loopg [7] m (fun k v7 X => ∃ (j : Nat), j + k = m ∧ v7 = .int .i64 j ∧ (∃ d, X = w1.drewN d) ∧ Hid (Asc (t.take j)) ∧ Hid (∀ e ∈ t.take j, e.f0.length ≤ 31))
    case atStart => exact ⟨0, by omega, rfl, ⟨0, rfl⟩, List.Pairwise.nil, fun e he => by cases he⟩
    case round =>
      obtain ⟨j, hjk, rfl, ⟨dq, rfl⟩, hA, hP⟩ := hrel
      have HK := Lib.hid hjk
      clear hjk
      by_cases hlt : j < m
      · have hl : j < t.length := by have := HM.out; omega
        have HLT := Lib.hid hlt
        obtain ⟨ad, B0, d0, hAd, g0, g1, l0, r0⟩ := at_T40 (Kd.C_below HT.out HB.out) (j : Int) (Int.natCast_nonneg _) (by omega)
        subst hAd
        have hy : rd_T40 t (j : Int) = t[j] := by rw [rd40 hl]
        have HY := Lib.hid hy
        clear hy
        obtain ⟨y, hyy⟩ : ∃ y, y = rd_T40 t (j : Int) := ⟨_, rfl⟩
        rw [← hyy] at g0 g1 l0 r0 HY
        clear hyy
        simp only [Int.toNat_natCast] at g0 g1
        have HL := Lib.hid hl
        have HR0 := Lib.hid r0
        have HL0 := Lib.hid l0
        obtain ⟨yl, hyl⟩ : ∃ yl, yl = y.f0.length := ⟨_, rfl⟩
        rw [← hyl] at g0
        have HYL := Lib.hid hyl
        clear hyl r0 l0 g1
        have hjb : (j : Int) + 1 ≤ 1000000 := by omega
        by_cases hy31 : yl ≤ 31
        · have d1 : (decide ((31 : Int) < (yl : Int))) = false := by simp; omega
          have HY31 := Lib.hid hy31
          by_cases hj0 : j = 0
          · have d2 : (decide ((0 : Int) < (j : Int))) = false := by simp; omega
            have d3 : (decide (0 < j)) = false := by simp; omega
            have HJ0 := Lib.hid hj0
            clear hj0
            go_wp2_with fail
            go_quiet (fail)
            go_wp2_with fail
            go_roundg (m - (j + 1))
            case measure => have := HK.out; have := HLT.out; omega
            case rel =>
              refine ⟨j + 1, by have := HLT.out; omega, by go_num, ⟨_, rfl⟩, asc_snoc hl hA.out (fun h0 => by have := HJ0.out; omega), ?_⟩
              intro e he
              rw [List.take_succ_eq_append_getElem hl, ← HY.out] at he
              rcases List.mem_append.1 he with he | he
              · exact hP.out e he
              · obtain rfl := List.mem_singleton.1 he
                have := HYL.out
                have := HY31.out
                omega
          · have d2 : (decide ((0 : Int) < (j : Int))) = true := by simp; omega
            have d3 : (decide (0 < j)) = true := by simp; omega
            have hj1 : j - 1 < m := by omega
            obtain ⟨ad2, B2, d20, hAd2, k0, k1, l2, r2⟩ := at_T40 (Kd.C_below HT.out HB.out) ((j - 1 : Nat) : Int) (Int.natCast_nonneg _) (by omega)
            injection hAd2 with hAd2
            subst hAd2
            have hz : rd_T40 t ((j - 1 : Nat) : Int) = t[j - 1] := by rw [rd40]
            have HZ := Lib.hid hz
            clear hz
            obtain ⟨z, hzz⟩ : ∃ z, z = rd_T40 t ((j - 1 : Nat) : Int) := ⟨_, rfl⟩
            rw [← hzz] at k0 k1 l2 r2 HZ
            clear hzz
            simp only [Int.toNat_natCast] at k0 k1
            have hzp : z.f0.length ≤ 31 := hP.out z (by rw [HZ.out]; exact List.mem_take_iff_getElem.2 ⟨j - 1, by omega, rfl⟩)
            obtain ⟨cc, hcc⟩ : ∃ cc, cc = cmpL z.f0 y.f0 := ⟨_, rfl⟩
            have HQ : Hid (∀ d1 d2, Calls Tryd.prog 14 #[.slice B2 z.f0.length d20, .slice B0 yl d0] (w1.drewN (d1 + d2)) fun e W' => e = .returned (.int .i64 cc) ∧ ∃ m, W' = w1.drewN (d1 + m)) := fun d1 d2 => by
              have h := rcmp_any (cx := d20) (cy := d0) (W := w1.drewN (d1 + d2)) (show z.f0.length ≤ 1000000 by omega) (show y.f0.length ≤ 1000000 by have := HYL.out; omega) (Kd.C_drewN r2 _) l2 (Kd.C_drewN HR0.out _) HL0.out
              rw [← hcc, ← HYL.out] at h
              exact h.mono (fun e W' ⟨he, q, hq⟩ => ⟨he, d2 + q, by rw [hq, World.drewN_drewN, Nat.add_assoc]⟩)
            have HCC := Lib.hid hcc
            obtain ⟨zl, hzl⟩ : ∃ zl, zl = z.f0.length := ⟨_, rfl⟩
            rw [← hzl] at k0 HQ
            have hwr : IntKind.i64.wrap ((j : Int) - 1) = (j : Int) - 1 := IntWalk.i64_in _ (by omega)
            have hw0 : (0 : Int) ≤ (j : Int) - 1 := by omega
            have hw1 : (j : Int) - 1 < (m : Int) := by omega
            have hwt : ((j : Int) - 1).toNat = j - 1 := by omega
            clear hzl hcc r2 l2 hzp k1
            by_cases hge : 0 ≤ cc
            · have b1 : (decide ((0 : Int) ≤ cc)) = true := by simpa using hge
              go_wp2_with fail
              go_quiet (exact HQ.out _ _)
              go_wp2_with fail
              go_ret
              exact ⟨rfl, pw_below_drewN (pw_below_drewN HB.out _) _⟩
            · have b1 : (decide ((0 : Int) ≤ cc)) = false := by simpa using hge
              go_wp2_with fail
              go_quiet (exact HQ.out _ _)
              clear hwr hw0 hw1 hwt
              go_wp2_with fail
              go_roundg (m - (j + 1))
              case measure => have := HK.out; have := HLT.out; omega
              case rel =>
                refine ⟨j + 1, by have := HLT.out; omega, by go_num, ⟨_, rfl⟩, asc_snoc hl hA.out (fun h0 => by rw [← HZ.out, ← HY.out, ← HCC.out]; omega), ?_⟩
                intro e he
                rw [List.take_succ_eq_append_getElem hl, ← HY.out] at he
                rcases List.mem_append.1 he with he | he
                · exact hP.out e he
                · obtain rfl := List.mem_singleton.1 he
                  have := HYL.out
                  have := HY31.out
                  omega
        · have d1 : (decide ((31 : Int) < (yl : Int))) = true := by simp; omega
          clear hy31
          go_wp2_with fail
          go_quiet (fail)
          go_wp2_with fail
          go_ret
          exact ⟨rfl, pw_below_drewN (pw_below_drewN HB.out _) _⟩
      · obtain rfl : j = m := by have := HK.out; omega
        have hA2 := hA.out
        have hP2 := hP.out
        rw [List.take_of_length_le (by have := HM.out; omega)] at hA2 hP2
        have HLG : Hid (Log t) := ⟨hA2, by have := HM.out; omega, fun e he => by have := hP2 e he; omega⟩
        have B1 : Hid (Below w.heap.size w (w1.drewN dq)) := pw_below_drewN HB.out _
        clear hA2 hP2 hA hP
        go_wp2_with fail
        refine (H3.out _ B1.out).mono ?_
        rintro e W0 ⟨v5, rfl, hN5, hb5⟩
        have B0 : Hid (Below w.heap.size w W0) := below_lower B1.out hb5
        obtain ⟨A5, c5, hv5, hc5, hC5⟩ := Kd.N_reads hN5
        rw [HML.out] at hv5 hc5 hC5
        subst hv5
        have HF5 : Hid (∀ W, Below W0.heap.size W0 W → ∀ X, Below W.heap.size W X → Kd.F k28 X (fun q => q < X.heap.size) A5 n xs) := fun W hb X hX => Kd.F_mono (Kd.F_bound (Kd.F_below (Kd.N_F (Kd.N_bound hN5)) (below_lower hb hX))) (fun q hq => hq.2)
        clear hN5 hc5 hC5 H3 hb5
        go_wp2_with fail
        refine (HRD.out _ B0.out).mono ?_
        rintro e W2 ⟨v7, rfl, hN7, hb7⟩
        have B2 : Hid (Below W0.heap.size W0 W2) := hb7
        obtain ⟨A7, c7, hv7, hc7, hC7⟩ := Kd.N_reads hN7
        rw [← HSL.out] at hv7 hc7
        subst hv7
        have HC7 : Hid (∀ X, Below W2.heap.size W2 X → Kd.C k40 X A7 s.length s) := fun X hX => Kd.C_below hC7 hX
        have HCC7 := Lib.hid hc7
        clear hN7 hb7 hC7 hc7 HRD
        go_wp2_with fail
        refine (HTR.out _ (below_lower B0.out B2.out) (by have := HM.out; omega)).mono ?_
        rintro e W3 ⟨A8, c8, rfl, hC8, hb8⟩
        have B3 : Hid (Below W2.heap.size W2 W3) := hb8
        have HC8 := Lib.hid hC8
        clear hC8 hb8
        go_wp2_with fail
        refine (HWI.out W3 A5 c5 A8 c8 (below_lower B0.out (below_lower B2.out B3.out)) (HF5.out W3 (below_lower B2.out B3.out)) HLG.out (by rw [← HM.out] at *; exact HC8.out)).mono ?_
        rintro e W4 ⟨rfl, hb9⟩
        have B4 : Hid (Below W2.heap.size W2 W4) := below_lower B3.out hb9
        clear hb9 HWI HC8 B3
        go_wp2_with fail
        refine (HRK.out W4 A7 c7 false (below_lower B0.out (below_lower B2.out B4.out)) HLG.out (by have h := HC7.out W4 B4.out; rw [← HSL.out] at h; exact h) HCC7.out).mono ?_
        rintro e W5 ⟨rfl, hb10⟩
        have B5 : Hid (Below W2.heap.size W2 W5) := below_lower B4.out hb10
        clear hb10 B4
        generalize keepsB s t false = kb
        go_wp2_with fail
        refine (HTR.out _ (below_lower B0.out (below_lower B2.out B5.out)) (by have := HM.out; omega)).mono ?_
        rintro e W6 ⟨A9, c9, rfl, hC9, hb11⟩
        have B6 : Hid (Below W2.heap.size W2 W6) := below_lower B5.out hb11
        have HC9 := Lib.hid hC9
        clear hC9 hb11 B5 HTR
        go_wp2_with fail
        refine (HCO.out W6 A5 c5 A9 c9 (below_lower B0.out (below_lower B2.out B6.out)) (HF5.out W6 (below_lower B2.out B6.out)) HLG.out (by rw [← HM.out] at *; exact HC9.out)).mono ?_
        rintro e W7 ⟨rfl, hb12⟩
        have B7 : Hid (Below W2.heap.size W2 W7) := below_lower B6.out hb12
        clear hb12 HCO HC9 B6
        go_wp2_with fail
        refine (HRK.out W7 A7 c7 true (below_lower B0.out (below_lower B2.out B7.out)) HLG.out (by have h := HC7.out W7 B7.out; rw [← HSL.out] at h; exact h) HCC7.out).mono ?_
        rintro e W8 ⟨rfl, hb13⟩
        have B8 : Hid (Below w.heap.size w W8) := below_lower B0.out (below_lower B2.out (below_lower B7.out hb13))
        clear hb13 B7
        generalize keepsB s t true = kb2
        have HAW := Lib.hid (awake_any HTT.out B8.out)
        go_wp2_with fail
        refine HAW.out.mono ?_
        rintro e W9 ⟨rfl, hb14⟩
        have B9 : Hid (Below w.heap.size w W9) := below_lower B8.out hb14
        clear hb14
        go_wp2_with fail
        go_ret
        exact ⟨rfl, B9.out⟩
  · have hm1 : (decide ((100 : Int) < (m : Int))) = true := by simp; omega
    go_wp2_with fail
    go_ret
    exact ⟨rfl, HB.out⟩
theorem walk (w : World) (T0 : Lib.TabIs Tryd.prog w "internal/strconv.uint64pow10" .u64 Lib.pow10Tab) (A0 : Option Addr) (c0 : Nat) (l0 : List (S29)) (hr0 : Kd.C k29 w A0 l0.length l0) (hc0 : l0.length ≤ c0) (w0 : (∀ e ∈ l0, KAuditKeeps.w29 e)) (a1 : Int) (w1 : (Lit.int .i64 a1).wf = true) (A2 : Option Addr) (c2 : Nat) (l2 : List (S40)) (hr2 : Kd.C k40 w A2 l2.length l2) (hc2 : l2.length ≤ c2) (w2 : (∀ e ∈ l2, KAuditKeeps.w40 e)) :
    Calls Tryd.prog 5 #[.slice A0 l0.length c0, .int .i64 a1, .slice A2 l2.length c2] w fun e w' => e = .returned (.bool true) ∧ Below w.heap.size w w' := by
  cases h : lit2 l0 with
  | false => exact walk_dark w A0 c0 l0 hr0 hc0 h a1 _
  | true =>
    obtain ⟨hn, hp⟩ := lit2_of h
    exact walk_main w (Lib.tabBelow_of_tabIs T0) A0 c0 l0 hr0 hc0 h hn hp (ev_of w0 hp) a1 (in64_of w1) A2 c2 l2 hr2 hc2
end Go.Proofs.YtceankldidkohaaDoor.RAuditKeeps
