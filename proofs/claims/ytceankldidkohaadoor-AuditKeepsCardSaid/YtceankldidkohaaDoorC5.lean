/- haymowref20.Did at any events. Written by gen_audit_did.py. -/
import Derived.Test.YtceankldidkohaaDoorC4
import Derived.Test.YtceankldidkohaaDoorRw
import Derived.Deep.QuietTactic
import Derived.BigQuiet
namespace Go.Proofs.YtceankldidkohaaDoor.Core
open Go.RowKit Go.Proofs.YtceankldidkohaaDoorW.PrintWords Go.Proofs.YtceankldidkohaaDoorW.PrintMore Go.Proofs.YtceankldidkohaaDoor.PAuditTwice Go.Proofs.YtceankldidkohaaDoor
set_option linter.unusedVariables false
set_option linter.unusedSimpArgs false
theorem at_F29 {w : World} {ok : Nat → Prop} {A : Option Addr} {n : Nat} {xs : List S29} (h : Kd.F k29 w ok A n xs) (i : Int) (h0 : 0 ≤ i) (h1 : i < n) : ∃ ad A2 c2, A = some ad ∧ w.cell? (ad.add (i.toNat * 3)) = some (.int .i64 (rd_T29 xs i).f0) ∧ w.cell? ⟨(ad.add (i.toNat * 3)).block, (ad.add (i.toNat * 3)).off + 1, none⟩ = some (.int .i64 (rd_T29 xs i).f1) ∧ w.cell? ⟨(ad.add (i.toNat * 3)).block, (ad.add (i.toNat * 3)).off + 2, none⟩ = some (.slice A2 (rd_T29 xs i).f2.length c2) ∧ (rd_T29 xs i).f2.length ≤ c2 ∧ Kd.F (Kd.int .i64) w ok A2 (rd_T29 xs i).f2.length (rd_T29 xs i).f2 := by
  obtain ⟨ad, c, e, _, hK, hc0, _⟩ := Kd.F_get h z29 i h0 h1
  have hc : ∀ j u, c[j]? = some u → w.cell? (ad.add (i.toNat * 3 + j)) = some u := hc0
  obtain ⟨A2, c2, rfl, l2, g2⟩ := k29_openF hK
  exact ⟨ad, A2, c2, e, hc 0 _ rfl, by rw [← add_field _ _ 1 (by omega)]; exact hc 1 _ rfl, by rw [← add_field _ _ 2 (by omega)]; exact hc 2 _ rfl, l2, g2⟩
theorem rcmp_any {x y : List Int} {Ax Ay : Option Addr} {cx cy : Nat} {W : World} (hx : x.length ≤ 1000000) (hy : y.length ≤ 1000000) (hX : (Kd.int .i64).C W Ax x.length x) (hcx : x.length ≤ cx) (hY : (Kd.int .i64).C W Ay y.length y) (hcy : y.length ≤ cy) :
    Calls Tryd.prog 14 #[.slice Ax x.length cx, .slice Ay y.length cy] W fun e W' => e = .returned (.int .i64 (cmpL x y)) ∧ ∃ m, W' = W.drewN m :=
  (haymowref05_Compare.calls _ Ax cx x Ay cy y _ W hX hcx hY hcy (rcompare_f x y hx hy)).mono fun e w' ⟨h1, h2⟩ => ⟨h1, h2.out⟩
structure Dd (w W : World) (v : Value) (out : List S40) : Prop where
  below : Below w.heap.size w W
  row : Kd.N k40 40 W w.heap.size (fun _ => True) v out
  small : ∀ x ∈ out, x.f0.length ≤ 1000000
theorem Dd.drewN {w W : World} {v : Value} {out : List S40} (h : Dd w W v out) (n : Nat) : Dd w (W.drewN n) v out := ⟨pw_below_drewN h.below n, Kd.N_drewN h.row n, h.small⟩
theorem rd40 {l : List S40} {j : Nat} (hj : j < l.length) : rd_T40 l j = l[j] := by simp [rd_T40, List.getD, List.getElem?_eq_getElem hj]
theorem below_lower {w0 w w1 : World} (h : Below w0.heap.size w0 w) (k : Below w.heap.size w w1) : Below w0.heap.size w0 w1 := h.trans (k.mono h.size)
/-- What was inserted. -/
theorem Dd.put {w W W' : World} {v v' : Value} {out : List S40} {y : S40} {xs : List S40} (h : Dd w W v out) (hR : Reg.Rw k40 40 W W' false undef v' xs y) (hs : ∀ x ∈ xs, x.f0.length ≤ 1000000) : Dd w W' v' xs :=
  ⟨below_lower h.below hR.below, Kd.N_lower (Kd.N_mono hR.row (fun _ _ => trivial)) h.below.size, hs⟩
theorem Dd.inc {w W : World} {ad : Addr} {cap p : Nat} {out : List S40} (h : Dd w W (.slice (some ad) out.length cap) out) (hp : p < out.length) (u : Int) :
    Dd w (W.setCell ⟨(ad.add (p * 2)).block, (ad.add (p * 2)).off + 1, none⟩ (.int .i64 u)) (.slice (some ad) out.length cap) (out.set p ⟨out[p].f0, u⟩) := by
  obtain ⟨g, rfl⟩ : ∃ g, ad = ⟨g, 0, none⟩ := by
    obtain ⟨g, cap', e, _⟩ := Kd.N_form h.row (by omega)
    injection e with e
    injection e with e
    exact ⟨g, e⟩
  obtain ⟨c, hcl, hK, hcc, _⟩ := Kd.N_elem h.row z40 (p : Int) (by omega) (by omega)
  simp only [Int.toNat_natCast] at hcc hK
  have hx : out.getD p z40 = out[p] := by simp [List.getD, List.getElem?_eq_getElem hp]
  rw [hx] at hK
  obtain ⟨A0, c0, rfl, l0, g0⟩ := k40_openF hK
  have hbase := Kd.N_base h.row g (by simp [Value.ownBlock])
  obtain ⟨h1, h2⟩ := Kd.N_seg h.row (p : Int) (by omega) (by omega) (c := [.slice A0 out[p].f0.length c0, .int .i64 out[p].f1]) (seg := [.int .i64 u]) (j := 1) hcl hcc (show (2 : Nat) ≤ 2 by omega) (x' := ⟨out[p].f0, u⟩) (okp := fun k => True ∧ k ≠ g) (k40_mkF W _ ⟨out[p].f0, u⟩ l0 g0) (fun k hk => ⟨trivial, hk.2⟩)
  simp only [Int.toNat_natCast] at h1 h2
  have e : (W.setCell ⟨((⟨g, 0, none⟩ : Addr).add (p * 2)).block, ((⟨g, 0, none⟩ : Addr).add (p * 2)).off + 1, none⟩ (.int .i64 u)) = W.setCells g (p * k40.sz + 1) [.int .i64 u] := by
    rw [add_at, Nat.zero_add]
    rfl
  rw [e]
  refine ⟨h.below.grown h2 h.below.size (fun k hk => by injection hk with hk; omega), h1, fun x hx => ?_⟩
  rcases List.mem_or_eq_of_mem_set hx with hx | rfl
  · exact h.small x hx
  · exact h.small out[p] (List.getElem_mem hp)
theorem Dd.froz {w W : World} {ad : Addr} {cap p : Nat} {out : List S40} (h : Dd w W (.slice (some ad) out.length cap) out) (hp : p < out.length) : W.frozen? ⟨(ad.add (p * 2)).block, (ad.add (p * 2)).off + 1, none⟩ = false := by
  obtain ⟨g, rfl⟩ : ∃ g, ad = ⟨g, 0, none⟩ := by
    obtain ⟨g, cap', e, _⟩ := Kd.N_form h.row (by omega)
    injection e with e
    injection e with e
    exact ⟨g, e⟩
  obtain ⟨c, hcl, hK, hcc, hfr⟩ := Kd.N_elem h.row z40 (p : Int) (by omega) (by omega)
  have := hfr 1
  rw [add_at, Nat.zero_add]
  simp only [Int.toNat_natCast] at this
  exact this

set_option maxHeartbeats 4000000 in
set_option maxRecDepth 100000 in
theorem rDid_any (w : World) (A : Option Addr) (c : Nat) (l : List S29) (job : Int) (hF : Kd.F k29 w (fun q => q < w.heap.size) A l.length l) (hc : l.length ≤ c) (hn : l.length ≤ 1000000) (hp : ∀ e ∈ l, e.f2.length ≤ 1000000) :
    Calls Tryd.prog 10 #[.slice A l.length c, .int .i64 job] w fun e W' => ∃ v, e = .returned v ∧ Kd.N k40 40 W' w.heap.size (fun _ => True) v (didF job [] l) ∧ Below w.heap.size w W' := by
  have HF := Lib.hid hF
  have HP := Lib.hid hp
  obtain ⟨n, hnn⟩ : ∃ n, n = l.length := ⟨_, rfl⟩
  have HN := Lib.hid hnn
  rw [← hnn] at hc hn ⊢
  have HC0 := Lib.hid hc
  have D0 : Hid (Dd w w (.slice none 0 0) []) := ⟨Below.refl _ _, Kd.N_nil _ _ _ _ _, fun x hx => by cases hx⟩
  obtain ⟨i40, hi40, hs40⟩ : ∃ i, Tryd.prog.info? 40 = some i ∧ i.size = 2 := by
    have h := info40
    cases hq : Tryd.prog.info? 40 with
    | none => rw [hq] at h; cases h
    | some i => rw [hq] at h; injection h with h; injection h with _ h; injection h with h; exact ⟨i, rfl, h⟩
  have HI40 := Lib.hid hi40
  have HS40 := Lib.hid hs40
  clear hF hp hnn hc hi40 hs40
  go_enter Tryd.func10, Tryd.ntmps10
  go_wp2_with fail
  go_loopg [5, 6] n (fun k v5 v6 X => ∃ (j : Nat) (out : List S40), j + k = n ∧ v6 = .int .i64 j ∧ Hid (Dd w X v5 out) ∧ Hid (didF job out (l.drop j) = didF job [] l) ∧ Hid (out.length ≤ j))
  case atStart => exact ⟨0, [], by omega, rfl, D0, rfl, Nat.le_refl _⟩
  case round =>
    obtain ⟨j, out, hjk, rfl, hD, hS, hL⟩ := hrel
    have HK := Lib.hid hjk
    clear hjk D0
    by_cases hlt : j < n
    · have hl : j < l.length := by have := HN.out; omega
      obtain ⟨ad, A2, c2, hA, h0, h1, h2, l2, r2⟩ := at_F29 (Kd.F_below HF.out hD.out.below) (j : Int) (Int.natCast_nonneg j) (Int.ofNat_lt.2 hl)
      subst hA
      have hx : rd_T29 l j = l[j] := rd29 hl
      have hd : l.drop j = rd_T29 l j :: l.drop (j + 1) := by rw [hx]; exact List.drop_eq_getElem_cons hl
      have hxp := HP.out _ (List.getElem_mem hl)
      rw [← hx] at hxp
      clear hx
      generalize rd_T29 l j = x at *
      simp only [Int.toNat_natCast] at h0 h1 h2
      have HD' := Lib.hid hd
      have HXP := Lib.hid hxp
      have R2 := Lib.hid r2
      have L2 := Lib.hid l2
      clear hd hxp r2 l2 h1
      by_cases hj : x.f0 = job
      · have hb0 : (x.f0 != job) = false := by rw [hj]; simp
        have HJ := Lib.hid hj
        clear hj
        obtain ⟨A5, c5, hv5, hc5, hC5⟩ := Kd.N_reads hD.out.row
        obtain ⟨m, hm⟩ : ∃ m, m = out.length := ⟨_, rfl⟩
        rw [← hm] at hv5 hc5
        subst hv5
        have HM := Lib.hid hm
        have hml : m ≤ 1000000 := by have := hL.out; omega
        have HML := Lib.hid hml
        have HC5 := Lib.hid hc5
        have HCC := Lib.hid hC5
        clear hm hc5 hC5 hml
        obtain ⟨X, hX⟩ : ∃ X, X = wr := ⟨_, rfl⟩
        subst hX
        go_wp2_with fail
        go_loopg [7] m (fun k2 v7 X2 => ∃ p : Nat, p + k2 = m ∧ v7 = .int .i64 p ∧ (∃ d, X2 = X.drewN d) ∧ Hid (InsAt out x.f2 p))
        case atStart => exact ⟨0, by omega, rfl, ⟨0, rfl⟩, InsAt.zero _ _⟩
        case round =>
          obtain ⟨p, hpk, rfl, ⟨dq, rfl⟩, hI⟩ := hrel
          have HPK := Lib.hid hpk
          clear hpk
          have hcut := cut_to (P := Tryd.prog) 30 40 .i64 Tryd.underlying30 HI40.out A5 m c5 (p : Int) (by omega) (by have := HPK.out; omega) HC5.out
          have hcf := cut_from (P := Tryd.prog) 30 40 .i64 Tryd.underlying30 HI40.out 2 HS40.out A5 m c5 (p : Int) (by omega) (by have := HPK.out; omega)
          rw [Int.toNat_natCast] at hcut hcf
          have HCT := Lib.hid hcut
          have HCF := Lib.hid hcf
          clear hcut hcf
          by_cases hpm : p < m
          · have HPM := Lib.hid hpm
            have hpo : p < out.length := by have := HM.out; omega
            obtain ⟨a5, B0, d0, hA5, g0, g1, m0, q0⟩ := at_T40 HCC.out (p : Int) (Int.natCast_nonneg p) (by omega)
            subst hA5
            have HPO := Lib.hid hpo
            clear hpo
            have hy : rd_T40 out p = out[p]'HPO.out := rd40 HPO.out
            have hyl := hD.out.small _ (List.getElem_mem HPO.out)
            rw [← hy] at hyl
            generalize rd_T40 out p = y at *
            simp only [Int.toNat_natCast] at g0 g1
            have HY := Lib.hid hy
            obtain ⟨cc, hcc⟩ : ∃ cc, cc = cmpL y.f0 x.f2 := ⟨_, rfl⟩
            have HQ : Hid (∀ d1 d2, Calls Tryd.prog 14 #[.slice B0 y.f0.length d0, .slice A2 x.f2.length c2] (X.drewN (d1 + d2)) fun e W' => e = .returned (.int .i64 cc) ∧ ∃ m, W' = X.drewN (d1 + m)) := fun d1 d2 => by
              rw [hcc]
              exact (rcmp_any hyl HXP.out (Kd.C_drewN q0 _) m0 (Kd.C_drewN (Kd.F_now R2.out) _) L2.out).mono (fun e W' ⟨he, q, hq⟩ => ⟨he, d2 + q, by rw [hq, World.drewN_drewN, Nat.add_assoc]⟩)
            have HCMP := Lib.hid hcc
            clear hy hyl m0 q0 hcc
            have kpm : (decide ((p : Int) < (m : Int))) = true := by simp; omega
            by_cases h1c : cc < 0
            · have b1 : (decide (cc < 0)) = true := by simpa using h1c
              go_wp2_with fail
              go_quiet (exact HQ.out _ _)
              have hpb : (p : Int) + 1 ≤ 1000000 := by have := HML.out; have := HPM.out; omega
              go_wp2_with fail
              go_roundg (m - (p + 1))
              case measure => have := HPK.out; have := HPM.out; omega
              case rel => exact ⟨p + 1, by have := HPM.out; omega, by have := HPM.out; have := HML.out; go_num, ⟨_, rfl⟩, InsAt.next hI.out HPO.out (by rw [← HY.out, ← HCMP.out]; exact h1c)⟩
            · have b1 : (decide (cc < 0)) = false := by simpa using h1c
              by_cases h2c : cc = 0
              · subst h2c
                go_wp2_with fail
                go_quiet (exact HQ.out _ _)
                obtain ⟨e1, rfl⟩ : ∃ e1, e1 = nq := ⟨_, rfl⟩
                go_wp2_with fail
                have HD2 : Hid (Dd w (X.drewN (dq + e1)) (.slice (some a5) m c5) out) := hD.out.drewN _
                go_quiet (exact HQ.out _ _)
                have hfr : X.frozen? ⟨(a5.add (p * 2)).block, (a5.add (p * 2)).off + 1, none⟩ = false := by
                  have := hD.out
                  rw [HM.out] at this
                  exact this.froz HPO.out
                go_wp2_with fail
                go_roundg (n - (j + 1))
                case measure => have := HK.out; omega
                case rel =>
                  refine ⟨j + 1, out.set p ⟨y.f0, wrap64 (y.f1 + 1)⟩, by omega, by go_num, ?_, ?_, ?_⟩
                  · have h := hD.out.drewN (dq + e1 + nq)
                    rw [HM.out] at h ⊢
                    have h := h.inc HPO.out (wrap64 (y.f1 + 1))
                    rw [← HY.out] at h
                    exact h
                  · show didF job _ (l.drop (j + 1)) = _
                    rw [← hS.out, HD'.out]
                    show _ = if x.f0 = job then didF job (insD out x.f2) (l.drop (j + 1)) else _
                    rw [if_pos HJ.out, InsAt.same hI.out HPO.out (by rw [← HY.out, ← HCMP.out]), ← HY.out]
                  · show (out.set _ _).length ≤ _
                    rw [List.length_set]
                    have := hL.out
                    omega
              · have b2 : (cc == 0) = false := by simpa using h2c
                have hgt : 0 < cc := by omega
                have HGT := Lib.hid hgt
                clear h1c h2c hgt
                go_wp2_with fail
                go_quiet (exact HQ.out _ _)
                obtain ⟨e1, rfl⟩ : ∃ e1, e1 = nq := ⟨_, rfl⟩
                go_wp2_with fail
                go_quiet (exact HQ.out _ _)
                obtain ⟨e2, rfl⟩ : ∃ e2, e2 = nq := ⟨_, rfl⟩
                go_wp2_with fail
                clear g0 g1 HQ b1 b2 kpm
                generalize hW0 : ((X.drewN dq).drewN e1).drewN e2 = W0
                have hXW : Below X.heap.size X W0 := hW0 ▸ pw_below_drewN (pw_below_drewN (pw_below_drewN (Below.refl _ _) _) _) _
                have HD0 : Hid (Dd w W0 (.slice (some a5) m c5) out) := hW0 ▸ ((hD.out.drewN _).drewN _).drewN _
                have HINS : Hid (insD out x.f2 = out.take p ++ [⟨x.f2, 1⟩] ++ out.drop p) := InsAt.over hI.out HPO.out (by rw [← HY.out, ← HCMP.out]; exact HGT.out)
                have hpm' : p ≤ m := by have := HPK.out; omega
                have HKP : Hid (p ≤ 1000000) := by have := HML.out; show p ≤ _; omega
                have hF5 : Kd.F k40 W0 (fun q => q < W0.heap.size) (some a5) out.length out := by
                  have h := HD0.out.row
                  have e := HM.out
                  rw [e] at h
                  exact Kd.F_mono (Kd.N_F (Kd.N_bound h)) (fun k hk => hk.2)
                have HTK : Hid (Kd.F k40 W0 (fun q => q < W0.heap.size) (some a5) p (out.take p)) := by
                  have h := Kd.F_take hF5 (m := p) (by have := HM.out; omega)
                  have e : (out.take p).length = p := by rw [List.length_take]; have := HM.out; omega
                  rw [e] at h
                  exact h
                have HDK : Hid (Kd.F k40 W0 (fun q => q < W0.heap.size) (if c5 = p then (some a5) else ((some a5)).map (·.add (p * 2))) (m - p) (out.drop p)) := by
                  have h := Kd.F_cut hF5 (m := p) (c := c5) (by have := HM.out; omega) (by have := HM.out; have := HC5.out; omega)
                  have e : (out.drop p).length = m - p := by rw [List.length_drop]; have := HM.out; omega
                  rw [e] at h
                  exact h
                have HTL : Hid ((out.take p).length = p) := by
                  show (out.take p).length = p
                  rw [List.length_take]; have := HM.out; omega
                have HFK : Hid (Kd.FK k40 W0 (fun q => q < W0.heap.size) (⟨x.f2, 1⟩ : S40) [.slice A2 x.f2.length c2, .int .i64 1]) := k40_mkF W0 _ (⟨x.f2, 1⟩ : S40) L2.out (Kd.F_mono (Kd.F_below R2.out hXW) (fun q hq => by have := hXW.size; have := hD.out.below.size; omega))
                have HCL : Hid (∀ W, Below W0.heap.size W0 W → W.cell? ⟨(ad.add (j * 3)).block, (ad.add (j * 3)).off + 2, none⟩ = some (.slice A2 x.f2.length c2)) := fun W hb => by
                  have h := (hXW.cell (block_lt_of_cell h2)).trans h2
                  exact (hb.cell (block_lt_of_cell h)).trans h
                have hcut_to := HCT.out
                have HDR := Lib.hid (rfl : out.drop p = out.drop p)
                obtain ⟨tk, htk⟩ : ∃ tk, tk = out.take p := ⟨_, rfl⟩
                obtain ⟨dk, hdk⟩ : ∃ dk, dk = out.drop p := ⟨_, rfl⟩
                rw [← htk, ← hdk] at HINS
                rw [← htk] at HTK HTL
                rw [← hdk] at HDK
                clear h0 h2 hXW hF5 htk hdk hpm' HDR
                obtain ⟨AD, hAD⟩ : ∃ AD, AD = (if c5 = p then (some a5) else ((some a5)).map (·.add (p * 2))) := ⟨_, rfl⟩
                rw [← hAD] at HDK
                have HCF2 : Hid (∀ W : World, (Instr.slice 30 (.slice (some a5) m c5) (some (.int .i64 (p : Int))) none none).run Tryd.prog W = .ok (.slice AD (m - p) (c5 - p)) W) := by rw [hAD]; exact HCF.out
                clear hAD
                obtain ⟨xl, hxl⟩ : ∃ xl, xl = x.f2.length := ⟨_, rfl⟩
                rw [← hxl] at HFK HCL
                refine Reg.wp_region_float (by kernel_rfl) [0, 4, 12, 13] 11 (fun i => match i with | 1 => fun v => v = .slice (some a5) m c5 | 2 => fun v => v = .int .i64 (p : Int) | 3 => fun v => v = .slice (some a5) p c5 | 5 => fun v => v = .slice (some ad) n c | 6 => fun v => v = .int .i64 (j : Int) | 7 => fun v => v = .pointer (some (ad.add (j * 3))) | 8 => fun v => v = .pointer (some ⟨(ad.add (j * 3)).block, (ad.add (j * 3)).off + 2, none⟩) | 9 => fun v => v = .slice A2 xl c2 | 10 => fun v => v = .agg #[.slice A2 xl c2, .int .i64 1] | _ => fun _ => True) (fun k b f W => match k with
    | 0 => Reg.Rw k40 40 W0 W b (f 79) (.slice none 0 0) [] (⟨x.f2, 1⟩ : S40)
    | 1 => Reg.Rw k40 40 W0 W b (f 79) (f 68) [] (⟨x.f2, 1⟩ : S40)
    | 2 => Reg.Rw k40 40 W0 W b (f 79) (f 72) tk (⟨x.f2, 1⟩ : S40)
    | 3 => Reg.Rw k40 40 W0 W false undef (f 80) (tk ++ [(⟨x.f2, 1⟩ : S40)]) (⟨x.f2, 1⟩ : S40)
    | _ => Reg.Rw k40 40 W0 W false undef (f 80) (tk ++ [(⟨x.f2, 1⟩ : S40)]) (⟨x.f2, 1⟩ : S40) ∧ f 8 = f 80) (by kernel_rfl) (by kernel_rfl) (by decide) (by decide) (by decide) (by decide) ?hJ ?h0 ?pure ?flo ?act ?fin
                case hJ => (intro k b f f' W h hb hj; match k, hj with
    | 0, hj => exact Reg.Rw.free hj (fun e => hb e 79 (by kernel_rfl))
    | 1, hj => (rw [h 0 (by omega) (by decide) 68 (by kernel_rfl)] at hj; exact Reg.Rw.free hj (fun e => hb e 79 (by kernel_rfl)))
    | 2, hj => (rw [h 1 (by omega) (by decide) 72 (by kernel_rfl)] at hj; exact Reg.Rw.free hj (fun e => hb e 79 (by kernel_rfl)))
    | 3, hj => (rw [h 2 (by omega) (by decide) 80 (by kernel_rfl)] at hj; exact hj)
    | k + 4, hj => (rw [h 2 (by omega) (by decide) 80 (by kernel_rfl), h 3 (by omega) (by decide) 8 (by kernel_rfl)] at hj; exact hj))
                case h0 => exact Reg.Rw.start (below_drew (Below.refl _ _)) _ _
                case pure =>
                  intro i o k bq a w_ ho hE hne hk hmc hf hst hkn hj
                  have hi : i < 14 := (Array.getElem?_eq_some_iff.1 ho).1
                  obtain rfl | rfl | rfl | rfl | rfl | rfl | rfl | rfl | rfl : i = 1 ∨ i = 2 ∨ i = 3 ∨ i = 5 ∨ i = 6 ∨ i = 7 ∨ i = 8 ∨ i = 9 ∨ i = 10 := by
                    simp only [List.mem_cons, List.not_mem_nil, or_false, not_or] at hE
                    omega
                  · as_aux_lemma =>
                    obtain rfl := Reg.oper_eq ho rfl
                    have e5 : a.eval (.tmp 5) = .slice (some a5) m c5 := (hf.eval 5 (by kernel_rfl)).trans rfl
                    have g5 := Reg.eval_getD e5
                    exact Reg.op_value rfl rfl (by simp only [List.getElem_toArray, List.getElem_cons_zero, List.getElem_cons_succ, execOp, e5]; go_simp) ⟨_, rfl, rfl, hj⟩
                  · as_aux_lemma =>
                    obtain rfl := Reg.oper_eq ho rfl
                    have e7 : a.eval (.tmp 7) = .int .i64 (p : Int) := (hf.eval 7 (by kernel_rfl)).trans rfl
                    have g7 := Reg.eval_getD e7
                    exact Reg.op_value rfl rfl (by simp only [List.getElem_toArray, List.getElem_cons_zero, List.getElem_cons_succ, execOp, e7]; go_simp) ⟨_, rfl, rfl, hj⟩
                  · as_aux_lemma =>
                    obtain rfl := Reg.oper_eq ho rfl
                    have e69 : a.eval (.tmp 69) = .slice (some a5) m c5 := hkn.eval 1 69 (by kernel_rfl) (by kernel_rfl)
                    have e70 : a.eval (.tmp 70) = .int .i64 (p : Int) := hkn.eval 2 70 (by kernel_rfl) (by kernel_rfl)
                    have g69 := Reg.eval_getD e69
                    have g70 := Reg.eval_getD e70
                    exact Reg.op_value rfl rfl (by simp only [List.getElem_toArray, List.getElem_cons_zero, List.getElem_cons_succ, execOp, e69, e70]; go_simp) ⟨_, rfl, rfl, hj⟩
                  · as_aux_lemma =>
                    obtain rfl := Reg.oper_eq ho rfl
                    have e0 : a.eval (.tmp 0) = .slice (some ad) n c := (hf.eval 0 (by kernel_rfl)).trans rfl
                    have g0 := Reg.eval_getD e0
                    exact Reg.op_value rfl rfl (by simp only [List.getElem_toArray, List.getElem_cons_zero, List.getElem_cons_succ, execOp, e0]; go_simp) ⟨_, rfl, rfl, hj⟩
                  · as_aux_lemma =>
                    obtain rfl := Reg.oper_eq ho rfl
                    have e6 : a.eval (.tmp 6) = .int .i64 (j : Int) := (hf.eval 6 (by kernel_rfl)).trans rfl
                    have g6 := Reg.eval_getD e6
                    exact Reg.op_value rfl rfl (by simp only [List.getElem_toArray, List.getElem_cons_zero, List.getElem_cons_succ, execOp, e6]; go_simp) ⟨_, rfl, rfl, hj⟩
                  · as_aux_lemma =>
                    obtain rfl := Reg.oper_eq ho rfl
                    have e73 : a.eval (.tmp 73) = .slice (some ad) n c := hkn.eval 5 73 (by kernel_rfl) (by kernel_rfl)
                    have e74 : a.eval (.tmp 74) = .int .i64 (j : Int) := hkn.eval 6 74 (by kernel_rfl) (by kernel_rfl)
                    have g73 := Reg.eval_getD e73
                    have g74 := Reg.eval_getD e74
                    exact Reg.op_value rfl rfl (by simp only [List.getElem_toArray, List.getElem_cons_zero, List.getElem_cons_succ, execOp, e73, e74]; go_simp) ⟨_, rfl, rfl, hj⟩
                  · as_aux_lemma =>
                    obtain rfl := Reg.oper_eq ho rfl
                    have e75 : a.eval (.tmp 75) = .pointer (some (ad.add (j * 3))) := hkn.eval 7 75 (by kernel_rfl) (by kernel_rfl)
                    have g75 := Reg.eval_getD e75
                    exact Reg.op_value rfl rfl (by simp only [List.getElem_toArray, List.getElem_cons_zero, List.getElem_cons_succ, execOp, e75]; go_simp) ⟨_, rfl, rfl, hj⟩
                  · as_aux_lemma =>
                    obtain rfl := Reg.oper_eq ho rfl
                    have e76 : a.eval (.tmp 76) = .pointer (some ⟨(ad.add (j * 3)).block, (ad.add (j * 3)).off + 2, none⟩) := hkn.eval 8 76 (by kernel_rfl) (by kernel_rfl)
                    have g76 := Reg.eval_getD e76
                    have hbw : Below W0.heap.size W0 w_ := by
                      match k, hj with
                      | 0, hj => exact Reg.Rw.below hj
                      | 1, hj => exact Reg.Rw.below hj
                      | 2, hj => exact Reg.Rw.below hj
                      | 3, hj => exact Reg.Rw.below hj
                      | k + 4, hj => exact Reg.Rw.below hj.1
                    have hcl := HCL.out w_ hbw
                    exact Reg.op_value rfl rfl (by simp only [List.getElem_toArray, List.getElem_cons_zero, List.getElem_cons_succ, execOp, e76]; go_simp) ⟨_, rfl, rfl, hj⟩
                  · as_aux_lemma =>
                    obtain rfl := Reg.oper_eq ho rfl
                    have e77 : a.eval (.tmp 77) = .slice A2 xl c2 := hkn.eval 9 77 (by kernel_rfl) (by kernel_rfl)
                    have g77 := Reg.eval_getD e77
                    exact Reg.op_value rfl rfl (by simp only [List.getElem_toArray, List.getElem_cons_zero, List.getElem_cons_succ, execOp, e77]; go_simp) ⟨_, rfl, rfl, hj⟩
                case flo =>
                  intro o k a w_ ho hk hmc hf hst hkn hj
                  · as_aux_lemma =>
                    obtain rfl := Reg.oper_eq ho rfl
                    have e78 : a.eval (.tmp 78) = .agg #[.slice A2 xl c2, .int .i64 1] := hkn.eval 10 78 (by kernel_rfl) (by kernel_rfl)
                    have g78 := Reg.eval_getD e78
                    match k, hj, hmc with
                    | 0, hj, hmc => 
                      refine Reg.op_wp rfl rfl ?_
                      refine Reg.Rw.aside hj rfl rfl (cs := [.slice A2 xl c2, .int .i64 1]) (by simp only [List.getElem_toArray, List.getElem_cons_zero, List.getElem_cons_succ, execOp, e78]; go_simp) HFK.out ?_
                      intro v1 w1 hj1
                      refine ⟨_, rfl, trivial, ?_⟩
                      show Reg.Rw k40 40 W0 w1 true (Reg.val (a.put (some 79) v1) 79) (.slice none 0 0) [] (⟨x.f2, 1⟩ : S40)
                      rw [Reg.val_put_in hf (by kernel_rfl)]
                      exact hj1
                    | 1, hj, hmc => 
                      refine Reg.op_wp rfl rfl ?_
                      refine Reg.Rw.aside hj rfl rfl (cs := [.slice A2 xl c2, .int .i64 1]) (by simp only [List.getElem_toArray, List.getElem_cons_zero, List.getElem_cons_succ, execOp, e78]; go_simp) HFK.out ?_
                      intro v1 w1 hj1
                      refine ⟨_, rfl, trivial, ?_⟩
                      show Reg.Rw k40 40 W0 w1 true (Reg.val (a.put (some 79) v1) 79) (Reg.val (a.put (some 79) v1) 68) [] (⟨x.f2, 1⟩ : S40)
                      rw [Reg.val_put_in hf (by kernel_rfl), Reg.val_put_ne _ _ _ _ (by decide)]
                      exact hj1
                    | 2, hj, hmc => 
                      refine Reg.op_wp rfl rfl ?_
                      refine Reg.Rw.aside hj rfl rfl (cs := [.slice A2 xl c2, .int .i64 1]) (by simp only [List.getElem_toArray, List.getElem_cons_zero, List.getElem_cons_succ, execOp, e78]; go_simp) HFK.out ?_
                      intro v1 w1 hj1
                      refine ⟨_, rfl, trivial, ?_⟩
                      show Reg.Rw k40 40 W0 w1 true (Reg.val (a.put (some 79) v1) 79) (Reg.val (a.put (some 79) v1) 72) tk (⟨x.f2, 1⟩ : S40)
                      rw [Reg.val_put_in hf (by kernel_rfl), Reg.val_put_ne _ _ _ _ (by decide)]
                      exact hj1
                    | k + 3, hj, hmc => exact absurd hmc (by simp only [List.length_cons, List.length_nil] at hk; obtain rfl | rfl : k = 0 ∨ k = 1 := (by omega) <;> exact Bool.eq_false_iff.1 (by kernel_rfl))
                case act =>
                  intro k bq o a w_ hk ho hbf hf hst hkn hj
                  obtain rfl | rfl | rfl | rfl : k = 0 ∨ k = 1 ∨ k = 2 ∨ k = 3 := by simp only [List.length_cons, List.length_nil] at hk; omega
                  · as_aux_lemma =>
                    obtain rfl := Reg.oper_eq ho rfl
                    refine Reg.op_wp rfl rfl ?_
                    refine Reg.Rw.empty hj rfl rfl (by simp only [List.getElem_toArray, List.getElem_cons_zero, List.getElem_cons_succ, execOp]; go_simp) ?_
                    intro v1 w1 hj1
                    refine ⟨_, rfl, trivial, ?_⟩
                    exact Reg.Rw.free ((Reg.val_put_in hf (by kernel_rfl)).symm ▸ hj1) (fun _ => (Reg.val_put_ne _ _ _ _ (by decide)).symm)
                  · as_aux_lemma =>
                    obtain rfl := Reg.oper_eq ho rfl
                    have e71 : a.eval (.tmp 71) = .slice (some a5) p c5 := hkn.eval 3 71 (by kernel_rfl) (by kernel_rfl)
                    have g71 := Reg.eval_getD e71
                    refine Reg.op_wp rfl rfl ?_
                    refine Reg.Rw.append hj rfl (.tmp 68) (.tmp 71) 30 (.agg #[(.slice none 0 0), (.int .i64 0)]) 32 rfl Tryd.underlying30 info40 rfl (by decide) (by decide) (Reg.eval_val a 68) e71 HTK.out (by have := HKP.out; simp; omega) ?_
                    intro v1 w1 hj1
                    refine ⟨_, rfl, trivial, ?_⟩
                    exact Reg.Rw.free ((Reg.val_put_in hf (by kernel_rfl)).symm ▸ hj1) (fun _ => (Reg.val_put_ne _ _ _ _ (by decide)).symm)
                  · as_aux_lemma =>
                    obtain rfl := Reg.oper_eq ho rfl
                    obtain rfl := hbf (by kernel_rfl)
                    refine Reg.op_wp rfl rfl ?_
                    refine Reg.Rw.take hj rfl (.tmp 72) (.tmp 79) 30 (.agg #[(.slice none 0 0), (.int .i64 0)]) 32 rfl Tryd.underlying30 info40 rfl (by decide) (by decide) (Reg.eval_val a 72) (Reg.eval_val a 79) (by have := HKP.out; have := HTL.out; omega) ?_
                    intro v1 w1 hj1
                    refine ⟨_, rfl, trivial, ?_⟩
                    exact (Reg.val_put_in hf (by kernel_rfl)).symm ▸ hj1
                  · as_aux_lemma =>
                    obtain rfl := Reg.oper_eq ho rfl
                    have e80 : a.eval (.tmp 80) = Reg.val a 80 := Reg.eval_val a 80
                    have g80 := Reg.eval_getD e80
                    refine Reg.op_value (v := Reg.val a 80) (w' := w_) rfl rfl (by simp only [List.getElem_toArray, List.getElem_cons_zero, List.getElem_cons_succ, execOp, e80]; go_simp) ⟨_, rfl, trivial, ?_, ?_⟩
                    · show Reg.Rw k40 40 W0 w_ false undef (Reg.val (a.put (some 8) (Reg.val a 80)) 80) _ _
                      rw [Reg.val_put_ne a (some 8) _ 80 (by decide)]
                      exact hj
                    · show Reg.val (a.put (some 8) (Reg.val a 80)) 8 = Reg.val (a.put (some 8) (Reg.val a 80)) 80
                      rw [Reg.val_put_in hf (d := 8) (by kernel_rfl), Reg.val_put_ne a (some 8) _ 80 (by decide)]
                case fin =>
                  intro a w_ hf hkn hj
                  have e69 : Reg.val a 69 = _ := hkn 1 69 (by show _ < _; decide) (by kernel_rfl)
                  have e70 : Reg.val a 70 = _ := hkn 2 70 (by show _ < _; decide) (by kernel_rfl)
                  have e71 : Reg.val a 71 = _ := hkn 3 71 (by show _ < _; decide) (by kernel_rfl)
                  have e73 : Reg.val a 73 = _ := hkn 5 73 (by show _ < _; decide) (by kernel_rfl)
                  have e74 : Reg.val a 74 = _ := hkn 6 74 (by show _ < _; decide) (by kernel_rfl)
                  have e75 : Reg.val a 75 = _ := hkn 7 75 (by show _ < _; decide) (by kernel_rfl)
                  have e76 : Reg.val a 76 = _ := hkn 8 76 (by show _ < _; decide) (by kernel_rfl)
                  have e77 : Reg.val a 77 = _ := hkn 9 77 (by show _ < _; decide) (by kernel_rfl)
                  have e78 : Reg.val a 78 = _ := hkn 10 78 (by show _ < _; decide) (by kernel_rfl)
                  rw [Reg.frm_fold hf [68, 69, 70, 71, 72, 73, 74, 75, 76, 77, 78, 79, 80, 8] (by kernel_rfl) (by kernel_rfl)]
                  simp only [List.foldl_cons, List.foldl_nil, Act.put, List.setIfInBounds_toArray, List.set_cons_zero, List.set_cons_succ, e69, e70, e71, e73, e74, e75, e76, e77, e78]
                  generalize Reg.val a 68 = v68_ at *
                  generalize Reg.val a 72 = v72_ at *
                  generalize Reg.val a 79 = v79_ at *
                  generalize Reg.val a 80 = v80_ at *
                  generalize Reg.val a 8 = v8_ at *
                  clear hkn hf e69 e70 e71 e73 e74 e75 e76 e77 e78
                  obtain ⟨hj, h8⟩ := hj
                  subst h8
                  have HJ1 := Lib.hid hj
                  clear hj hcut_to
                  have hcf := HCF2.out
                  go_wp2_with ((with_reducible refine gate_builtin (b := .append) (xs := #[.tmp 81, .tmp 84]) rfl ?_); at_builtin; refine Kd.N_append_rows k40 (w0 := W0) W0.heap.size rfl (.tmp 81) (.tmp 84) 30 40 (.agg #[(.slice none 0 0), (.int .i64 0)]) 32 rfl Tryd.underlying30 info40 rfl (by decide) (by decide) v8_ (tk ++ [⟨x.f2, 1⟩]) dk _ (m - p) (c5 - p) (fun _ => True) (fun q => q < W0.heap.size) rfl rfl ?aO ?aR ?aK (fun _ _ => trivial) ?aB ?aS ?aL ?_; (case aO => exact Kd.N_mono HJ1.out.row (fun _ _ => trivial)); (case aR => exact Kd.F_below HDK.out HJ1.out.below); (case aK => exact fun k hk => ⟨trivial, fun he => by have := Kd.N_base HJ1.out.row k he.symm; omega⟩); (case aB => exact HJ1.out.below); (case aS => exact HJ1.out.below.size); (case aL => have := HTL.out; have := HKP.out; have := HML.out; simp; omega); intro v1 w1 hN hB hg hat; have HN1 := Lib.hid hN; have HB1 := Lib.hid hB; clear hN hB hg hat hcf hxl hW0)
                  go_roundg (n - (j + 1))
                  case measure => have := HK.out; omega
                  case rel =>
                    refine ⟨j + 1, insD out x.f2, by omega, by go_num, ?_, ?_, ?_⟩
                    · refine ⟨below_lower HD0.out.below HB1.out, ?_, insD_all (Q := fun q => q.length ≤ 1000000) out x.f2 hD.out.small HXP.out⟩
                      rw [HINS.out]
                      exact Kd.N_lower HN1.out HD0.out.below.size
                    · show didF job _ (l.drop (j + 1)) = _
                      rw [← hS.out, HD'.out]
                      exact (if_pos HJ.out).symm
                    · show (insD _ _).length ≤ _
                      have := insD_len out x.f2
                      have := hL.out
                      omega

          · have kpm : (decide ((p : Int) < (m : Int))) = false := by simp; omega
            go_wp2_with fail
            go_quiet (fail)
            obtain ⟨e1, rfl⟩ : ∃ e1, e1 = nq := ⟨_, rfl⟩
            go_wp2_with fail
            go_quiet (fail)
            obtain ⟨e2, rfl⟩ : ∃ e2, e2 = nq := ⟨_, rfl⟩
            go_wp2_with fail
            have HPM := Lib.hid hpm
            clear kpm hpm
            generalize hW0 : ((X.drewN dq).drewN e1).drewN e2 = W0
            have hXW : Below X.heap.size X W0 := hW0 ▸ pw_below_drewN (pw_below_drewN (pw_below_drewN (Below.refl _ _) _) _) _
            have HD0 : Hid (Dd w W0 (.slice A5 m c5) out) := hW0 ▸ ((hD.out.drewN _).drewN _).drewN _
            have HINS : Hid (insD out x.f2 = out.take p ++ [⟨x.f2, 1⟩] ++ out.drop p) := InsAt.last hI.out (by have := HM.out; have := HPM.out; omega)
            have hpm' : p ≤ m := by have := HPK.out; omega
            have HKP : Hid (p ≤ 1000000) := by have := HML.out; show p ≤ _; omega
            have hF5 : Kd.F k40 W0 (fun q => q < W0.heap.size) A5 out.length out := by
              have h := HD0.out.row
              have e := HM.out
              rw [e] at h
              exact Kd.F_mono (Kd.N_F (Kd.N_bound h)) (fun k hk => hk.2)
            have HTK : Hid (Kd.F k40 W0 (fun q => q < W0.heap.size) A5 p (out.take p)) := by
              have h := Kd.F_take hF5 (m := p) (by have := HM.out; omega)
              have e : (out.take p).length = p := by rw [List.length_take]; have := HM.out; omega
              rw [e] at h
              exact h
            have HDK : Hid (Kd.F k40 W0 (fun q => q < W0.heap.size) (if c5 = p then A5 else (A5).map (·.add (p * 2))) (m - p) (out.drop p)) := by
              have h := Kd.F_cut hF5 (m := p) (c := c5) (by have := HM.out; omega) (by have := HM.out; have := HC5.out; omega)
              have e : (out.drop p).length = m - p := by rw [List.length_drop]; have := HM.out; omega
              rw [e] at h
              exact h
            have HTL : Hid ((out.take p).length = p) := by
              show (out.take p).length = p
              rw [List.length_take]; have := HM.out; omega
            have HFK : Hid (Kd.FK k40 W0 (fun q => q < W0.heap.size) (⟨x.f2, 1⟩ : S40) [.slice A2 x.f2.length c2, .int .i64 1]) := k40_mkF W0 _ (⟨x.f2, 1⟩ : S40) L2.out (Kd.F_mono (Kd.F_below R2.out hXW) (fun q hq => by have := hXW.size; have := hD.out.below.size; omega))
            have HCL : Hid (∀ W, Below W0.heap.size W0 W → W.cell? ⟨(ad.add (j * 3)).block, (ad.add (j * 3)).off + 2, none⟩ = some (.slice A2 x.f2.length c2)) := fun W hb => by
              have h := (hXW.cell (block_lt_of_cell h2)).trans h2
              exact (hb.cell (block_lt_of_cell h)).trans h
            have hcut_to := HCT.out
            have HDR := Lib.hid (rfl : out.drop p = out.drop p)
            obtain ⟨tk, htk⟩ : ∃ tk, tk = out.take p := ⟨_, rfl⟩
            obtain ⟨dk, hdk⟩ : ∃ dk, dk = out.drop p := ⟨_, rfl⟩
            rw [← htk, ← hdk] at HINS
            rw [← htk] at HTK HTL
            rw [← hdk] at HDK
            clear h0 h2 hXW hF5 htk hdk hpm' HDR
            obtain ⟨AD, hAD⟩ : ∃ AD, AD = (if c5 = p then A5 else (A5).map (·.add (p * 2))) := ⟨_, rfl⟩
            rw [← hAD] at HDK
            have HCF2 : Hid (∀ W : World, (Instr.slice 30 (.slice A5 m c5) (some (.int .i64 (p : Int))) none none).run Tryd.prog W = .ok (.slice AD (m - p) (c5 - p)) W) := by rw [hAD]; exact HCF.out
            clear hAD
            obtain ⟨xl, hxl⟩ : ∃ xl, xl = x.f2.length := ⟨_, rfl⟩
            rw [← hxl] at HFK HCL
            refine Reg.wp_region_float (by kernel_rfl) [0, 4, 12, 13] 11 (fun i => match i with | 1 => fun v => v = .slice A5 m c5 | 2 => fun v => v = .int .i64 (p : Int) | 3 => fun v => v = .slice A5 p c5 | 5 => fun v => v = .slice (some ad) n c | 6 => fun v => v = .int .i64 (j : Int) | 7 => fun v => v = .pointer (some (ad.add (j * 3))) | 8 => fun v => v = .pointer (some ⟨(ad.add (j * 3)).block, (ad.add (j * 3)).off + 2, none⟩) | 9 => fun v => v = .slice A2 xl c2 | 10 => fun v => v = .agg #[.slice A2 xl c2, .int .i64 1] | _ => fun _ => True) (fun k b f W => match k with
    | 0 => Reg.Rw k40 40 W0 W b (f 79) (.slice none 0 0) [] (⟨x.f2, 1⟩ : S40)
    | 1 => Reg.Rw k40 40 W0 W b (f 79) (f 68) [] (⟨x.f2, 1⟩ : S40)
    | 2 => Reg.Rw k40 40 W0 W b (f 79) (f 72) tk (⟨x.f2, 1⟩ : S40)
    | 3 => Reg.Rw k40 40 W0 W false undef (f 80) (tk ++ [(⟨x.f2, 1⟩ : S40)]) (⟨x.f2, 1⟩ : S40)
    | _ => Reg.Rw k40 40 W0 W false undef (f 80) (tk ++ [(⟨x.f2, 1⟩ : S40)]) (⟨x.f2, 1⟩ : S40) ∧ f 8 = f 80) (by kernel_rfl) (by kernel_rfl) (by decide) (by decide) (by decide) (by decide) ?hJ ?h0 ?pure ?flo ?act ?fin
            case hJ => (intro k b f f' W h hb hj; match k, hj with
    | 0, hj => exact Reg.Rw.free hj (fun e => hb e 79 (by kernel_rfl))
    | 1, hj => (rw [h 0 (by omega) (by decide) 68 (by kernel_rfl)] at hj; exact Reg.Rw.free hj (fun e => hb e 79 (by kernel_rfl)))
    | 2, hj => (rw [h 1 (by omega) (by decide) 72 (by kernel_rfl)] at hj; exact Reg.Rw.free hj (fun e => hb e 79 (by kernel_rfl)))
    | 3, hj => (rw [h 2 (by omega) (by decide) 80 (by kernel_rfl)] at hj; exact hj)
    | k + 4, hj => (rw [h 2 (by omega) (by decide) 80 (by kernel_rfl), h 3 (by omega) (by decide) 8 (by kernel_rfl)] at hj; exact hj))
            case h0 => exact Reg.Rw.start (below_drew (Below.refl _ _)) _ _
            case pure =>
              intro i o k bq a w_ ho hE hne hk hmc hf hst hkn hj
              have hi : i < 14 := (Array.getElem?_eq_some_iff.1 ho).1
              obtain rfl | rfl | rfl | rfl | rfl | rfl | rfl | rfl | rfl : i = 1 ∨ i = 2 ∨ i = 3 ∨ i = 5 ∨ i = 6 ∨ i = 7 ∨ i = 8 ∨ i = 9 ∨ i = 10 := by
                simp only [List.mem_cons, List.not_mem_nil, or_false, not_or] at hE
                omega
              · as_aux_lemma =>
                obtain rfl := Reg.oper_eq ho rfl
                have e5 : a.eval (.tmp 5) = .slice A5 m c5 := (hf.eval 5 (by kernel_rfl)).trans rfl
                have g5 := Reg.eval_getD e5
                exact Reg.op_value rfl rfl (by simp only [List.getElem_toArray, List.getElem_cons_zero, List.getElem_cons_succ, execOp, e5]; go_simp) ⟨_, rfl, rfl, hj⟩
              · as_aux_lemma =>
                obtain rfl := Reg.oper_eq ho rfl
                have e7 : a.eval (.tmp 7) = .int .i64 (p : Int) := (hf.eval 7 (by kernel_rfl)).trans rfl
                have g7 := Reg.eval_getD e7
                exact Reg.op_value rfl rfl (by simp only [List.getElem_toArray, List.getElem_cons_zero, List.getElem_cons_succ, execOp, e7]; go_simp) ⟨_, rfl, rfl, hj⟩
              · as_aux_lemma =>
                obtain rfl := Reg.oper_eq ho rfl
                have e69 : a.eval (.tmp 69) = .slice A5 m c5 := hkn.eval 1 69 (by kernel_rfl) (by kernel_rfl)
                have e70 : a.eval (.tmp 70) = .int .i64 (p : Int) := hkn.eval 2 70 (by kernel_rfl) (by kernel_rfl)
                have g69 := Reg.eval_getD e69
                have g70 := Reg.eval_getD e70
                exact Reg.op_value rfl rfl (by simp only [List.getElem_toArray, List.getElem_cons_zero, List.getElem_cons_succ, execOp, e69, e70]; go_simp) ⟨_, rfl, rfl, hj⟩
              · as_aux_lemma =>
                obtain rfl := Reg.oper_eq ho rfl
                have e0 : a.eval (.tmp 0) = .slice (some ad) n c := (hf.eval 0 (by kernel_rfl)).trans rfl
                have g0 := Reg.eval_getD e0
                exact Reg.op_value rfl rfl (by simp only [List.getElem_toArray, List.getElem_cons_zero, List.getElem_cons_succ, execOp, e0]; go_simp) ⟨_, rfl, rfl, hj⟩
              · as_aux_lemma =>
                obtain rfl := Reg.oper_eq ho rfl
                have e6 : a.eval (.tmp 6) = .int .i64 (j : Int) := (hf.eval 6 (by kernel_rfl)).trans rfl
                have g6 := Reg.eval_getD e6
                exact Reg.op_value rfl rfl (by simp only [List.getElem_toArray, List.getElem_cons_zero, List.getElem_cons_succ, execOp, e6]; go_simp) ⟨_, rfl, rfl, hj⟩
              · as_aux_lemma =>
                obtain rfl := Reg.oper_eq ho rfl
                have e73 : a.eval (.tmp 73) = .slice (some ad) n c := hkn.eval 5 73 (by kernel_rfl) (by kernel_rfl)
                have e74 : a.eval (.tmp 74) = .int .i64 (j : Int) := hkn.eval 6 74 (by kernel_rfl) (by kernel_rfl)
                have g73 := Reg.eval_getD e73
                have g74 := Reg.eval_getD e74
                exact Reg.op_value rfl rfl (by simp only [List.getElem_toArray, List.getElem_cons_zero, List.getElem_cons_succ, execOp, e73, e74]; go_simp) ⟨_, rfl, rfl, hj⟩
              · as_aux_lemma =>
                obtain rfl := Reg.oper_eq ho rfl
                have e75 : a.eval (.tmp 75) = .pointer (some (ad.add (j * 3))) := hkn.eval 7 75 (by kernel_rfl) (by kernel_rfl)
                have g75 := Reg.eval_getD e75
                exact Reg.op_value rfl rfl (by simp only [List.getElem_toArray, List.getElem_cons_zero, List.getElem_cons_succ, execOp, e75]; go_simp) ⟨_, rfl, rfl, hj⟩
              · as_aux_lemma =>
                obtain rfl := Reg.oper_eq ho rfl
                have e76 : a.eval (.tmp 76) = .pointer (some ⟨(ad.add (j * 3)).block, (ad.add (j * 3)).off + 2, none⟩) := hkn.eval 8 76 (by kernel_rfl) (by kernel_rfl)
                have g76 := Reg.eval_getD e76
                have hbw : Below W0.heap.size W0 w_ := by
                  match k, hj with
                  | 0, hj => exact Reg.Rw.below hj
                  | 1, hj => exact Reg.Rw.below hj
                  | 2, hj => exact Reg.Rw.below hj
                  | 3, hj => exact Reg.Rw.below hj
                  | k + 4, hj => exact Reg.Rw.below hj.1
                have hcl := HCL.out w_ hbw
                exact Reg.op_value rfl rfl (by simp only [List.getElem_toArray, List.getElem_cons_zero, List.getElem_cons_succ, execOp, e76]; go_simp) ⟨_, rfl, rfl, hj⟩
              · as_aux_lemma =>
                obtain rfl := Reg.oper_eq ho rfl
                have e77 : a.eval (.tmp 77) = .slice A2 xl c2 := hkn.eval 9 77 (by kernel_rfl) (by kernel_rfl)
                have g77 := Reg.eval_getD e77
                exact Reg.op_value rfl rfl (by simp only [List.getElem_toArray, List.getElem_cons_zero, List.getElem_cons_succ, execOp, e77]; go_simp) ⟨_, rfl, rfl, hj⟩
            case flo =>
              intro o k a w_ ho hk hmc hf hst hkn hj
              · as_aux_lemma =>
                obtain rfl := Reg.oper_eq ho rfl
                have e78 : a.eval (.tmp 78) = .agg #[.slice A2 xl c2, .int .i64 1] := hkn.eval 10 78 (by kernel_rfl) (by kernel_rfl)
                have g78 := Reg.eval_getD e78
                match k, hj, hmc with
                | 0, hj, hmc => 
                  refine Reg.op_wp rfl rfl ?_
                  refine Reg.Rw.aside hj rfl rfl (cs := [.slice A2 xl c2, .int .i64 1]) (by simp only [List.getElem_toArray, List.getElem_cons_zero, List.getElem_cons_succ, execOp, e78]; go_simp) HFK.out ?_
                  intro v1 w1 hj1
                  refine ⟨_, rfl, trivial, ?_⟩
                  show Reg.Rw k40 40 W0 w1 true (Reg.val (a.put (some 79) v1) 79) (.slice none 0 0) [] (⟨x.f2, 1⟩ : S40)
                  rw [Reg.val_put_in hf (by kernel_rfl)]
                  exact hj1
                | 1, hj, hmc => 
                  refine Reg.op_wp rfl rfl ?_
                  refine Reg.Rw.aside hj rfl rfl (cs := [.slice A2 xl c2, .int .i64 1]) (by simp only [List.getElem_toArray, List.getElem_cons_zero, List.getElem_cons_succ, execOp, e78]; go_simp) HFK.out ?_
                  intro v1 w1 hj1
                  refine ⟨_, rfl, trivial, ?_⟩
                  show Reg.Rw k40 40 W0 w1 true (Reg.val (a.put (some 79) v1) 79) (Reg.val (a.put (some 79) v1) 68) [] (⟨x.f2, 1⟩ : S40)
                  rw [Reg.val_put_in hf (by kernel_rfl), Reg.val_put_ne _ _ _ _ (by decide)]
                  exact hj1
                | 2, hj, hmc => 
                  refine Reg.op_wp rfl rfl ?_
                  refine Reg.Rw.aside hj rfl rfl (cs := [.slice A2 xl c2, .int .i64 1]) (by simp only [List.getElem_toArray, List.getElem_cons_zero, List.getElem_cons_succ, execOp, e78]; go_simp) HFK.out ?_
                  intro v1 w1 hj1
                  refine ⟨_, rfl, trivial, ?_⟩
                  show Reg.Rw k40 40 W0 w1 true (Reg.val (a.put (some 79) v1) 79) (Reg.val (a.put (some 79) v1) 72) tk (⟨x.f2, 1⟩ : S40)
                  rw [Reg.val_put_in hf (by kernel_rfl), Reg.val_put_ne _ _ _ _ (by decide)]
                  exact hj1
                | k + 3, hj, hmc => exact absurd hmc (by simp only [List.length_cons, List.length_nil] at hk; obtain rfl | rfl : k = 0 ∨ k = 1 := (by omega) <;> exact Bool.eq_false_iff.1 (by kernel_rfl))
            case act =>
              intro k bq o a w_ hk ho hbf hf hst hkn hj
              obtain rfl | rfl | rfl | rfl : k = 0 ∨ k = 1 ∨ k = 2 ∨ k = 3 := by simp only [List.length_cons, List.length_nil] at hk; omega
              · as_aux_lemma =>
                obtain rfl := Reg.oper_eq ho rfl
                refine Reg.op_wp rfl rfl ?_
                refine Reg.Rw.empty hj rfl rfl (by simp only [List.getElem_toArray, List.getElem_cons_zero, List.getElem_cons_succ, execOp]; go_simp) ?_
                intro v1 w1 hj1
                refine ⟨_, rfl, trivial, ?_⟩
                exact Reg.Rw.free ((Reg.val_put_in hf (by kernel_rfl)).symm ▸ hj1) (fun _ => (Reg.val_put_ne _ _ _ _ (by decide)).symm)
              · as_aux_lemma =>
                obtain rfl := Reg.oper_eq ho rfl
                have e71 : a.eval (.tmp 71) = .slice A5 p c5 := hkn.eval 3 71 (by kernel_rfl) (by kernel_rfl)
                have g71 := Reg.eval_getD e71
                refine Reg.op_wp rfl rfl ?_
                refine Reg.Rw.append hj rfl (.tmp 68) (.tmp 71) 30 (.agg #[(.slice none 0 0), (.int .i64 0)]) 32 rfl Tryd.underlying30 info40 rfl (by decide) (by decide) (Reg.eval_val a 68) e71 HTK.out (by have := HKP.out; simp; omega) ?_
                intro v1 w1 hj1
                refine ⟨_, rfl, trivial, ?_⟩
                exact Reg.Rw.free ((Reg.val_put_in hf (by kernel_rfl)).symm ▸ hj1) (fun _ => (Reg.val_put_ne _ _ _ _ (by decide)).symm)
              · as_aux_lemma =>
                obtain rfl := Reg.oper_eq ho rfl
                obtain rfl := hbf (by kernel_rfl)
                refine Reg.op_wp rfl rfl ?_
                refine Reg.Rw.take hj rfl (.tmp 72) (.tmp 79) 30 (.agg #[(.slice none 0 0), (.int .i64 0)]) 32 rfl Tryd.underlying30 info40 rfl (by decide) (by decide) (Reg.eval_val a 72) (Reg.eval_val a 79) (by have := HKP.out; have := HTL.out; omega) ?_
                intro v1 w1 hj1
                refine ⟨_, rfl, trivial, ?_⟩
                exact (Reg.val_put_in hf (by kernel_rfl)).symm ▸ hj1
              · as_aux_lemma =>
                obtain rfl := Reg.oper_eq ho rfl
                have e80 : a.eval (.tmp 80) = Reg.val a 80 := Reg.eval_val a 80
                have g80 := Reg.eval_getD e80
                refine Reg.op_value (v := Reg.val a 80) (w' := w_) rfl rfl (by simp only [List.getElem_toArray, List.getElem_cons_zero, List.getElem_cons_succ, execOp, e80]; go_simp) ⟨_, rfl, trivial, ?_, ?_⟩
                · show Reg.Rw k40 40 W0 w_ false undef (Reg.val (a.put (some 8) (Reg.val a 80)) 80) _ _
                  rw [Reg.val_put_ne a (some 8) _ 80 (by decide)]
                  exact hj
                · show Reg.val (a.put (some 8) (Reg.val a 80)) 8 = Reg.val (a.put (some 8) (Reg.val a 80)) 80
                  rw [Reg.val_put_in hf (d := 8) (by kernel_rfl), Reg.val_put_ne a (some 8) _ 80 (by decide)]
            case fin =>
              intro a w_ hf hkn hj
              have e69 : Reg.val a 69 = _ := hkn 1 69 (by show _ < _; decide) (by kernel_rfl)
              have e70 : Reg.val a 70 = _ := hkn 2 70 (by show _ < _; decide) (by kernel_rfl)
              have e71 : Reg.val a 71 = _ := hkn 3 71 (by show _ < _; decide) (by kernel_rfl)
              have e73 : Reg.val a 73 = _ := hkn 5 73 (by show _ < _; decide) (by kernel_rfl)
              have e74 : Reg.val a 74 = _ := hkn 6 74 (by show _ < _; decide) (by kernel_rfl)
              have e75 : Reg.val a 75 = _ := hkn 7 75 (by show _ < _; decide) (by kernel_rfl)
              have e76 : Reg.val a 76 = _ := hkn 8 76 (by show _ < _; decide) (by kernel_rfl)
              have e77 : Reg.val a 77 = _ := hkn 9 77 (by show _ < _; decide) (by kernel_rfl)
              have e78 : Reg.val a 78 = _ := hkn 10 78 (by show _ < _; decide) (by kernel_rfl)
              rw [Reg.frm_fold hf [68, 69, 70, 71, 72, 73, 74, 75, 76, 77, 78, 79, 80, 8] (by kernel_rfl) (by kernel_rfl)]
              simp only [List.foldl_cons, List.foldl_nil, Act.put, List.setIfInBounds_toArray, List.set_cons_zero, List.set_cons_succ, e69, e70, e71, e73, e74, e75, e76, e77, e78]
              generalize Reg.val a 68 = v68_ at *
              generalize Reg.val a 72 = v72_ at *
              generalize Reg.val a 79 = v79_ at *
              generalize Reg.val a 80 = v80_ at *
              generalize Reg.val a 8 = v8_ at *
              clear hkn hf e69 e70 e71 e73 e74 e75 e76 e77 e78
              obtain ⟨hj, h8⟩ := hj
              subst h8
              have HJ1 := Lib.hid hj
              clear hj hcut_to
              have hcf := HCF2.out
              go_wp2_with ((with_reducible refine gate_builtin (b := .append) (xs := #[.tmp 81, .tmp 84]) rfl ?_); at_builtin; refine Kd.N_append_rows k40 (w0 := W0) W0.heap.size rfl (.tmp 81) (.tmp 84) 30 40 (.agg #[(.slice none 0 0), (.int .i64 0)]) 32 rfl Tryd.underlying30 info40 rfl (by decide) (by decide) v8_ (tk ++ [⟨x.f2, 1⟩]) dk _ (m - p) (c5 - p) (fun _ => True) (fun q => q < W0.heap.size) rfl rfl ?aO ?aR ?aK (fun _ _ => trivial) ?aB ?aS ?aL ?_; (case aO => exact Kd.N_mono HJ1.out.row (fun _ _ => trivial)); (case aR => exact Kd.F_below HDK.out HJ1.out.below); (case aK => exact fun k hk => ⟨trivial, fun he => by have := Kd.N_base HJ1.out.row k he.symm; omega⟩); (case aB => exact HJ1.out.below); (case aS => exact HJ1.out.below.size); (case aL => have := HTL.out; have := HKP.out; have := HML.out; simp; omega); intro v1 w1 hN hB hg hat; have HN1 := Lib.hid hN; have HB1 := Lib.hid hB; clear hN hB hg hat hcf hxl hW0)
              go_roundg (n - (j + 1))
              case measure => have := HK.out; omega
              case rel =>
                refine ⟨j + 1, insD out x.f2, by omega, by go_num, ?_, ?_, ?_⟩
                · refine ⟨below_lower HD0.out.below HB1.out, ?_, insD_all (Q := fun q => q.length ≤ 1000000) out x.f2 hD.out.small HXP.out⟩
                  rw [HINS.out]
                  exact Kd.N_lower HN1.out HD0.out.below.size
                · show didF job _ (l.drop (j + 1)) = _
                  rw [← hS.out, HD'.out]
                  exact (if_pos HJ.out).symm
                · show (insD _ _).length ≤ _
                  have := insD_len out x.f2
                  have := hL.out
                  omega

      · have hb0 : (x.f0 != job) = true := by simpa using hj
        go_wp2_with fail
        go_roundg (n - (j + 1))
        case measure => have := HK.out; omega
        case rel =>
          refine ⟨j + 1, out, by omega, by go_num, hD, ?_, by have := hL.out; show _ ≤ _; omega⟩
          show didF job out (l.drop (j + 1)) = _
          rw [← hS.out, HD'.out]
          exact (if_neg hj).symm
    · obtain rfl : j = n := by have := HK.out; omega
      have hfin := hS.out
      rw [List.drop_of_length_le (by have := HN.out; omega)] at hfin
      have HFIN := Lib.hid hfin
      clear hfin
      go_wp2_with fail
      go_ret
      refine ⟨_, rfl, ?_, hD.out.below⟩
      rw [← HFIN.out]
      exact hD.out.row
end Go.Proofs.YtceankldidkohaaDoor.Core
