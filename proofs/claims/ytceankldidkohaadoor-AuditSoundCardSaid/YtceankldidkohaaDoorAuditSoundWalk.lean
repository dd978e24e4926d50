/- The walk of haymowlaw20.AuditSound: it returns true and turns nothing that was there, for every argument that can be read. -/
import Derived.Test.YtceankldidkohaaDoorCJ
import Derived.Test.YtceankldidkohaaDoorAuditSoundK
namespace Go.Proofs.YtceankldidkohaaDoor.RAuditSound
open Go.RowKit Go.Proofs.YtceankldidkohaaDoorW.PrintWords Go.Proofs.YtceankldidkohaaDoorW.PrintMore Go.Proofs.YtceankldidkohaaDoor.PAuditTwice Go.Proofs.YtceankldidkohaaDoor.Core Go.Proofs.YtceankldidkohaaDoor.P2 Go.Proofs.YtceankldidkohaaDoor
set_option linter.unusedVariables false
set_option linter.unusedSimpArgs false
theorem did_all {Q : List Int → Prop} {job : Int} : ∀ (l : List S29) (out : List S40), (∀ x ∈ out, Q x.f0) → (∀ e ∈ l, Q e.f2) → ∀ x ∈ didF job out l, Q x.f0
  | [], out, h, _ => h
  | e :: l, out, h, hl => by
    unfold didF
    split
    · exact did_all l _ (insD_all out e.f2 h (hl e (by simp))) (fun y hy => hl y (by simp [hy]))
    · exact did_all l _ h (fun y hy => hl y (by simp [hy]))
theorem did_len (job : Int) : ∀ (l : List S29) (out : List S40), (didF job out l).length ≤ out.length + l.length
  | [], out => by simp [didF]
  | e :: l, out => by
    unfold didF
    split
    · have h1 := did_len job l (insD out e.f2)
      have h2 := insD_len out e.f2
      simp only [List.length_cons]
      omega
    · have h1 := did_len job l out
      simp only [List.length_cons]
      omega
theorem jobs_len : ∀ (l : List S29) (out : List Int), (jobsL out l).length ≤ out.length + l.length
  | [], out => by simp [jobsL]
  | e :: l, out => by
    have h1 := jobs_len l (insJ out e.f0)
    have h2 := insJ_len out e.f0
    simp only [List.length_cons]
    show (jobsL (insJ out e.f0) l).length ≤ _
    omega
set_option maxHeartbeats 1000000 in
theorem walk_dark (w : World) (A0 : Option Addr) (c0 : Nat) (l : List S29) (hC : Kd.C k29 w A0 l.length l) (hc : l.length ≤ c0) (h : lit2 l = false) (a1 : Int) :
    Calls Tryd.prog 6 #[.slice A0 l.length c0, .int .i64 a1] w fun e w' => e = .returned (.bool true) ∧ Below w.heap.size w w' := by
  have H := Lib.hid (haymowlaw20_light.calls _ A0 c0 l _ w hC hc (light_f l))
  rw [h] at H
  clear hC h
  obtain ⟨n, hnn⟩ : ∃ n, n = l.length := ⟨_, rfl⟩
  rw [← hnn] at H hc ⊢
  clear hnn
  go_enter Tryd.func6, Tryd.ntmps6
  go_wp2_with fail
  refine H.out.mono ?_
  rintro e w1 ⟨rfl, hd⟩
  have HB : Hid (Below w.heap.size w w1) := hd.below
  clear hd H
  go_wp2_with fail
  go_ret
  exact ⟨rfl, HB.out⟩
set_option maxHeartbeats 4000000 in
set_option maxRecDepth 100000 in
theorem walk_main (w : World) (T : Tab w) (a0 : Option Addr) (c0 : Nat) (l : List S29) (hC : Kd.C k29 w a0 l.length l) (hc : l.length ≤ c0) (h : lit2 l = true) (hn : l.length ≤ 1000) (hp : ∀ e ∈ l, e.f2.length ≤ 1000) (hE : ∀ e ∈ l.map cvE, Ev e) (hw0 : ∀ e ∈ l.map cvE, (Lit.int .i64 e.f0).wf = true) (job : Int) (hj : In64 job) :
    Calls Tryd.prog 6 #[.slice a0 l.length c0, .int .i64 job] w fun e w' => e = .returned (.bool true) ∧ Below w.heap.size w w' := by
  have H := Lib.hid (haymowlaw20_light.calls _ a0 c0 l _ w hC hc (light_f l))
  rw [h] at H
  have H3 : Hid (∀ W, Below w.heap.size w W → Calls Tryd.prog 9 #[.slice a0 l.length c0] W fun e w' => ∃ v0_ : Value, e = .returned (v0_) ∧ Kd.N k28 28 w' W.heap.size (fun _ => True) v0_ (l.map cvE) ∧ Below W.heap.size W w') := fun W hb => (haymowlaw20_of.calls _ (fun _ => True) a0 c0 l _ W (V_of_C (Kd.C_below hC hb) hc _) (of_f l (by omega))).mono (by
    rintro e w' ⟨v, he, hN, hB⟩
    exact ⟨v, he, Kd.N_mono hN (fun _ _ => trivial), hB⟩)
  obtain ⟨s, hs⟩ : ∃ s, s = didF job [] l := ⟨_, rfl⟩
  obtain ⟨js, hjs⟩ : ∃ js, js = jobsL [] l := ⟨_, rfl⟩
  obtain ⟨sb, hsb⟩ : ∃ b, b = sndL [] (l.map cvE) := ⟨_, rfl⟩
  have hsp : ∀ x ∈ s, x.f0.length ≤ 1000 := by rw [hs]; exact did_all (Q := fun p => p.length ≤ 1000) l [] (fun x hx => by cases hx) hp
  have hsl : s.length ≤ 1000 := by
    have h1 := did_len job l []
    rw [← hs, List.length_nil] at h1
    omega
  have hjl : js.length ≤ 1000 := by
    have h1 := jobs_len l []
    rw [← hjs, List.length_nil] at h1
    omega
  have HSP := Lib.hid hsp
  have HRD : Hid (∀ W, Below w.heap.size w W → Calls Tryd.prog 10 #[.slice a0 l.length c0, .int .i64 job] W fun e W' => ∃ v, e = .returned v ∧ Kd.N k40 40 W' W.heap.size (fun _ => True) v s ∧ Below W.heap.size W W') := fun W hb => by
    have h := rDid_any W a0 c0 l job (Kd.C_F heap29 (Kd.C_below hC hb)) hc (by omega) (fun e he => by have := hp e he; omega)
    rw [← hs] at h
    exact h
  have HRJ : Hid (∀ W, Below w.heap.size w W → Calls Tryd.prog 20 #[.slice a0 l.length c0] W fun e W' => ∃ v, e = .returned v ∧ Kd.R (Kd.int .i64) 3 W' W.heap.size (fun _ => True) v js ∧ Below W.heap.size W W') := fun W hb => haymowref20_Jobs.calls _ a0 c0 l _ W (Kd.C_below hC hb) hc ((rjobs_f hn).trans (congrArg some hjs.symm))
  have HRS : Hid (∀ W, Below w.heap.size w W → Calls Tryd.prog 8 #[.slice a0 l.length c0] W fun e w' => e = .returned (.bool sb) ∧ Below W.heap.size W w') := fun W hb => haymowref20_Sound.calls _ a0 c0 l _ W (Kd.C_below hC hb) hc ((rsound_f hn hp).trans (congrArg some hsb.symm))
  have HT := Lib.hid T
  have hml : (l.map cvE).length = l.length := List.length_map ..
  have HAD : Hid (∀ W A c, Below w.heap.size w W → Kd.F k28 W (fun q => q < W.heap.size) A l.length (l.map cvE) → Calls Tryd.prog 13 #[.slice A l.length c, .int .i64 job] W fun e W' => ∃ v, e = .returned v ∧ Kd.N k40 38 W' W.heap.size (fun _ => True) v s ∧ Below W.heap.size W W') := fun W A c hb hF => by
    have h := aDid_ref HT.out hb l A c job hj hF (by omega) hE
    rw [← hs] at h
    exact h
  have HAJ : Hid (∀ W A c, Below w.heap.size w W → Kd.F k28 W (fun q => q < W.heap.size) A l.length (l.map cvE) → Calls Tryd.prog 19 #[.slice A l.length c] W fun e W' => ∃ A' c', e = .returned (.slice A' js.length c') ∧ js.length ≤ c' ∧ Kd.F (Kd.int .i64) W' (fun q => W.heap.size ≤ q ∧ q < W'.heap.size) A' js.length js ∧ Below W.heap.size W W') := fun W A c hb hF => by
    have h := aJobs_any l A c (Kd.F_now hF) (by omega) hw0
    rw [← hjs] at h
    exact h
  have HAS : Hid (∀ W A c, Below w.heap.size w W → Kd.F k28 W (fun q => q < W.heap.size) A l.length (l.map cvE) → Calls Tryd.prog 11 #[.slice A l.length c] W fun e W' => e = .returned (.bool sb) ∧ Below W.heap.size W W') := fun W A c hb hF => by
    have h := Sound_any HT.out hb (l.map cvE) A c (by rw [hml]; exact Kd.F_now hF) (by rw [hml]; omega) hE
    rw [hml, ← hsb] at h
    exact h
  obtain ⟨xs, hxs⟩ : ∃ xs, xs = l.map cvE := ⟨_, rfl⟩
  rw [← hxs] at H3 HAD HAJ HAS hml
  clear hC h T hE hp hxs hj hw0 hs hjs hsb hsp
  obtain ⟨n, hnn⟩ : ∃ n, n = l.length := ⟨_, rfl⟩
  rw [← hnn] at H H3 HRD HRJ HRS HAD HAJ HAS hc hn hml ⊢
  clear hnn
  have HML := Lib.hid hml
  clear hml
  go_enter Tryd.func6, Tryd.ntmps6
  go_wp2_with fail
  refine H.out.mono ?_
  rintro e w1 ⟨rfl, hd⟩
  have HB : Hid (Below w.heap.size w w1) := hd.below
  clear hd H
  go_wp2_with fail
  refine (H3.out _ HB.out).mono ?_
  rintro e W0 ⟨v5, rfl, hN5, hb5⟩
  have HB0 : Hid (Below w.heap.size w W0) := below_lower HB.out hb5
  clear H3 HB hb5
  obtain ⟨A5, c5, hv5, hc5, hC5⟩ := Kd.N_reads hN5
  rw [HML.out] at hv5 hc5 hC5
  subst hv5
  have HF5 : Hid (∀ W, Below W0.heap.size W0 W → Kd.F k28 W (fun q => q < W.heap.size) A5 n xs) := fun W hb => Kd.F_mono (Kd.F_bound (Kd.F_below (Kd.N_F (Kd.N_bound hN5)) hb)) (fun q hq => hq.2)
  clear hN5 hc5 hC5
  go_wp2_with fail
  refine (HAD.out _ A5 c5 HB0.out (HF5.out _ (Below.refl _ _))).mono ?_
  rintro e W1 ⟨v6, rfl, hN6, hb6⟩
  have HN6 := Lib.hid hN6
  have B1 := Lib.hid hb6
  clear hN6 hb6 HAD
  go_wp2_with fail
  refine (HRD.out _ (below_lower HB0.out B1.out)).mono ?_
  rintro e W2 ⟨v7, rfl, hN7, hb7⟩
  have HN7 := Lib.hid hN7
  have HN6' := Lib.hid (Kd.N_below HN6.out hb7)
  have B2 : Hid (Below W0.heap.size W0 W2) := below_lower B1.out hb7
  clear hN7 hb7 HRD HN6 B1
  go_wp2_with fail
  refine (HAJ.out _ A5 c5 (below_lower HB0.out B2.out) (HF5.out _ B2.out)).mono ?_
  rintro e W3 ⟨A8, c8, rfl, h8, hF8, hb8⟩
  have HF8 := Lib.hid hF8
  have HN6 := Lib.hid (Kd.N_below HN6'.out hb8)
  have HN7' := Lib.hid (Kd.N_below HN7.out hb8)
  have B3 : Hid (Below W0.heap.size W0 W3) := below_lower B2.out hb8
  clear hF8 hb8 h8 HAJ HN6' HN7 B2
  go_wp2_with fail
  refine (HRJ.out _ (below_lower HB0.out B3.out)).mono ?_
  rintro e W4 ⟨v9, rfl, hR9, hb9⟩
  have HR9 := Lib.hid (Kd.R_N hR9)
  have HF8' := Lib.hid (Kd.F_below HF8.out hb9)
  have HN6' := Lib.hid (Kd.N_below HN6.out hb9)
  have HN7 := Lib.hid (Kd.N_below HN7'.out hb9)
  have B4 : Hid (Below W0.heap.size W0 W4) := below_lower B3.out hb9
  clear hR9 hb9 HRJ HN6 HN7' B3 HF8
  go_wp2_with fail
  refine (HAS.out _ A5 c5 (below_lower HB0.out B4.out) (HF5.out _ B4.out)).mono ?_
  rintro e W5 ⟨rfl, hb10⟩
  have B5 : Hid (Below W4.heap.size W4 W5) := hb10
  clear hb10 HAS
  go_wp2_with fail
  refine (HRS.out _ (below_lower HB0.out (below_lower B4.out B5.out))).mono ?_
  rintro e W6 ⟨rfl, hb11⟩
  have B6 : Hid (Below W4.heap.size W4 W6) := below_lower B5.out hb11
  have BW6 : Hid (Below w.heap.size w W6) := below_lower HB0.out (below_lower B4.out B6.out)
  have HR6 := Lib.hid (Kd.N_below HR9.out B6.out)
  have HJ6 := Lib.hid (Kd.F_below HF8'.out B6.out)
  have HD6 := Lib.hid (Kd.N_below HN6'.out B6.out)
  have HW6 := Lib.hid (Kd.N_below HN7.out B6.out)
  clear hb11 HRS B5 HR9 HF8' HN6' HN7 B4 B6 HB0 HF5
  obtain ⟨A6, c6, hv6, _, hC6⟩ := Kd.N_reads HD6.out
  obtain ⟨A7, c7, hv7, _, hC7⟩ := Kd.N_reads HW6.out
  obtain ⟨A9, c9, hv9, _, hC9⟩ := Kd.N_reads HR6.out
  have HC6 := Lib.hid hC6
  have HC7 := Lib.hid hC7
  have HC9 := Lib.hid hC9
  have HC8 : Hid ((Kd.int .i64).C W6 A8 js.length js) := Kd.F_now HJ6.out
  clear hC6 hC7 hC9 HD6 HW6 HR6 HJ6
  subst hv6 hv7 hv9
  obtain ⟨ms, hms⟩ : ∃ m, m = s.length := ⟨_, rfl⟩
  obtain ⟨mj, hmj⟩ : ∃ m, m = js.length := ⟨_, rfl⟩
  rw [← hms] at HC6 HC7 hsl ⊢
  rw [← hmj] at HC8 HC9 hjl ⊢
  have HMS := Lib.hid hms
  have HMJ := Lib.hid hmj
  clear hms hmj
  go_wp2_with fail
  go_loopg [10] ms (fun k v10 Y => ∃ (q : Nat), q + k = ms ∧ v10 = .int .i64 q ∧ (∃ d, Y = W6.drewN d))
  case atStart => exact ⟨0, by omega, rfl, 0, rfl⟩
  case round =>
    obtain ⟨q, hqk, rfl, ⟨dq, rfl⟩⟩ := hrel
    have HKQ := Lib.hid hqk
    clear hqk
    by_cases hqt : q < ms
    · have hql : q < s.length := by have := HMS.out; omega
      have HQT := Lib.hid hqt
      obtain ⟨a6, B6, d6, rfl, g0, g1, l6, r6⟩ := at_T40 HC6.out (q : Int) (Int.natCast_nonneg q) (Int.ofNat_lt.2 hqt)
      obtain ⟨a7, B7, d7, rfl, e0, e1, l7, r7⟩ := at_T40 HC7.out (q : Int) (Int.natCast_nonneg q) (Int.ofNat_lt.2 hqt)
      have hy : rd_T40 s q = s[q] := by rw [rd40 hql]
      have hyl := HSP.out _ (List.getElem_mem hql)
      rw [← hy] at hyl
      clear hy
      generalize rd_T40 s q = y at *
      simp only [Int.toNat_natCast] at g0 g1 e0 e1
      have HQ : Hid (∀ d1 d2, Calls Tryd.prog 14 #[.slice B6 y.f0.length d6, .slice B7 y.f0.length d7] (W6.drewN (d1 + d2)) fun e W' => e = .returned (.int .i64 0) ∧ ∃ m, W' = W6.drewN (d1 + m)) := fun d1 d2 => by
        have h := rcmp_any (cx := d6) (cy := d7) (W := W6.drewN (d1 + d2)) (show y.f0.length ≤ 1000000 by omega) (show y.f0.length ≤ 1000000 by omega) (Kd.C_drewN r6 _) l6 (Kd.C_drewN r7 _) l7
        rw [cmpL_refl] at h
        exact h.mono (fun e W' ⟨he, q, hq⟩ => ⟨he, d2 + q, by rw [hq, World.drewN_drewN, Nat.add_assoc]⟩)
      clear hyl l6 l7 r6 r7 hql
      have hqb : (q : Int) + 1 ≤ 1000000 := by omega
      go_wp2_with fail
      go_quiet (exact HQ.out _ _)
      go_wp2_with fail
      go_roundg (ms - (q + 1))
      case measure => have := HKQ.out; have := HQT.out; omega
      case rel => exact ⟨q + 1, by have := HQT.out; omega, by go_num, _, rfl⟩
    · obtain rfl : q = ms := by have := HKQ.out; omega
      go_wp2_with fail
      go_loopg [11] mj (fun k v11 Y => ∃ (p : Nat), p + k = mj ∧ v11 = .int .i64 p ∧ (∃ d, Y = W6.drewN d))
      case atStart => exact ⟨0, by omega, rfl, _, rfl⟩
      case round =>
        obtain ⟨p, hpk, rfl, ⟨dp, rfl⟩⟩ := hrel
        have HKP := Lib.hid hpk
        clear hpk
        by_cases hpt : p < mj
        · have hpl : p < js.length := by have := HMJ.out; omega
          have HPT := Lib.hid hpt
          have hm8 := HC8.out
          have hm9 := HC9.out
          rw [HMJ.out] at hm8 hm9
          obtain ⟨a8, rfl, f8⟩ := C_cell hm8 hpl
          obtain ⟨a9, rfl, f9⟩ := C_cell hm9 hpl
          generalize js[p] = y at *
          clear hm8 hm9 hpl
          have hpb : (p : Int) + 1 ≤ 1000000 := by omega
          go_wp2_with fail
          go_quiet (fail)
          go_wp2_with fail
          go_roundg (mj - (p + 1))
          case measure => have := HKP.out; have := HPT.out; omega
          case rel => exact ⟨p + 1, by have := HPT.out; omega, by go_num, _, rfl⟩
        · obtain rfl : p = mj := by have := HKP.out; omega
          have BW : Hid (Below w.heap.size w (W6.drewN dp)) := pw_below_drewN BW6.out _
          have HAW := Lib.hid (awake_any HT.out BW.out)
          go_wp2_with fail
          refine HAW.out.mono ?_
          rintro e w8 ⟨rfl, hb8⟩
          have B8 : Hid (Below w.heap.size w w8) := below_lower BW.out hb8
          clear hb8
          go_wp2_with fail
          go_ret
          exact ⟨rfl, B8.out⟩
theorem walk (w : World) (T0 : Lib.TabIs Tryd.prog w "internal/strconv.uint64pow10" .u64 Lib.pow10Tab) (A0 : Option Addr) (c0 : Nat) (l0 : List (S29)) (hr0 : Kd.C k29 w A0 l0.length l0) (hc0 : l0.length ≤ c0) (w0 : (∀ e ∈ l0, KAuditSound.w29 e)) (a1 : Int) (w1 : (Lit.int .i64 a1).wf = true) :
    Calls Tryd.prog 6 #[.slice A0 l0.length c0, .int .i64 a1] w fun e w' => e = .returned (.bool true) ∧ Below w.heap.size w w' := by
  cases h : lit2 l0 with
  | false => exact walk_dark w A0 c0 l0 hr0 hc0 h a1
  | true =>
    obtain ⟨hn, hp⟩ := lit2_of h
    refine walk_main w (Lib.tabBelow_of_tabIs T0) A0 c0 l0 hr0 hc0 h hn hp (ev_of w0 hp) (fun e he => ?_) a1 (in64_of w1)
    obtain ⟨x, hx, rfl⟩ := List.mem_map.1 he
    exact (w0 x hx).1
end Go.Proofs.YtceankldidkohaaDoor.RAuditSound
