-- PRINTED BY print.sh 35421559b90ae4d0a3588c463048766b98c2df88dd9212a6774a882060cdf62d: not written by this session
import Derived.Test.YthnefjkpjhfkgaaPScriptWritesx0
namespace Go.Proofs.Ythnefjkpjhfkgaa.PScriptWrites
open Go.RowKit Go.Proofs.YthnefjkpjhfkgaaW.PrintWords Go.Proofs.YthnefjkpjhfkgaaW.PrintLast Go.Proofs.YthnefjkpjhfkgaaW.PrintMore
attribute [local go_sem] max2_int min2_int max_two min_two max_three min_three max_four min_four   -- for this text's walks alone
set_option linter.unusedVariables false
set_option linter.unusedSimpArgs false

/-! ### script_put: function 25 -/
def script_put.l0 : Nat → List Int → Int → Int → Int → Option (List Int)
  | 0, _, _, _, _ => none
  | k + 1, x0, x1, x7, x8 => if x8 < x7 then (if x0.length < 140737488355328 then (script_put.l0 k (x0 ++ [(x1) % 256]) (x1 / 256) x7 (wrap64 (x8 + 1))) else (none)) else (some x0)
def script_put.f (k : Nat) (l0 : List Int) (a1 : Int) (a2 : Int) : Option (List Int) := script_put.l0 k l0 a1 a2 0
theorem script_put.mono_l : ∀ k, (∀ y0 y1 y2 y3, LeO (script_put.l0 k y0 y1 y2 y3) (script_put.l0 (k + 1) y0 y1 y2 y3))
  | 0 => fun _ _ _ _ r h => by simp [script_put.l0] at h
  | k + 1 => by
    have ih0 := script_put.mono_l k
    · intro y0 y1 y2 y3
      unfold script_put.l0
      repeat' first
      | (with_reducible exact ih0 _ _ _ _)
      | (with_reducible exact LeO.refl _)
      | (with_reducible exact LeO.none _)
      | (with_reducible refine LeO.ite ?_ ?_)
      | (with_reducible refine LeO.bind ?_ (fun _ => ?_))
      | exact ih0 _ _ _ _
      | exact LeO.none _
      | refine LeO.ite ?_ ?_
      | refine LeO.bind ?_ (fun _ => ?_)
theorem script_put.mono : ∀ a0 a1 a2 k, LeO (script_put.f k a0 a1 a2) (script_put.f (k + 1) a0 a1 a2) := by
  intro a0 a1 a2 k
  have ih0 := script_put.mono_l k
  unfold script_put.f
  repeat' first
      | (with_reducible exact ih0 _ _ _ _)
      | (with_reducible exact LeO.refl _)
      | (with_reducible exact LeO.none _)
      | (with_reducible refine LeO.ite ?_ ?_)
      | (with_reducible refine LeO.bind ?_ (fun _ => ?_))
      | exact ih0 _ _ _ _
      | exact LeO.none _
      | refine LeO.ite ?_ ?_
      | refine LeO.bind ?_ (fun _ => ?_)
set_option maxHeartbeats 8000000 in
set_option maxRecDepth 100000 in
theorem script_put.calls (k : Nat) (P0_ : Nat → Prop) (u9000_ : Value) (l0 : List Int) (a1 : Int) (a2 : Int) (r : List Int) (w0 w : World) (hB : Below w0.heap.size w0 w) (ho0 : Kd.R (Kd.int .u8) 5 w w0.heap.size P0_ u9000_ l0) (h : script_put.f k l0 a1 a2 = some r) :
    Calls Try.prog 25 #[u9000_, .int .u64 a1, .int .i64 a2] w fun e w' => ∃ v0_ : Value, e = .returned (v0_) ∧ Kd.R (Kd.int .u8) 5 w' w0.heap.size (fun k_ => (P0_ k_ ∨ w.heap.size ≤ k_)) v0_ r ∧ Below w0.heap.size w0 w' ∧ Kept w w' (fun k_ => P0_ k_) := by
  have HO0 := Aside0.mk (show Kd.R (Kd.int .u8) 5 w w0.heap.size (fun k_ => (P0_ k_ ∨ w.heap.size ≤ k_)) u9000_ l0 from Kd.R_mono ho0 (fun k_ hk => (.inl hk)))
  have HK := Aside0.mk (Kept.refl w (fun k_ => P0_ k_))
  have HW0 := Aside0.mk hB.size
  have HB := Aside0.mk hB
  clear hB
  have H : (script_put.l0 k l0 a1 a2 0) = some r := h
  clear h
  have H' := Aside0.mk H
  clear H
  go_enter Try.func25, Try.ntmps25
  go_wp2
  go_loopg [0, 1, 8] k (fun kq v0 v1 v8 w' => ∃ (x0_1 : List Int) (x1_1 : Int) (x8_1 : Int), v1 = .int .u64 x1_1 ∧ v8 = .int .i64 x8_1 ∧ Aside0 (script_put.l0 kq x0_1 x1_1 a2 x8_1 = some r) ∧ Aside0 (kq ≤ k) ∧ Aside0 (Kd.R (Kd.int .u8) 5 w' w0.heap.size (fun k_ => (P0_ k_ ∨ w.heap.size ≤ k_)) v0 x0_1) ∧ Aside0 (Kept w w' (fun k_ => P0_ k_)) ∧ Aside0 (Below w0.heap.size w0 w'))
  case atStart => exact ⟨(l0), (a1), (0), (by first | rfl | (simp; done) | (simp [*]; done)), (by first | rfl | (simp; done) | (simp [*]; done)), H', ⟨Nat.le_refl _⟩, ⟨by (with_reducible repeat (first | apply Kd.R_alloc | apply Kd.R_drewN | apply Kd.R_drew)); exact HO0.out⟩, ⟨by repeat (first | (with_reducible first | exact HK.out | apply Kept.alloc | apply Kept.drewN | apply Kept.drew) | exact HK.out)⟩, ⟨by repeat (first | (with_reducible first | exact HB.out | apply below_alloc | apply pw_below_drewN | apply below_drew1) | exact HB.out)⟩⟩
  case round =>
    clear H'
    try clear c2
    try clear p2
    obtain ⟨x0_1, x1_1, x8_1, rfl, rfl, HA, HK1, HO_0, HK, HB⟩ := hrel
    cases gk with
    | zero => exact absurd HA.out (by simp [script_put.l0])
    | succ k1 =>
      have H := HA.out
      clear HA
      simp only [script_put.l0] at H
      by_cases c4 : x8_1 < a2
      · rw [if_pos c4] at H
        have c4b0 : decide (x8_1 < a2) = true := decide_eq_true c4
        clear c4
        by_cases c5 : x0_1.length < 140737488355328
        · rw [if_pos c5] at H
          have LMc5 := Aside0.mk c5
          clear c5
          obtain ⟨y104, hy104⟩ : ∃ y_ : List Int, y_ = (x0_1 ++ [(x1_1) % 256]) := ⟨_, rfl⟩
          replace H : (script_put.l0 k1 y104 (x1_1 / 256) a2 (wrap64 (x8_1 + 1))) = some r := by first | (rw [hy104]; with_reducible exact H) | (have H2_ := (Option.bind_some _ _).symm.trans H; rw [hy104]; with_reducible exact H2_) | (have H2_ := (Option.bind_some _ _).symm.trans H; with_reducible exact H2_) | with_reducible exact H | (rw [hy104]; exact H) | exact H
          have Ny104 := Aside0.mk hy104
          clear hy104
          have H' := Aside0.mk H
          clear H
          go_wp2_with (first | ((with_reducible refine gate_builtin (b := .append) (xs := #[.tmp 10, .tmp 13]) rfl ?_); at_builtin; refine Kd.R_append (Kd.int .u8) (w0 := w0) w0.heap.size rfl (.tmp 10) (.tmp 13) 24 5 (.int .u8 0) 1 rfl Try.underlying24 info5 rfl (by decide) (by omega) u0 x0_1 ((x1_1) % 256) [.int .u8 ((x1_1) % 256)] (fun k_ => (P0_ k_ ∨ w.heap.size ≤ k_)) (fun _ => False) rfl rfl ?aP (fun _ hk => hk.elim) ?aF ?aO ?aB ?aS ?aL ?_; (case aP => exact rfl); (case aB => exact (by repeat (first | (with_reducible first | exact HB.out | apply below_alloc | apply pw_below_drewN | apply below_drew1) | exact HB.out))); (case aF => exact (fun k_ hk => (.inr (Nat.le_trans (by first | exact HK.out.1 | exact (show Kept w _ (fun k_ => P0_ k_) from by repeat (first | (with_reducible first | exact HK.out | apply Kept.alloc | apply Kept.drewN | apply Kept.drew) | exact HK.out)).1) hk)))); (case aO => exact (by (with_reducible repeat (first | apply Kd.R_alloc | apply Kd.R_drewN | apply Kd.R_drew)); exact HO_0.out)); (case aS => exact (below_size (by repeat (first | (with_reducible first | exact HB.out | apply below_alloc | apply pw_below_drewN | apply below_drew1) | exact HB.out)))); (case aL => have := LMc5.out; omega); intro v105 w6 ho hb hg hat; rw [← Ny104.out] at ho; have n0_ := Aside0.mk (hb); have n1_ := Aside0.mk (Kept.of_grown (S := (fun k_ => P0_ k_)) hg (by repeat (first | (with_reducible first | exact HK.out | apply Kept.alloc | apply Kept.drewN | apply Kept.drew) | exact HK.out)) (fun k_ e_ => (HO_0.out.1 k_ e_))); have n2_ := Aside0.mk (ho); clear HB; clear HK; clear HO_0; have HB := n0_; have HK := n1_; have HO106 := n2_; clear n0_ n1_ n2_; clear ho hb hg hat))
          go_roundg k1
          case measure => have := HK1.out; omega
          case rel => exact ⟨(y104), (x1_1 / 256), (wrap64 (x8_1 + 1)), (by first | rfl | (simp; done) | (simp [*]; done)), (by first | rfl | (simp; done) | (simp [*]; done)), H', ⟨by have := HK1.out; omega⟩, ⟨by (with_reducible repeat (first | apply Kd.R_alloc | apply Kd.R_drewN | apply Kd.R_drew)); exact HO106.out⟩, ⟨by repeat (first | (with_reducible first | exact HK.out | apply Kept.alloc | apply Kept.drewN | apply Kept.drew) | exact HK.out)⟩, ⟨by repeat (first | (with_reducible first | exact HB.out | apply below_alloc | apply pw_below_drewN | apply below_drew1) | exact HB.out)⟩⟩
        · rw [if_neg c5] at H
          exact absurd H (by simp)
      · rw [if_neg c4] at H
        have c4b0 : decide (x8_1 < a2) = false := decide_eq_false c4
        clear c4
        obtain rfl := Option.some.inj H
        go_wp2
        go_ret
        exact ⟨_, by first | rfl | (simp [errW_none, errW_some] <;> rfl) | (simp [*, errW_none, errW_some] <;> rfl), by (with_reducible repeat (first | apply Kd.R_alloc | apply Kd.R_drewN | apply Kd.R_drew)); exact HO_0.out, by repeat (first | (with_reducible first | exact HB.out | apply below_alloc | apply pw_below_drewN | apply below_drew1) | exact HB.out), by repeat (first | (with_reducible first | exact HK.out | apply Kept.alloc | apply Kept.drewN | apply Kept.drew) | exact HK.out)⟩

-- NOT PRINTED: function 24 (script_small)

-- NOT PRINTED: function 19 (script_write)

-- NOT PRINTED: function 9 (script_Write)

/-! ### haymowlaw18_of: function 10 -/
def haymowlaw18_of.l0 : Nat → List (S33) → List (S47) → Int → Option ((List (S47)))
  | 0, _, _, _ => none
  | k + 1, x0, x3, x4 => if x4 < (x0.length : Int) then (if 0 ≤ x4 then (if x3.length < 1759218604441 then (haymowlaw18_of.l0 k x0 (x3 ++ [(⟨(rd_T33 x0 x4).f0, (rd_T33 x0 x4).f1, (rd_T33 x0 x4).f2, (rd_T33 x0 x4).f3, (rd_T33 x0 x4).f4, (rd_T33 x0 x4).f5⟩ : S47)]) (wrap64 (x4 + 1))) else (none)) else (none)) else (some x3)
def haymowlaw18_of.f (k : Nat) (l0 : List (S33)) : Option ((List (S47))) := haymowlaw18_of.l0 k l0 ([] : List (S47)) 0
theorem haymowlaw18_of.mono_l : ∀ k, (∀ y0 y1 y2, LeO (haymowlaw18_of.l0 k y0 y1 y2) (haymowlaw18_of.l0 (k + 1) y0 y1 y2))
  | 0 => fun _ _ _ r h => by simp [haymowlaw18_of.l0] at h
  | k + 1 => by
    have ih0 := haymowlaw18_of.mono_l k
    · intro y0 y1 y2
      unfold haymowlaw18_of.l0
      repeat' first
      | (with_reducible exact ih0 _ _ _)
      | (with_reducible exact LeO.refl _)
      | (with_reducible exact LeO.none _)
      | (with_reducible refine LeO.ite ?_ ?_)
      | (with_reducible refine LeO.bind ?_ (fun _ => ?_))
      | exact ih0 _ _ _
      | exact LeO.none _
      | refine LeO.ite ?_ ?_
      | refine LeO.bind ?_ (fun _ => ?_)
theorem haymowlaw18_of.mono : ∀ a0 k, LeO (haymowlaw18_of.f k a0) (haymowlaw18_of.f (k + 1) a0) := by
  intro a0 k
  have ih0 := haymowlaw18_of.mono_l k
  unfold haymowlaw18_of.f
  repeat' first
      | (with_reducible exact ih0 _ _ _)
      | (with_reducible exact LeO.refl _)
      | (with_reducible exact LeO.none _)
      | (with_reducible refine LeO.ite ?_ ?_)
      | (with_reducible refine LeO.bind ?_ (fun _ => ?_))
      | exact ih0 _ _ _
      | exact LeO.none _
      | refine LeO.ite ?_ ?_
      | refine LeO.bind ?_ (fun _ => ?_)
def haymowlaw18_of.T5 : Bool × List (List Nat × List Nat) := (true, [([], []), ([], []), ([], []), ([1, 2], [1, 2]), ([3], [3]), ([4], [4]), ([], []), ([], []), ([6, 7], [6, 7]), ([8], [8]), ([9], [9]), ([], []), ([], []), ([11, 12], [11, 12]), ([13], [13]), ([14], [14]), ([], []), ([], []), ([16, 17], [16, 17]), ([18], [18]), ([19], [19]), ([], []), ([], []), ([21, 22], [21, 22]), ([23], [23]), ([24], [24]), ([], []), ([], []), ([26, 27], [26, 27]), ([28], [28]), ([29], [29]), ([5, 10, 15, 20, 25, 30], [5, 10, 15, 20, 25, 30]), ([31], [31]), ([0, 32], [0, 32]), ([33, 33, 0, 1, 2, 3, 4, 5, 6, 7, 8, 9, 10, 11, 12, 13, 14, 15, 16, 17, 18, 19, 20, 21, 22, 23, 24, 25, 26, 27, 28, 29, 30, 31, 32, 33], [0, 33])])
def haymowlaw18_of.B5 : List Nat := [0, 0, 0, 6, 14, 30, 0, 0, 192, 448, 960, 0, 0, 6144, 14336, 30720, 0, 0, 196608, 458752, 983040, 0, 0, 6291456, 14680064, 31457280, 0, 0, 201326592, 469762048, 1006632960, 2147483646, 4294967294, 8589934591, 17179869183]
theorem haymowlaw18_of.tab5 : rtab .any (opsOf Try.f10 5) = haymowlaw18_of.T5 := by kernel_rfl
theorem haymowlaw18_of.bits5 : waitsOk haymowlaw18_of.T5.2 haymowlaw18_of.B5 = true := by kernel_rfl
set_option maxHeartbeats 8000000 in
set_option maxRecDepth 100000 in
theorem haymowlaw18_of.calls (k : Nat) (P0_ : Nat → Prop) (A0 : Option Addr) (c0 : Nat) (l0 : List (S33)) (r : List (S47)) (w : World) (hs0 : Kd.V k33 33 w w.heap.size (fun k_ => P0_ k_) (.slice A0 l0.length c0) l0) (h : haymowlaw18_of.f k l0 = some r) :
    Calls Try.prog 10 #[.slice A0 l0.length c0] w fun e w' => ∃ v0_ : Value, e = .returned (v0_) ∧ Kd.N k47 47 w' w.heap.size (fun k_ => (P0_ k_ ∨ w.heap.size ≤ k_)) v0_ r ∧ Below w.heap.size w w' := by
  have hu47 := Try.underlying47
  have HO0 := Aside0.mk (show Kd.V k33 33 w w.heap.size (fun k_ => (P0_ k_ ∨ w.heap.size ≤ k_)) (.slice A0 l0.length c0) l0 from Kd.V_mono hs0 (fun k_ hk => .inl hk))
  have HB := Aside0.mk (Below.refl w.heap.size w)
  have H : (haymowlaw18_of.l0 k l0 ([] : List (S47)) 0) = some r := h
  clear h
  have H' := Aside0.mk H
  clear H
  go_enter Try.func10, Try.ntmps10
  go_wp2
  go_loopg [3, 4] k (fun kq v3 v4 w' => ∃ (x3_1 : List (S47)) (x4_1 : Int), v4 = .int .i64 x4_1 ∧ Aside0 (haymowlaw18_of.l0 kq l0 x3_1 x4_1 = some r) ∧ Aside0 (kq ≤ k) ∧ Aside0 (Kd.V k33 33 w' w.heap.size (fun k_ => (P0_ k_ ∨ w.heap.size ≤ k_) ∧ some k_ ≠ (v3 : Value).ownBlock) (.slice A0 l0.length c0) l0) ∧ Aside0 (Kd.N k47 47 w' w.heap.size (fun k_ => (P0_ k_ ∨ w.heap.size ≤ k_)) v3 x3_1) ∧ Aside0 (Below w.heap.size w w'))
  case atStart => exact ⟨(([] : List (S47))), (0), (by first | rfl | (simp; done) | (simp [*]; done)), H', ⟨Nat.le_refl _⟩, ⟨by (with_reducible repeat (first | apply Kd.V_alloc | apply Kd.V_drewN | apply Kd.V_drew)); exact Kd.V_mono HO0.out (fun _ hk => ⟨hk, (by simp [Value.ownBlock])⟩)⟩, ⟨by first | exact Kd.S_nil _ _ _ _ _ | exact Kd.N_nil _ _ _ _ _ | exact Kd.V_nil _ _ _ _ _ | exact Kd.Q_nil _ _ _ _ _ | exact Kd.R_nil _ _ _ _ _⟩, ⟨by repeat (first | (with_reducible first | exact HB.out | apply below_alloc | apply pw_below_drewN | apply below_drew1) | exact HB.out)⟩⟩
  case round =>
    clear H'
    try clear c1
    obtain ⟨x3_1, x4_1, rfl, HA, HK1, HO_0, HO_3, HB⟩ := hrel
    cases gk with
    | zero => exact absurd HA.out (by simp [haymowlaw18_of.l0])
    | succ k1 =>
      have H := HA.out
      clear HA
      simp only [haymowlaw18_of.l0] at H
      by_cases c2 : x4_1 < (l0.length : Int)
      · rw [if_pos c2] at H
        have c2b0 : decide (x4_1 < (l0.length : Int)) = true := decide_eq_true c2
        clear c2
        by_cases c3 : 0 ≤ x4_1
        · rw [if_pos c3] at H
          have c3b0 : decide (0 ≤ x4_1) = true := decide_eq_true c3
          clear c3
          by_cases c4 : x3_1.length < 1759218604441
          · rw [if_pos c4] at H
            have LMc4 := Aside0.mk c4
            clear c4
            obtain ⟨y115, hy115⟩ : ∃ y_ : List (S47), y_ = (x3_1 ++ [(⟨(rd_T33 l0 x4_1).f0, (rd_T33 l0 x4_1).f1, (rd_T33 l0 x4_1).f2, (rd_T33 l0 x4_1).f3, (rd_T33 l0 x4_1).f4, (rd_T33 l0 x4_1).f5⟩ : S47)]) := ⟨_, rfl⟩
            replace H : (haymowlaw18_of.l0 k1 l0 y115 (wrap64 (x4_1 + 1))) = some r := by first | (rw [hy115]; with_reducible exact H) | (have H2_ := (Option.bind_some _ _).symm.trans H; rw [hy115]; with_reducible exact H2_) | (have H2_ := (Option.bind_some _ _).symm.trans H; with_reducible exact H2_) | with_reducible exact H | (rw [hy115]; exact H) | exact H
            have Ny115 := Aside0.mk hy115
            clear hy115
            have H' := Aside0.mk H
            clear H
            try go_wp2
            have n0_ := Aside0.mk (Kd.V_drew HO_0.out)
            have n1_ := Aside0.mk (Kd.N_drew HO_3.out)
            have n2_ := Aside0.mk (below_drew1 HB.out)
            clear HO_0
            clear HO_3
            clear HB
            have HO_0 := n0_
            have HO_3 := n1_
            have HB := n2_
            clear n0_ n1_ n2_
            have p109 : 0 ≤ (x4_1 : Int) := of_decide_eq_true (by first | (with_reducible assumption) | assumption)
            have q109 : x4_1 < (l0.length : Int) := of_decide_eq_true (by first | (with_reducible assumption) | assumption)
            obtain ⟨ad109, A109_4, c109_4, A109_5, c109_5, e109, hx109_0, hx109_1, hx109_2, hx109_3, hx109_4, hx109_5, hl109_4, hi109_4, hl109_5, hi109_5⟩ := at_T33 (Kd.V_reads' HO_0.out).2.2 x4_1 p109 q109
            cases e109
            obtain ⟨ce109, hce109, hMe109, hcc109⟩ := Kd.V_get HO_0.out z33 x4_1 p109 (by first | exact q109 | exact of_decide_eq_true (by first | (with_reducible assumption) | assumption) | (have e_ := (Kd.V_reads' HO_0.out).1; omega))
            obtain ⟨ua109_4, uc109_4, ua109_5, uc109_5, rfl, ul109_4, ge109_4, ul109_5, ge109_5⟩ := k33_openF hMe109
            have hv109_4 := hcc109 4 _ rfl
            rw [add_field _ _ 4 (by omega)] at hv109_4
            replace hv109_4 := Option.some.inj (hv109_4.symm.trans hx109_4)
            injection hv109_4 with hva_ hvn_ hvc_
            rw [hva_] at ge109_4
            rw [hvc_] at ul109_4
            have HL109_4 := Aside0.mk (show Kd.V (Kd.int .u8) 5 _ w.heap.size _ _ ((rd_T33 l0 x4_1).f4) from Kd.V_mk ul109_4 ge109_4)
            clear hva_ hvn_ hvc_ ge109_4 ul109_4
            have hv109_5 := hcc109 5 _ rfl
            rw [add_field _ _ 5 (by omega)] at hv109_5
            replace hv109_5 := Option.some.inj (hv109_5.symm.trans hx109_5)
            injection hv109_5 with hva_ hvn_ hvc_
            rw [hva_] at ge109_5
            rw [hvc_] at ul109_5
            have HL109_5 := Aside0.mk (show Kd.V (Kd.int .i64) 2 _ w.heap.size _ _ ((rd_T33 l0 x4_1).f5) from Kd.V_mk ul109_5 ge109_5)
            clear hva_ hvn_ hvc_ ge109_5 ul109_5
            clear hcc109 hce109
            have HR109_4 := Aside0.mk hi109_4
            have HC109_4 := Aside0.mk hl109_4
            clear hi109_4 hl109_4
            have HR109_5 := Aside0.mk hi109_5
            have HC109_5 := Aside0.mk hl109_5
            clear hi109_5 hl109_5
            replace p109 := eq_true p109
            replace q109 := eq_true q109
            have p110 : 0 ≤ (x4_1 : Int) := of_decide_eq_true (by first | (with_reducible assumption) | assumption)
            have q110 : x4_1 < (l0.length : Int) := of_decide_eq_true (by first | (with_reducible assumption) | assumption)
            obtain ⟨ad110, A110_4, c110_4, A110_5, c110_5, e110, hx110_0, hx110_1, hx110_2, hx110_3, hx110_4, hx110_5, hl110_4, hi110_4, hl110_5, hi110_5⟩ := at_T33 (Kd.V_reads' HO_0.out).2.2 x4_1 p110 q110
            obtain rfl : ad109 = ad110 := (by injection e110)
            obtain ⟨ce110, hce110, hMe110, hcc110⟩ := Kd.V_get HO_0.out z33 x4_1 p110 (by first | exact q110 | exact of_decide_eq_true (by first | (with_reducible assumption) | assumption) | (have e_ := (Kd.V_reads' HO_0.out).1; omega))
            obtain ⟨ua110_4, uc110_4, ua110_5, uc110_5, rfl, ul110_4, ge110_4, ul110_5, ge110_5⟩ := k33_openF hMe110
            have hv110_4 := hcc110 4 _ rfl
            rw [add_field _ _ 4 (by omega)] at hv110_4
            replace hv110_4 := Option.some.inj (hv110_4.symm.trans hx110_4)
            injection hv110_4 with hva_ hvn_ hvc_
            rw [hva_] at ge110_4
            rw [hvc_] at ul110_4
            have HL110_4 := Aside0.mk (show Kd.V (Kd.int .u8) 5 _ w.heap.size _ _ ((rd_T33 l0 x4_1).f4) from Kd.V_mk ul110_4 ge110_4)
            clear hva_ hvn_ hvc_ ge110_4 ul110_4
            have hv110_5 := hcc110 5 _ rfl
            rw [add_field _ _ 5 (by omega)] at hv110_5
            replace hv110_5 := Option.some.inj (hv110_5.symm.trans hx110_5)
            injection hv110_5 with hva_ hvn_ hvc_
            rw [hva_] at ge110_5
            rw [hvc_] at ul110_5
            have HL110_5 := Aside0.mk (show Kd.V (Kd.int .i64) 2 _ w.heap.size _ _ ((rd_T33 l0 x4_1).f5) from Kd.V_mk ul110_5 ge110_5)
            clear hva_ hvn_ hvc_ ge110_5 ul110_5
            clear hcc110 hce110
            have HR110_4 := Aside0.mk hi110_4
            have HC110_4 := Aside0.mk hl110_4
            clear hi110_4 hl110_4
            have HR110_5 := Aside0.mk hi110_5
            have HC110_5 := Aside0.mk hl110_5
            clear hi110_5 hl110_5
            replace p110 := eq_true p110
            replace q110 := eq_true q110
            have ea_ := Option.some.inj (hx109_4.symm.trans hx110_4)
            injection ea_ with ea_ en_ ec_
            subst ea_
            subst ec_
            clear en_
            have ea_ := Option.some.inj (hx109_5.symm.trans hx110_5)
            injection ea_ with ea_ en_ ec_
            subst ea_
            subst ec_
            clear en_
            have p111 : 0 ≤ (x4_1 : Int) := of_decide_eq_true (by first | (with_reducible assumption) | assumption)
            have q111 : x4_1 < (l0.length : Int) := of_decide_eq_true (by first | (with_reducible assumption) | assumption)
            obtain ⟨ad111, A111_4, c111_4, A111_5, c111_5, e111, hx111_0, hx111_1, hx111_2, hx111_3, hx111_4, hx111_5, hl111_4, hi111_4, hl111_5, hi111_5⟩ := at_T33 (Kd.V_reads' HO_0.out).2.2 x4_1 p111 q111
            obtain rfl : ad109 = ad111 := (by injection e111)
            obtain ⟨ce111, hce111, hMe111, hcc111⟩ := Kd.V_get HO_0.out z33 x4_1 p111 (by first | exact q111 | exact of_decide_eq_true (by first | (with_reducible assumption) | assumption) | (have e_ := (Kd.V_reads' HO_0.out).1; omega))
            obtain ⟨ua111_4, uc111_4, ua111_5, uc111_5, rfl, ul111_4, ge111_4, ul111_5, ge111_5⟩ := k33_openF hMe111
            have hv111_4 := hcc111 4 _ rfl
            rw [add_field _ _ 4 (by omega)] at hv111_4
            replace hv111_4 := Option.some.inj (hv111_4.symm.trans hx111_4)
            injection hv111_4 with hva_ hvn_ hvc_
            rw [hva_] at ge111_4
            rw [hvc_] at ul111_4
            have HL111_4 := Aside0.mk (show Kd.V (Kd.int .u8) 5 _ w.heap.size _ _ ((rd_T33 l0 x4_1).f4) from Kd.V_mk ul111_4 ge111_4)
            clear hva_ hvn_ hvc_ ge111_4 ul111_4
            have hv111_5 := hcc111 5 _ rfl
            rw [add_field _ _ 5 (by omega)] at hv111_5
            replace hv111_5 := Option.some.inj (hv111_5.symm.trans hx111_5)
            injection hv111_5 with hva_ hvn_ hvc_
            rw [hva_] at ge111_5
            rw [hvc_] at ul111_5
            have HL111_5 := Aside0.mk (show Kd.V (Kd.int .i64) 2 _ w.heap.size _ _ ((rd_T33 l0 x4_1).f5) from Kd.V_mk ul111_5 ge111_5)
            clear hva_ hvn_ hvc_ ge111_5 ul111_5
            clear hcc111 hce111
            have HR111_4 := Aside0.mk hi111_4
            have HC111_4 := Aside0.mk hl111_4
            clear hi111_4 hl111_4
            have HR111_5 := Aside0.mk hi111_5
            have HC111_5 := Aside0.mk hl111_5
            clear hi111_5 hl111_5
            replace p111 := eq_true p111
            replace q111 := eq_true q111
            have ea_ := Option.some.inj (hx109_4.symm.trans hx111_4)
            injection ea_ with ea_ en_ ec_
            subst ea_
            subst ec_
            clear en_
            have ea_ := Option.some.inj (hx109_5.symm.trans hx111_5)
            injection ea_ with ea_ en_ ec_
            subst ea_
            subst ec_
            clear en_
            have p112 : 0 ≤ (x4_1 : Int) := of_decide_eq_true (by first | (with_reducible assumption) | assumption)
            have q112 : x4_1 < (l0.length : Int) := of_decide_eq_true (by first | (with_reducible assumption) | assumption)
            obtain ⟨ad112, A112_4, c112_4, A112_5, c112_5, e112, hx112_0, hx112_1, hx112_2, hx112_3, hx112_4, hx112_5, hl112_4, hi112_4, hl112_5, hi112_5⟩ := at_T33 (Kd.V_reads' HO_0.out).2.2 x4_1 p112 q112
            obtain rfl : ad109 = ad112 := (by injection e112)
            obtain ⟨ce112, hce112, hMe112, hcc112⟩ := Kd.V_get HO_0.out z33 x4_1 p112 (by first | exact q112 | exact of_decide_eq_true (by first | (with_reducible assumption) | assumption) | (have e_ := (Kd.V_reads' HO_0.out).1; omega))
            obtain ⟨ua112_4, uc112_4, ua112_5, uc112_5, rfl, ul112_4, ge112_4, ul112_5, ge112_5⟩ := k33_openF hMe112
            have hv112_4 := hcc112 4 _ rfl
            rw [add_field _ _ 4 (by omega)] at hv112_4
            replace hv112_4 := Option.some.inj (hv112_4.symm.trans hx112_4)
            injection hv112_4 with hva_ hvn_ hvc_
            rw [hva_] at ge112_4
            rw [hvc_] at ul112_4
            have HL112_4 := Aside0.mk (show Kd.V (Kd.int .u8) 5 _ w.heap.size _ _ ((rd_T33 l0 x4_1).f4) from Kd.V_mk ul112_4 ge112_4)
            clear hva_ hvn_ hvc_ ge112_4 ul112_4
            have hv112_5 := hcc112 5 _ rfl
            rw [add_field _ _ 5 (by omega)] at hv112_5
            replace hv112_5 := Option.some.inj (hv112_5.symm.trans hx112_5)
            injection hv112_5 with hva_ hvn_ hvc_
            rw [hva_] at ge112_5
            rw [hvc_] at ul112_5
            have HL112_5 := Aside0.mk (show Kd.V (Kd.int .i64) 2 _ w.heap.size _ _ ((rd_T33 l0 x4_1).f5) from Kd.V_mk ul112_5 ge112_5)
            clear hva_ hvn_ hvc_ ge112_5 ul112_5
            clear hcc112 hce112
            have HR112_4 := Aside0.mk hi112_4
            have HC112_4 := Aside0.mk hl112_4
            clear hi112_4 hl112_4
            have HR112_5 := Aside0.mk hi112_5
            have HC112_5 := Aside0.mk hl112_5
            clear hi112_5 hl112_5
            replace p112 := eq_true p112
            replace q112 := eq_true q112
            have ea_ := Option.some.inj (hx109_4.symm.trans hx112_4)
            injection ea_ with ea_ en_ ec_
            subst ea_
            subst ec_
            clear en_
            have ea_ := Option.some.inj (hx109_5.symm.trans hx112_5)
            injection ea_ with ea_ en_ ec_
            subst ea_
            subst ec_
            clear en_
            have p113 : 0 ≤ (x4_1 : Int) := of_decide_eq_true (by first | (with_reducible assumption) | assumption)
            have q113 : x4_1 < (l0.length : Int) := of_decide_eq_true (by first | (with_reducible assumption) | assumption)
            obtain ⟨ad113, A113_4, c113_4, A113_5, c113_5, e113, hx113_0, hx113_1, hx113_2, hx113_3, hx113_4, hx113_5, hl113_4, hi113_4, hl113_5, hi113_5⟩ := at_T33 (Kd.V_reads' HO_0.out).2.2 x4_1 p113 q113
            obtain rfl : ad109 = ad113 := (by injection e113)
            obtain ⟨ce113, hce113, hMe113, hcc113⟩ := Kd.V_get HO_0.out z33 x4_1 p113 (by first | exact q113 | exact of_decide_eq_true (by first | (with_reducible assumption) | assumption) | (have e_ := (Kd.V_reads' HO_0.out).1; omega))
            obtain ⟨ua113_4, uc113_4, ua113_5, uc113_5, rfl, ul113_4, ge113_4, ul113_5, ge113_5⟩ := k33_openF hMe113
            have hv113_4 := hcc113 4 _ rfl
            rw [add_field _ _ 4 (by omega)] at hv113_4
            replace hv113_4 := Option.some.inj (hv113_4.symm.trans hx113_4)
            injection hv113_4 with hva_ hvn_ hvc_
            rw [hva_] at ge113_4
            rw [hvc_] at ul113_4
            have HL113_4 := Aside0.mk (show Kd.V (Kd.int .u8) 5 _ w.heap.size _ _ ((rd_T33 l0 x4_1).f4) from Kd.V_mk ul113_4 ge113_4)
            clear hva_ hvn_ hvc_ ge113_4 ul113_4
            have hv113_5 := hcc113 5 _ rfl
            rw [add_field _ _ 5 (by omega)] at hv113_5
            replace hv113_5 := Option.some.inj (hv113_5.symm.trans hx113_5)
            injection hv113_5 with hva_ hvn_ hvc_
            rw [hva_] at ge113_5
            rw [hvc_] at ul113_5
            have HL113_5 := Aside0.mk (show Kd.V (Kd.int .i64) 2 _ w.heap.size _ _ ((rd_T33 l0 x4_1).f5) from Kd.V_mk ul113_5 ge113_5)
            clear hva_ hvn_ hvc_ ge113_5 ul113_5
            clear hcc113 hce113
            have HR113_4 := Aside0.mk hi113_4
            have HC113_4 := Aside0.mk hl113_4
            clear hi113_4 hl113_4
            have HR113_5 := Aside0.mk hi113_5
            have HC113_5 := Aside0.mk hl113_5
            clear hi113_5 hl113_5
            replace p113 := eq_true p113
            replace q113 := eq_true q113
            have ea_ := Option.some.inj (hx109_4.symm.trans hx113_4)
            injection ea_ with ea_ en_ ec_
            subst ea_
            subst ec_
            clear en_
            have ea_ := Option.some.inj (hx109_5.symm.trans hx113_5)
            injection ea_ with ea_ en_ ec_
            subst ea_
            subst ec_
            clear en_
            have p114 : 0 ≤ (x4_1 : Int) := of_decide_eq_true (by first | (with_reducible assumption) | assumption)
            have q114 : x4_1 < (l0.length : Int) := of_decide_eq_true (by first | (with_reducible assumption) | assumption)
            obtain ⟨ad114, A114_4, c114_4, A114_5, c114_5, e114, hx114_0, hx114_1, hx114_2, hx114_3, hx114_4, hx114_5, hl114_4, hi114_4, hl114_5, hi114_5⟩ := at_T33 (Kd.V_reads' HO_0.out).2.2 x4_1 p114 q114
            obtain rfl : ad109 = ad114 := (by injection e114)
            obtain ⟨ce114, hce114, hMe114, hcc114⟩ := Kd.V_get HO_0.out z33 x4_1 p114 (by first | exact q114 | exact of_decide_eq_true (by first | (with_reducible assumption) | assumption) | (have e_ := (Kd.V_reads' HO_0.out).1; omega))
            obtain ⟨ua114_4, uc114_4, ua114_5, uc114_5, rfl, ul114_4, ge114_4, ul114_5, ge114_5⟩ := k33_openF hMe114
            have hv114_4 := hcc114 4 _ rfl
            rw [add_field _ _ 4 (by omega)] at hv114_4
            replace hv114_4 := Option.some.inj (hv114_4.symm.trans hx114_4)
            injection hv114_4 with hva_ hvn_ hvc_
            rw [hva_] at ge114_4
            rw [hvc_] at ul114_4
            have HL114_4 := Aside0.mk (show Kd.V (Kd.int .u8) 5 _ w.heap.size _ _ ((rd_T33 l0 x4_1).f4) from Kd.V_mk ul114_4 ge114_4)
            clear hva_ hvn_ hvc_ ge114_4 ul114_4
            have hv114_5 := hcc114 5 _ rfl
            rw [add_field _ _ 5 (by omega)] at hv114_5
            replace hv114_5 := Option.some.inj (hv114_5.symm.trans hx114_5)
            injection hv114_5 with hva_ hvn_ hvc_
            rw [hva_] at ge114_5
            rw [hvc_] at ul114_5
            have HL114_5 := Aside0.mk (show Kd.V (Kd.int .i64) 2 _ w.heap.size _ _ ((rd_T33 l0 x4_1).f5) from Kd.V_mk ul114_5 ge114_5)
            clear hva_ hvn_ hvc_ ge114_5 ul114_5
            clear hcc114 hce114
            have HR114_4 := Aside0.mk hi114_4
            have HC114_4 := Aside0.mk hl114_4
            clear hi114_4 hl114_4
            have HR114_5 := Aside0.mk hi114_5
            have HC114_5 := Aside0.mk hl114_5
            clear hi114_5 hl114_5
            replace p114 := eq_true p114
            replace q114 := eq_true q114
            have ea_ := Option.some.inj (hx109_4.symm.trans hx114_4)
            injection ea_ with ea_ en_ ec_
            subst ea_
            subst ec_
            clear en_
            have ea_ := Option.some.inj (hx109_5.symm.trans hx114_5)
            injection ea_ with ea_ en_ ec_
            subst ea_
            subst ec_
            clear en_
            refine start_ (n := 35) (S := fun w' => w'.cell? (ad109.add ((x4_1).toNat * 6)) = some (.int .i64 ((rd_T33 l0 x4_1).f0)) ∧ w'.cell? ⟨(ad109.add ((x4_1).toNat * 6)).block, (ad109.add ((x4_1).toNat * 6)).off + 1, none⟩ = some (.int .i64 ((rd_T33 l0 x4_1).f1)) ∧ w'.cell? ⟨(ad109.add ((x4_1).toNat * 6)).block, (ad109.add ((x4_1).toNat * 6)).off + 2, none⟩ = some (.int .i64 ((rd_T33 l0 x4_1).f2)) ∧ w'.cell? ⟨(ad109.add ((x4_1).toNat * 6)).block, (ad109.add ((x4_1).toNat * 6)).off + 3, none⟩ = some (.int .i64 ((rd_T33 l0 x4_1).f3)) ∧ w'.cell? ⟨(ad109.add ((x4_1).toNat * 6)).block, (ad109.add ((x4_1).toNat * 6)).off + 4, none⟩ = some (.slice A109_4 ((rd_T33 l0 x4_1).f4).length c109_4) ∧ w'.cell? ⟨(ad109.add ((x4_1).toNat * 6)).block, (ad109.add ((x4_1).toNat * 6)).off + 5, none⟩ = some (.slice A109_5 ((rd_T33 l0 x4_1).f5).length c109_5) ∧ w'.cell? (ad109.add ((x4_1).toNat * 6)) = some (.int .i64 ((rd_T33 l0 x4_1).f0)) ∧ w'.cell? ⟨(ad109.add ((x4_1).toNat * 6)).block, (ad109.add ((x4_1).toNat * 6)).off + 1, none⟩ = some (.int .i64 ((rd_T33 l0 x4_1).f1)) ∧ w'.cell? ⟨(ad109.add ((x4_1).toNat * 6)).block, (ad109.add ((x4_1).toNat * 6)).off + 2, none⟩ = some (.int .i64 ((rd_T33 l0 x4_1).f2)) ∧ w'.cell? ⟨(ad109.add ((x4_1).toNat * 6)).block, (ad109.add ((x4_1).toNat * 6)).off + 3, none⟩ = some (.int .i64 ((rd_T33 l0 x4_1).f3)) ∧ w'.cell? ⟨(ad109.add ((x4_1).toNat * 6)).block, (ad109.add ((x4_1).toNat * 6)).off + 4, none⟩ = some (.slice A109_4 ((rd_T33 l0 x4_1).f4).length c109_4) ∧ w'.cell? ⟨(ad109.add ((x4_1).toNat * 6)).block, (ad109.add ((x4_1).toNat * 6)).off + 5, none⟩ = some (.slice A109_5 ((rd_T33 l0 x4_1).f5).length c109_5) ∧ w'.cell? (ad109.add ((x4_1).toNat * 6)) = some (.int .i64 ((rd_T33 l0 x4_1).f0)) ∧ w'.cell? ⟨(ad109.add ((x4_1).toNat * 6)).block, (ad109.add ((x4_1).toNat * 6)).off + 1, none⟩ = some (.int .i64 ((rd_T33 l0 x4_1).f1)) ∧ w'.cell? ⟨(ad109.add ((x4_1).toNat * 6)).block, (ad109.add ((x4_1).toNat * 6)).off + 2, none⟩ = some (.int .i64 ((rd_T33 l0 x4_1).f2)) ∧ w'.cell? ⟨(ad109.add ((x4_1).toNat * 6)).block, (ad109.add ((x4_1).toNat * 6)).off + 3, none⟩ = some (.int .i64 ((rd_T33 l0 x4_1).f3)) ∧ w'.cell? ⟨(ad109.add ((x4_1).toNat * 6)).block, (ad109.add ((x4_1).toNat * 6)).off + 4, none⟩ = some (.slice A109_4 ((rd_T33 l0 x4_1).f4).length c109_4) ∧ w'.cell? ⟨(ad109.add ((x4_1).toNat * 6)).block, (ad109.add ((x4_1).toNat * 6)).off + 5, none⟩ = some (.slice A109_5 ((rd_T33 l0 x4_1).f5).length c109_5) ∧ w'.cell? (ad109.add ((x4_1).toNat * 6)) = some (.int .i64 ((rd_T33 l0 x4_1).f0)) ∧ w'.cell? ⟨(ad109.add ((x4_1).toNat * 6)).block, (ad109.add ((x4_1).toNat * 6)).off + 1, none⟩ = some (.int .i64 ((rd_T33 l0 x4_1).f1)) ∧ w'.cell? ⟨(ad109.add ((x4_1).toNat * 6)).block, (ad109.add ((x4_1).toNat * 6)).off + 2, none⟩ = some (.int .i64 ((rd_T33 l0 x4_1).f2)) ∧ w'.cell? ⟨(ad109.add ((x4_1).toNat * 6)).block, (ad109.add ((x4_1).toNat * 6)).off + 3, none⟩ = some (.int .i64 ((rd_T33 l0 x4_1).f3)) ∧ w'.cell? ⟨(ad109.add ((x4_1).toNat * 6)).block, (ad109.add ((x4_1).toNat * 6)).off + 4, none⟩ = some (.slice A109_4 ((rd_T33 l0 x4_1).f4).length c109_4) ∧ w'.cell? ⟨(ad109.add ((x4_1).toNat * 6)).block, (ad109.add ((x4_1).toNat * 6)).off + 5, none⟩ = some (.slice A109_5 ((rd_T33 l0 x4_1).f5).length c109_5) ∧ w'.cell? (ad109.add ((x4_1).toNat * 6)) = some (.int .i64 ((rd_T33 l0 x4_1).f0)) ∧ w'.cell? ⟨(ad109.add ((x4_1).toNat * 6)).block, (ad109.add ((x4_1).toNat * 6)).off + 1, none⟩ = some (.int .i64 ((rd_T33 l0 x4_1).f1)) ∧ w'.cell? ⟨(ad109.add ((x4_1).toNat * 6)).block, (ad109.add ((x4_1).toNat * 6)).off + 2, none⟩ = some (.int .i64 ((rd_T33 l0 x4_1).f2)) ∧ w'.cell? ⟨(ad109.add ((x4_1).toNat * 6)).block, (ad109.add ((x4_1).toNat * 6)).off + 3, none⟩ = some (.int .i64 ((rd_T33 l0 x4_1).f3)) ∧ w'.cell? ⟨(ad109.add ((x4_1).toNat * 6)).block, (ad109.add ((x4_1).toNat * 6)).off + 4, none⟩ = some (.slice A109_4 ((rd_T33 l0 x4_1).f4).length c109_4) ∧ w'.cell? ⟨(ad109.add ((x4_1).toNat * 6)).block, (ad109.add ((x4_1).toNat * 6)).off + 5, none⟩ = some (.slice A109_5 ((rd_T33 l0 x4_1).f5).length c109_5) ∧ w'.cell? (ad109.add ((x4_1).toNat * 6)) = some (.int .i64 ((rd_T33 l0 x4_1).f0)) ∧ w'.cell? ⟨(ad109.add ((x4_1).toNat * 6)).block, (ad109.add ((x4_1).toNat * 6)).off + 1, none⟩ = some (.int .i64 ((rd_T33 l0 x4_1).f1)) ∧ w'.cell? ⟨(ad109.add ((x4_1).toNat * 6)).block, (ad109.add ((x4_1).toNat * 6)).off + 2, none⟩ = some (.int .i64 ((rd_T33 l0 x4_1).f2)) ∧ w'.cell? ⟨(ad109.add ((x4_1).toNat * 6)).block, (ad109.add ((x4_1).toNat * 6)).off + 3, none⟩ = some (.int .i64 ((rd_T33 l0 x4_1).f3)) ∧ w'.cell? ⟨(ad109.add ((x4_1).toNat * 6)).block, (ad109.add ((x4_1).toNat * 6)).off + 4, none⟩ = some (.slice A109_4 ((rd_T33 l0 x4_1).f4).length c109_4) ∧ w'.cell? ⟨(ad109.add ((x4_1).toNat * 6)).block, (ad109.add ((x4_1).toNat * 6)).off + 5, none⟩ = some (.slice A109_5 ((rd_T33 l0 x4_1).f5).length c109_5)) (ds := [32, 33]) #[false, false, false, false, false, false, false, false, false, false, false, false, false, false, false, false, false, false, false, false, false, false, false, false, false, false, false, false, false, false, false, false, false, false, false] (by kernel_rfl) rfl rfl ⟨hx109_0, hx109_1, hx109_2, hx109_3, hx109_4, hx109_5, hx110_0, hx110_1, hx110_2, hx110_3, hx110_4, hx110_5, hx111_0, hx111_1, hx111_2, hx111_3, hx111_4, hx111_5, hx112_0, hx112_1, hx112_2, hx112_3, hx112_4, hx112_5, hx113_0, hx113_1, hx113_2, hx113_3, hx113_4, hx113_5, hx114_0, hx114_1, hx114_2, hx114_3, hx114_4, hx114_5⟩ (fun hHeld => ?_); refine with_tabW haymowlaw18_of.tab5 haymowlaw18_of.bits5 (fun HT_ HW_ => ?_)
            generalize wr.drew = w5 at HO_0 HO_3 HB HL109_4 HL109_5 HL110_4 HL110_5 HL111_4 HL111_5 HL112_4 HL112_5 HL113_4 HL113_5 HL114_4 HL114_5 HR109_4 HR109_5 HR110_4 HR110_5 HR111_4 HR111_5 HR112_4 HR112_5 HR113_4 HR113_5 HR114_4 HR114_5 hx109_0 hx109_1 hx109_2 hx109_3 hx109_4 hx109_5 hx110_0 hx110_1 hx110_2 hx110_3 hx110_4 hx110_5 hx111_0 hx111_1 hx111_2 hx111_3 hx111_4 hx111_5 hx112_0 hx112_1 hx112_2 hx112_3 hx112_4 hx112_5 hx113_0 hx113_1 hx113_2 hx113_3 hx113_4 hx113_5 hx114_0 hx114_1 hx114_2 hx114_3 hx114_4 hx114_5 hHeld ⊢
            refine pure_ (i := 0) (N := some 11) (v := ?_) (a' := ?_) #[true, false, false, false, false, false, false, false, false, false, false, false, false, false, false, false, false, false, false, false, false, false, false, false, false, false, false, false, false, false, false, false, false, false, false] rfl rfl (any_of HT_.out (by kernel_rfl)) (fun _ _ _ h => h) (Or.inl ⟨by rfl, ?_⟩) ?_ ?_
            rotate_left
            · intro w'
              go_simp
              with_reducible rfl
            rotate_left
            · simp only [Act.put, List.setIfInBounds_toArray, List.set_cons_zero, List.set_cons_succ, i64_w, i32_w]
              rfl
            refine pure_ (i := 1) (N := some 12) (v := ?_) (a' := ?_) #[true, true, false, false, false, false, false, false, false, false, false, false, false, false, false, false, false, false, false, false, false, false, false, false, false, false, false, false, false, false, false, false, false, false, false] rfl rfl (any_of HT_.out (by kernel_rfl)) (fun _ _ _ h => h) (Or.inl ⟨by rfl, ?_⟩) ?_ ?_
            rotate_left
            · intro w'
              go_simp
              with_reducible rfl
            rotate_left
            · simp only [Act.put, List.setIfInBounds_toArray, List.set_cons_zero, List.set_cons_succ, i64_w, i32_w]
              rfl
            refine pure_ (i := 2) (N := some 13) (v := ?_) (a' := ?_) #[true, true, true, false, false, false, false, false, false, false, false, false, false, false, false, false, false, false, false, false, false, false, false, false, false, false, false, false, false, false, false, false, false, false, false] rfl rfl (any_of HT_.out (by kernel_rfl)) (fun _ _ _ h => h) (Or.inl ⟨by rfl, ?_⟩) ?_ ?_
            rotate_left
            · intro w'
              go_simp
              with_reducible rfl
            rotate_left
            · simp only [Act.put, List.setIfInBounds_toArray, List.set_cons_zero, List.set_cons_succ, i64_w, i32_w]
              rfl
            refine pure_ (i := 3) (N := some 14) (v := ?_) (a' := ?_) #[true, true, true, true, false, false, false, false, false, false, false, false, false, false, false, false, false, false, false, false, false, false, false, false, false, false, false, false, false, false, false, false, false, false, false] rfl rfl (any_of HT_.out (by kernel_rfl)) (fun _ _ _ h => h) (Or.inl ⟨by rfl, ?_⟩) ?_ ?_
            rotate_left
            · intro w'
              go_simp
              with_reducible rfl
            rotate_left
            · simp only [Act.put, List.setIfInBounds_toArray, List.set_cons_zero, List.set_cons_succ, i64_w, i32_w]
              rfl
            refine pure_ (i := 4) (N := some 15) (v := ?_) (a' := ?_) #[true, true, true, true, true, false, false, false, false, false, false, false, false, false, false, false, false, false, false, false, false, false, false, false, false, false, false, false, false, false, false, false, false, false, false] rfl rfl (any_of HT_.out (by kernel_rfl)) (fun _ _ _ h => h) (Or.inl ⟨by rfl, ?_⟩) ?_ ?_
            rotate_left
            · intro w'
              go_simp
              with_reducible rfl
            rotate_left
            · simp only [Act.put, List.setIfInBounds_toArray, List.set_cons_zero, List.set_cons_succ, i64_w, i32_w]
              rfl
            refine pure_ (i := 6) (N := some 17) (v := ?_) (a' := ?_) #[true, true, true, true, true, false, true, false, false, false, false, false, false, false, false, false, false, false, false, false, false, false, false, false, false, false, false, false, false, false, false, false, false, false, false] rfl rfl (any_of HT_.out (by kernel_rfl)) (fun _ _ _ h => h) (Or.inl ⟨by rfl, ?_⟩) ?_ ?_
            rotate_left
            · intro w'
              go_simp
              with_reducible rfl
            rotate_left
            · simp only [Act.put, List.setIfInBounds_toArray, List.set_cons_zero, List.set_cons_succ, i64_w, i32_w]
              rfl
            refine pure_ (i := 7) (N := some 18) (v := ?_) (a' := ?_) #[true, true, true, true, true, false, true, true, false, false, false, false, false, false, false, false, false, false, false, false, false, false, false, false, false, false, false, false, false, false, false, false, false, false, false] rfl rfl (any_of HT_.out (by kernel_rfl)) (fun _ _ _ h => h) (Or.inl ⟨by rfl, ?_⟩) ?_ ?_
            rotate_left
            · intro w'
              go_simp
              with_reducible rfl
            rotate_left
            · simp only [Act.put, List.setIfInBounds_toArray, List.set_cons_zero, List.set_cons_succ, i64_w, i32_w]
              rfl
            refine pure_ (i := 8) (N := some 19) (v := ?_) (a' := ?_) #[true, true, true, true, true, false, true, true, true, false, false, false, false, false, false, false, false, false, false, false, false, false, false, false, false, false, false, false, false, false, false, false, false, false, false] rfl rfl (any_of HT_.out (by kernel_rfl)) (fun _ _ _ h => h) (Or.inl ⟨by rfl, ?_⟩) ?_ ?_
            rotate_left
            · intro w'
              go_simp
              with_reducible rfl
            rotate_left
            · simp only [Act.put, List.setIfInBounds_toArray, List.set_cons_zero, List.set_cons_succ, i64_w, i32_w]
              rfl
            refine pure_ (i := 9) (N := some 20) (v := ?_) (a' := ?_) #[true, true, true, true, true, false, true, true, true, true, false, false, false, false, false, false, false, false, false, false, false, false, false, false, false, false, false, false, false, false, false, false, false, false, false] rfl rfl (any_of HT_.out (by kernel_rfl)) (fun _ _ _ h => h) (Or.inl ⟨by rfl, ?_⟩) ?_ ?_
            rotate_left
            · intro w'
              go_simp
              with_reducible rfl
            rotate_left
            · simp only [Act.put, List.setIfInBounds_toArray, List.set_cons_zero, List.set_cons_succ, i64_w, i32_w]
              rfl
            refine pure_ (i := 11) (N := some 22) (v := ?_) (a' := ?_) #[true, true, true, true, true, false, true, true, true, true, false, true, false, false, false, false, false, false, false, false, false, false, false, false, false, false, false, false, false, false, false, false, false, false, false] rfl rfl (any_of HT_.out (by kernel_rfl)) (fun _ _ _ h => h) (Or.inl ⟨by rfl, ?_⟩) ?_ ?_
            rotate_left
            · intro w'
              go_simp
              with_reducible rfl
            rotate_left
            · simp only [Act.put, List.setIfInBounds_toArray, List.set_cons_zero, List.set_cons_succ, i64_w, i32_w]
              rfl
            refine pure_ (i := 12) (N := some 23) (v := ?_) (a' := ?_) #[true, true, true, true, true, false, true, true, true, true, false, true, true, false, false, false, false, false, false, false, false, false, false, false, false, false, false, false, false, false, false, false, false, false, false] rfl rfl (any_of HT_.out (by kernel_rfl)) (fun _ _ _ h => h) (Or.inl ⟨by rfl, ?_⟩) ?_ ?_
            rotate_left
            · intro w'
              go_simp
              with_reducible rfl
            rotate_left
            · simp only [Act.put, List.setIfInBounds_toArray, List.set_cons_zero, List.set_cons_succ, i64_w, i32_w]
              rfl
            refine pure_ (i := 13) (N := some 24) (v := ?_) (a' := ?_) #[true, true, true, true, true, false, true, true, true, true, false, true, true, true, false, false, false, false, false, false, false, false, false, false, false, false, false, false, false, false, false, false, false, false, false] rfl rfl (any_of HT_.out (by kernel_rfl)) (fun _ _ _ h => h) (Or.inl ⟨by rfl, ?_⟩) ?_ ?_
            rotate_left
            · intro w'
              go_simp
              with_reducible rfl
            rotate_left
            · simp only [Act.put, List.setIfInBounds_toArray, List.set_cons_zero, List.set_cons_succ, i64_w, i32_w]
              rfl
            refine pure_ (i := 14) (N := some 25) (v := ?_) (a' := ?_) #[true, true, true, true, true, false, true, true, true, true, false, true, true, true, true, false, false, false, false, false, false, false, false, false, false, false, false, false, false, false, false, false, false, false, false] rfl rfl (any_of HT_.out (by kernel_rfl)) (fun _ _ _ h => h) (Or.inl ⟨by rfl, ?_⟩) ?_ ?_
            rotate_left
            · intro w'
              go_simp
              with_reducible rfl
            rotate_left
            · simp only [Act.put, List.setIfInBounds_toArray, List.set_cons_zero, List.set_cons_succ, i64_w, i32_w]
              rfl
            refine pure_ (i := 16) (N := some 27) (v := ?_) (a' := ?_) #[true, true, true, true, true, false, true, true, true, true, false, true, true, true, true, false, true, false, false, false, false, false, false, false, false, false, false, false, false, false, false, false, false, false, false] rfl rfl (any_of HT_.out (by kernel_rfl)) (fun _ _ _ h => h) (Or.inl ⟨by rfl, ?_⟩) ?_ ?_
            rotate_left
            · intro w'
              go_simp
              with_reducible rfl
            rotate_left
            · simp only [Act.put, List.setIfInBounds_toArray, List.set_cons_zero, List.set_cons_succ, i64_w, i32_w]
              rfl
            refine pure_ (i := 17) (N := some 28) (v := ?_) (a' := ?_) #[true, true, true, true, true, false, true, true, true, true, false, true, true, true, true, false, true, true, false, false, false, false, false, false, false, false, false, false, false, false, false, false, false, false, false] rfl rfl (any_of HT_.out (by kernel_rfl)) (fun _ _ _ h => h) (Or.inl ⟨by rfl, ?_⟩) ?_ ?_
            rotate_left
            · intro w'
              go_simp
              with_reducible rfl
            rotate_left
            · simp only [Act.put, List.setIfInBounds_toArray, List.set_cons_zero, List.set_cons_succ, i64_w, i32_w]
              rfl
            refine pure_ (i := 18) (N := some 29) (v := ?_) (a' := ?_) #[true, true, true, true, true, false, true, true, true, true, false, true, true, true, true, false, true, true, true, false, false, false, false, false, false, false, false, false, false, false, false, false, false, false, false] rfl rfl (any_of HT_.out (by kernel_rfl)) (fun _ _ _ h => h) (Or.inl ⟨by rfl, ?_⟩) ?_ ?_
            rotate_left
            · intro w'
              go_simp
              with_reducible rfl
            rotate_left
            · simp only [Act.put, List.setIfInBounds_toArray, List.set_cons_zero, List.set_cons_succ, i64_w, i32_w]
              rfl
            refine pure_ (i := 19) (N := some 30) (v := ?_) (a' := ?_) #[true, true, true, true, true, false, true, true, true, true, false, true, true, true, true, false, true, true, true, true, false, false, false, false, false, false, false, false, false, false, false, false, false, false, false] rfl rfl (any_of HT_.out (by kernel_rfl)) (fun _ _ _ h => h) (Or.inl ⟨by rfl, ?_⟩) ?_ ?_
            rotate_left
            · intro w'
              go_simp
              with_reducible rfl
            rotate_left
            · simp only [Act.put, List.setIfInBounds_toArray, List.set_cons_zero, List.set_cons_succ, i64_w, i32_w]
              rfl
            refine pure_ (i := 21) (N := some 32) (v := ?_) (a' := ?_) #[true, true, true, true, true, false, true, true, true, true, false, true, true, true, true, false, true, true, true, true, false, true, false, false, false, false, false, false, false, false, false, false, false, false, false] rfl rfl (any_of HT_.out (by kernel_rfl)) (fun _ _ _ h => h) (Or.inl ⟨by rfl, ?_⟩) ?_ ?_
            rotate_left
            · intro w'
              go_simp
              with_reducible rfl
            rotate_left
            · simp only [Act.put, List.setIfInBounds_toArray, List.set_cons_zero, List.set_cons_succ, i64_w, i32_w]
              rfl
            refine pure_ (i := 22) (N := some 33) (v := ?_) (a' := ?_) #[true, true, true, true, true, false, true, true, true, true, false, true, true, true, true, false, true, true, true, true, false, true, true, false, false, false, false, false, false, false, false, false, false, false, false] rfl rfl (any_of HT_.out (by kernel_rfl)) (fun _ _ _ h => h) (Or.inl ⟨by rfl, ?_⟩) ?_ ?_
            rotate_left
            · intro w'
              go_simp
              with_reducible rfl
            rotate_left
            · simp only [Act.put, List.setIfInBounds_toArray, List.set_cons_zero, List.set_cons_succ, i64_w, i32_w]
              rfl
            refine pure_ (i := 23) (N := some 34) (v := ?_) (a' := ?_) #[true, true, true, true, true, false, true, true, true, true, false, true, true, true, true, false, true, true, true, true, false, true, true, true, false, false, false, false, false, false, false, false, false, false, false] rfl rfl (any_of HT_.out (by kernel_rfl)) (fun _ _ _ h => h) (Or.inl ⟨by rfl, ?_⟩) ?_ ?_
            rotate_left
            · intro w'
              go_simp
              with_reducible rfl
            rotate_left
            · simp only [Act.put, List.setIfInBounds_toArray, List.set_cons_zero, List.set_cons_succ, i64_w, i32_w]
              rfl
            refine pure_ (i := 24) (N := some 35) (v := ?_) (a' := ?_) #[true, true, true, true, true, false, true, true, true, true, false, true, true, true, true, false, true, true, true, true, false, true, true, true, true, false, false, false, false, false, false, false, false, false, false] rfl rfl (any_of HT_.out (by kernel_rfl)) (fun _ _ _ h => h) (Or.inl ⟨by rfl, ?_⟩) ?_ ?_
            rotate_left
            · intro w'
              go_simp
              with_reducible rfl
            rotate_left
            · simp only [Act.put, List.setIfInBounds_toArray, List.set_cons_zero, List.set_cons_succ, i64_w, i32_w]
              rfl
            refine pure_ (i := 26) (N := some 37) (v := ?_) (a' := ?_) #[true, true, true, true, true, false, true, true, true, true, false, true, true, true, true, false, true, true, true, true, false, true, true, true, true, false, true, false, false, false, false, false, false, false, false] rfl rfl (any_of HT_.out (by kernel_rfl)) (fun _ _ _ h => h) (Or.inl ⟨by rfl, ?_⟩) ?_ ?_
            rotate_left
            · intro w'
              go_simp
              with_reducible rfl
            rotate_left
            · simp only [Act.put, List.setIfInBounds_toArray, List.set_cons_zero, List.set_cons_succ, i64_w, i32_w]
              rfl
            refine pure_ (i := 27) (N := some 38) (v := ?_) (a' := ?_) #[true, true, true, true, true, false, true, true, true, true, false, true, true, true, true, false, true, true, true, true, false, true, true, true, true, false, true, true, false, false, false, false, false, false, false] rfl rfl (any_of HT_.out (by kernel_rfl)) (fun _ _ _ h => h) (Or.inl ⟨by rfl, ?_⟩) ?_ ?_
            rotate_left
            · intro w'
              go_simp
              with_reducible rfl
            rotate_left
            · simp only [Act.put, List.setIfInBounds_toArray, List.set_cons_zero, List.set_cons_succ, i64_w, i32_w]
              rfl
            refine pure_ (i := 28) (N := some 39) (v := ?_) (a' := ?_) #[true, true, true, true, true, false, true, true, true, true, false, true, true, true, true, false, true, true, true, true, false, true, true, true, true, false, true, true, true, false, false, false, false, false, false] rfl rfl (any_of HT_.out (by kernel_rfl)) (fun _ _ _ h => h) (Or.inl ⟨by rfl, ?_⟩) ?_ ?_
            rotate_left
            · intro w'
              go_simp
              with_reducible rfl
            rotate_left
            · simp only [Act.put, List.setIfInBounds_toArray, List.set_cons_zero, List.set_cons_succ, i64_w, i32_w]
              rfl
            refine pure_ (i := 29) (N := some 40) (v := ?_) (a' := ?_) #[true, true, true, true, true, false, true, true, true, true, false, true, true, true, true, false, true, true, true, true, false, true, true, true, true, false, true, true, true, true, false, false, false, false, false] rfl rfl (any_of HT_.out (by kernel_rfl)) (fun _ _ _ h => h) (Or.inl ⟨by rfl, ?_⟩) ?_ ?_
            rotate_left
            · intro w'
              go_simp
              with_reducible rfl
            rotate_left
            · simp only [Act.put, List.setIfInBounds_toArray, List.set_cons_zero, List.set_cons_succ, i64_w, i32_w]
              rfl
            refine take_ (i := 5) (N := some 16) (v := ?_) (a' := ?_) #[true, true, true, true, true, true, true, true, true, true, false, true, true, true, true, false, true, true, true, true, false, true, true, true, true, false, true, true, true, true, false, false, false, false, false] rfl rfl (take_ofW HT_.out HW_.out (by kernel_rfl)) (fun _ _ _ h => h) (Or.inl ⟨by rfl, ?_⟩) hHeld ?_ ?_
            rotate_left
            · rintro w' ⟨s0, s1, s2, s3, s4, s5, s6, s7, s8, s9, s10, s11, s12, s13, s14, s15, s16, s17, s18, s19, s20, s21, s22, s23, s24, s25, s26, s27, s28, s29, s30, s31, s32, s33, s34, s35⟩
              go_simp
              with_reducible rfl
            rotate_left
            · simp only [Act.put, List.setIfInBounds_toArray, List.set_cons_zero, List.set_cons_succ, i64_w, i32_w]
              rfl
            refine take_ (i := 10) (N := some 21) (v := ?_) (a' := ?_) #[true, true, true, true, true, true, true, true, true, true, true, true, true, true, true, false, true, true, true, true, false, true, true, true, true, false, true, true, true, true, false, false, false, false, false] rfl rfl (take_ofW HT_.out HW_.out (by kernel_rfl)) (fun _ _ _ h => h) (Or.inl ⟨by rfl, ?_⟩) hHeld ?_ ?_
            rotate_left
            · rintro w' ⟨s0, s1, s2, s3, s4, s5, s6, s7, s8, s9, s10, s11, s12, s13, s14, s15, s16, s17, s18, s19, s20, s21, s22, s23, s24, s25, s26, s27, s28, s29, s30, s31, s32, s33, s34, s35⟩
              go_simp
              with_reducible rfl
            rotate_left
            · simp only [Act.put, List.setIfInBounds_toArray, List.set_cons_zero, List.set_cons_succ, i64_w, i32_w]
              rfl
            refine take_ (i := 15) (N := some 26) (v := ?_) (a' := ?_) #[true, true, true, true, true, true, true, true, true, true, true, true, true, true, true, true, true, true, true, true, false, true, true, true, true, false, true, true, true, true, false, false, false, false, false] rfl rfl (take_ofW HT_.out HW_.out (by kernel_rfl)) (fun _ _ _ h => h) (Or.inl ⟨by rfl, ?_⟩) hHeld ?_ ?_
            rotate_left
            · rintro w' ⟨s0, s1, s2, s3, s4, s5, s6, s7, s8, s9, s10, s11, s12, s13, s14, s15, s16, s17, s18, s19, s20, s21, s22, s23, s24, s25, s26, s27, s28, s29, s30, s31, s32, s33, s34, s35⟩
              go_simp
              with_reducible rfl
            rotate_left
            · simp only [Act.put, List.setIfInBounds_toArray, List.set_cons_zero, List.set_cons_succ, i64_w, i32_w]
              rfl
            refine take_ (i := 20) (N := some 31) (v := ?_) (a' := ?_) #[true, true, true, true, true, true, true, true, true, true, true, true, true, true, true, true, true, true, true, true, true, true, true, true, true, false, true, true, true, true, false, false, false, false, false] rfl rfl (take_ofW HT_.out HW_.out (by kernel_rfl)) (fun _ _ _ h => h) (Or.inl ⟨by rfl, ?_⟩) hHeld ?_ ?_
            rotate_left
            · rintro w' ⟨s0, s1, s2, s3, s4, s5, s6, s7, s8, s9, s10, s11, s12, s13, s14, s15, s16, s17, s18, s19, s20, s21, s22, s23, s24, s25, s26, s27, s28, s29, s30, s31, s32, s33, s34, s35⟩
              go_simp
              with_reducible rfl
            rotate_left
            · simp only [Act.put, List.setIfInBounds_toArray, List.set_cons_zero, List.set_cons_succ, i64_w, i32_w]
              rfl
            refine take_ (i := 25) (N := some 36) (v := ?_) (a' := ?_) #[true, true, true, true, true, true, true, true, true, true, true, true, true, true, true, true, true, true, true, true, true, true, true, true, true, true, true, true, true, true, false, false, false, false, false] rfl rfl (take_ofW HT_.out HW_.out (by kernel_rfl)) (fun _ _ _ h => h) (Or.inl ⟨by rfl, ?_⟩) hHeld ?_ ?_
            rotate_left
            · rintro w' ⟨s0, s1, s2, s3, s4, s5, s6, s7, s8, s9, s10, s11, s12, s13, s14, s15, s16, s17, s18, s19, s20, s21, s22, s23, s24, s25, s26, s27, s28, s29, s30, s31, s32, s33, s34, s35⟩
              go_simp
              with_reducible rfl
            rotate_left
            · simp only [Act.put, List.setIfInBounds_toArray, List.set_cons_zero, List.set_cons_succ, i64_w, i32_w]
              rfl
            refine take_ (i := 30) (N := some 41) (v := ?_) (a' := ?_) #[true, true, true, true, true, true, true, true, true, true, true, true, true, true, true, true, true, true, true, true, true, true, true, true, true, true, true, true, true, true, true, false, false, false, false] rfl rfl (take_ofW HT_.out HW_.out (by kernel_rfl)) (fun _ _ _ h => h) (Or.inl ⟨by rfl, ?_⟩) hHeld ?_ ?_
            rotate_left
            · rintro w' ⟨s0, s1, s2, s3, s4, s5, s6, s7, s8, s9, s10, s11, s12, s13, s14, s15, s16, s17, s18, s19, s20, s21, s22, s23, s24, s25, s26, s27, s28, s29, s30, s31, s32, s33, s34, s35⟩
              go_simp
              with_reducible rfl
            rotate_left
            · simp only [Act.put, List.setIfInBounds_toArray, List.set_cons_zero, List.set_cons_succ, i64_w, i32_w]
              rfl
            refine pure_ (i := 31) (N := some 42) (v := ?_) (a' := ?_) #[true, true, true, true, true, true, true, true, true, true, true, true, true, true, true, true, true, true, true, true, true, true, true, true, true, true, true, true, true, true, true, true, false, false, false] rfl rfl (any_of HT_.out (by kernel_rfl)) (fun _ _ _ h => h) (Or.inl ⟨by rfl, ?_⟩) ?_ ?_
            rotate_left
            · intro w'
              go_simp
              with_reducible rfl
            rotate_left
            · simp only [Act.put, List.setIfInBounds_toArray, List.set_cons_zero, List.set_cons_succ, i64_w, i32_w]
              rfl
            refine last_ (i := 32) (N := some 43) #[true, true, true, true, true, true, true, true, true, true, true, true, true, true, true, true, true, true, true, true, true, true, true, true, true, true, true, true, true, true, true, true, true, false, false] rfl rfl (one_of HT_.out (by kernel_rfl)) (by decide) (fun K hK => ?_)
            refine value_ (w1 := ?_) (v := ?_) (by rfl) rfl ?_ ?_
            rotate_left 2
            · go_simp
              constructor
              · rfl
              · rfl
            refine hK.out _ _ ?_
            clear hK K
            refine norm_ (a' := ?_) ?_ ?_
            rotate_left
            · show Act.put _ (some 43) _ = _
              simp only [Act.put, List.setIfInBounds_toArray, List.set_cons_zero, List.set_cons_succ, i64_w, i32_w]
              rfl
            refine last_ (i := 33) (N := some 44) #[true, true, true, true, true, true, true, true, true, true, true, true, true, true, true, true, true, true, true, true, true, true, true, true, true, true, true, true, true, true, true, true, true, true, false] rfl rfl (one_of HT_.out (by kernel_rfl)) (by decide) (fun K hK => ?_)
            refine Kd.N_append_step k47 (w0 := w) w.heap.size (by rfl) (.tmp 11) (.tmp 43) 28 47 (.agg #[(.int .i64 0), (.int .i64 0), (.int .i64 0), (.int .i64 0), (.slice none 0 0), (.slice none 0 0)]) 80 rfl Try.underlying28 info47 rfl (by decide) (by omega) u3 x3_1 (⟨(rd_T33 l0 x4_1).f0, (rd_T33 l0 x4_1).f1, (rd_T33 l0 x4_1).f2, (rd_T33 l0 x4_1).f3, (rd_T33 l0 x4_1).f4, (rd_T33 l0 x4_1).f5⟩ : S47) [.int .i64 ((rd_T33 l0 x4_1).f0), .int .i64 ((rd_T33 l0 x4_1).f1), .int .i64 ((rd_T33 l0 x4_1).f2), .int .i64 ((rd_T33 l0 x4_1).f3), .slice A109_4 ((rd_T33 l0 x4_1).f4).length c109_4, .slice A109_5 ((rd_T33 l0 x4_1).f5).length c109_5] (fun k_ => (P0_ k_ ∨ w.heap.size ≤ k_)) (fun k_ => ((fun k_ => (P0_ k_ ∨ w.heap.size ≤ k_))) k_ ∧ some k_ ≠ (u3 : Value).ownBlock) rfl rfl ?aP (fun _ hk => hk) ?aF ?aO ?aB ?aS ?aL ?_
            (case aP => exact (k47_mkF _ _ (⟨(rd_T33 l0 x4_1).f0, (rd_T33 l0 x4_1).f1, (rd_T33 l0 x4_1).f2, (rd_T33 l0 x4_1).f3, (rd_T33 l0 x4_1).f4, (rd_T33 l0 x4_1).f5⟩ : S47) (Kd.V_reads' (Kd.V_mono (ok' := (fun k_ => ((fun k_ => (P0_ k_ ∨ w.heap.size ≤ k_))) k_ ∧ some k_ ≠ (u3 : Value).ownBlock)) (HL113_4.out) (fun k_ hk => ⟨hk.1, hk.2⟩))).2.1 (Kd.V_F (Kd.V_mono (ok' := (fun k_ => ((fun k_ => (P0_ k_ ∨ w.heap.size ≤ k_))) k_ ∧ some k_ ≠ (u3 : Value).ownBlock)) (HL113_4.out) (fun k_ hk => ⟨hk.1, hk.2⟩))) (Kd.V_reads' (Kd.V_mono (ok' := (fun k_ => ((fun k_ => (P0_ k_ ∨ w.heap.size ≤ k_))) k_ ∧ some k_ ≠ (u3 : Value).ownBlock)) (HL114_5.out) (fun k_ hk => ⟨hk.1, hk.2⟩))).2.1 (Kd.V_F (Kd.V_mono (ok' := (fun k_ => ((fun k_ => (P0_ k_ ∨ w.heap.size ≤ k_))) k_ ∧ some k_ ≠ (u3 : Value).ownBlock)) (HL114_5.out) (fun k_ hk => ⟨hk.1, hk.2⟩)))))
            (case aB => exact (by repeat (first | (with_reducible first | exact HB.out | apply below_alloc | apply pw_below_drewN | apply below_drew1) | exact HB.out)))
            (case aF => exact (fun k_ hk => (.inr (Nat.le_trans (below_size (by repeat (first | (with_reducible first | exact HB.out | apply below_alloc | apply pw_below_drewN | apply below_drew1) | exact HB.out))) hk))))
            (case aO => exact (by (with_reducible repeat (first | apply Kd.N_alloc | apply Kd.N_drewN | apply Kd.N_drew)); exact HO_3.out))
            (case aS => exact (below_size (by repeat (first | (with_reducible first | exact HB.out | apply below_alloc | apply pw_below_drewN | apply below_drew1) | exact HB.out))))
            (case aL => have := LMc4.out; omega)
            intro v116 w6 ho hb hg hat
            rw [← Ny115.out] at ho
            have n0_ := Aside0.mk (Kd.V_afterv (ok := (fun k_ => (P0_ k_ ∨ w.heap.size ≤ k_))) (by (with_reducible repeat (first | apply Kd.V_alloc | apply Kd.V_drewN | apply Kd.V_drew)); exact HO_0.out) hg hat)
            have n1_ := Aside0.mk (Kd.V_afterv (ok := (fun k_ => (P0_ k_ ∨ w.heap.size ≤ k_))) (by (with_reducible repeat (first | apply Kd.V_alloc | apply Kd.V_drewN | apply Kd.V_drew)); exact HL109_4.out) hg hat)
            have n2_ := Aside0.mk (Kd.V_afterv (ok := (fun k_ => (P0_ k_ ∨ w.heap.size ≤ k_))) (by (with_reducible repeat (first | apply Kd.V_alloc | apply Kd.V_drewN | apply Kd.V_drew)); exact HL109_5.out) hg hat)
            have n3_ := Aside0.mk (Kd.V_afterv (ok := (fun k_ => (P0_ k_ ∨ w.heap.size ≤ k_))) (by (with_reducible repeat (first | apply Kd.V_alloc | apply Kd.V_drewN | apply Kd.V_drew)); exact HL110_4.out) hg hat)
            have n4_ := Aside0.mk (Kd.V_afterv (ok := (fun k_ => (P0_ k_ ∨ w.heap.size ≤ k_))) (by (with_reducible repeat (first | apply Kd.V_alloc | apply Kd.V_drewN | apply Kd.V_drew)); exact HL110_5.out) hg hat)
            have n5_ := Aside0.mk (Kd.V_afterv (ok := (fun k_ => (P0_ k_ ∨ w.heap.size ≤ k_))) (by (with_reducible repeat (first | apply Kd.V_alloc | apply Kd.V_drewN | apply Kd.V_drew)); exact HL111_4.out) hg hat)
            have n6_ := Aside0.mk (Kd.V_afterv (ok := (fun k_ => (P0_ k_ ∨ w.heap.size ≤ k_))) (by (with_reducible repeat (first | apply Kd.V_alloc | apply Kd.V_drewN | apply Kd.V_drew)); exact HL111_5.out) hg hat)
            have n7_ := Aside0.mk (Kd.V_afterv (ok := (fun k_ => (P0_ k_ ∨ w.heap.size ≤ k_))) (by (with_reducible repeat (first | apply Kd.V_alloc | apply Kd.V_drewN | apply Kd.V_drew)); exact HL112_4.out) hg hat)
            have n8_ := Aside0.mk (Kd.V_afterv (ok := (fun k_ => (P0_ k_ ∨ w.heap.size ≤ k_))) (by (with_reducible repeat (first | apply Kd.V_alloc | apply Kd.V_drewN | apply Kd.V_drew)); exact HL112_5.out) hg hat)
            have n9_ := Aside0.mk (Kd.V_afterv (ok := (fun k_ => (P0_ k_ ∨ w.heap.size ≤ k_))) (by (with_reducible repeat (first | apply Kd.V_alloc | apply Kd.V_drewN | apply Kd.V_drew)); exact HL113_4.out) hg hat)
            have n10_ := Aside0.mk (Kd.V_afterv (ok := (fun k_ => (P0_ k_ ∨ w.heap.size ≤ k_))) (by (with_reducible repeat (first | apply Kd.V_alloc | apply Kd.V_drewN | apply Kd.V_drew)); exact HL113_5.out) hg hat)
            have n11_ := Aside0.mk (Kd.V_afterv (ok := (fun k_ => (P0_ k_ ∨ w.heap.size ≤ k_))) (by (with_reducible repeat (first | apply Kd.V_alloc | apply Kd.V_drewN | apply Kd.V_drew)); exact HL114_4.out) hg hat)
            have n12_ := Aside0.mk (Kd.V_afterv (ok := (fun k_ => (P0_ k_ ∨ w.heap.size ≤ k_))) (by (with_reducible repeat (first | apply Kd.V_alloc | apply Kd.V_drewN | apply Kd.V_drew)); exact HL114_5.out) hg hat)
            have n13_ := Aside0.mk (hb)
            have n14_ := Aside0.mk (ho)
            clear HO_0
            clear HL109_4
            clear HL109_5
            clear HL110_4
            clear HL110_5
            clear HL111_4
            clear HL111_5
            clear HL112_4
            clear HL112_5
            clear HL113_4
            clear HL113_5
            clear HL114_4
            clear HL114_5
            clear HB
            clear HO_3
            have HO_0 := n0_
            have HL109_4 := n1_
            have HL109_5 := n2_
            have HL110_4 := n3_
            have HL110_5 := n4_
            have HL111_4 := n5_
            have HL111_5 := n6_
            have HL112_4 := n7_
            have HL112_5 := n8_
            have HL113_4 := n9_
            have HL113_5 := n10_
            have HL114_4 := n11_
            have HL114_5 := n12_
            have HB := n13_
            have HO117 := n14_
            clear n0_ n1_ n2_ n3_ n4_ n5_ n6_ n7_ n8_ n9_ n10_ n11_ n12_ n13_ n14_
            clear ho hb hg hat
            refine hK.out _ _ ?_
            clear hK K
            refine norm_ (a' := ?_) ?_ ?_
            rotate_left
            · show Act.put _ (some 44) _ = _
              simp only [Act.put, List.setIfInBounds_toArray, List.set_cons_zero, List.set_cons_succ, i64_w, i32_w]
              rfl
            refine pure_ (i := 34) (N := some 3) (v := ?_) (a' := ?_) #[true, true, true, true, true, true, true, true, true, true, true, true, true, true, true, true, true, true, true, true, true, true, true, true, true, true, true, true, true, true, true, true, true, true, true] rfl rfl (any_of HT_.out (by kernel_rfl)) (fun _ _ _ h => h) (Or.inl ⟨by rfl, ?_⟩) ?_ ?_
            rotate_left
            · intro w'
              go_simp
              with_reducible rfl
            rotate_left
            · simp only [Act.put, List.setIfInBounds_toArray, List.set_cons_zero, List.set_cons_succ, i64_w, i32_w]
              rfl
            refine done_ (done_of HT_.out (by kernel_rfl)) ?_
            try go_wp2
            go_roundg k1
            case measure => have := HK1.out; omega
            case rel => exact ⟨(y115), (wrap64 (x4_1 + 1)), (by first | rfl | (simp; done) | (simp [*]; done)), H', ⟨by have := HK1.out; omega⟩, ⟨by (with_reducible repeat (first | apply Kd.V_alloc | apply Kd.V_drewN | apply Kd.V_drew)); exact HO_0.out⟩, ⟨by (with_reducible repeat (first | apply Kd.N_alloc | apply Kd.N_drewN | apply Kd.N_drew)); exact HO117.out⟩, ⟨by repeat (first | (with_reducible first | exact HB.out | apply below_alloc | apply pw_below_drewN | apply below_drew1) | exact HB.out)⟩⟩
          · rw [if_neg c4] at H
            exact absurd H (by simp)
        · rw [if_neg c3] at H
          exact absurd H (by simp)
      · rw [if_neg c2] at H
        have c2b0 : decide (x4_1 < (l0.length : Int)) = false := decide_eq_false c2
        clear c2
        obtain rfl := Option.some.inj H
        go_wp2
        go_ret
        exact ⟨_, by first | rfl | (simp [errW_none, errW_some] <;> rfl) | (simp [*, errW_none, errW_some] <;> rfl), by (with_reducible repeat (first | apply Kd.N_alloc | apply Kd.N_drewN | apply Kd.N_drew)); exact HO_3.out, by repeat (first | (with_reducible first | exact HB.out | apply below_alloc | apply pw_below_drewN | apply below_drew1) | exact HB.out)⟩

end Go.Proofs.Ythnefjkpjhfkgaa.PScriptWrites
