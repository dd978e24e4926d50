/- script.Read at any bytes. Written by gen_script_c14.py. -/
import Derived.Test.YthnefjkpjhfkgaaC13
namespace Go.Proofs.Ythnefjkpjhfkgaa.Core
open Go.RowKit Go.Proofs.YthnefjkpjhfkgaaW.PrintWords Go.Proofs.YthnefjkpjhfkgaaW.PrintMore Go.Proofs.Ythnefjkpjhfkgaa.PScriptWrites
set_option linter.unusedVariables false
set_option linter.unusedSimpArgs false
theorem Rv.drew_ {w W : World} {vo v : Value} {l : List S47} {rs : List Int} (h : Rv w W vo v l rs) : Rv w W.drew vo v l rs :=
  ⟨Kd.N_grown (row := none) h.row ⟨rfl, rfl, rfl, Nat.le_refl _, fun _ _ _ => rfl⟩ (fun _ _ e => by cases e), h.rd.keep0 ⟨rfl, rfl, rfl, Nat.le_refl _, fun _ _ _ => rfl⟩, h.out, h.err⟩
theorem Rv.start (w : World) (b : List Int) (A : Option Addr) (c : Nat) (hC : (Kd.int .u8).C w A b.length b) (hc : b.length ≤ c) :
    Rv w (((w.alloc (.cells #[.slice none 0 0] 28)).alloc (.cells #[.int .i64 0] 25)).alloc (.cells #[.slice A b.length c] 52)) (.slice none 0 0) (.slice none 0 0) [] b := by
  have s1 : (w.alloc (.cells #[.slice none 0 0] 28)).heap.size = w.heap.size + 1 := by simp
  have s2 : ((w.alloc (.cells #[.slice none 0 0] 28)).alloc (.cells #[.int .i64 0] 25)).heap.size = w.heap.size + 2 := by simp
  refine ⟨Kd.R_N (Kd.R_nil _ _ _ _ _), ⟨A, c, ?_, hc, hC, ((((Below.refl _ _).alloc (Nat.le_refl _) _).alloc (by rw [s1]; omega) _).alloc (by rw [s2]; omega) _), by omega⟩, ?_, ?_⟩
  · have := heap_alloc_new ((w.alloc (.cells #[.slice none 0 0] 28)).alloc (.cells #[.int .i64 0] 25)) (.cells #[.slice A b.length c] 52)
    rwa [s2] at this
  · rw [Below.heap_alloc _ _ _ (by rw [s2]; omega), Below.heap_alloc _ _ _ (by rw [s1]; omega)]
    exact heap_alloc_new _ _
  · rw [Below.heap_alloc _ _ _ (by rw [s2]; omega)]
    have := heap_alloc_new (w.alloc (.cells #[.slice none 0 0] 28)) (.cells #[.int .i64 0] 25)
    rwa [s1] at this
/-- What Read comes to. -/
def ReadOut (w : World) (b : List Int) (e : Ending) (w' : World) : Prop :=
  (∃ l A c, Steps b l [] ∧ e = .returned (.tuple #[.slice A l.length c, .int .i64 0]) ∧ l.length ≤ c ∧ Kd.C k47 w' A l.length l ∧ Below w.heap.size w w') ∨
  (∃ l rs n, Steps b l rs ∧ dec rs = .error n ∧ rs ≠ [] ∧ e = .returned (.tuple #[.slice none 0 0, .int .i64 n]) ∧ Below w.heap.size w w')
theorem Steps.len {b rs : List Int} {l : List S47} (h : Steps b l rs) : l.length + rs.length ≤ b.length := by
  induction h with
  | nil => simp
  | snoc _ hd ih => have := dec_less hd; rw [List.length_append, List.length_singleton]; omega
theorem dec_drop {rs r : List Int} {x : S47} (h : dec rs = .ok (x, r)) : ∃ k, r = rs.drop k := by
  cases rs with
  | nil => simp [dec] at h
  | cons k rs =>
    simp only [dec] at h
    repeat' (split at h)
    all_goals (try (cases h; done))
    all_goals (simp only [Except.ok.injEq, Prod.mk.injEq] at h; obtain ⟨_, rfl⟩ := h)
    all_goals (first | exact ⟨1, rfl⟩ | exact ⟨2, rfl⟩ | exact ⟨3, rfl⟩ | skip)
    all_goals
      have hq := (by assumption : List.drop _ _ = _ :: _)
      have h2 := congrArg (List.drop 1) hq
      rw [List.drop_drop] at h2
      simp only [List.drop_succ_cons, List.drop_zero] at h2
      rw [← h2, List.drop_drop]
      exact ⟨_, (show List.drop (_ + 3) (_ :: _ :: _ :: _) = List.drop _ _ from rfl).symm⟩
theorem Byts.dec {rs r : List Int} {x : S47} (h : Byts rs) (hd : dec rs = .ok (x, r)) : Byts r := by
  obtain ⟨k, rfl⟩ := dec_drop hd
  exact h.drop k
theorem Steps.byts {b rs : List Int} {l : List S47} (h : Steps b l rs) (hb : Byts b) : Byts rs := by
  induction h with
  | nil => exact hb
  | snoc _ hd ih => exact ih.dec hd
set_option maxHeartbeats 4000000 in
set_option maxRecDepth 100000 in
theorem Read_any (b : List Int) (A : Option Addr) (c : Nat) (w : World) (hC : (Kd.int .u8).C w A b.length b) (hc : b.length ≤ c) (hby : Byts b) (hn : b.length ≤ 1000000) :
    Calls Try.prog 14 #[.slice A b.length c] w (ReadOut w b) := by
  have HBY := Lib.hid hby
  have HN := Lib.hid hn
  have HS := Lib.hid (Rv.start w b A c hC hc)
  clear hC hc hby hn
  have hmf : ∀ (fn : Fn) (first cap : Array Value) (w : World), (Instr.makeFunc fn first cap).run Try.prog w = .ok (.func fn first cap) w := fun _ _ _ _ => rfl
  go_enter_defers Try.func14, Try.ntmps14
  go_wp2_with fail
  generalize ((w.alloc (.cells #[.slice none 0 0] 28)).alloc (.cells #[.int .i64 0] 25)).alloc (.cells #[.slice A b.length c] 52) = W0 at *
  go_loopg [] b.length (fun k W => ∃ v l rs, rs.length = k ∧ Steps b l rs ∧ Hid (Rv w W v v l rs))
  case atStart => exact ⟨_, [], b, rfl, .nil, HS⟩
  case round =>
    obtain ⟨v, l, rs, hk, hst, S0⟩ := hrel
    have HK := Lib.hid hk
    have HST := Lib.hid hst
    obtain ⟨A, c, rfl⟩ := Kd.N_slice S0.out.row
    obtain ⟨n, hn⟩ : ∃ n, n = l.length := ⟨_, rfl⟩
    rw [← hn] at S0
    clear hk hst hn HS
    have HB : Hid (Byts rs) := HST.out.byts HBY.out
    obtain ⟨M, hM⟩ : ∃ M, M = wr.heap.size := ⟨_, rfl⟩
    have HM : Hid (M ≤ wr.heap.size) := by rw [hM]; exact Nat.le_refl _
    have HOWN : Hid (∀ k, (Value.slice A n c).ownBlock = some k → k < M) := by rw [hM]; exact Kd.N_lt S0.out.row
    have HMW : Hid (w.heap.size + 2 ≤ M) := by rw [hM]; exact Nat.le_of_lt S0.out.rd.lt
    have HLL : Hid (l.length ≤ 1000000) := by have := HST.out.len; have := HN.out; show _ ≤ _; omega
    clear hM
    obtain ⟨Ar, cr, hrb, hrc, _⟩ := S0.out.rd
    have q0 := cell_of_blk hrb 0 rfl
    clear hrb hrc
    by_cases hlt : 0 < rs.length
    · cases hd : dec rs with
      | ok p =>
        obtain ⟨x, r⟩ := p
        have HD := Lib.hid hd
        clear hd
        go_wp2_with fail
        refine Reg.wp_region_phase (by kernel_rfl) [2, 3, 4, 5] (fun i => match i with | 0 => fun v => v = .slice A n c | 1 => fun v => v = .pointer (some ⟨w.heap.size + 2, 0, none⟩) | _ => fun _ => True) (fun k f W => match k with | 0 => M ≤ W.heap.size ∧ Rv w W (.slice A n c) (.slice A n c) l rs | 1 => ∃ A4 k4 A5 k5, f 17 = .agg #[.int .i64 x.f0, .int .i64 x.f1, .int .i64 x.f2, .int .i64 x.f3, .slice A4 x.f4.length k4, .slice A5 x.f5.length k5] ∧ Kd.FK k47 W (fun k => M < k) x [.int .i64 x.f0, .int .i64 x.f1, .int .i64 x.f2, .int .i64 x.f3, .slice A4 x.f4.length k4, .slice A5 x.f5.length k5] ∧ M ≤ W.heap.size ∧ Rv w W (.slice A n c) (.slice A n c) l r | 2 => ∃ W1 A4 k4 A5 k5, W = W1.alloc (.cells #[.int .i64 x.f0, .int .i64 x.f1, .int .i64 x.f2, .int .i64 x.f3, .slice A4 x.f4.length k4, .slice A5 x.f5.length k5] 47) ∧ f 18 = .slice (some ⟨W1.heap.size, 0, none⟩) 1 1 ∧ Kd.FK k47 W1 (fun k => M < k) x [.int .i64 x.f0, .int .i64 x.f1, .int .i64 x.f2, .int .i64 x.f3, .slice A4 x.f4.length k4, .slice A5 x.f5.length k5] ∧ M ≤ W1.heap.size ∧ Rv w W1 (.slice A n c) (.slice A n c) l r | 3 => ∃ A' n' c', f 19 = .slice A' n' c' ∧ Rv w W (.slice A n c) (.slice A' n' c') (l ++ [x]) r | _ => ∃ v, Rv w W v v (l ++ [x]) r) (by kernel_rfl) (by kernel_rfl) (by decide) (by decide) ?hJ ?h0 ?pure ?act ?fin
        case hJ => (intro k f f' W h hj; match k, hj with | 0, hj => exact hj | 1, hj => (obtain ⟨A4, k4, A5, k5, h1, h2⟩ := hj; refine ⟨A4, k4, A5, k5, ?_, h2⟩; rw [← h 0 (by omega) (by decide) 17 (by kernel_rfl)]; exact h1) | 2, hj => (obtain ⟨W1, A4, k4, A5, k5, h0, h1, h2⟩ := hj; refine ⟨W1, A4, k4, A5, k5, h0, ?_, h2⟩; rw [← h 1 (by omega) (by decide) 18 (by kernel_rfl)]; exact h1) | 3, hj => (obtain ⟨A', n', c', h1, h2⟩ := hj; refine ⟨A', n', c', ?_, h2⟩; rw [← h 2 (by omega) (by decide) 19 (by kernel_rfl)]; exact h1) | k + 4, hj => exact hj)
        case h0 => exact ⟨HM.out, S0.out.drew_⟩
        case pure =>
          intro i o k a w_ ho hE hk hmc hf hst hkn hj
          have hi : i < 6 := (Array.getElem?_eq_some_iff.1 ho).1
          obtain rfl | rfl : i = 0 ∨ i = 1 := by
            simp only [List.mem_cons, List.not_mem_nil, or_false, not_or] at hE
            omega
          · obtain rfl := Reg.oper_eq ho rfl
            have e2 : a.eval (.tmp 2) = .pointer (some ⟨w.heap.size, 0, none⟩) := (hf.eval 2 (by kernel_rfl)).trans rfl
            have g2 := Reg.eval_getD e2
            have c0' : w_.cell? ⟨w.heap.size, 0, none⟩ = some (.slice A n c) := by
              match k, hj with
              | 0, hj => exact cell_of_blk (Rv.out hj.2) 0 rfl
              | 1, hj => obtain ⟨_, _, _, _, _, _, _, hj⟩ := hj; exact cell_of_blk (Rv.out hj) 0 rfl
              | 2, hj =>
                obtain ⟨W1, _, _, _, _, rfl, _, _, _, hj⟩ := hj
                rw [World.cell?_alloc_past _ _ _ (blk_lt (Rv.out hj))]
                exact cell_of_blk (Rv.out hj) 0 rfl
              | 3, hj => obtain ⟨_, _, _, _, hj⟩ := hj; exact cell_of_blk (Rv.out hj) 0 rfl
              | k + 4, hj => exact absurd hmc (by simp only [List.length_cons, List.length_nil] at hk; have hk0 : k = 0 := (by omega); subst hk0; exact Bool.eq_false_iff.1 (by kernel_rfl))
            exact Reg.op_value rfl rfl (by simp only [List.getElem_toArray, List.getElem_cons_zero, List.getElem_cons_succ, execOp, e2]; go_simp) ⟨_, rfl, rfl, hj⟩
          · obtain rfl := Reg.oper_eq ho rfl
            have e4 : a.eval (.tmp 4) = .pointer (some ⟨w.heap.size + 2, 0, none⟩) := (hf.eval 4 (by kernel_rfl)).trans rfl
            have g4 := Reg.eval_getD e4
            exact Reg.op_value rfl rfl (by simp only [List.getElem_toArray, List.getElem_cons_zero, List.getElem_cons_succ, execOp, e4]; go_simp) ⟨_, rfl, rfl, hj⟩
        case act =>
          intro k o a w_ hk ho hf hst hkn hj
          obtain rfl | rfl | rfl | rfl : k = 0 ∨ k = 1 ∨ k = 2 ∨ k = 3 := by simp only [List.length_cons, List.length_nil] at hk; omega
          · obtain rfl := Reg.oper_eq ho rfl
            have e16 : a.eval (.tmp 16) = .pointer (some ⟨w.heap.size + 2, 0, none⟩) := hkn.eval 1 16 (by kernel_rfl) (by kernel_rfl)
            have g16 := Reg.eval_getD e16
            obtain ⟨hM, hj'⟩ : M ≤ w_.heap.size ∧ Rv w w_ (.slice A n c) (.slice A n c) l rs := hj
            refine Reg.op_call (f := 21) (args := #[.pointer (some ⟨w.heap.size + 2, 0, none⟩)]) (w' := w_) rfl rfl (by simp only [List.getElem_toArray, List.getElem_cons_zero, List.getElem_cons_succ, execOp, e16]; go_simp) ((act_any w w_ (w.heap.size + 2) rs HB.out hj'.rd).mono ?_)
            rw [HD.out]
            rintro e W4 ⟨cs, rfl, hfk, hr4, hg4⟩
            obtain ⟨A4, k4, A5, k5, rfl, _, _, _, _⟩ := k47_openF hfk
            refine .inl ⟨_, rfl, _, rfl, trivial, A4, k4, A5, k5, ?_, Kd.FK_mono hfk (fun k hk => by omega), Nat.le_trans hM hg4.size, hj'.step hr4 hg4⟩
            exact Reg.val_put_in hf (by kernel_rfl)
          · obtain rfl := Reg.oper_eq ho rfl
            obtain ⟨A4, k4, A5, k5, hv, hfk, hM, hj'⟩ : ∃ A4 k4 A5 k5, Reg.val a 17 = .agg #[.int .i64 x.f0, .int .i64 x.f1, .int .i64 x.f2, .int .i64 x.f3, .slice A4 x.f4.length k4, .slice A5 x.f5.length k5] ∧ Kd.FK k47 w_ (fun k => M < k) x [.int .i64 x.f0, .int .i64 x.f1, .int .i64 x.f2, .int .i64 x.f3, .slice A4 x.f4.length k4, .slice A5 x.f5.length k5] ∧ M ≤ w_.heap.size ∧ Rv w w_ (.slice A n c) (.slice A n c) l r := hj
            have e17 : a.eval (.tmp 17) = .agg #[.int .i64 x.f0, .int .i64 x.f1, .int .i64 x.f2, .int .i64 x.f3, .slice A4 x.f4.length k4, .slice A5 x.f5.length k5] := (Reg.eval_val a 17).trans hv
            have g17 := Reg.eval_getD e17
            refine Reg.op_value (v := .slice (some ⟨w_.heap.size, 0, none⟩) 1 1) (w' := w_.alloc (.cells #[.int .i64 x.f0, .int .i64 x.f1, .int .i64 x.f2, .int .i64 x.f3, .slice A4 x.f4.length k4, .slice A5 x.f5.length k5] 47)) rfl rfl (by simp only [List.getElem_toArray, List.getElem_cons_zero, List.getElem_cons_succ, execOp, e17]; go_simp) ⟨_, rfl, trivial, w_, A4, k4, A5, k5, rfl, ?_, hfk, hM, hj'⟩
            exact Reg.val_put_in hf (by kernel_rfl)
          · obtain rfl := Reg.oper_eq ho rfl
            have e15 : a.eval (.tmp 15) = .slice A n c := hkn.eval 0 15 (by kernel_rfl) (by kernel_rfl)
            have g15 := Reg.eval_getD e15
            obtain ⟨W1, A4, k4, A5, k5, rfl, hv, hfk, hM, hj'⟩ : ∃ W1 A4 k4 A5 k5, w_ = W1.alloc (.cells #[.int .i64 x.f0, .int .i64 x.f1, .int .i64 x.f2, .int .i64 x.f3, .slice A4 x.f4.length k4, .slice A5 x.f5.length k5] 47) ∧ Reg.val a 18 = .slice (some ⟨W1.heap.size, 0, none⟩) 1 1 ∧ Kd.FK k47 W1 (fun k => M < k) x [.int .i64 x.f0, .int .i64 x.f1, .int .i64 x.f2, .int .i64 x.f3, .slice A4 x.f4.length k4, .slice A5 x.f5.length k5] ∧ M ≤ W1.heap.size ∧ Rv w W1 (.slice A n c) (.slice A n c) l r := hj
            have e18 : a.eval (.tmp 18) = .slice (some ⟨W1.heap.size, 0, none⟩) 1 1 := (Reg.eval_val a 18).trans hv
            have hzz := blk_lt hj'.err
            have hrl := hj'.rd.lt
            have how := HOWN.out
            refine Reg.op_wp rfl rfl ?_
            refine Kd.N_append_step k47 (w0 := w) w.heap.size rfl (.tmp 15) (.tmp 18) 28 47 (.agg #[.int .i64 0, .int .i64 0, .int .i64 0, .int .i64 0, .slice none 0 0, .slice none 0 0]) 80 rfl Try.underlying28 info47 rfl (by decide) (by omega) (.slice A n c) l x [.int .i64 x.f0, .int .i64 x.f1, .int .i64 x.f2, .int .i64 x.f3, .slice A4 x.f4.length k4, .slice A5 x.f5.length k5] (fun k => w.heap.size + 3 ≤ k) (fun k => M < k) e15 e18 hfk (fun k hk => ⟨by have := HMW.out; omega, fun he => by have := how k he.symm; omega⟩) (fun k hk => by omega) hj'.row hj'.rd.below hj'.rd.below.size (by have := HLL.out; omega) ?_
            intro v5 W5 hr5 hb5 hg5 hat5
            obtain ⟨A', c', rfl⟩ := Kd.N_slice hr5
            have hown5 := hj'.row.1
            refine ⟨_, rfl, trivial, A', (l ++ [x]).length, c', ?_, hr5, hj'.rd.keep hg5 (fun k e => by have := hown5 k e; omega), blk_grown hj'.out hg5 (fun e => by have := hown5 _ e.symm; omega), blk_grown hj'.err hg5 (fun e => by have := hown5 _ e.symm; omega)⟩
            exact Reg.val_put_in hf (by kernel_rfl)
          · obtain rfl := Reg.oper_eq ho rfl
            have e2 : a.eval (.tmp 2) = .pointer (some ⟨w.heap.size, 0, none⟩) := (hf.eval 2 (by kernel_rfl)).trans rfl
            have g2 := Reg.eval_getD e2
            obtain ⟨A', n', c', hv, hj'⟩ : ∃ A' n' c', Reg.val a 19 = .slice A' n' c' ∧ Rv w w_ (.slice A n c) (.slice A' n' c') (l ++ [x]) r := hj
            have e19 : a.eval (.tmp 19) = .slice A' n' c' := (Reg.eval_val a 19).trans hv
            have g19 := Reg.eval_getD e19
            have q4 : w_.cell? ⟨w.heap.size, 0, none⟩ = some (.slice A n c) := cell_of_blk hj'.out 0 rfl
            have q5 := frozen_of_blk hj'.out 0
            refine Reg.op_unit (w' := w_.setCell ⟨w.heap.size, 0, none⟩ (.slice A' n' c')) rfl rfl (by simp only [List.getElem_toArray, List.getElem_cons_zero, List.getElem_cons_succ, execOp, e2, e19]; go_simp) ⟨_, rfl, trivial, .slice A' n' c', ?_, ?_, blk_set hj'.out _, ?_⟩
            · exact Kd.N_grown hj'.row (grown_set 0 _) (fun k hk e => by injection e with e; omega)
            · exact hj'.rd.keep (grown_set 0 _) (fun k e => by injection e with e; omega)
            · rw [Below.heap_setCell _ _ _ _ (by show w.heap.size + 1 ≠ w.heap.size; omega)]; exact hj'.err
        case fin =>
          intro a w_ hf hkn hj
          have e15 : Reg.val a 15 = _ := hkn 0 15 (by show _ < _; decide) (by kernel_rfl)
          have e16 : Reg.val a 16 = _ := hkn 1 16 (by show _ < _; decide) (by kernel_rfl)
          rw [Reg.frm_fold hf [15, 16, 17, 18, 19] (by kernel_rfl) (by kernel_rfl)]
          simp only [List.foldl_cons, List.foldl_nil, Act.put, List.setIfInBounds_toArray, List.set_cons_zero, List.set_cons_succ, e15, e16]
          generalize Reg.val a 17 = v17_ at *
          generalize Reg.val a 18 = v18_ at *
          generalize Reg.val a 19 = v19_ at *
          clear hkn hf e15 e16
          obtain ⟨v, hj⟩ : ∃ v, Rv w w_ v v (l ++ [x]) r := hj
          have S1 := Lib.hid hj
          clear hj S0
          go_wp2_with fail
          go_roundg r.length
          case measure => have := HK.out; have := dec_less HD.out; omega
          case rel => exact ⟨v, l ++ [x], r, rfl, .snoc HST.out HD.out, S1⟩

      | error m =>
        have HD := Lib.hid hd
        clear hd
        go_wp2_with fail
        refine Reg.wp_region_phase (by kernel_rfl) [2, 3, 4, 5] (fun i => match i with | 0 => fun v => v = .slice A n c | 1 => fun v => v = .pointer (some ⟨w.heap.size + 2, 0, none⟩) | _ => fun _ => True) (fun k f W => match k with | 0 => M ≤ W.heap.size ∧ Rv w W (.slice A n c) (.slice A n c) l rs | _ => False) (by kernel_rfl) (by kernel_rfl) (by decide) (by decide) ?hJ ?h0 ?pure ?act ?fin
        case hJ => (intro k f f' W h hj; match k, hj with | 0, hj => exact hj)
        case h0 => exact ⟨HM.out, S0.out.drew_⟩
        case pure =>
          intro i o k a w_ ho hE hk hmc hf hst hkn hj
          have hi : i < 6 := (Array.getElem?_eq_some_iff.1 ho).1
          obtain rfl | rfl : i = 0 ∨ i = 1 := by
            simp only [List.mem_cons, List.not_mem_nil, or_false, not_or] at hE
            omega
          · obtain rfl := Reg.oper_eq ho rfl
            have e2 : a.eval (.tmp 2) = .pointer (some ⟨w.heap.size, 0, none⟩) := (hf.eval 2 (by kernel_rfl)).trans rfl
            have g2 := Reg.eval_getD e2
            have c0' : w_.cell? ⟨w.heap.size, 0, none⟩ = some (.slice A n c) := by
              match k, hj with
              | 0, hj => exact cell_of_blk (Rv.out hj.2) 0 rfl
            exact Reg.op_value rfl rfl (by simp only [List.getElem_toArray, List.getElem_cons_zero, List.getElem_cons_succ, execOp, e2]; go_simp) ⟨_, rfl, rfl, hj⟩
          · obtain rfl := Reg.oper_eq ho rfl
            have e4 : a.eval (.tmp 4) = .pointer (some ⟨w.heap.size + 2, 0, none⟩) := (hf.eval 4 (by kernel_rfl)).trans rfl
            have g4 := Reg.eval_getD e4
            exact Reg.op_value rfl rfl (by simp only [List.getElem_toArray, List.getElem_cons_zero, List.getElem_cons_succ, execOp, e4]; go_simp) ⟨_, rfl, rfl, hj⟩
        case act =>
          intro k o a w_ hk ho hf hst hkn hj
          obtain rfl | rfl | rfl | rfl : k = 0 ∨ k = 1 ∨ k = 2 ∨ k = 3 := by simp only [List.length_cons, List.length_nil] at hk; omega
          · obtain rfl := Reg.oper_eq ho rfl
            have e16 : a.eval (.tmp 16) = .pointer (some ⟨w.heap.size + 2, 0, none⟩) := hkn.eval 1 16 (by kernel_rfl) (by kernel_rfl)
            have g16 := Reg.eval_getD e16
            obtain ⟨hM, hj'⟩ : M ≤ w_.heap.size ∧ Rv w w_ (.slice A n c) (.slice A n c) l rs := hj
            refine Reg.op_call (f := 21) (args := #[.pointer (some ⟨w.heap.size + 2, 0, none⟩)]) (w' := w_) rfl rfl (by simp only [List.getElem_toArray, List.getElem_cons_zero, List.getElem_cons_succ, execOp, e16]; go_simp) ((act_any w w_ (w.heap.size + 2) rs HB.out hj'.rd).mono ?_)
            rw [HD.out]
            rintro e W2 ⟨rfl, hg2⟩
            refine .inr ⟨_, rfl, ?_⟩
            have S2 := blk_grown hj'.out hg2 (by intro e; injection e with e; omega)
            have S3 := blk_grown hj'.err hg2 (by intro e; injection e with e; omega)
            have HB2 : Below w.heap.size w W2 := hj'.rd.below.grown hg2 hj'.rd.below.size (fun k e => by injection e with e; omega)
            have t2 : a.tmps[2]?.getD undef = .pointer (some ⟨w.heap.size, 0, none⟩) := Reg.eval_getD ((hf.eval 2 (by kernel_rfl)).trans rfl)
            have t3 : a.tmps[3]?.getD undef = .pointer (some ⟨w.heap.size + 1, 0, none⟩) := Reg.eval_getD ((hf.eval 3 (by kernel_rfl)).trans rfl)
            show Leaves Try.prog Try.f14 a.tmps (ReadOut w b) a.defers (.panicking (chain m)) W2
            rw [hf.defers]
            refine leaves_cons (f := 20) (args := #[.pointer (some ⟨w.heap.size, 0, none⟩), .pointer (some ⟨w.heap.size + 1, 0, none⟩)]) (by simp) (by simp [go_sem]) ?_
            refine (readD_panic w.heap.size (w.heap.size + 1) m [] W2 (.slice A n c) (.int .i64 0) (cell_of_blk S2 0 rfl) (cell_of_blk S3 0 rfl) (frozen_of_blk S2 0) (frozen_of_blk S3 0) (by omega)).mono ?_
            rintro e u' w'' ⟨rfl, rfl, rfl⟩
            have hb3 : Below w.heap.size w (((W2.alloc (.cells #[.int .i64 m] 55)).setCell ⟨w.heap.size, 0, none⟩ (.slice none 0 0)).setCell ⟨w.heap.size + 1, 0, none⟩ (.int .i64 m)) :=
              ((HB2.alloc HB2.size _).setCell (Nat.le_refl _) _).setCell (by show w.heap.size ≤ w.heap.size + 1; omega) _
            have hz2 : w.heap.size + 1 < W2.heap.size := blk_lt S3
            have k1 := blk_set (W := W2.alloc (.cells #[.int .i64 m] 55)) (b := w.heap.size) (v := .slice A n c) (t := 28) (by rw [Below.heap_alloc _ _ _ (by omega)]; exact S2) (.slice none 0 0)
            have k2 := blk_set (W := (W2.alloc (.cells #[.int .i64 m] 55)).setCell ⟨w.heap.size, 0, none⟩ (.slice none 0 0)) (b := w.heap.size + 1) (v := .int .i64 0) (t := 25) (by rw [Below.heap_setCell _ _ _ _ (by show w.heap.size + 1 ≠ w.heap.size; omega), Below.heap_alloc _ _ _ (by omega)]; exact S3) (.int .i64 m)
            have k1' : (((W2.alloc (.cells #[.int .i64 m] 55)).setCell ⟨w.heap.size, 0, none⟩ (.slice none 0 0)).setCell ⟨w.heap.size + 1, 0, none⟩ (.int .i64 m)).heap[w.heap.size]? = some (.cells #[.slice none 0 0] 28 (0, 0)) := by
              rw [Below.heap_setCell _ _ _ _ (by show w.heap.size ≠ w.heap.size + 1; omega)]; exact k1
            generalize (((W2.alloc (.cells #[.int .i64 m] 55)).setCell ⟨w.heap.size, 0, none⟩ (.slice none 0 0)).setCell ⟨w.heap.size + 1, 0, none⟩ (.int .i64 m)) = W3 at *
            have m1 := cell_of_blk k1' 0 (u := .slice none 0 0) rfl
            have m2 := cell_of_blk k2 0 (u := .int .i64 m) rfl
            refine ⟨.tuple #[.slice none 0 0, .int .i64 m], by simp [results, Try.results14, go_sem, m1, m2, t2, t3], .inr ⟨l, rs, m, HST.out, HD.out, by intro e; rw [e] at hlt; simp at hlt, rfl, hb3⟩⟩
          · obtain rfl := Reg.oper_eq ho rfl
            exact hj.elim
          · obtain rfl := Reg.oper_eq ho rfl
            have e15 : a.eval (.tmp 15) = .slice A n c := hkn.eval 0 15 (by kernel_rfl) (by kernel_rfl)
            have g15 := Reg.eval_getD e15
            exact hj.elim
          · obtain rfl := Reg.oper_eq ho rfl
            have e2 : a.eval (.tmp 2) = .pointer (some ⟨w.heap.size, 0, none⟩) := (hf.eval 2 (by kernel_rfl)).trans rfl
            have g2 := Reg.eval_getD e2
            exact hj.elim
        case fin =>
          intro a w_ hf hkn hj
          exact hj.elim

    · obtain rfl : rs = [] := List.eq_nil_of_length_eq_zero (by omega)
      have ho := S0.out.out
      have he := S0.out.err
      have hb0 := S0.out.rd.below
      have q1 := cell_of_blk ho 0 (u := .slice A n c) rfl
      have q2 := frozen_of_blk ho 0
      have q3 := cell_of_blk he 0 (u := .int .i64 0) rfl
      have q4 := frozen_of_blk he 0
      have q5 : (wr.setCell ⟨w.heap.size, 0, none⟩ (.slice A n c)).cell? ⟨w.heap.size + 1, 0, none⟩ = some (.int .i64 0) := by rw [World.cell?_setCell_far _ _ _ _ (by show w.heap.size ≠ w.heap.size + 1; omega)]; exact q3
      have HO := Lib.hid ho
      have HE := Lib.hid he
      have HB0 := Lib.hid hb0
      clear ho he hb0
      go_wp2_with fail
      refine leaves_cons (f := 20) (args := #[.pointer (some ⟨w.heap.size, 0, none⟩), .pointer (some ⟨w.heap.size + 1, 0, none⟩)]) (by simp) (by simp [go_sem]) ?_
      refine (readD_ret w.heap.size (w.heap.size + 1) _).mono ?_
      rintro e u' w'' ⟨rfl, rfl, rfl⟩
      have hb3 : Below w.heap.size w ((wr.setCell ⟨w.heap.size, 0, none⟩ (.slice A n c)).setCell ⟨w.heap.size + 1, 0, none⟩ (.int .i64 0)) := ((HB0.out).setCell (Nat.le_refl _) _).setCell (by show w.heap.size ≤ w.heap.size + 1; omega) _
      have k1 := blk_set HO.out (.slice A n c)
      have k2 := blk_set (W := wr.setCell ⟨w.heap.size, 0, none⟩ (.slice A n c)) (b := w.heap.size + 1) (v := .int .i64 0) (t := 25) (by rw [Below.heap_setCell _ _ _ _ (by show w.heap.size + 1 ≠ w.heap.size; omega)]; exact HE.out) (.int .i64 0)
      have k1' : ((wr.setCell ⟨w.heap.size, 0, none⟩ (.slice A n c)).setCell ⟨w.heap.size + 1, 0, none⟩ (.int .i64 0)).heap[w.heap.size]? = some (.cells #[.slice A n c] 28 (0, 0)) := by
        rw [Below.heap_setCell _ _ _ _ (by show w.heap.size ≠ w.heap.size + 1; omega)]; exact k1
      have hR := Kd.N_grown (Kd.N_grown S0.out.row (grown_set (h := w.heap.size) 0 (.slice A n c)) (fun k hk e => by injection e with e; omega)) (grown_set (h := w.heap.size + 1) 0 (.int .i64 0)) (fun k hk e => by injection e with e; omega)
      generalize ((wr.setCell ⟨w.heap.size, 0, none⟩ (.slice A n c)).setCell ⟨w.heap.size + 1, 0, none⟩ (.int .i64 0)) = W3 at *
      have m1 := cell_of_blk k1' 0 (u := .slice A n c) rfl
      have m2 := cell_of_blk k2 0 (u := .int .i64 0) rfl
      obtain ⟨A', c', he1, hc', hC'⟩ := Kd.N_reads hR
      refine ⟨.tuple #[.slice A n c, .int .i64 0], by simp [results, Try.results14, go_sem, m1, m2], .inl ⟨l, A', c', HST.out, by rw [he1], hc', hC', hb3⟩⟩
end Go.Proofs.Ythnefjkpjhfkgaa.Core
