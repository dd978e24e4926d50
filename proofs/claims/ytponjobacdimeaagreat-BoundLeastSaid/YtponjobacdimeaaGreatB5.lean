/- Rows told weakly (a row is a row); epoch.New, deque.New: what each comes to. -/
import Derived.Test.YtponjobacdimeaaGreatB4
namespace Go.Proofs.YtponjobacdimeaaGreat.Core
open Go.RowKit Go.Proofs.YtponjobacdimeaaGreatW.PrintWords Go.Proofs.YtponjobacdimeaaGreat.PBoundLeast Go.Proofs.YtponjobacdimeaaGreat
set_option linter.unusedVariables false
set_option linter.unusedSimpArgs false
/-- A row of n elements of type e, of sz cells each; of its elements nothing is said. -/
def Rr (e sz B : Nat) (W : World) (v : Value) (n : Nat) : Prop := ∃ rows : List (List Value), rows.length = n ∧ (Kd.raw sz).R e W B (fun k => some k = v.ownBlock) v rows
theorem Rr.nil (e sz B : Nat) (W : World) : Rr e sz B W (.slice none 0 0) 0 := ⟨[], rfl, Kd.R_nil _ _ _ _ _⟩
theorem Rr.keep {e sz B : Nat} {W W' : World} {v : Value} {n : Nat} (h : Rr e sz B W v n) {ts : List Nat} (hk : Kp ts W W') (he : e ∉ ts) : Rr e sz B W' v n := by
  obtain ⟨rows, hl, hR⟩ := h
  refine ⟨rows, hl, Kd.R_step hR (fun k hk' hlt => ?_)⟩
  obtain ⟨cells, hc⟩ := Kd.R_typed hR k hk'.symm
  rw [hk.2 _ _ _ _ hc he, hc]
theorem Rr.below {e sz B : Nat} {W W' : World} {v : Value} {n : Nat} (h : Rr e sz B W v n) (hb : Below W.heap.size W W') : Rr e sz B W' v n := h.keep (Kp.below (ts := []) hb) (by simp)
theorem Rr.slice {e sz B : Nat} {W : World} {v : Value} {n : Nat} (h : Rr e sz B W v n) : ∃ A c, v = .slice A n c ∧ n ≤ c := by
  obtain ⟨rows, hl, hR⟩ := h
  obtain ⟨A, c, rfl⟩ := Kd.R_slice hR
  rw [hl] at hR ⊢
  exact ⟨A, c, rfl, (Kd.R_reads' hR).2.1⟩
theorem Rr.kp {e sz B : Nat} {W w1 : World} {v : Value} {n : Nat} (h : Rr e sz B W v n) (hs : W.heap.size ≤ w1.heap.size) (hg : W.grownBy w1 v.ownBlock) : Kp [e] W w1 := by
  obtain ⟨rows, hl, hR⟩ := h
  refine ⟨hs, fun g cs t fr hgc ht => ?_⟩
  rw [hg.block g (Array.getElem?_eq_some_iff.1 hgc).1 (fun he => ?_)]
  · exact hgc
  · obtain ⟨cells, hc⟩ := Kd.R_typed hR g he.symm
    rw [hgc] at hc
    injection hc with hc
    injection hc with _ hc
    exact ht (by rw [hc]; simp)
section
variable {P : Program} {ops : Array Oper} {rest : List Oper} {o : Oper} {a : Act} {Q : Exit → Act → World → Prop} {Kc : Act → World → Prop}
theorem Rr.append (sz : Nat) {w0 W : World} (base : Nat) (hgd : o.guard = none) (s x : Operand) (t e : TypeId) (z : Value) (bytes : Nat)
    (ho : o.op = .call { callee := .builtin .append, args := #[s, x], argTypes := #[t, t] })
    (ht : P.underlying t = some (.slice e)) (hinfo : (P.info? e).map (fun i => (i.zero, i.size, i.bytes)) = some (some z, sz, bytes)) (hz : z.cells.size = sz) (hs0 : 0 < sz) (hb0 : 0 < bytes)
    (v : Value) (n : Nat) (cs : List Value) (hs : a.eval s = v) (hx : a.eval x = .slice (some ⟨W.heap.size, 0, none⟩) 1 1) (hc1 : cs.length = sz) (hc2 : ∀ u ∈ cs, u.oneCell' = true)
    (HO : Rr e sz base W v n) (HB : Below base w0 W) (hbase : base ≤ W.heap.size) (hl : (n + 1) * bytes ≤ 140737488355328)
    (h : ∀ v1 w1, Rr e sz base w1 v1 (n + 1) → Below base w0 w1 → Kp [e] W w1 → (v1.ownBlock = v.ownBlock ∨ ∃ b, v1.ownBlock = some b ∧ W.heap.size ≤ b) → W.grownBy w1 v.ownBlock → wpList P ops Q rest (a.put o.dst v1) w1) :
    wpList P ops Q (o :: rest) a (W.alloc (.cells cs.toArray e)) := by
  obtain ⟨rows, hln, hR⟩ := HO
  refine Kd.R_append (Kd.raw sz) base hgd s x t e z bytes ho ht hinfo hz hs0 hb0 v rows cs cs (fun _ => True) (fun _ => False) hs hx ⟨rfl, hc1, hc2⟩ (fun _ h => h.elim) (fun _ _ => trivial) (Kd.raw_any hR) HB hbase (by rw [hln]; exact hl) ?_
  intro v1 w1 hr hb hg hat
  exact h v1 w1 ⟨rows ++ [cs], by simp [hln], Kd.raw_tight hr⟩ hb (Rr.kp ⟨rows, hln, hR⟩ hg.size hg) hat hg
theorem Rr.append_step (sz : Nat) {w0 W : World} (base : Nat) (hw : Region.wanted o (yielded ops a.tmps) = true) (s x : Operand) (t e : TypeId) (z : Value) (bytes : Nat)
    (ho : o.op = .call { callee := .builtin .append, args := #[s, x], argTypes := #[t, t] })
    (ht : P.underlying t = some (.slice e)) (hinfo : (P.info? e).map (fun i => (i.zero, i.size, i.bytes)) = some (some z, sz, bytes)) (hz : z.cells.size = sz) (hs0 : 0 < sz) (hb0 : 0 < bytes)
    (v : Value) (n : Nat) (cs : List Value) (hs : a.eval s = v) (hx : a.eval x = .slice (some ⟨W.heap.size, 0, none⟩) 1 1) (hc1 : cs.length = sz) (hc2 : ∀ u ∈ cs, u.oneCell' = true)
    (HO : Rr e sz base W v n) (HB : Below base w0 W) (hbase : base ≤ W.heap.size) (hl : (n + 1) * bytes ≤ 140737488355328)
    (h : ∀ v1 w1, Rr e sz base w1 v1 (n + 1) → Below base w0 w1 → Kp [e] W w1 → (v1.ownBlock = v.ownBlock ∨ ∃ b, v1.ownBlock = some b ∧ W.heap.size ≤ b) → W.grownBy w1 v.ownBlock → Kc (a.put o.dst v1) w1) :
    if Region.wanted o (yielded ops a.tmps) = true then Oper.wp P o a (W.alloc (.cells cs.toArray e)) Kc Q else Kc (a.put o.dst undef) (W.alloc (.cells cs.toArray e)) := by
  obtain ⟨rows, hln, hR⟩ := HO
  refine Kd.R_append_step (Kd.raw sz) base hw s x t e z bytes ho ht hinfo hz hs0 hb0 v rows cs cs (fun _ => True) (fun _ => False) hs hx ⟨rfl, hc1, hc2⟩ (fun _ h => h.elim) (fun _ _ => trivial) (Kd.raw_any hR) HB hbase (by rw [hln]; exact hl) ?_
  intro v1 w1 hr hb hg hat
  exact h v1 w1 ⟨rows ++ [cs], by simp [hln], Kd.raw_tight hr⟩ hb (Rr.kp ⟨rows, hln, hR⟩ hg.size hg) hat hg
end
theorem info105 : (Tryz.prog.info? 105).map (fun i => (i.zero, i.size, i.bytes)) = some (some (.agg #[.int .i64 0, .slice none 0 0]), 2, 32) := by kernel_rfl
/-- The epochs while they are made. -/
structure EW (w : World) (q : Nat) (v : Value) (W : World) : Prop where
  below : Below w.heap.size w W
  blk : W.heap[w.heap.size]? = some (.cells #[.int .i64 0, v] 102 (0, 0))
  row : Rr 105 2 w.heap.size W v q
/-- A pointer, and no error. -/
def GivesN (w : World) (e : Ending) (w' : World) : Prop := ∃ b, e = .returned (.tuple #[.pointer (some ⟨b, 0, none⟩), .int .i64 0]) ∧ Below w.heap.size w w'
set_option maxRecDepth 100000 in
set_option maxHeartbeats 4000000 in
theorem enew_any (n : Nat) (h1 : 1 ≤ n) (h2 : n ≤ 64) (w : World) : Calls Tryz.prog 22 #[.int .i64 (n : Int)] w (GivesN w) := by
  have g0 : decide ((n : Int) < 1) = false := decide_eq_false (by omega)
  have g1 : decide ((n : Int) > 64) = false := decide_eq_false (by omega)
  have HE0 : Hid (EW w 0 (.slice none 0 0) (w.alloc (.cells #[.int .i64 0, .slice none 0 0] 102))) := ⟨(Below.refl _ _).alloc (Nat.le_refl _) _, heap_alloc_new _ _, Rr.nil _ _ _ _⟩
  have HN : Hid (1 ≤ n ∧ n ≤ 64) := ⟨h1, h2⟩
  clear h1
  go_enter Tryz.func22, Tryz.ntmps22
  go_wp2_with fail
  go_loopg [14] n (fun d i W => ∃ (q : Nat) (v : Value), q + d = n ∧ i = .int .i64 q ∧ Hid (EW w q v W))
  case atStart => exact ⟨0, _, by omega, rfl, HE0.out⟩
  case round =>
    obtain ⟨q, rv, hqd, rfl, hE⟩ := hrel
    by_cases hq : q < n
    · have hq1 : (q : Int) < (n : Int) := by omega
      have hq2 : decide ((q : Int) < (n : Int)) = true := decide_eq_true hq1
      have hqw : wrap64 ((q : Int) + 1) = ((q + 1 : Nat) : Int) := by unfold wrap64; omega
      have k0 := (blk_cell hE.out.blk 0).trans rfl
      have k1 := (blk_cell hE.out.blk 1).trans rfl
      have y1 := blk_frozen hE.out.blk 1
      have HQD := Lib.hid hqd
      clear hqd
      go_wp2_with ((with_reducible refine gate_builtin (b := .append) (xs := #[.tmp 20, .tmp 22]) rfl ?_); at_builtin; refine Rr.append 2 (w0 := w) w.heap.size rfl (.tmp 20) (.tmp 22) 100 105 (.agg #[.int .i64 0, .slice none 0 0]) 32 rfl Tryz.underlying100 info105 rfl (by decide) (by decide) rv q [.int .i64 (-1), .slice none 0 0] rfl rfl rfl (by decide) hE.out.row hE.out.below hE.out.below.size (by have := HN.out; omega) ?_; intro v1 w1 hR hB hK hat hg; obtain ⟨A1, c1, rfl, hc1⟩ := hR.slice; have HR := Lib.hid hR; have HB := Lib.hid hB; have HK : Hid (w1.heap[w.heap.size]? = some (.cells #[.int .i64 0, rv] 102 (0, 0))) := hK.2 _ _ _ _ hE.out.blk (by decide); have HE2 : Hid (EW w (q + 1) (.slice A1 (q + 1) c1) (w1.setCell ⟨w.heap.size, 1, none⟩ (.slice A1 (q + 1) c1))) := ⟨HB.out.setCell (p := ⟨w.heap.size, 1, none⟩) (Nat.le_refl _) _, blk_set HK.out 1 _, HR.out.keep (Kp.set HK.out (ts := [102]) (by simp) 1 _) (by decide)⟩; clear hR hB hK hat hg k0 k1 y1 hc1; have k1 : w1.cell? ⟨w.heap.size, 1, none⟩ = some rv := (blk_cell HK.out 1).trans rfl; have y1 : w1.frozen? ⟨w.heap.size, 1, none⟩ = false := blk_frozen HK.out 1)
      go_roundg (n - (q + 1))
      case measure => exact step_lt HQD.out hq
      case rel => exact ⟨q + 1, _, step_eq hq, by go_num, HE2.out⟩
    · have hq1 : ¬ (q : Int) < (n : Int) := by omega
      have hq2 : decide ((q : Int) < (n : Int)) = false := decide_eq_false hq1
      go_wp2_with fail
      go_ret2
      exact ⟨_, rfl, (hE.out).below⟩
end Go.Proofs.YtponjobacdimeaaGreat.Core
