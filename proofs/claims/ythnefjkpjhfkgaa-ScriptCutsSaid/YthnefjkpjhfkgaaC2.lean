/- script.write: what it adds to bytes of the call's own, act by act; or which error it gives up with. -/
import Derived.Test.YthnefjkpjhfkgaaC1
import Derived.Deep.RegionHeld3
import Derived.Deep.DeepCutAuto
import Derived.Deep.LoopGhost
namespace Go.Proofs.Ythnefjkpjhfkgaa.Core
open Go.RowKit Go.Proofs.YthnefjkpjhfkgaaW.PrintWords Go.Proofs.YthnefjkpjhfkgaaW.PrintMore Go.Proofs.Ythnefjkpjhfkgaa.PScriptWrites
set_option linter.unusedVariables false
set_option linter.unusedSimpArgs false

/-- How the call stands: the row that grows, the box of the act, nothing else turned. -/
structure St (P0 : Nat → Prop) (w0 w W : World) (cs : Array Value) (v : Value) (l : List Int) : Prop where
  row : Kd.R (Kd.int .u8) 5 W w0.heap.size (fun k => P0 k ∧ k < w.heap.size ∨ w.heap.size + 1 ≤ k) v l
  below : Below w0.heap.size w0 W
  kept : Kept w W P0
  box : W.heap[w.heap.size]? = some (.cells cs 47 (0, 0))
  size : w.heap.size + 1 ≤ W.heap.size
  base : w0.heap.size ≤ w.heap.size

section
variable {P0 : Nat → Prop} {w0 w W W' : World} {cs : Array Value} {v v' : Value} {l l' : List Int}
theorem St.start (hB : Below w0.heap.size w0 w) (ho : Kd.R (Kd.int .u8) 5 w w0.heap.size P0 v l) (cs : Array Value) : St P0 w0 w (w.alloc (.cells cs 47)) cs v l where
  row := Kd.R_alloc (Kd.R_mono (Kd.R_bound ho) (fun k hk => .inl ⟨hk.1, hk.2.2.1⟩)) _
  below := hB.alloc hB.size _
  kept := (Kept.refl w P0).alloc _
  box := heap_alloc_new w _
  size := by simp
  base := hB.size
theorem St.step (h : St P0 w0 w W cs v l) (hr : Kd.R (Kd.int .u8) 5 W' w0.heap.size (fun k => (P0 k ∧ k < w.heap.size ∨ w.heap.size + 1 ≤ k) ∨ W.heap.size ≤ k) v' l') (hb : Below w0.heap.size w0 W') (hk : Kept W W' (fun k => P0 k ∧ k < w.heap.size ∨ w.heap.size + 1 ≤ k)) : St P0 w0 w W' cs v' l' where
  row := Kd.R_mono hr (fun k hk => by rcases hk with hk | hk; exact hk; exact .inr (by have := h.size; omega))
  below := hb
  kept := h.kept.then_ hk (fun k hk => by rcases hk with ⟨hk, _⟩ | hk; exact .inl hk; exact .inr (by omega))
  box := blk_kept h.box hk (by rintro (⟨_, h1⟩ | h1) <;> omega)
  size := by have := h.size; have := hk.1; omega
  base := h.base
theorem St.below_ (h : St P0 w0 w W cs v l) (hb : Below W.heap.size W W') : St P0 w0 w W' cs v l where
  row := Kd.R_below h.row hb
  below := h.below.trans (hb.mono (by have := h.base; have := h.size; omega))
  kept := h.kept.below hb
  box := by rw [hb.block _ (by have := h.size; omega)]; exact h.box
  size := by have := h.size; have := hb.size; omega
  base := h.base
theorem St.grown (h : St P0 w0 w W cs v l) (hr : Kd.R (Kd.int .u8) 5 W' w0.heap.size (fun k => P0 k ∧ k < w.heap.size ∨ w.heap.size + 1 ≤ k) v' l') (hb : Below w0.heap.size w0 W') (hg : W.grownBy W' v.ownBlock) : St P0 w0 w W' cs v' l' :=
  h.step (Kd.R_mono hr (fun k hk => .inl hk)) hb (Kept.of_grown hg (Kept.refl W _) (fun k hk => .inl (h.row.1 k hk)))
theorem St.drew_ (h : St P0 w0 w W cs v l) : St P0 w0 w W.drew cs v l := h.below_ (Below.refl _ _).drew
theorem St.cell (h : St P0 w0 w W cs v l) (j : Nat) {u : Value} (hu : cs[j]? = some u) : W.cell? ⟨w.heap.size, j, none⟩ = some u := by
  simp only [World.cell?, h.box]
  exact hu
theorem St.fin (h : St P0 w0 w W cs v l) : Kd.R (Kd.int .u8) 5 W w0.heap.size (fun k => P0 k ∨ w.heap.size ≤ k) v l ∧ Below w0.heap.size w0 W ∧ Kept w W P0 :=
  ⟨Kd.R_mono h.row (fun k hk => by rcases hk with ⟨hk, _⟩ | hk; exact .inl hk; exact .inr (by omega)), h.below, h.kept⟩
end

/-- What every call of write is given. -/
structure Gv (P0 : Nat → Prop) (w0 w : World) (u : Value) (l : List Int) (x : S47) (A4 A5 : Option Addr) (c4 c5 : Nat) : Prop where
  below : Below w0.heap.size w0 w
  row : Kd.R (Kd.int .u8) 5 w w0.heap.size P0 u l
  r4 : Kd.C (Kd.int .u8) w0 A4 x.f4.length x.f4
  h4 : x.f4.length ≤ c4
  r5 : Kd.C (Kd.int .i64) w0 A5 x.f5.length x.f5
  h5 : x.f5.length ≤ c5
  len : l.length ≤ 1000000000
  len4 : x.f4.length ≤ 60000
  len5 : x.f5.length ≤ 1000000
def actV (x : S47) (A4 A5 : Option Addr) (c4 c5 : Nat) : Array Value := #[.int .i64 x.f0, .int .i64 x.f1, .int .i64 x.f2, .int .i64 x.f3, .slice A4 x.f4.length c4, .slice A5 x.f5.length c5]
/-- What comes of it. -/
def Wrote (P0 : Nat → Prop) (w0 w : World) (r : List Int) (e : Ending) (w' : World) : Prop :=
  ∃ v, e = .returned v ∧ Kd.R (Kd.int .u8) 5 w' w0.heap.size (fun k => P0 k ∨ w.heap.size ≤ k) v r ∧ Below w0.heap.size w0 w' ∧ Kept w w' P0

/-- It gives up: a number is out of bounds. -/
def Gave (P0 : Nat → Prop) (w0 w : World) (e : Ending) (w' : World) : Prop := e = .panicked (chain 6) ∧ Below w0.heap.size w0 w' ∧ Kept w w' P0

/-- A number's bytes, the lowest first. -/
def le : Nat → Int → List Int
  | 0, _ => []
  | k + 1, n => n % 256 :: le k (n / 256)
theorem le_len (k : Nat) : ∀ n, (le k n).length = k := by
  induction k with
  | zero => exact fun _ => rfl
  | succ k ih => exact fun n => by simp [le, ih]
theorem put_l (d : Nat) : ∀ (l : List Int) (n : Int) (k : Nat) (i : Int), l.length + d ≤ 100000000000 → d < k → 0 ≤ i → i + d ≤ 200 → d ≤ 100 → script_put.l0 k l n (i + d) i = some (l ++ le d n) := by
  induction d with
  | zero =>
    intro l n k i hl hk h0 h1 _
    obtain ⟨k, rfl⟩ : ∃ m, k = m + 1 := ⟨k - 1, by omega⟩
    simp only [script_put.l0]
    rw [if_neg (by omega), le, List.append_nil]
  | succ d ih =>
    intro l n k i hl hk h0 h1 h2
    obtain ⟨k, rfl⟩ : ∃ m, k = m + 1 := ⟨k - 1, by omega⟩
    simp only [script_put.l0]
    have e : wrap64 (i + 1) = i + 1 := by unfold wrap64; omega
    rw [if_pos (by omega), if_pos (by omega), e, show i + ((d + 1 : Nat) : Int) = (i + 1) + (d : Int) by omega, ih (l ++ [n % 256]) (n / 256) k (i + 1) (by simp; omega) (by omega) (by omega) (by omega) (by omega)]
    simp [le]
theorem put_f (l : List Int) (n : Int) (d : Nat) (hl : l.length ≤ 10000000000) (hd : d ≤ 8) : script_put.f (d + 1) l n d = some (l ++ le d n) := by
  have := put_l d l n (d + 1) 0 (by omega) (by omega) (by omega) (by omega) (by omega)
  unfold script_put.f
  rwa [Int.zero_add] at this

set_option maxHeartbeats 1000000 in
set_option maxRecDepth 100000 in
theorem write_5 {P0 : Nat → Prop} {w0 w : World} {u : Value} {l : List Int} {x : S47} {A4 A5 : Option Addr} {c4 c5 k : Nat} (G : Gv P0 w0 w u l x A4 A5 c4 c5) (hk : x.f0 = 5) (hb : script_Act_bare.f k x.f0 x.f1 x.f2 x.f3 x.f4 x.f5 = some true) :
    Calls Try.prog 19 #[u, .agg (actV x A4 A5 c4 c5)] w (Wrote P0 w0 w (l ++ [5])) := by
  have S0 := Lib.hid (St.start G.below G.row (actV x A4 A5 c4 c5))
  have HG := Lib.hid G
  have HB := Lib.hid hb
  clear G hb
  obtain ⟨f0, f1, f2, f3, f4, f5⟩ := x
  obtain rfl : f0 = 5 := hk
  unfold actV at *
  dsimp only at *
  go_enter Try.func19, Try.ntmps19
  have d0 := S0.out.cell 0 rfl; have d1 := S0.out.cell 1 rfl; have d2 := S0.out.cell 2 rfl; have d3 := S0.out.cell 3 rfl; have d4 := S0.out.cell 4 rfl; have d5 := S0.out.cell 5 rfl
  go_wp2_with fail
  generalize w.alloc (.cells #[.int .i64 5, .int .i64 f1, .int .i64 f2, .int .i64 f3, .slice A4 f4.length c4, .slice A5 f5.length c5] 47) = W1 at *
  clear d0 d1 d2 d3 d4 d5
  refine (script_Act_bare.calls _ 5 f1 f2 f3 A4 c4 f4 A5 c5 f5 true _ (Kd.C_below HG.out.r4 S0.out.below) HG.out.h4 (Kd.C_below HG.out.r5 S0.out.below) HG.out.h5 HB.out).mono ?_
  rintro e W2 ⟨rfl, hb⟩
  have S1 := Lib.hid (S0.out.below_ hb)
  clear hb S0 HB
  have d0 := S1.out.cell 0 rfl
  go_wp2_with fail
  refine (need_ok _ _).mono ?_
  rintro e W3 ⟨rfl, rfl⟩
  have hs2 := S1.out.size
  have hb2 := S1.out.base
  have hl2 := HG.out.len
  go_wp2_with ((with_reducible refine gate_builtin (b := .append) (xs := #[.tmp 20, .tmp 24]) rfl ?_); at_builtin; refine Kd.R_append (Kd.int .u8) (w0 := w0) w0.heap.size rfl (.tmp 20) (.tmp 24) 24 5 (.int .u8 0) 1 rfl Try.underlying24 info5 rfl (by decide) (by omega) u l 5 [.int .u8 5] (fun k => P0 k ∧ k < w.heap.size ∨ w.heap.size + 1 ≤ k) (fun _ => False) rfl rfl ?aP (fun _ hk => hk.elim) ?aF ?aO ?aB ?aS ?aL ?_; (case aP => exact rfl); (case aF => exact (fun k hk => .inr (by omega))); (case aO => exact S1.out.row); (case aB => exact S1.out.below); (case aS => omega); (case aL => omega); intro v3 W3 ho hb hg hat; have S2 := Lib.hid (S1.out.grown ho hb hg); clear ho hb hg hat S1 d0; have d0 := S2.out.cell 0 rfl; have d1 := S2.out.cell 1 rfl; have d2 := S2.out.cell 2 rfl; have d3 := S2.out.cell 3 rfl; have d4 := S2.out.cell 4 rfl; have d5 := S2.out.cell 5 rfl; clear hs2; have hs3 := S2.out.size)
  go_wp2
  go_ret
  exact ⟨_, rfl, S2.out.fin⟩

set_option maxHeartbeats 1000000 in
set_option maxRecDepth 100000 in
theorem write_6 {P0 : Nat → Prop} {w0 w : World} {u : Value} {l : List Int} {x : S47} {A4 A5 : Option Addr} {c4 c5 k : Nat} (G : Gv P0 w0 w u l x A4 A5 c4 c5) (hk : x.f0 = 6) (hb : script_Act_bare.f k x.f0 x.f1 x.f2 x.f3 x.f4 x.f5 = some true) :
    Calls Try.prog 19 #[u, .agg (actV x A4 A5 c4 c5)] w (Wrote P0 w0 w (l ++ [6])) := by
  have S0 := Lib.hid (St.start G.below G.row (actV x A4 A5 c4 c5))
  have HG := Lib.hid G
  have HB := Lib.hid hb
  clear G hb
  obtain ⟨f0, f1, f2, f3, f4, f5⟩ := x
  obtain rfl : f0 = 6 := hk
  unfold actV at *
  dsimp only at *
  go_enter Try.func19, Try.ntmps19
  have d0 := S0.out.cell 0 rfl; have d1 := S0.out.cell 1 rfl; have d2 := S0.out.cell 2 rfl; have d3 := S0.out.cell 3 rfl; have d4 := S0.out.cell 4 rfl; have d5 := S0.out.cell 5 rfl
  go_wp2_with fail
  generalize w.alloc (.cells #[.int .i64 6, .int .i64 f1, .int .i64 f2, .int .i64 f3, .slice A4 f4.length c4, .slice A5 f5.length c5] 47) = W1 at *
  clear d0 d1 d2 d3 d4 d5
  refine (script_Act_bare.calls _ 6 f1 f2 f3 A4 c4 f4 A5 c5 f5 true _ (Kd.C_below HG.out.r4 S0.out.below) HG.out.h4 (Kd.C_below HG.out.r5 S0.out.below) HG.out.h5 HB.out).mono ?_
  rintro e W2 ⟨rfl, hb⟩
  have S1 := Lib.hid (S0.out.below_ hb)
  clear hb S0 HB
  have d0 := S1.out.cell 0 rfl
  go_wp2_with fail
  refine (need_ok _ _).mono ?_
  rintro e W3 ⟨rfl, rfl⟩
  have hs2 := S1.out.size
  have hb2 := S1.out.base
  have hl2 := HG.out.len
  go_wp2_with ((with_reducible refine gate_builtin (b := .append) (xs := #[.tmp 20, .tmp 24]) rfl ?_); at_builtin; refine Kd.R_append (Kd.int .u8) (w0 := w0) w0.heap.size rfl (.tmp 20) (.tmp 24) 24 5 (.int .u8 0) 1 rfl Try.underlying24 info5 rfl (by decide) (by omega) u l 6 [.int .u8 6] (fun k => P0 k ∧ k < w.heap.size ∨ w.heap.size + 1 ≤ k) (fun _ => False) rfl rfl ?aP (fun _ hk => hk.elim) ?aF ?aO ?aB ?aS ?aL ?_; (case aP => exact rfl); (case aF => exact (fun k hk => .inr (by omega))); (case aO => exact S1.out.row); (case aB => exact S1.out.below); (case aS => omega); (case aL => omega); intro v3 W3 ho hb hg hat; have S2 := Lib.hid (S1.out.grown ho hb hg); clear ho hb hg hat S1 d0; have d0 := S2.out.cell 0 rfl; have d1 := S2.out.cell 1 rfl; have d2 := S2.out.cell 2 rfl; have d3 := S2.out.cell 3 rfl; have d4 := S2.out.cell 4 rfl; have d5 := S2.out.cell 5 rfl; clear hs2; have hs3 := S2.out.size)
  go_wp2
  go_ret
  exact ⟨_, rfl, S2.out.fin⟩

set_option maxHeartbeats 1000000 in
set_option maxRecDepth 100000 in
theorem write_3_ok {P0 : Nat → Prop} {w0 w : World} {u : Value} {l : List Int} {x : S47} {A4 A5 : Option Addr} {c4 c5 k : Nat} (G : Gv P0 w0 w u l x A4 A5 c4 c5) (hk : x.f0 = 3) (hb : script_Act_bare.f k x.f0 x.f1 x.f2 x.f3 x.f4 x.f5 = some true) (hm : 0 ≤ x.f3 ∧ x.f3 < 256) :
    Calls Try.prog 19 #[u, .agg (actV x A4 A5 c4 c5)] w (Wrote P0 w0 w (l ++ [3] ++ le 1 x.f3)) := by
  have S0 := Lib.hid (St.start G.below G.row (actV x A4 A5 c4 c5))
  have HG := Lib.hid G
  have HB := Lib.hid hb
  clear G hb
  obtain ⟨f0, f1, f2, f3, f4, f5⟩ := x
  obtain rfl : f0 = 3 := hk
  unfold actV at *
  dsimp only at *
  go_enter Try.func19, Try.ntmps19
  have d0 := S0.out.cell 0 rfl; have d1 := S0.out.cell 1 rfl; have d2 := S0.out.cell 2 rfl; have d3 := S0.out.cell 3 rfl; have d4 := S0.out.cell 4 rfl; have d5 := S0.out.cell 5 rfl
  go_wp2_with fail
  generalize w.alloc (.cells #[.int .i64 3, .int .i64 f1, .int .i64 f2, .int .i64 f3, .slice A4 f4.length c4, .slice A5 f5.length c5] 47) = W1 at *
  clear d0 d1 d2 d3 d4 d5
  refine (script_Act_bare.calls _ 3 f1 f2 f3 A4 c4 f4 A5 c5 f5 true _ (Kd.C_below HG.out.r4 S0.out.below) HG.out.h4 (Kd.C_below HG.out.r5 S0.out.below) HG.out.h5 HB.out).mono ?_
  rintro e W2 ⟨rfl, hb⟩
  have S1 := Lib.hid (S0.out.below_ hb)
  clear hb S0 HB
  have d0 := S1.out.cell 0 rfl
  go_wp2_with fail
  refine (need_ok _ _).mono ?_
  rintro e W3 ⟨rfl, rfl⟩
  have hs2 := S1.out.size
  have hb2 := S1.out.base
  have hl2 := HG.out.len
  go_wp2_with ((with_reducible refine gate_builtin (b := .append) (xs := #[.tmp 20, .tmp 24]) rfl ?_); at_builtin; refine Kd.R_append (Kd.int .u8) (w0 := w0) w0.heap.size rfl (.tmp 20) (.tmp 24) 24 5 (.int .u8 0) 1 rfl Try.underlying24 info5 rfl (by decide) (by omega) u l 3 [.int .u8 3] (fun k => P0 k ∧ k < w.heap.size ∨ w.heap.size + 1 ≤ k) (fun _ => False) rfl rfl ?aP (fun _ hk => hk.elim) ?aF ?aO ?aB ?aS ?aL ?_; (case aP => exact rfl); (case aF => exact (fun k hk => .inr (by omega))); (case aO => exact S1.out.row); (case aB => exact S1.out.below); (case aS => omega); (case aL => omega); intro v3 W3 ho hb hg hat; have S2 := Lib.hid (S1.out.grown ho hb hg); clear ho hb hg hat S1 d0; have d0 := S2.out.cell 0 rfl; have d1 := S2.out.cell 1 rfl; have d2 := S2.out.cell 2 rfl; have d3 := S2.out.cell 3 rfl; have d4 := S2.out.cell 4 rfl; have d5 := S2.out.cell 5 rfl; clear hs2; have hs3 := S2.out.size)
  refine (small_ok _ _ _ _ _ _ _ w0 _ S2.out.below S2.out.row hm.1 (by omega) (put_f (l ++ [3]) f3 1 (by simp; omega) (by omega))).mono ?_
  rintro e W4 ⟨v4, rfl, hr4, hb4, hk4⟩
  have S3 := Lib.hid (S2.out.step hr4 hb4 hk4)
  clear hr4 hb4 hk4
  go_wp2
  go_ret
  exact ⟨_, rfl, S3.out.fin⟩

set_option maxHeartbeats 1000000 in
set_option maxRecDepth 100000 in
theorem write_3_no {P0 : Nat → Prop} {w0 w : World} {u : Value} {l : List Int} {x : S47} {A4 A5 : Option Addr} {c4 c5 k : Nat} (G : Gv P0 w0 w u l x A4 A5 c4 c5) (hk : x.f0 = 3) (hb : script_Act_bare.f k x.f0 x.f1 x.f2 x.f3 x.f4 x.f5 = some true) (hm : x.f3 < 0 ∨ 256 ≤ x.f3) (hw : -9223372036854775808 ≤ x.f3) :
    Calls Try.prog 19 #[u, .agg (actV x A4 A5 c4 c5)] w (Gave P0 w0 w) := by
  have S0 := Lib.hid (St.start G.below G.row (actV x A4 A5 c4 c5))
  have HG := Lib.hid G
  have HB := Lib.hid hb
  clear G hb
  obtain ⟨f0, f1, f2, f3, f4, f5⟩ := x
  obtain rfl : f0 = 3 := hk
  unfold actV at *
  dsimp only at *
  go_enter Try.func19, Try.ntmps19
  have d0 := S0.out.cell 0 rfl; have d1 := S0.out.cell 1 rfl; have d2 := S0.out.cell 2 rfl; have d3 := S0.out.cell 3 rfl; have d4 := S0.out.cell 4 rfl; have d5 := S0.out.cell 5 rfl
  go_wp2_with fail
  generalize w.alloc (.cells #[.int .i64 3, .int .i64 f1, .int .i64 f2, .int .i64 f3, .slice A4 f4.length c4, .slice A5 f5.length c5] 47) = W1 at *
  clear d0 d1 d2 d3 d4 d5
  refine (script_Act_bare.calls _ 3 f1 f2 f3 A4 c4 f4 A5 c5 f5 true _ (Kd.C_below HG.out.r4 S0.out.below) HG.out.h4 (Kd.C_below HG.out.r5 S0.out.below) HG.out.h5 HB.out).mono ?_
  rintro e W2 ⟨rfl, hb⟩
  have S1 := Lib.hid (S0.out.below_ hb)
  clear hb S0 HB
  have d0 := S1.out.cell 0 rfl
  go_wp2_with fail
  refine (need_ok _ _).mono ?_
  rintro e W3 ⟨rfl, rfl⟩
  have hs2 := S1.out.size
  have hb2 := S1.out.base
  have hl2 := HG.out.len
  go_wp2_with ((with_reducible refine gate_builtin (b := .append) (xs := #[.tmp 20, .tmp 24]) rfl ?_); at_builtin; refine Kd.R_append (Kd.int .u8) (w0 := w0) w0.heap.size rfl (.tmp 20) (.tmp 24) 24 5 (.int .u8 0) 1 rfl Try.underlying24 info5 rfl (by decide) (by omega) u l 3 [.int .u8 3] (fun k => P0 k ∧ k < w.heap.size ∨ w.heap.size + 1 ≤ k) (fun _ => False) rfl rfl ?aP (fun _ hk => hk.elim) ?aF ?aO ?aB ?aS ?aL ?_; (case aP => exact rfl); (case aF => exact (fun k hk => .inr (by omega))); (case aO => exact S1.out.row); (case aB => exact S1.out.below); (case aS => omega); (case aL => omega); intro v3 W3 ho hb hg hat; have S2 := Lib.hid (S1.out.grown ho hb hg); clear ho hb hg hat S1 d0; have d0 := S2.out.cell 0 rfl; have d1 := S2.out.cell 1 rfl; have d2 := S2.out.cell 2 rfl; have d3 := S2.out.cell 3 rfl; have d4 := S2.out.cell 4 rfl; have d5 := S2.out.cell 5 rfl; clear hs2; have hs3 := S2.out.size)
  refine (small_no _ _ _ _ hw (by omega)).mono ?_
  rintro e W4 ⟨rfl, rfl⟩
  go_wp2_with fail
  exact ⟨rfl, rfl, S2.out.below, S2.out.kept⟩

set_option maxHeartbeats 1000000 in
set_option maxRecDepth 100000 in
theorem write_4_ok {P0 : Nat → Prop} {w0 w : World} {u : Value} {l : List Int} {x : S47} {A4 A5 : Option Addr} {c4 c5 k : Nat} (G : Gv P0 w0 w u l x A4 A5 c4 c5) (hk : x.f0 = 4) (hb : script_Act_bare.f k x.f0 x.f1 x.f2 x.f3 x.f4 x.f5 = some true) (hm : 0 ≤ x.f3 ∧ x.f3 < 256) :
    Calls Try.prog 19 #[u, .agg (actV x A4 A5 c4 c5)] w (Wrote P0 w0 w (l ++ [4] ++ le 1 x.f3)) := by
  have S0 := Lib.hid (St.start G.below G.row (actV x A4 A5 c4 c5))
  have HG := Lib.hid G
  have HB := Lib.hid hb
  clear G hb
  obtain ⟨f0, f1, f2, f3, f4, f5⟩ := x
  obtain rfl : f0 = 4 := hk
  unfold actV at *
  dsimp only at *
  go_enter Try.func19, Try.ntmps19
  have d0 := S0.out.cell 0 rfl; have d1 := S0.out.cell 1 rfl; have d2 := S0.out.cell 2 rfl; have d3 := S0.out.cell 3 rfl; have d4 := S0.out.cell 4 rfl; have d5 := S0.out.cell 5 rfl
  go_wp2_with fail
  generalize w.alloc (.cells #[.int .i64 4, .int .i64 f1, .int .i64 f2, .int .i64 f3, .slice A4 f4.length c4, .slice A5 f5.length c5] 47) = W1 at *
  clear d0 d1 d2 d3 d4 d5
  refine (script_Act_bare.calls _ 4 f1 f2 f3 A4 c4 f4 A5 c5 f5 true _ (Kd.C_below HG.out.r4 S0.out.below) HG.out.h4 (Kd.C_below HG.out.r5 S0.out.below) HG.out.h5 HB.out).mono ?_
  rintro e W2 ⟨rfl, hb⟩
  have S1 := Lib.hid (S0.out.below_ hb)
  clear hb S0 HB
  have d0 := S1.out.cell 0 rfl
  go_wp2_with fail
  refine (need_ok _ _).mono ?_
  rintro e W3 ⟨rfl, rfl⟩
  have hs2 := S1.out.size
  have hb2 := S1.out.base
  have hl2 := HG.out.len
  go_wp2_with ((with_reducible refine gate_builtin (b := .append) (xs := #[.tmp 20, .tmp 24]) rfl ?_); at_builtin; refine Kd.R_append (Kd.int .u8) (w0 := w0) w0.heap.size rfl (.tmp 20) (.tmp 24) 24 5 (.int .u8 0) 1 rfl Try.underlying24 info5 rfl (by decide) (by omega) u l 4 [.int .u8 4] (fun k => P0 k ∧ k < w.heap.size ∨ w.heap.size + 1 ≤ k) (fun _ => False) rfl rfl ?aP (fun _ hk => hk.elim) ?aF ?aO ?aB ?aS ?aL ?_; (case aP => exact rfl); (case aF => exact (fun k hk => .inr (by omega))); (case aO => exact S1.out.row); (case aB => exact S1.out.below); (case aS => omega); (case aL => omega); intro v3 W3 ho hb hg hat; have S2 := Lib.hid (S1.out.grown ho hb hg); clear ho hb hg hat S1 d0; have d0 := S2.out.cell 0 rfl; have d1 := S2.out.cell 1 rfl; have d2 := S2.out.cell 2 rfl; have d3 := S2.out.cell 3 rfl; have d4 := S2.out.cell 4 rfl; have d5 := S2.out.cell 5 rfl; clear hs2; have hs3 := S2.out.size)
  refine (small_ok _ _ _ _ _ _ _ w0 _ S2.out.below S2.out.row hm.1 (by omega) (put_f (l ++ [4]) f3 1 (by simp; omega) (by omega))).mono ?_
  rintro e W4 ⟨v4, rfl, hr4, hb4, hk4⟩
  have S3 := Lib.hid (S2.out.step hr4 hb4 hk4)
  clear hr4 hb4 hk4
  go_wp2
  go_ret
  exact ⟨_, rfl, S3.out.fin⟩

set_option maxHeartbeats 1000000 in
set_option maxRecDepth 100000 in
theorem write_4_no {P0 : Nat → Prop} {w0 w : World} {u : Value} {l : List Int} {x : S47} {A4 A5 : Option Addr} {c4 c5 k : Nat} (G : Gv P0 w0 w u l x A4 A5 c4 c5) (hk : x.f0 = 4) (hb : script_Act_bare.f k x.f0 x.f1 x.f2 x.f3 x.f4 x.f5 = some true) (hm : x.f3 < 0 ∨ 256 ≤ x.f3) (hw : -9223372036854775808 ≤ x.f3) :
    Calls Try.prog 19 #[u, .agg (actV x A4 A5 c4 c5)] w (Gave P0 w0 w) := by
  have S0 := Lib.hid (St.start G.below G.row (actV x A4 A5 c4 c5))
  have HG := Lib.hid G
  have HB := Lib.hid hb
  clear G hb
  obtain ⟨f0, f1, f2, f3, f4, f5⟩ := x
  obtain rfl : f0 = 4 := hk
  unfold actV at *
  dsimp only at *
  go_enter Try.func19, Try.ntmps19
  have d0 := S0.out.cell 0 rfl; have d1 := S0.out.cell 1 rfl; have d2 := S0.out.cell 2 rfl; have d3 := S0.out.cell 3 rfl; have d4 := S0.out.cell 4 rfl; have d5 := S0.out.cell 5 rfl
  go_wp2_with fail
  generalize w.alloc (.cells #[.int .i64 4, .int .i64 f1, .int .i64 f2, .int .i64 f3, .slice A4 f4.length c4, .slice A5 f5.length c5] 47) = W1 at *
  clear d0 d1 d2 d3 d4 d5
  refine (script_Act_bare.calls _ 4 f1 f2 f3 A4 c4 f4 A5 c5 f5 true _ (Kd.C_below HG.out.r4 S0.out.below) HG.out.h4 (Kd.C_below HG.out.r5 S0.out.below) HG.out.h5 HB.out).mono ?_
  rintro e W2 ⟨rfl, hb⟩
  have S1 := Lib.hid (S0.out.below_ hb)
  clear hb S0 HB
  have d0 := S1.out.cell 0 rfl
  go_wp2_with fail
  refine (need_ok _ _).mono ?_
  rintro e W3 ⟨rfl, rfl⟩
  have hs2 := S1.out.size
  have hb2 := S1.out.base
  have hl2 := HG.out.len
  go_wp2_with ((with_reducible refine gate_builtin (b := .append) (xs := #[.tmp 20, .tmp 24]) rfl ?_); at_builtin; refine Kd.R_append (Kd.int .u8) (w0 := w0) w0.heap.size rfl (.tmp 20) (.tmp 24) 24 5 (.int .u8 0) 1 rfl Try.underlying24 info5 rfl (by decide) (by omega) u l 4 [.int .u8 4] (fun k => P0 k ∧ k < w.heap.size ∨ w.heap.size + 1 ≤ k) (fun _ => False) rfl rfl ?aP (fun _ hk => hk.elim) ?aF ?aO ?aB ?aS ?aL ?_; (case aP => exact rfl); (case aF => exact (fun k hk => .inr (by omega))); (case aO => exact S1.out.row); (case aB => exact S1.out.below); (case aS => omega); (case aL => omega); intro v3 W3 ho hb hg hat; have S2 := Lib.hid (S1.out.grown ho hb hg); clear ho hb hg hat S1 d0; have d0 := S2.out.cell 0 rfl; have d1 := S2.out.cell 1 rfl; have d2 := S2.out.cell 2 rfl; have d3 := S2.out.cell 3 rfl; have d4 := S2.out.cell 4 rfl; have d5 := S2.out.cell 5 rfl; clear hs2; have hs3 := S2.out.size)
  refine (small_no _ _ _ _ hw (by omega)).mono ?_
  rintro e W4 ⟨rfl, rfl⟩
  go_wp2_with fail
  exact ⟨rfl, rfl, S2.out.below, S2.out.kept⟩

set_option maxHeartbeats 1000000 in
set_option maxRecDepth 100000 in
theorem write_7_ok {P0 : Nat → Prop} {w0 w : World} {u : Value} {l : List Int} {x : S47} {A4 A5 : Option Addr} {c4 c5 k : Nat} (G : Gv P0 w0 w u l x A4 A5 c4 c5) (hk : x.f0 = 7) (hb : script_Act_bare.f k x.f0 x.f1 x.f2 x.f3 x.f4 x.f5 = some true) (hm : 0 ≤ x.f3 ∧ x.f3 < 65536) :
    Calls Try.prog 19 #[u, .agg (actV x A4 A5 c4 c5)] w (Wrote P0 w0 w (l ++ [7] ++ le 2 x.f3)) := by
  have S0 := Lib.hid (St.start G.below G.row (actV x A4 A5 c4 c5))
  have HG := Lib.hid G
  have HB := Lib.hid hb
  clear G hb
  obtain ⟨f0, f1, f2, f3, f4, f5⟩ := x
  obtain rfl : f0 = 7 := hk
  unfold actV at *
  dsimp only at *
  go_enter Try.func19, Try.ntmps19
  have d0 := S0.out.cell 0 rfl; have d1 := S0.out.cell 1 rfl; have d2 := S0.out.cell 2 rfl; have d3 := S0.out.cell 3 rfl; have d4 := S0.out.cell 4 rfl; have d5 := S0.out.cell 5 rfl
  go_wp2_with fail
  generalize w.alloc (.cells #[.int .i64 7, .int .i64 f1, .int .i64 f2, .int .i64 f3, .slice A4 f4.length c4, .slice A5 f5.length c5] 47) = W1 at *
  clear d0 d1 d2 d3 d4 d5
  refine (script_Act_bare.calls _ 7 f1 f2 f3 A4 c4 f4 A5 c5 f5 true _ (Kd.C_below HG.out.r4 S0.out.below) HG.out.h4 (Kd.C_below HG.out.r5 S0.out.below) HG.out.h5 HB.out).mono ?_
  rintro e W2 ⟨rfl, hb⟩
  have S1 := Lib.hid (S0.out.below_ hb)
  clear hb S0 HB
  have d0 := S1.out.cell 0 rfl
  go_wp2_with fail
  refine (need_ok _ _).mono ?_
  rintro e W3 ⟨rfl, rfl⟩
  have hs2 := S1.out.size
  have hb2 := S1.out.base
  have hl2 := HG.out.len
  go_wp2_with ((with_reducible refine gate_builtin (b := .append) (xs := #[.tmp 20, .tmp 24]) rfl ?_); at_builtin; refine Kd.R_append (Kd.int .u8) (w0 := w0) w0.heap.size rfl (.tmp 20) (.tmp 24) 24 5 (.int .u8 0) 1 rfl Try.underlying24 info5 rfl (by decide) (by omega) u l 7 [.int .u8 7] (fun k => P0 k ∧ k < w.heap.size ∨ w.heap.size + 1 ≤ k) (fun _ => False) rfl rfl ?aP (fun _ hk => hk.elim) ?aF ?aO ?aB ?aS ?aL ?_; (case aP => exact rfl); (case aF => exact (fun k hk => .inr (by omega))); (case aO => exact S1.out.row); (case aB => exact S1.out.below); (case aS => omega); (case aL => omega); intro v3 W3 ho hb hg hat; have S2 := Lib.hid (S1.out.grown ho hb hg); clear ho hb hg hat S1 d0; have d0 := S2.out.cell 0 rfl; have d1 := S2.out.cell 1 rfl; have d2 := S2.out.cell 2 rfl; have d3 := S2.out.cell 3 rfl; have d4 := S2.out.cell 4 rfl; have d5 := S2.out.cell 5 rfl; clear hs2; have hs3 := S2.out.size)
  refine (small_ok _ _ _ _ _ _ _ w0 _ S2.out.below S2.out.row hm.1 (by omega) (put_f (l ++ [7]) f3 2 (by simp; omega) (by omega))).mono ?_
  rintro e W4 ⟨v4, rfl, hr4, hb4, hk4⟩
  have S3 := Lib.hid (S2.out.step hr4 hb4 hk4)
  clear hr4 hb4 hk4
  go_wp2
  go_ret
  exact ⟨_, rfl, S3.out.fin⟩

set_option maxHeartbeats 1000000 in
set_option maxRecDepth 100000 in
theorem write_7_no {P0 : Nat → Prop} {w0 w : World} {u : Value} {l : List Int} {x : S47} {A4 A5 : Option Addr} {c4 c5 k : Nat} (G : Gv P0 w0 w u l x A4 A5 c4 c5) (hk : x.f0 = 7) (hb : script_Act_bare.f k x.f0 x.f1 x.f2 x.f3 x.f4 x.f5 = some true) (hm : x.f3 < 0 ∨ 65536 ≤ x.f3) (hw : -9223372036854775808 ≤ x.f3) :
    Calls Try.prog 19 #[u, .agg (actV x A4 A5 c4 c5)] w (Gave P0 w0 w) := by
  have S0 := Lib.hid (St.start G.below G.row (actV x A4 A5 c4 c5))
  have HG := Lib.hid G
  have HB := Lib.hid hb
  clear G hb
  obtain ⟨f0, f1, f2, f3, f4, f5⟩ := x
  obtain rfl : f0 = 7 := hk
  unfold actV at *
  dsimp only at *
  go_enter Try.func19, Try.ntmps19
  have d0 := S0.out.cell 0 rfl; have d1 := S0.out.cell 1 rfl; have d2 := S0.out.cell 2 rfl; have d3 := S0.out.cell 3 rfl; have d4 := S0.out.cell 4 rfl; have d5 := S0.out.cell 5 rfl
  go_wp2_with fail
  generalize w.alloc (.cells #[.int .i64 7, .int .i64 f1, .int .i64 f2, .int .i64 f3, .slice A4 f4.length c4, .slice A5 f5.length c5] 47) = W1 at *
  clear d0 d1 d2 d3 d4 d5
  refine (script_Act_bare.calls _ 7 f1 f2 f3 A4 c4 f4 A5 c5 f5 true _ (Kd.C_below HG.out.r4 S0.out.below) HG.out.h4 (Kd.C_below HG.out.r5 S0.out.below) HG.out.h5 HB.out).mono ?_
  rintro e W2 ⟨rfl, hb⟩
  have S1 := Lib.hid (S0.out.below_ hb)
  clear hb S0 HB
  have d0 := S1.out.cell 0 rfl
  go_wp2_with fail
  refine (need_ok _ _).mono ?_
  rintro e W3 ⟨rfl, rfl⟩
  have hs2 := S1.out.size
  have hb2 := S1.out.base
  have hl2 := HG.out.len
  go_wp2_with ((with_reducible refine gate_builtin (b := .append) (xs := #[.tmp 20, .tmp 24]) rfl ?_); at_builtin; refine Kd.R_append (Kd.int .u8) (w0 := w0) w0.heap.size rfl (.tmp 20) (.tmp 24) 24 5 (.int .u8 0) 1 rfl Try.underlying24 info5 rfl (by decide) (by omega) u l 7 [.int .u8 7] (fun k => P0 k ∧ k < w.heap.size ∨ w.heap.size + 1 ≤ k) (fun _ => False) rfl rfl ?aP (fun _ hk => hk.elim) ?aF ?aO ?aB ?aS ?aL ?_; (case aP => exact rfl); (case aF => exact (fun k hk => .inr (by omega))); (case aO => exact S1.out.row); (case aB => exact S1.out.below); (case aS => omega); (case aL => omega); intro v3 W3 ho hb hg hat; have S2 := Lib.hid (S1.out.grown ho hb hg); clear ho hb hg hat S1 d0; have d0 := S2.out.cell 0 rfl; have d1 := S2.out.cell 1 rfl; have d2 := S2.out.cell 2 rfl; have d3 := S2.out.cell 3 rfl; have d4 := S2.out.cell 4 rfl; have d5 := S2.out.cell 5 rfl; clear hs2; have hs3 := S2.out.size)
  refine (small_no _ _ _ _ hw (by omega)).mono ?_
  rintro e W4 ⟨rfl, rfl⟩
  go_wp2_with fail
  exact ⟨rfl, rfl, S2.out.below, S2.out.kept⟩

set_option maxHeartbeats 1000000 in
set_option maxRecDepth 100000 in
theorem write_1_ok {P0 : Nat → Prop} {w0 w : World} {u : Value} {l : List Int} {x : S47} {A4 A5 : Option Addr} {c4 c5 k : Nat} (G : Gv P0 w0 w u l x A4 A5 c4 c5) (hk : x.f0 = 1) (hb : script_Act_bare.f k x.f0 x.f1 x.f2 x.f3 x.f4 x.f5 = some true) (hm : 0 ≤ x.f1 ∧ x.f1 < 256) (hm2 : 0 ≤ x.f2 ∧ x.f2 < 256) :
    Calls Try.prog 19 #[u, .agg (actV x A4 A5 c4 c5)] w (Wrote P0 w0 w (l ++ [1] ++ le 1 x.f1 ++ le 1 x.f2)) := by
  have S0 := Lib.hid (St.start G.below G.row (actV x A4 A5 c4 c5))
  have HG := Lib.hid G
  have HB := Lib.hid hb
  clear G hb
  obtain ⟨f0, f1, f2, f3, f4, f5⟩ := x
  obtain rfl : f0 = 1 := hk
  unfold actV at *
  dsimp only at *
  go_enter Try.func19, Try.ntmps19
  have d0 := S0.out.cell 0 rfl; have d1 := S0.out.cell 1 rfl; have d2 := S0.out.cell 2 rfl; have d3 := S0.out.cell 3 rfl; have d4 := S0.out.cell 4 rfl; have d5 := S0.out.cell 5 rfl
  go_wp2_with fail
  generalize w.alloc (.cells #[.int .i64 1, .int .i64 f1, .int .i64 f2, .int .i64 f3, .slice A4 f4.length c4, .slice A5 f5.length c5] 47) = W1 at *
  clear d0 d1 d2 d3 d4 d5
  refine (script_Act_bare.calls _ 1 f1 f2 f3 A4 c4 f4 A5 c5 f5 true _ (Kd.C_below HG.out.r4 S0.out.below) HG.out.h4 (Kd.C_below HG.out.r5 S0.out.below) HG.out.h5 HB.out).mono ?_
  rintro e W2 ⟨rfl, hb⟩
  have S1 := Lib.hid (S0.out.below_ hb)
  clear hb S0 HB
  have d0 := S1.out.cell 0 rfl
  go_wp2_with fail
  refine (need_ok _ _).mono ?_
  rintro e W3 ⟨rfl, rfl⟩
  have hs2 := S1.out.size
  have hb2 := S1.out.base
  have hl2 := HG.out.len
  go_wp2_with ((with_reducible refine gate_builtin (b := .append) (xs := #[.tmp 20, .tmp 24]) rfl ?_); at_builtin; refine Kd.R_append (Kd.int .u8) (w0 := w0) w0.heap.size rfl (.tmp 20) (.tmp 24) 24 5 (.int .u8 0) 1 rfl Try.underlying24 info5 rfl (by decide) (by omega) u l 1 [.int .u8 1] (fun k => P0 k ∧ k < w.heap.size ∨ w.heap.size + 1 ≤ k) (fun _ => False) rfl rfl ?aP (fun _ hk => hk.elim) ?aF ?aO ?aB ?aS ?aL ?_; (case aP => exact rfl); (case aF => exact (fun k hk => .inr (by omega))); (case aO => exact S1.out.row); (case aB => exact S1.out.below); (case aS => omega); (case aL => omega); intro v3 W3 ho hb hg hat; have S2 := Lib.hid (S1.out.grown ho hb hg); clear ho hb hg hat S1 d0; have d0 := S2.out.cell 0 rfl; have d1 := S2.out.cell 1 rfl; have d2 := S2.out.cell 2 rfl; have d3 := S2.out.cell 3 rfl; have d4 := S2.out.cell 4 rfl; have d5 := S2.out.cell 5 rfl; clear hs2; have hs3 := S2.out.size)
  have g1 : 1 ≤ w.heap.size + 1 := by omega
  go_region_held3 (fun w' => w'.cell? ⟨w.heap.size, 1, none⟩ = some (.int .i64 f1) ∧ w'.cell? ⟨w.heap.size, 2, none⟩ = some (.int .i64 f2))
    (first | exact ⟨d1, d2⟩ | exact ⟨S3.out.cell 1 rfl, S3.out.cell 2 rfl⟩ | exact ⟨S4.out.cell 1 rfl, S4.out.cell 2 rfl⟩)
    (first
      | (go_at_call_of 24 (v3); refine (small_ok _ _ _ _ _ _ _ w0 _ (S2.out.drew_).below (S2.out.drew_).row hm.1 (by omega) (put_f (l ++ [1]) f1 1 (by simp; omega) (by omega))).mono ?_; rintro e W4 ⟨v4, rfl, hr4, hb4, hk4⟩; have S3 := Lib.hid ((S2.out.drew_).step hr4 hb4 hk4))
      | (go_at_call_of 24 (v4); refine (small_ok _ _ _ _ _ _ _ w0 _ S3.out.below S3.out.row hm2.1 (by omega) (put_f (l ++ [1] ++ le 1 f1) f2 1 (by simp [le_len]; omega) (by omega))).mono ?_; rintro e W5 ⟨v5, rfl, hr5, hb5, hk5⟩; have S4 := Lib.hid (S3.out.step hr5 hb5 hk5)))
  all_goals go_wp2
  all_goals go_ret
  all_goals exact ⟨_, rfl, S4.out.fin⟩

end Go.Proofs.Ythnefjkpjhfkgaa.Core
