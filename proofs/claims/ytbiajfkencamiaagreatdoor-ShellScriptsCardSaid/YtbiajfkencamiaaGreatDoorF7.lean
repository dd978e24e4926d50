/- shell: the verbs' map; Line's deferred function. Printed by gen_sf7.py. -/
import Derived.Test.YtbiajfkencamiaaGreatDoorF6
import Derived.StringKeys
/-! F7 -/
namespace Go.Proofs.YtbiajfkencamiaaGreatDoor.SH
open Go.Maps Go.RowKit Go.Shelf Go.Proofs.YtbiajfkencamiaaGreatDoorW.PrintWords Go.Proofs.YtbiajfkencamiaaGreatDoorW.PrintMore Go.Proofs.YtbiajfkencamiaaGreatDoor.P1 Go.Proofs.YtbiajfkencamiaaGreatDoor Go.Proofs.YtbiajfkencamiaaGreatDoor.Core
open Go.Proofs.YtbiajfkencamiaaGreatDoor.EV (Upd Upd.set Upd.below Upd.trans fnElem fnElem_inv Kq)
set_option linter.unusedVariables false
set_option linter.unusedSimpArgs false
def verbsL : List (List UInt8 × Nat) := [([99, 111, 100, 101], 23), ([99, 108, 101, 97, 114], 24), ([108, 105, 109, 105, 116, 115], 25), ([109, 97, 99, 104, 105, 110, 101], 26), ([115, 117, 98, 109, 105, 116], 27), ([101, 118, 97, 108], 28), ([112, 111, 108, 108], 29), ([99, 97, 110, 99, 101, 108], 30), ([115, 104, 117, 116], 31), ([112, 105, 99, 107], 32), ([114, 111, 117, 110, 100, 115], 33), ([115, 116, 97, 116, 115], 34)]
def verbIn (n0 : Nat) : List (List UInt8 × Nat) → List UInt8 → Nat
  | [], _ => n0
  | y :: l, x => verbIn (if x = y.1 then y.2 else n0) l x
def verbN (x : List UInt8) : Nat := verbIn 0 verbsL x
def putV (D : DataW Unit) (y : List UInt8 × Nat) : DataW Unit := D.put (.string y.1) (.lit (.int .i64 (y.2 : Int)))
def mapV : DataW Unit := verbsL.foldl putV (.map [])
theorem key_s (x : List UInt8) (hx : x.length ≤ 80000) : keyOf Tryz.prog 9 (.string ⟨x.toArray⟩) = some (.string x) := by
  have := WideMaps.keyOf_string_mk (P := Tryz.prog) (k := 9) (s := ⟨x.toArray⟩) Tryz.underlying9 (by simp [ByteArray.size, maxLen]; omega)
  simpa using this
theorem isKey_s (x : List UInt8) (hx : x.length ≤ 80000) : WideAt.IsKeyLit (.string x) := (string_keyed Tryz.underlying9).key (key_s x hx)
theorem at_fold (x : List UInt8) (z : DataW Unit) : ∀ (L : List (List UInt8 × Nat)) (D : DataW Unit) (n0 : Nat), IsMap D → (∀ y ∈ L, y.1.length ≤ 80000) → D.atKey (.string x) z = .lit (.int .i64 (n0 : Int)) → (L.foldl putV D).atKey (.string x) z = .lit (.int .i64 (verbIn n0 L x : Nat))
  | [], D, n0, _, _, h => h
  | y :: L, D, n0, hD, hL, h => by
    refine at_fold x z L (putV D y) _ (hD.put _ _) (fun u hu => hL u (List.mem_cons_of_mem _ hu)) ?_
    unfold putV
    by_cases hxy : x = y.1
    · rw [if_pos hxy, hxy]
      exact Maps.atKey_put_same hD (isKey_s _ (hL y (List.mem_cons_self ..))) _ _
    · rw [if_neg hxy, Maps.atKey_put_other (fun e => hxy (by injection e))]
      exact h
theorem verb_at (x : List UInt8) : mapV.atKey (.string x) (.lit (.int .i64 0)) = .lit (.int .i64 (verbN x : Nat)) :=
  at_fold x _ verbsL (.map []) 0 ⟨[], rfl⟩ (by decide) rfl
def fnV (n : Nat) : Value := if n = 0 then .nilFunc else .func (.func n) #[] #[]
/-- How a function reads: by its number; none: 0. -/
def fnZ (v : Value) : Option (DataW Unit × List MemPlace) :=
  match v with
  | .func (.func k) a b => if k ≠ 0 ∧ a.size = 0 ∧ b.size = 0 then some (.lit (.int .i64 (k : Int)), []) else none
  | .nilFunc => some (.lit (.int .i64 0), [])
  | _ => none
theorem fnZ_inv {v : Value} {n : Nat} {ps : List MemPlace} (h : fnZ v = some (.lit (.int .i64 (n : Int)), ps)) : v = fnV n := by
  unfold fnZ at h
  split at h
  · rename_i k a b
    split at h
    · rename_i hs
      injection h with h
      injection h with h _
      injection h with h
      injection h with _ h
      have e : k = n := Int.ofNat.inj h
      subst e
      unfold fnV
      rw [if_neg hs.1, Array.eq_empty_of_size_eq_zero hs.2.1, Array.eq_empty_of_size_eq_zero hs.2.2]
    · cases h
  · injection h with h
    injection h with h _
    injection h with h
    injection h with _ h
    have e : n = 0 := (Int.ofNat.inj h).symm
    subst e
    rfl
  · cases h
/-- The map of the verbs. -/
def MapV (X : World) (b : Nat) : Prop := X.ownsMap Tryz.prog 9 fnZ b 12 mapV
theorem map_putV {b n : Nat} {D : DataW Unit} {W : World} (y : List UInt8 × Nat) (h : W.ownsMap Tryz.prog 9 fnZ b n D) (hy : y.1.length ≤ 80000 ∧ y.2 ≠ 0) (hn : n ≤ 1000) :
    ∃ W', (Instr.mapUpdate 47 (.map (some b)) (.string ⟨y.1.toArray⟩) (.func (.func y.2) #[] #[])).run Tryz.prog W = .ok () W' ∧ W'.ownsMap Tryz.prog 9 fnZ b (n + 1) (putV D y) ∧ W.grownBy W' (some b) :=
  h.update (string_keyed Tryz.underlying9) Tryz.underlying47 (by simp only [maxLen]; omega) (key_s y.1 hy.1) (ps := []) (by unfold fnZ; simp [hy.2])
theorem zeroV (w : World) : (zeroValue 46).run Tryz.prog w = .ok .nilFunc w := by kernel_rfl
theorem MapV.look {X : World} {b : Nat} (h : MapV X b) (x : List UInt8) (hx : x.length ≤ 80000) : (Instr.lookup 47 (.map (some b)) (.string ⟨x.toArray⟩) false).run Tryz.prog X = .ok (fnV (verbN x)) X := by
  obtain ⟨v, ps, rl, hv⟩ := World.ownsMap.lookup h (string_keyed Tryz.underlying9) Tryz.underlying47 (zeroV X) (zd := .lit (.int .i64 0)) (zp := []) rfl (key_s x hx)
  rw [verb_at x] at hv
  rw [fnZ_inv hv] at rl
  exact rl
theorem MapV.below {X X' : World} {b : Nat} (h : MapV X b) (hb : Below X.heap.size X X') : MapV X' b := by
  obtain ⟨es, clock, h1, h2⟩ := h
  exact ⟨es, clock, (hb.block b (Array.getElem?_eq_some_iff.1 h1).1).trans h1, h2⟩
set_option maxRecDepth 100000 in
set_option maxHeartbeats 4000000 in
theorem verbs_any (w : World) : Calls Tryz.prog 14 #[] w fun e w' => ∃ b, e = .returned (.map (some b)) ∧ MapV w' b ∧ Below w.heap.size w w' := by
  have hmm := @run_makeMap Tryz.prog
  have h0 : (w.alloc (.map #[] 0)).ownsMap Tryz.prog 9 fnZ w.heap.size 0 (.map []) := World.ownsMap_made _ _ _ _
  have b0 : Below w.heap.size w (w.alloc (.map #[] 0)) := (Below.refl _ _).alloc (Nat.le_refl _) _
  obtain ⟨w1, r1, h1, g1⟩ := map_putV ([99, 111, 100, 101], 23) h0 (by decide) (by decide)
  have b1 := b0.grown g1 b0.size (fun k e => by cases e; exact Nat.le_refl _)
  obtain ⟨w2, r2, h2, g2⟩ := map_putV ([99, 108, 101, 97, 114], 24) h1 (by decide) (by decide)
  have b2 := b1.grown g2 b1.size (fun k e => by cases e; exact Nat.le_refl _)
  obtain ⟨w3, r3, h3, g3⟩ := map_putV ([108, 105, 109, 105, 116, 115], 25) h2 (by decide) (by decide)
  have b3 := b2.grown g3 b2.size (fun k e => by cases e; exact Nat.le_refl _)
  obtain ⟨w4, r4, h4, g4⟩ := map_putV ([109, 97, 99, 104, 105, 110, 101], 26) h3 (by decide) (by decide)
  have b4 := b3.grown g4 b3.size (fun k e => by cases e; exact Nat.le_refl _)
  obtain ⟨w5, r5, h5, g5⟩ := map_putV ([115, 117, 98, 109, 105, 116], 27) h4 (by decide) (by decide)
  have b5 := b4.grown g5 b4.size (fun k e => by cases e; exact Nat.le_refl _)
  obtain ⟨w6, r6, h6, g6⟩ := map_putV ([101, 118, 97, 108], 28) h5 (by decide) (by decide)
  have b6 := b5.grown g6 b5.size (fun k e => by cases e; exact Nat.le_refl _)
  obtain ⟨w7, r7, h7, g7⟩ := map_putV ([112, 111, 108, 108], 29) h6 (by decide) (by decide)
  have b7 := b6.grown g7 b6.size (fun k e => by cases e; exact Nat.le_refl _)
  obtain ⟨w8, r8, h8, g8⟩ := map_putV ([99, 97, 110, 99, 101, 108], 30) h7 (by decide) (by decide)
  have b8 := b7.grown g8 b7.size (fun k e => by cases e; exact Nat.le_refl _)
  obtain ⟨w9, r9, h9, g9⟩ := map_putV ([115, 104, 117, 116], 31) h8 (by decide) (by decide)
  have b9 := b8.grown g9 b8.size (fun k e => by cases e; exact Nat.le_refl _)
  obtain ⟨w10, r10, h10, g10⟩ := map_putV ([112, 105, 99, 107], 32) h9 (by decide) (by decide)
  have b10 := b9.grown g10 b9.size (fun k e => by cases e; exact Nat.le_refl _)
  obtain ⟨w11, r11, h11, g11⟩ := map_putV ([114, 111, 117, 110, 100, 115], 33) h10 (by decide) (by decide)
  have b11 := b10.grown g11 b10.size (fun k e => by cases e; exact Nat.le_refl _)
  obtain ⟨w12, r12, h12, g12⟩ := map_putV ([115, 116, 97, 116, 115], 34) h11 (by decide) (by decide)
  have b12 := b11.grown g12 b11.size (fun k e => by cases e; exact Nat.le_refl _)
  have HM : Hid (MapV w12 w.heap.size) := h12
  have HB := Lib.hid b12
  clear h1 g1 b1 h2 g2 b2 h3 g3 b3 h4 g4 b4 h5 g5 b5 h6 g6 b6 h7 g7 b7 h8 g8 b8 h9 g9 b9 h10 g10 b10 h11 g11 b11 h12 g12 b12 h0 b0
  go_enter Tryz.func14, Tryz.ntmps14
  go_wp2_with fail
  go_ret
  exact ⟨_, rfl, HM.out, HB.out⟩
set_option maxRecDepth 100000 in
theorem lcatch_idle (p : Addr) (w : World) :
    CallsD Tryz.prog 10 #[.pointer (some p)] .returning w fun en u' w' => en = .returned (.tuple #[]) ∧ u' = .returning ∧ w' = w := by
  refine callsD_of_wpS Tryz.func10 rfl fun c₀ cs hu => ?_
  apply wpS_seq
  apply wpS_region
  simp [wpOpsS, go_sem, recoverD, hu, Tryz.ntmps10, Exit.thenS]
  refine wpS_of_wp ?_
  simp only [Array.replicate_succ, Array.replicate_zero, List.push_toArray, List.append_toArray, List.nil_append, List.cons_append, List.setIfInBounds_toArray, List.set_cons_zero, List.set_cons_succ]
  go_wp2_with fail
  cases c₀
  simp_all [bodyPostS, results, Tryz.results10]
set_option maxRecDepth 100000 in
set_option maxHeartbeats 4000000 in
theorem lcatch_panicking (b : Nat) (x : ByteArray) (e : Nat) (he : e < 100) (older : List PanicEntry) (w : World) (hblk : w.heap[b]? = some (.cells #[.string x] 9 (0, 0))) :
    CallsD Tryz.prog 10 #[.pointer (some ⟨b, 0, none⟩)] (.panicking ({ v := .iface 41 (.agg #[.int .i64 (e : Int)]), recovered := false } :: older)) w fun en u' w' =>
      en = .returned (.tuple #[]) ∧ u' = .panicking ({ v := .iface 41 (.agg #[.int .i64 (e : Int)]), recovered := true } :: older) ∧ w' = (w.alloc (.cells #[.int .i64 (e : Int)] 41)).setCell ⟨b, 0, none⟩ (.string ⟨(toldL e).toArray⟩) := by
  have hta : ∀ (w : World), (Instr.typeAssert (.iface 41 (.agg #[.int .i64 (e : Int)])) 20 41 true).run Tryz.prog w = .ok (.tuple #[.agg #[.int .i64 (e : Int)], .bool true]) w := fun _ => by kernel_rfl
  have hb2 : (w.alloc (.cells #[.int .i64 (e : Int)] 41)).heap[b]? = some (.cells #[.string x] 9 (0, 0)) := (Below.heap_alloc _ _ _ (blk_lt hblk)).trans hblk
  have hc := blk_cell hb2 0
  have hz := blk_frozen hb2 0
  simp only [List.getElem?_toArray, List.getElem?_cons_zero] at hc
  have HT := Lib.hid (fun W => told_any e he W)
  clear hb2 hblk he
  refine callsD_of_wpS Tryz.func10 rfl fun c₀ cs hu => ?_
  apply wpS_seq
  apply wpS_region
  simp [wpOpsS, go_sem, recoverD, hu, Tryz.ntmps10, Exit.thenS]
  refine wpS_of_wp ?_
  simp only [Array.replicate_succ, Array.replicate_zero, List.push_toArray, List.append_toArray, List.nil_append, List.cons_append, List.setIfInBounds_toArray, List.set_cons_zero, List.set_cons_succ]
  go_wp2_with (refine (HT.out _).mono ?_; rintro _ w2 ⟨rfl, hw2⟩; obtain rfl := hw2)
  simp [bodyPostS, results, Tryz.results10]
end Go.Proofs.YtbiajfkencamiaaGreatDoor.SH
