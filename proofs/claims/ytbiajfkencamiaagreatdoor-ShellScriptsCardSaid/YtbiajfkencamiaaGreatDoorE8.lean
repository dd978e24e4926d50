/- eval.deeds: a map of functions. -/
import Derived.Test.YtbiajfkencamiaaGreatDoorE7
/-! E8 -/
namespace Go.Proofs.YtbiajfkencamiaaGreatDoor.EV
open Go.Shelf Go.Maps Go.Proofs.YtbiajfkencamiaaGreatDoorW.PrintMore Go.Proofs.YtbiajfkencamiaaGreatDoor Go.Proofs.YtbiajfkencamiaaGreatDoor.Core Go.RowKit Go.Proofs.YtbiajfkencamiaaGreatDoorW.PrintWords
set_option linter.unusedVariables false
set_option linter.unusedSimpArgs false
/-- How a function reads: by its number. -/
def fnElem (v : Value) : Option (DataW Unit × List MemPlace) :=
  match v with
  | .func (.func k) a b => if a.size = 0 ∧ b.size = 0 then some (.lit (.int .i64 (k : Int)), []) else none
  | .nilFunc => some (.lit (.int .i64 0), [])
  | _ => none
theorem fnElem_inv {v : Value} {k : Nat} {ps : List MemPlace} (h : fnElem v = some (.lit (.int .i64 (k : Int)), ps)) (hk : 0 < k) : v = .func (.func k) #[] #[] := by
  unfold fnElem at h
  split at h
  · rename_i k' a b
    split at h
    · rename_i hs
      injection h with h
      injection h with h _
      injection h with h
      injection h with _ h
      have e : k' = k := Int.ofNat.inj h
      rw [e, Array.eq_empty_of_size_eq_zero hs.1, Array.eq_empty_of_size_eq_zero hs.2]
    · cases h
  · injection h with h
    injection h with h _
    injection h with h
    injection h with _ h
    omega
  · cases h
def deedsL : List (Int × Nat) := [(1, 204), (2, 205), (3, 206), (4, 207), (5, 208), (6, 209), (7, 210), (8, 211), (9, 212), (10, 213), (11, 214), (12, 167), (13, 215), (14, 216), (15, 217), (16, 218)]
def mapD : DataW Unit := deedsL.foldl (fun D x => D.put (.int .i64 x.1) (.lit (.int .i64 (x.2 : Int)))) (.map [])
/-- The map of the deeds. -/
def MapD (X : World) (b : Nat) : Prop := X.ownsMap Tryz.prog 3 fnElem b 16 mapD
theorem MapD.kq {ts : List Nat} {X X' : World} {b : Nat} (h : MapD X b) (hk : Kq ts X X') : MapD X' b := by
  obtain ⟨es, clock, h1, h2⟩ := h
  exact ⟨es, clock, hk.2 _ _ h1 (fun _ _ _ e => by cases e), h2⟩
theorem map_putF {b n : Nat} {D : DataW Unit} {W : World} (k : Int) (f : Nat) (h : W.ownsMap Tryz.prog 3 fnElem b n D) (hk : 0 ≤ k ∧ k ≤ 1000) (hn : n ≤ 1000) :
    ∃ W', (Instr.mapUpdate 305 (.map (some b)) (.int .i64 k) (.func (.func f) #[] #[])).run Tryz.prog W = .ok () W' ∧ W'.ownsMap Tryz.prog 3 fnElem b (n + 1) (D.put (.int .i64 k) (.lit (.int .i64 (f : Int)))) ∧ W.grownBy W' (some b) :=
  h.update (int_keyed Tryz.underlying3) Tryz.underlying305 (by simp only [maxLen]; omega) (key_i k hk.1 hk.2) (ps := []) rfl
theorem zeroF (w : World) : (zeroValue 308).run Tryz.prog w = .ok .nilFunc w := by kernel_rfl
theorem deed_at : ∀ x ∈ deedsL, mapD.atKey (.int .i64 x.1) (.lit (.int .i64 0)) = .lit (.int .i64 (x.2 : Int)) := by
  intro x hx
  simp only [deedsL, List.mem_cons, List.not_mem_nil, or_false] at hx
  rcases hx with rfl | rfl | rfl | rfl | rfl | rfl | rfl | rfl | rfl | rfl | rfl | rfl | rfl | rfl | rfl | rfl
  all_goals rfl
theorem MapD.look {X : World} {b : Nat} (h : MapD X b) (k : Int) (f : Nat) (hm : (k, f) ∈ deedsL) (hk : 0 ≤ k ∧ k ≤ 1000) (hf : 0 < f) : (Instr.lookup 305 (.map (some b)) (.int .i64 k) false).run Tryz.prog X = .ok (.func (.func f) #[] #[]) X := by
  obtain ⟨v, ps, rl, hv⟩ := World.ownsMap.lookup h (int_keyed Tryz.underlying3) Tryz.underlying305 (zeroF X) (zd := .lit (.int .i64 0)) (zp := []) rfl (key_i k hk.1 hk.2)
  rw [deed_at (k, f) hm] at hv
  rw [fnElem_inv hv hf] at rl
  exact rl
set_option maxRecDepth 100000 in
set_option maxHeartbeats 4000000 in
theorem deeds_any (w : World) : Calls Tryz.prog 165 #[] w fun e w' => ∃ b, e = .returned (.map (some b)) ∧ MapD w' b ∧ Below w.heap.size w w' := by
  have hmm := @run_makeMap Tryz.prog
  have h0 : (w.alloc (.map #[] 0)).ownsMap Tryz.prog 3 fnElem w.heap.size 0 (.map []) := World.ownsMap_made _ _ _ _
  have b0 : Below w.heap.size w (w.alloc (.map #[] 0)) := (Below.refl _ _).alloc (Nat.le_refl _) _
  obtain ⟨w1, r1, h1, g1⟩ := map_putF 1 204 h0 (by decide) (by decide)
  have b1 := b0.grown g1 b0.size (fun k e => by cases e; exact Nat.le_refl _)
  obtain ⟨w2, r2, h2, g2⟩ := map_putF 2 205 h1 (by decide) (by decide)
  have b2 := b1.grown g2 b1.size (fun k e => by cases e; exact Nat.le_refl _)
  obtain ⟨w3, r3, h3, g3⟩ := map_putF 3 206 h2 (by decide) (by decide)
  have b3 := b2.grown g3 b2.size (fun k e => by cases e; exact Nat.le_refl _)
  obtain ⟨w4, r4, h4, g4⟩ := map_putF 4 207 h3 (by decide) (by decide)
  have b4 := b3.grown g4 b3.size (fun k e => by cases e; exact Nat.le_refl _)
  obtain ⟨w5, r5, h5, g5⟩ := map_putF 5 208 h4 (by decide) (by decide)
  have b5 := b4.grown g5 b4.size (fun k e => by cases e; exact Nat.le_refl _)
  obtain ⟨w6, r6, h6, g6⟩ := map_putF 6 209 h5 (by decide) (by decide)
  have b6 := b5.grown g6 b5.size (fun k e => by cases e; exact Nat.le_refl _)
  obtain ⟨w7, r7, h7, g7⟩ := map_putF 7 210 h6 (by decide) (by decide)
  have b7 := b6.grown g7 b6.size (fun k e => by cases e; exact Nat.le_refl _)
  obtain ⟨w8, r8, h8, g8⟩ := map_putF 8 211 h7 (by decide) (by decide)
  have b8 := b7.grown g8 b7.size (fun k e => by cases e; exact Nat.le_refl _)
  obtain ⟨w9, r9, h9, g9⟩ := map_putF 9 212 h8 (by decide) (by decide)
  have b9 := b8.grown g9 b8.size (fun k e => by cases e; exact Nat.le_refl _)
  obtain ⟨w10, r10, h10, g10⟩ := map_putF 10 213 h9 (by decide) (by decide)
  have b10 := b9.grown g10 b9.size (fun k e => by cases e; exact Nat.le_refl _)
  obtain ⟨w11, r11, h11, g11⟩ := map_putF 11 214 h10 (by decide) (by decide)
  have b11 := b10.grown g11 b10.size (fun k e => by cases e; exact Nat.le_refl _)
  obtain ⟨w12, r12, h12, g12⟩ := map_putF 12 167 h11 (by decide) (by decide)
  have b12 := b11.grown g12 b11.size (fun k e => by cases e; exact Nat.le_refl _)
  obtain ⟨w13, r13, h13, g13⟩ := map_putF 13 215 h12 (by decide) (by decide)
  have b13 := b12.grown g13 b12.size (fun k e => by cases e; exact Nat.le_refl _)
  obtain ⟨w14, r14, h14, g14⟩ := map_putF 14 216 h13 (by decide) (by decide)
  have b14 := b13.grown g14 b13.size (fun k e => by cases e; exact Nat.le_refl _)
  obtain ⟨w15, r15, h15, g15⟩ := map_putF 15 217 h14 (by decide) (by decide)
  have b15 := b14.grown g15 b14.size (fun k e => by cases e; exact Nat.le_refl _)
  obtain ⟨w16, r16, h16, g16⟩ := map_putF 16 218 h15 (by decide) (by decide)
  have b16 := b15.grown g16 b15.size (fun k e => by cases e; exact Nat.le_refl _)
  have HM : Hid (MapD w16 w.heap.size) := h16
  have HB := Lib.hid b16
  clear h1 g1 b1 h2 g2 b2 h3 g3 b3 h4 g4 b4 h5 g5 b5 h6 g6 b6 h7 g7 b7 h8 g8 b8 h9 g9 b9 h10 g10 b10 h11 g11 b11 h12 g12 b12 h13 g13 b13 h14 g14 b14 h15 g15 b15 h16 g16 b16 h0 b0
  go_enter Tryz.func165, Tryz.ntmps165
  go_wp2_with fail
  go_ret
  exact ⟨_, rfl, HM.out, HB.out⟩
end Go.Proofs.YtbiajfkencamiaaGreatDoor.EV
