/- slices.ContainsFunc, slices.IndexFunc, bound.Enough and its closure, bound.blocks: what each call comes to, for every argument that the contract names; used by the rows of this seat. -/
import Derived.Test.YtponjobacdimeaaGreatProg
import Derived.WalkKit
import Derived.KernelRfl
import Derived.Deep.LoopGhost
import Derived.Lib.Hide
import Derived.Deep.RegionHeld
import Derived.Test.YtponjobacdimeaaGreatPBoundLeastx2
import Derived.Test.YtponjobacdimeaaGreatPBoundLeastx1
namespace Go.Proofs.YtponjobacdimeaaGreat
set_option linter.unusedVariables false
set_option linter.unusedSimpArgs false
open Go.RowKit
set_option maxHeartbeats 400000 in
theorem enough1_any (n c : Int) (b b2 : Nat) (w : World) (m : Int) (h0 : 0 ≤ c + 1) (h3 : c + 1 < 3)
  (h1 : w.cell? ⟨b, 0, none⟩ = some (.int .i64 c)) (hf : w.frozen? ⟨b, 0, none⟩ = false) (hne : b ≠ b2)
  (h2 : w.cell? ⟨b2, 3 + (c+1).toNat, none⟩ = some (.int .i64 m)) :
    Calls Tryz.prog 16 #[.int .i64 n, .pointer (some ⟨b, 0, none⟩), .pointer (some ⟨b2, 0, none⟩)] w fun e w' =>
      e = .returned (.bool (decide (m < n))) ∧ w' = w.setCell ⟨b, 0, none⟩ (.int .i64 (c + 1)) := by
  have hne' : b2 ≠ b := fun h => hne h.symm
  have g1 : (w.setCell ⟨b, 0, none⟩ (.int .i64 (c + 1))).cell? ⟨b2, 3 + (c+1).toNat, none⟩ = some (.int .i64 m) := by
    rw [World.cell?_setCell_far _ _ _ _ (by simpa using hne)]; exact h2
  go_enter Tryz.func16, Tryz.ntmps16
  go_wp2
  go_ret
  exact ⟨rfl, rfl⟩

set_option maxHeartbeats 400000 in
theorem indexFunc_any (F : Nat) (cap : Array Value) (b off n cp : Nat) (x : Nat → Int) (p : Nat → Bool) (I : Nat → World → Prop) (w : World)
   (hn : n < 1000000) (hcf : ∀ a w, (callFunc F a).run Tryz.prog w = .ok (.enter F a) w)
   (hread : ∀ i w, i < n → I i w → w.cell? ⟨b, off + i, none⟩ = some (.int .i64 (x i)))
   (hcall : ∀ i w, i < n → I i w → Calls Tryz.prog F (#[.int .i64 (x i)] ++ cap) w fun e w' => e = .returned (.bool (p i)) ∧ I (i + 1) w') (h : I 0 w) :
    Calls Tryz.prog 26 #[.slice (some ⟨b, off, none⟩) n cp, .func (.func F) #[] cap] w fun e w' =>
      ∃ i, i ≤ n ∧ (∀ j, j < i → p j = false) ∧ (i < n → p i = true) ∧ e = .returned (.int .i64 (if i < n then i else -1)) ∧ (∃ k, I k w') := by
  have hr' := Lib.hid hread
  have hc' := Lib.hid hcall
  clear hread hcall
  go_enter Tryz.func26, Tryz.ntmps26
  go_wp2
  go_loopg [8] n (fun k v wr => ∃ i : Nat, i + k = n ∧ v = .int .i64 i ∧ (∀ j, j < i → p j = false) ∧ I i wr)
  case atStart => exact ⟨0, by omega, rfl, by omega, h⟩
  case round =>
    obtain ⟨i, hik, rfl, hpj, hI⟩ := hrel
    have hp' := Lib.hid hpj
    have hik' := Lib.hid hik
    by_cases hlt : i < n
    · have hcell := hr'.out i wr hlt hI
      clear hpj hik
      go_wp2
      refine (hc'.out i wr hlt hI).mono ?_
      rintro e w' ⟨rfl, hI'⟩
      cases hp : p i
      · go_wp2
        go_roundg (n - (i + 1))
        case measure => have := hik'.out; omega
        case rel => exact ⟨i + 1, by omega, by go_num, fun j hj => by
          rcases Nat.lt_or_ge j i with h' | h'
          · exact hp'.out j h'
          · obtain rfl : j = i := by omega
            exact hp, hI'⟩
      · go_wp2
        go_ret
        exact ⟨i, by omega, hp'.out, fun _ => hp, by rw [if_pos hlt]; rfl, i + 1, hI'⟩
    · obtain rfl : i = n := by have := hik'.out; omega
      clear hik hpj
      go_wp2
      go_ret
      exact ⟨i, by omega, hp'.out, fun h => absurd h hlt, by rw [if_neg hlt]; rfl, i, hI⟩

set_option maxHeartbeats 400000 in
theorem containsFunc_any (F : Nat) (cap : Array Value) (b off n cp : Nat) (x : Nat → Int) (p : Nat → Bool) (I : Nat → World → Prop) (w : World)
   (hn : n < 1000000) (hcf : ∀ a w, (callFunc F a).run Tryz.prog w = .ok (.enter F a) w)
   (hread : ∀ i w, i < n → I i w → w.cell? ⟨b, off + i, none⟩ = some (.int .i64 (x i)))
   (hcall : ∀ i w, i < n → I i w → Calls Tryz.prog F (#[.int .i64 (x i)] ++ cap) w fun e w' => e = .returned (.bool (p i)) ∧ I (i + 1) w') (h : I 0 w) :
    Calls Tryz.prog 15 #[.slice (some ⟨b, off, none⟩) n cp, .func (.func F) #[] cap] w fun e w' =>
      e = .returned (.bool (decide (∃ i, i < n ∧ p i = true))) ∧ (∃ k, I k w') := by
  have H := Lib.hid (indexFunc_any F cap b off n cp x p I w hn hcf hread hcall h)
  clear hread hcall hcf h
  go_enter Tryz.func15, Tryz.ntmps15
  go_wp2_with fail
  refine H.out.mono ?_
  rintro e w' ⟨i, hi, hj, hp, rfl, hI⟩
  have hI' := Lib.hid hI
  have hj' := Lib.hid hj
  have hp' := Lib.hid hp
  clear hI hj hp
  by_cases hlt : i < n
  · rw [if_pos hlt]
    go_wp2
    go_ret
    refine ⟨?_, hI'.out⟩
    congr 2; rw [eq_comm]; simp; exact ⟨i, hlt, hp'.out hlt⟩
  · rw [if_neg hlt]
    go_wp2
    go_ret
    refine ⟨?_, hI'.out⟩
    congr 2; rw [eq_comm]; simp; exact fun j h1 => by rw [hj'.out j (by omega)]

open Go.Proofs.YtponjobacdimeaaGreatW.PrintWords Go.Proofs.YtponjobacdimeaaGreat.PBoundLeast
set_option maxHeartbeats 400000 in
theorem blocks_any (a b c d : Int) (w : World) :
    Calls Tryz.prog 12 #[.agg #[.int .i64 a, .int .i64 b, .int .i64 c, .int .i64 d]] w fun e w' =>
      e = .returned (.agg #[.int .i64 a, .int .i64 b, .int .i64 c]) ∧ Below w.heap.size w w' := by
  go_enter Tryz.func12, Tryz.ntmps12
  go_wp2
  exact bodyPost_ret (v := .agg #[.int .i64 a, .int .i64 b, .int .i64 c]) (by simp [results, Tryz.results12, go_sem]) rfl ⟨rfl, ((Below.refl _ _).alloc (Nat.le_refl _) _).alloc (by simp) _⟩

set_option maxHeartbeats 400000 in
theorem enough_any (k : Nat) (m0 m1 m2 c0 c1 c2 r1 r2 r3 r4 : Int) (A : Option Addr) (cp : Nat) (l : List S43) (w : World) (res : Bool) (hres : decide (r1 ≤ m0 ∧ r2 ≤ m1 ∧ r3 ≤ m2) = res)
    (hr : Kd.C k43 w A l.length l) (hc : l.length ≤ cp) (h : bound_Sum.f k l = some (r1, r2, r3, r4)) :
    Calls Tryz.prog 10 #[.agg #[.int .i64 c0, .int .i64 c1, .int .i64 c2, .int .i64 m0, .int .i64 m1, .int .i64 m2], .slice A l.length cp] w fun e w' =>
      e = .returned (.bool res) ∧ Below w.heap.size w w' := by
  subst hres
  have HS := fun w1 (hb : Kd.C k43 w1 A l.length l) => bound_Sum.calls k A cp l r1 r2 r3 r4 w1 hb hc h
  have HS' := Lib.hid HS
  have hr' := Lib.hid hr
  clear h HS hr
  go_enter Tryz.func10, Tryz.ntmps10
  go_wp2_with fail
  refine (HS'.out _ (Kd.C_below hr'.out ((Below.refl _ _).alloc (Nat.le_refl _) _))).mono ?_
  rintro e w1 ⟨rfl, hb1⟩
  go_wp2_with fail
  refine (blocks_any _ _ _ _ _).mono ?_
  rintro e w2 ⟨rfl, hb2⟩
  go_wp2_with fail
  have hz1 : w.heap.size + 1 ≤ w1.heap.size := by have := hb1.size; simpa using this
  have hz2 := hb2.size
  have hcA : ∀ j v, (#[Value.int .i64 c0, .int .i64 c1, .int .i64 c2, .int .i64 m0, .int .i64 m1, .int .i64 m2] : Array Value)[j]? = some v → w2.cell? ⟨w.heap.size, j, none⟩ = some v := by
    intro j v hv
    rw [hb2.cell (p := ⟨w.heap.size, j, none⟩) (by simp; omega), hb1.cell (p := ⟨w.heap.size, j, none⟩) (by simp), World.cell?_alloc_new]; exact hv
  have hbel : Below w.heap.size w w2 := (((Below.refl _ _).alloc (Nat.le_refl _) _).trans (hb1.mono (by simp))).trans (hb2.mono (by omega))
  have hcA' := Lib.hid hcA
  have hbel' := Lib.hid hbel
  have hb1' := Lib.hid hb1
  have hb2' := Lib.hid hb2
  clear hcA hbel hb1 hb2
  refine (containsFunc_any 16 _ w2.heap.size 0 3 3 (fun i => if i = 0 then r1 else if i = 1 then r2 else r3) (fun i => decide ((if i = 0 then m0 else if i = 1 then m1 else m2) < (if i = 0 then r1 else if i = 1 then r2 else r3)))
    (fun i W => Below w.heap.size w W ∧ W.cell? ⟨w2.heap.size + 1, 0, none⟩ = some (.int .i64 (-1 + i)) ∧ W.frozen? ⟨w2.heap.size + 1, 0, none⟩ = false ∧
      (∀ j v, (#[Value.int .i64 r1, .int .i64 r2, .int .i64 r3] : Array Value)[j]? = some v → W.cell? ⟨w2.heap.size, j, none⟩ = some v) ∧
      (∀ j v, (#[Value.int .i64 c0, .int .i64 c1, .int .i64 c2, .int .i64 m0, .int .i64 m1, .int .i64 m2] : Array Value)[j]? = some v → W.cell? ⟨w.heap.size, j, none⟩ = some v))
    _ (by omega) (fun a w => by kernel_rfl) ?_ ?_ ?_).mono ?_
  · rintro i W hi ⟨_, _, _, h3, _⟩
    refine h3 _ _ ?_
    obtain rfl | rfl | rfl : i = 0 ∨ i = 1 ∨ i = 2 := by omega
    all_goals rfl
  · rintro i W hi ⟨g0, g1, g2, g3, g4⟩
    refine (enough1_any _ _ _ _ _ (if i = 0 then m0 else if i = 1 then m1 else m2) (by omega) (by omega) g1 g2 (by omega) (g4 _ _ ?_)).mono ?_
    · obtain rfl | rfl | rfl : i = 0 ∨ i = 1 ∨ i = 2 := by omega
      all_goals rfl
    · rintro e w' ⟨rfl, rfl⟩
      refine ⟨rfl, g0.setCell (by simp; omega) _, ?_, by simpa using g2, ?_, ?_⟩
      · rw [World.cell?_setCell_same (h := g1)]; congr 2; omega
      · intro j v hv; rw [World.cell?_setCell_far _ _ _ _ (by simp)]; exact g3 j v hv
      · intro j v hv; rw [World.cell?_setCell_far _ _ _ _ (by simp; omega)]; exact g4 j v hv
  · refine ⟨(hbel'.out.alloc (by omega) _).alloc (by simp; omega) _, ?_, ?_, ?_, ?_⟩
    · rw [World.cell?_alloc_at _ _ _ _ (by simp)]; rfl
    · exact World.frozen?_alloc_at _ _ _ _ (by simp)
    · intro j v hv; rw [World.cell?_alloc_past _ _ _ (by simp), World.cell?_alloc_at _ _ _ _ rfl]; exact hv
    · intro j v hv; rw [World.cell?_alloc_past _ _ _ (by simp; omega), World.cell?_alloc_past _ _ _ (by omega)]; exact hcA'.out j v hv
  rintro e w3 ⟨rfl, j, hI, _⟩
  have hI' := Lib.hid hI
  clear hI
  have e1 : (!decide (∃ i, i < 3 ∧ decide ((if i = 0 then m0 else if i = 1 then m1 else m2) < (if i = 0 then r1 else if i = 1 then r2 else r3)) = true)) = decide (r1 ≤ m0 ∧ r2 ≤ m1 ∧ r3 ≤ m2) := by
    rw [Bool.eq_iff_iff]
    simp only [Bool.not_eq_true', decide_eq_false_iff_not, decide_eq_true_eq, not_exists, not_and]
    constructor
    · intro h
      have h0 := h 0 (by omega); have h1 := h 1 (by omega); have h2 := h 2 (by omega)
      simp at h0 h1 h2
      omega
    · rintro ⟨h0, h1, h2⟩ i hi
      obtain rfl | rfl | rfl : i = 0 ∨ i = 1 ∨ i = 2 := by omega
      all_goals simp
      all_goals omega
  generalize decide (∃ i, i < 3 ∧ decide ((if i = 0 then m0 else if i = 1 then m1 else m2) < (if i = 0 then r1 else if i = 1 then r2 else r3)) = true) = q at *
  have e1' := Lib.hid e1
  clear e1
  go_wp2
  go_ret
  exact ⟨by rw [← e1'.out]; rfl, hI'.out⟩
end Go.Proofs.YtponjobacdimeaaGreat
