/- awake: the chapter's example holds. -/
import Derived.Test.YthnefjkpjhfkgaaC5
namespace Go.Proofs.Ythnefjkpjhfkgaa.Core
open Go.RowKit Go.Proofs.YthnefjkpjhfkgaaW.PrintWords Go.Proofs.YthnefjkpjhfkgaaW.PrintMore Go.Proofs.Ythnefjkpjhfkgaa.PScriptWrites
set_option linter.unusedVariables false
set_option linter.unusedSimpArgs false
set_option maxHeartbeats 2000000 in
theorem awake_any (w : World) : Calls Try.prog 12 #[] w fun e w' => e = .returned (.bool true) ∧ Below w.heap.size w w' := by
  go_enter Try.func12, Try.ntmps12
  go_wp2_with fail
  have hC : Kd.C k47 (w.alloc (.cells #[.int .i64 1, .int .i64 1, .int .i64 2, .int .i64 0, .slice none 0 0, .slice none 0 0] 47)) (some ⟨w.heap.size, 0, none⟩) 1 [(⟨1, 1, 2, 0, [], []⟩ : S47)] := by
    refine ⟨rfl, by decide, fun _ => ⟨_, rfl, fun j p hj => ?_⟩⟩
    obtain ⟨rfl, rfl⟩ : j = 0 ∧ p = ⟨1, 1, 2, 0, [], []⟩ := by
      cases j with
      | zero => exact ⟨rfl, by simpa using hj.symm⟩
      | succ j => simp at hj
    refine ⟨_, rfl, k47_mk _ ⟨1, 1, 2, 0, [], []⟩ (A4 := none) (c4 := 0) (Nat.le_refl _) (Kd.C_nil _ _) (A5 := none) (c5 := 0) (Nat.le_refl _) (Kd.C_nil _ _), fun i u hu => ?_⟩
    have ha : (⟨w.heap.size, 0, none⟩ : Addr).add (0 * k47.sz + i) = ⟨w.heap.size, i, none⟩ := by
      simp only [Addr.add, Nat.zero_mul, Nat.zero_add]
      split <;> simp_all
    rw [ha, World.cell?_alloc_new]
    simpa using hu
  refine (Write_any [⟨1, 1, 2, 0, [], []⟩] _ 1 _ hC (by decide) (fun x hx => by obtain rfl : x = _ := (by simpa using hx); exact ⟨by decide, by decide, by decide, by decide, by decide⟩)).mono ?_
  have h1 : errL [⟨1, 1, 2, 0, [], []⟩] = 0 := by decide
  have h2 : bytL [⟨1, 1, 2, 0, [], []⟩] = [1, 1, 2] := by decide
  rintro e w' (⟨_, v, rfl, hr, hb⟩ | ⟨hne, _⟩)
  · rw [h2] at hr
    obtain ⟨A, c, rfl, hc, hC'⟩ := Kd.R_reads hr
    have hs := Kd.C_string (P := Try.prog) (src := 24) (dst := 9) (c := c) Try.underlying24 Try.underlying5 Try.underlying9 hC'
    have e1 : strOfNums [1, 1, 2] = ⟨#[1, 1, 2]⟩ := by decide
    rw [e1] at hs
    have HB := Lib.hid hb
    have e0 : (((0 : Int) == 0) = true) := rfl
    clear hr hb hC' hC h1 h2 e1
    simp only [List.length_cons, List.length_nil, Nat.zero_add, Nat.reduceAdd] at hs
    go_wp2_with fail
    go_ret
    exact ⟨rfl, ((Below.refl _ _).alloc (Nat.le_refl _) _).trans (HB.out.mono (by simp))⟩
  · exact absurd h1 hne
end Go.Proofs.Ythnefjkpjhfkgaa.Core
