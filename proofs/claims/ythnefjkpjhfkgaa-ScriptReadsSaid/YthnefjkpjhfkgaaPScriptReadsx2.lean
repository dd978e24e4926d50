-- PRINTED BY print.sh 35421559b90ae4d0a3588c463048766b98c2df88dd9212a6774a882060cdf62d: not written by this session
import Derived.Test.YthnefjkpjhfkgaaPScriptReadsx0
namespace Go.Proofs.Ythnefjkpjhfkgaa.PScriptReads
open Go.RowKit Go.Proofs.YthnefjkpjhfkgaaW.PrintWords Go.Proofs.YthnefjkpjhfkgaaW.PrintLast Go.Proofs.YthnefjkpjhfkgaaW.PrintMore
attribute [local go_sem] max2_int min2_int max_two min_two max_three min_three max_four min_four   -- for this text's walks alone
set_option linter.unusedVariables false
set_option linter.unusedSimpArgs false

/-! ### haymowref18_Read: function 15 -/
mutual
def haymowref18_Read.l0 : Nat → List Int → List (S33) → Int → Option ((List (S33)) × Int)
  | 0, _, _, _ => none
  | k + 1, x0, x4, x5 => if x5 < (x0.length : Int) then (if 0 ≤ x5 then (if (wrap64 (rd x0 x5)) = 1 then (if (wrap64 ((x0.length : Int) - (wrap64 (x5 + 1)))) < 2 then (some (([] : List (S33)), 2)) else (if 0 ≤ (wrap64 (x5 + 1)) then (if (wrap64 (x5 + 1)) < (x0.length : Int) then (if 0 ≤ (wrap64 ((wrap64 (x5 + 1)) + 1)) then (if (wrap64 ((wrap64 (x5 + 1)) + 1)) < (x0.length : Int) then (if x4.length < 1759218604441 then (haymowref18_Read.l0 k x0 (x4 ++ [(⟨wrap64 (rd x0 x5), wrap64 (rd x0 (wrap64 (x5 + 1))), wrap64 (rd x0 (wrap64 ((wrap64 (x5 + 1)) + 1))), 0, ([] : List Int), ([] : List Int)⟩ : S33)]) (wrap64 ((wrap64 (x5 + 1)) + 2))) else (none)) else (none)) else (none)) else (none)) else (none))) else (if (wrap64 (rd x0 x5)) = 2 then (if (wrap64 ((x0.length : Int) - (wrap64 (x5 + 1)))) < 2 then (some (([] : List (S33)), 2)) else (if 0 ≤ (wrap64 (x5 + 1)) then (if (wrap64 (x5 + 1)) < (x0.length : Int) then (if 0 ≤ (wrap64 ((wrap64 (x5 + 1)) + 1)) then (if (wrap64 ((wrap64 (x5 + 1)) + 1)) < (x0.length : Int) then (if (wrap64 ((x0.length : Int) - (wrap64 (x5 + 1)))) < (wrap64 (3 + (wrap64 ((wrap64 (rd x0 (wrap64 (x5 + 1)))) + (wrap64 (256 * (wrap64 (rd x0 (wrap64 ((wrap64 (x5 + 1)) + 1)))))))))) then (some (([] : List (S33)), 2)) else (if 0 ≤ (wrap64 ((wrap64 (x5 + 1)) + 2)) then (if (wrap64 ((wrap64 (x5 + 1)) + 2)) ≤ (wrap64 ((wrap64 ((wrap64 (x5 + 1)) + 2)) + (wrap64 ((wrap64 (rd x0 (wrap64 (x5 + 1)))) + (wrap64 (256 * (wrap64 (rd x0 (wrap64 ((wrap64 (x5 + 1)) + 1)))))))))) then (if (wrap64 ((wrap64 ((wrap64 (x5 + 1)) + 2)) + (wrap64 ((wrap64 (rd x0 (wrap64 (x5 + 1)))) + (wrap64 (256 * (wrap64 (rd x0 (wrap64 ((wrap64 (x5 + 1)) + 1)))))))))) ≤ (x0.length : Int) then (if ([] : List Int).length + ((x0.take ((wrap64 ((wrap64 ((wrap64 (x5 + 1)) + 2)) + (wrap64 ((wrap64 (rd x0 (wrap64 (x5 + 1)))) + (wrap64 (256 * (wrap64 (rd x0 (wrap64 ((wrap64 (x5 + 1)) + 1)))))))))) : Int).toNat).drop ((wrap64 ((wrap64 (x5 + 1)) + 2)) : Int).toNat).length < 140737488355328 then (if 0 ≤ (wrap64 ((wrap64 (x5 + 1)) + (wrap64 (2 + (wrap64 ((wrap64 (rd x0 (wrap64 (x5 + 1)))) + (wrap64 (256 * (wrap64 (rd x0 (wrap64 ((wrap64 (x5 + 1)) + 1)))))))))))) then (if (wrap64 ((wrap64 (x5 + 1)) + (wrap64 (2 + (wrap64 ((wrap64 (rd x0 (wrap64 (x5 + 1)))) + (wrap64 (256 * (wrap64 (rd x0 (wrap64 ((wrap64 (x5 + 1)) + 1)))))))))))) < (x0.length : Int) then (if (wrap64 ((x0.length : Int) - (wrap64 ((wrap64 ((wrap64 (x5 + 1)) + (wrap64 (2 + (wrap64 ((wrap64 (rd x0 (wrap64 (x5 + 1)))) + (wrap64 (256 * (wrap64 (rd x0 (wrap64 ((wrap64 (x5 + 1)) + 1)))))))))))) + 1)))) < (wrap64 (8 * (wrap64 (rd x0 (wrap64 ((wrap64 (x5 + 1)) + (wrap64 (2 + (wrap64 ((wrap64 (rd x0 (wrap64 (x5 + 1)))) + (wrap64 (256 * (wrap64 (rd x0 (wrap64 ((wrap64 (x5 + 1)) + 1)))))))))))))))) then (some (([] : List (S33)), 2)) else (haymowref18_Read.l1 k x0 x4 (wrap64 ((wrap64 ((wrap64 (x5 + 1)) + (wrap64 (2 + (wrap64 ((wrap64 (rd x0 (wrap64 (x5 + 1)))) + (wrap64 (256 * (wrap64 (rd x0 (wrap64 ((wrap64 (x5 + 1)) + 1)))))))))))) + 1)) (wrap64 (rd x0 (wrap64 ((wrap64 (x5 + 1)) + (wrap64 (2 + (wrap64 ((wrap64 (rd x0 (wrap64 (x5 + 1)))) + (wrap64 (256 * (wrap64 (rd x0 (wrap64 ((wrap64 (x5 + 1)) + 1)))))))))))))) 0 (wrap64 (rd x0 x5)) 0 0 0 (([] : List Int) ++ ((x0.take ((wrap64 ((wrap64 ((wrap64 (x5 + 1)) + 2)) + (wrap64 ((wrap64 (rd x0 (wrap64 (x5 + 1)))) + (wrap64 (256 * (wrap64 (rd x0 (wrap64 ((wrap64 (x5 + 1)) + 1)))))))))) : Int).toNat).drop ((wrap64 ((wrap64 (x5 + 1)) + 2)) : Int).toNat)) ([] : List Int))) else (none)) else (none)) else (none)) else (none)) else (none)) else (none))) else (none)) else (none)) else (none)) else (none))) else (if (wrap64 (rd x0 x5)) = 3 then (haymowref18_Read.j3 k x0 x4 (wrap64 (x5 + 1)) (wrap64 ((x0.length : Int) - (wrap64 (x5 + 1)))) (wrap64 (rd x0 x5)) ((wrap64 (rd x0 x5)) == 3) (wrap64 (rd x0 x5)) 0 0 0) else (haymowref18_Read.j3 k x0 x4 (wrap64 (x5 + 1)) (wrap64 ((x0.length : Int) - (wrap64 (x5 + 1)))) (wrap64 (rd x0 x5)) ((wrap64 (rd x0 x5)) == 4) (wrap64 (rd x0 x5)) 0 0 0)))) else (none)) else (some (x4, 0))
def haymowref18_Read.l1 : Nat → List Int → List (S33) → Int → Int → Int → Int → Int → Int → Int → List Int → List Int → Option ((List (S33)) × Int)
  | 0, _, _, _, _, _, _, _, _, _, _, _ => none
  | k + 1, x0, x4, x5, x9, x10, x113000, x113001, x113002, x113003, x113004, x113005 => if x10 < x9 then (haymowref18_Read.l2 k x0 x4 x5 x9 x10 0 7 x113000 x113001 x113002 x113003 x113004 x113005) else (if x4.length < 1759218604441 then (haymowref18_Read.l0 k x0 (x4 ++ [(⟨x113000, x113001, x113002, x113003, x113004, x113005⟩ : S33)]) x5) else (none))
def haymowref18_Read.l2 : Nat → List Int → List (S33) → Int → Int → Int → Int → Int → Int → Int → Int → Int → List Int → List Int → Option ((List (S33)) × Int)
  | 0, _, _, _, _, _, _, _, _, _, _, _, _, _ => none
  | k + 1, x0, x4, x5, x9, x10, x11, x12, x113000, x113001, x113002, x113003, x113004, x113005 => if x12 ≥ 0 then (if 0 ≤ (wrap64 (x5 + x12)) then (if (wrap64 (x5 + x12)) < (x0.length : Int) then (haymowref18_Read.l2 k x0 x4 x5 x9 x10 (IntKind.u64.wrap ((IntKind.u64.wrap (256 * x11)) + (IntKind.u64.wrap (rd x0 (wrap64 (x5 + x12)))))) (wrap64 (x12 - 1)) x113000 x113001 x113002 x113003 x113004 x113005) else (none)) else (none)) else (if x113005.length < 17592186044416 then (haymowref18_Read.l1 k x0 x4 (wrap64 (x5 + 8)) x9 (wrap64 (x10 + 1)) x113000 x113001 x113002 x113003 x113004 (x113005 ++ [wrap64 (x11)])) else (none))
def haymowref18_Read.j3 : Nat → List Int → List (S33) → Int → Int → Int → Bool → Int → Int → Int → Int → Option ((List (S33)) × Int)
  | 0, _, _, _, _, _, _, _, _, _, _ => none
  | k + 1, x0, x4, x5, x7, x30, x129, x113000, x113001, x113002, x113003 => if x129 = true then (if x7 < 1 then (some (([] : List (S33)), 2)) else (if 0 ≤ x5 then (if x5 < (x0.length : Int) then (if x4.length < 1759218604441 then (haymowref18_Read.l0 k x0 (x4 ++ [(⟨x113000, x113001, x113002, wrap64 (rd x0 x5), ([] : List Int), ([] : List Int)⟩ : S33)]) (wrap64 (x5 + 1))) else (none)) else (none)) else (none))) else (if x30 = 5 then (haymowref18_Read.j4 k x0 x4 x5 x7 x30 (x30 == 5) x113000 x113001 x113002 x113003) else (haymowref18_Read.j4 k x0 x4 x5 x7 x30 (x30 == 6) x113000 x113001 x113002 x113003))
def haymowref18_Read.j4 : Nat → List Int → List (S33) → Int → Int → Int → Bool → Int → Int → Int → Int → Option ((List (S33)) × Int)
  | 0, _, _, _, _, _, _, _, _, _, _ => none
  | k + 1, x0, x4, x5, x7, x30, x142, x113000, x113001, x113002, x113003 => if x142 = true then (if x4.length < 1759218604441 then (haymowref18_Read.l0 k x0 (x4 ++ [(⟨x113000, x113001, x113002, x113003, ([] : List Int), ([] : List Int)⟩ : S33)]) x5) else (none)) else (if x30 = 7 then (if x7 < 2 then (some (([] : List (S33)), 2)) else (if 0 ≤ x5 then (if x5 < (x0.length : Int) then (if 0 ≤ (wrap64 (x5 + 1)) then (if (wrap64 (x5 + 1)) < (x0.length : Int) then (if x4.length < 1759218604441 then (haymowref18_Read.l0 k x0 (x4 ++ [(⟨x113000, x113001, x113002, wrap64 ((wrap64 (rd x0 x5)) + (wrap64 (256 * (wrap64 (rd x0 (wrap64 (x5 + 1))))))), ([] : List Int), ([] : List Int)⟩ : S33)]) (wrap64 (x5 + 2))) else (none)) else (none)) else (none)) else (none)) else (none))) else (some (([] : List (S33)), 4)))
end
def haymowref18_Read.f (k : Nat) (l0 : List Int) : Option ((List (S33)) × Int) := haymowref18_Read.l0 k l0 ([] : List (S33)) 0
theorem haymowref18_Read.mono_l : ∀ k, (∀ y0 y1 y2, LeO (haymowref18_Read.l0 k y0 y1 y2) (haymowref18_Read.l0 (k + 1) y0 y1 y2)) ∧ (∀ y0 y1 y2 y3 y4 y5 y6 y7 y8 y9 y10, LeO (haymowref18_Read.l1 k y0 y1 y2 y3 y4 y5 y6 y7 y8 y9 y10) (haymowref18_Read.l1 (k + 1) y0 y1 y2 y3 y4 y5 y6 y7 y8 y9 y10)) ∧ (∀ y0 y1 y2 y3 y4 y5 y6 y7 y8 y9 y10 y11 y12, LeO (haymowref18_Read.l2 k y0 y1 y2 y3 y4 y5 y6 y7 y8 y9 y10 y11 y12) (haymowref18_Read.l2 (k + 1) y0 y1 y2 y3 y4 y5 y6 y7 y8 y9 y10 y11 y12)) ∧ (∀ y0 y1 y2 y3 y4 y5 y6 y7 y8 y9, LeO (haymowref18_Read.j3 k y0 y1 y2 y3 y4 y5 y6 y7 y8 y9) (haymowref18_Read.j3 (k + 1) y0 y1 y2 y3 y4 y5 y6 y7 y8 y9)) ∧ (∀ y0 y1 y2 y3 y4 y5 y6 y7 y8 y9, LeO (haymowref18_Read.j4 k y0 y1 y2 y3 y4 y5 y6 y7 y8 y9) (haymowref18_Read.j4 (k + 1) y0 y1 y2 y3 y4 y5 y6 y7 y8 y9))
  | 0 => ⟨fun _ _ _ r h => by simp [haymowref18_Read.l0] at h, fun _ _ _ _ _ _ _ _ _ _ _ r h => by simp [haymowref18_Read.l1] at h, fun _ _ _ _ _ _ _ _ _ _ _ _ _ r h => by simp [haymowref18_Read.l2] at h, fun _ _ _ _ _ _ _ _ _ _ r h => by simp [haymowref18_Read.j3] at h, fun _ _ _ _ _ _ _ _ _ _ r h => by simp [haymowref18_Read.j4] at h⟩
  | k + 1 => by
    obtain ⟨ih0, ih1, ih2, ih3, ih4⟩ := haymowref18_Read.mono_l k
    refine ⟨?_, ?_, ?_, ?_, ?_⟩
    · intro y0 y1 y2
      unfold haymowref18_Read.l0
      repeat' first
      | (with_reducible exact ih0 _ _ _)
      | (with_reducible exact ih1 _ _ _ _ _ _ _ _ _ _ _)
      | (with_reducible exact ih2 _ _ _ _ _ _ _ _ _ _ _ _ _)
      | (with_reducible exact ih3 _ _ _ _ _ _ _ _ _ _)
      | (with_reducible exact ih4 _ _ _ _ _ _ _ _ _ _)
      | (with_reducible exact LeO.refl _)
      | (with_reducible exact LeO.none _)
      | (with_reducible refine LeO.ite ?_ ?_)
      | (with_reducible refine LeO.bind ?_ (fun _ => ?_))
      | exact ih0 _ _ _
      | exact ih1 _ _ _ _ _ _ _ _ _ _ _
      | exact ih2 _ _ _ _ _ _ _ _ _ _ _ _ _
      | exact ih3 _ _ _ _ _ _ _ _ _ _
      | exact ih4 _ _ _ _ _ _ _ _ _ _
      | exact LeO.none _
      | refine LeO.ite ?_ ?_
      | refine LeO.bind ?_ (fun _ => ?_)
    · intro y0 y1 y2 y3 y4 y5 y6 y7 y8 y9 y10
      unfold haymowref18_Read.l1
      repeat' first
      | (with_reducible exact ih0 _ _ _)
      | (with_reducible exact ih1 _ _ _ _ _ _ _ _ _ _ _)
      | (with_reducible exact ih2 _ _ _ _ _ _ _ _ _ _ _ _ _)
      | (with_reducible exact ih3 _ _ _ _ _ _ _ _ _ _)
      | (with_reducible exact ih4 _ _ _ _ _ _ _ _ _ _)
      | (with_reducible exact LeO.refl _)
      | (with_reducible exact LeO.none _)
      | (with_reducible refine LeO.ite ?_ ?_)
      | (with_reducible refine LeO.bind ?_ (fun _ => ?_))
      | exact ih0 _ _ _
      | exact ih1 _ _ _ _ _ _ _ _ _ _ _
      | exact ih2 _ _ _ _ _ _ _ _ _ _ _ _ _
      | exact ih3 _ _ _ _ _ _ _ _ _ _
      | exact ih4 _ _ _ _ _ _ _ _ _ _
      | exact LeO.none _
      | refine LeO.ite ?_ ?_
      | refine LeO.bind ?_ (fun _ => ?_)
    · intro y0 y1 y2 y3 y4 y5 y6 y7 y8 y9 y10 y11 y12
      unfold haymowref18_Read.l2
      repeat' first
      | (with_reducible exact ih0 _ _ _)
      | (with_reducible exact ih1 _ _ _ _ _ _ _ _ _ _ _)
      | (with_reducible exact ih2 _ _ _ _ _ _ _ _ _ _ _ _ _)
      | (with_reducible exact ih3 _ _ _ _ _ _ _ _ _ _)
      | (with_reducible exact ih4 _ _ _ _ _ _ _ _ _ _)
      | (with_reducible exact LeO.refl _)
      | (with_reducible exact LeO.none _)
      | (with_reducible refine LeO.ite ?_ ?_)
      | (with_reducible refine LeO.bind ?_ (fun _ => ?_))
      | exact ih0 _ _ _
      | exact ih1 _ _ _ _ _ _ _ _ _ _ _
      | exact ih2 _ _ _ _ _ _ _ _ _ _ _ _ _
      | exact ih3 _ _ _ _ _ _ _ _ _ _
      | exact ih4 _ _ _ _ _ _ _ _ _ _
      | exact LeO.none _
      | refine LeO.ite ?_ ?_
      | refine LeO.bind ?_ (fun _ => ?_)
    · intro y0 y1 y2 y3 y4 y5 y6 y7 y8 y9
      unfold haymowref18_Read.j3
      repeat' first
      | (with_reducible exact ih0 _ _ _)
      | (with_reducible exact ih1 _ _ _ _ _ _ _ _ _ _ _)
      | (with_reducible exact ih2 _ _ _ _ _ _ _ _ _ _ _ _ _)
      | (with_reducible exact ih3 _ _ _ _ _ _ _ _ _ _)
      | (with_reducible exact ih4 _ _ _ _ _ _ _ _ _ _)
      | (with_reducible exact LeO.refl _)
      | (with_reducible exact LeO.none _)
      | (with_reducible refine LeO.ite ?_ ?_)
      | (with_reducible refine LeO.bind ?_ (fun _ => ?_))
      | exact ih0 _ _ _
      | exact ih1 _ _ _ _ _ _ _ _ _ _ _
      | exact ih2 _ _ _ _ _ _ _ _ _ _ _ _ _
      | exact ih3 _ _ _ _ _ _ _ _ _ _
      | exact ih4 _ _ _ _ _ _ _ _ _ _
      | exact LeO.none _
      | refine LeO.ite ?_ ?_
      | refine LeO.bind ?_ (fun _ => ?_)
    · intro y0 y1 y2 y3 y4 y5 y6 y7 y8 y9
      unfold haymowref18_Read.j4
      repeat' first
      | (with_reducible exact ih0 _ _ _)
      | (with_reducible exact ih1 _ _ _ _ _ _ _ _ _ _ _)
      | (with_reducible exact ih2 _ _ _ _ _ _ _ _ _ _ _ _ _)
      | (with_reducible exact ih3 _ _ _ _ _ _ _ _ _ _)
      | (with_reducible exact ih4 _ _ _ _ _ _ _ _ _ _)
      | (with_reducible exact LeO.refl _)
      | (with_reducible exact LeO.none _)
      | (with_reducible refine LeO.ite ?_ ?_)
      | (with_reducible refine LeO.bind ?_ (fun _ => ?_))
      | exact ih0 _ _ _
      | exact ih1 _ _ _ _ _ _ _ _ _ _ _
      | exact ih2 _ _ _ _ _ _ _ _ _ _ _ _ _
      | exact ih3 _ _ _ _ _ _ _ _ _ _
      | exact ih4 _ _ _ _ _ _ _ _ _ _
      | exact LeO.none _
      | refine LeO.ite ?_ ?_
      | refine LeO.bind ?_ (fun _ => ?_)
theorem haymowref18_Read.mono : ∀ a0 k, LeO (haymowref18_Read.f k a0) (haymowref18_Read.f (k + 1) a0) := by
  intro a0 k
  obtain ⟨ih0, ih1, ih2, ih3, ih4⟩ := haymowref18_Read.mono_l k
  unfold haymowref18_Read.f
  repeat' first
      | (with_reducible exact ih0 _ _ _)
      | (with_reducible exact ih1 _ _ _ _ _ _ _ _ _ _ _)
      | (with_reducible exact ih2 _ _ _ _ _ _ _ _ _ _ _ _ _)
      | (with_reducible exact ih3 _ _ _ _ _ _ _ _ _ _)
      | (with_reducible exact ih4 _ _ _ _ _ _ _ _ _ _)
      | (with_reducible exact LeO.refl _)
      | (with_reducible exact LeO.none _)
      | (with_reducible refine LeO.ite ?_ ?_)
      | (with_reducible refine LeO.bind ?_ (fun _ => ?_))
      | exact ih0 _ _ _
      | exact ih1 _ _ _ _ _ _ _ _ _ _ _
      | exact ih2 _ _ _ _ _ _ _ _ _ _ _ _ _
      | exact ih3 _ _ _ _ _ _ _ _ _ _
      | exact ih4 _ _ _ _ _ _ _ _ _ _
      | exact LeO.none _
      | refine LeO.ite ?_ ?_
      | refine LeO.bind ?_ (fun _ => ?_)
def haymowref18_Read.T12 : Bool × List (List Nat × List Nat) := (true, [([], []), ([], []), ([0, 1], [0, 1]), ([2], [2]), ([3], [3]), ([], []), ([], []), ([6], [6]), ([5, 7], [5, 7]), ([8], [8]), ([9], [9]), ([0, 1, 2, 3, 4], []), ([11, 4, 0, 1, 2, 3, 4], [4, 11]), ([0, 1, 2, 3, 4, 5, 6, 7, 8, 9, 10, 11, 12], []), ([13, 10, 12, 0, 1, 2, 3, 4, 5, 6, 7, 8, 9, 10, 11, 12], [10, 13])])
def haymowref18_Read.B12 : List Nat := [0, 0, 3, 7, 15, 0, 0, 64, 224, 480, 992, 31, 2079, 8191, 16383]
theorem haymowref18_Read.tab12 : rtab .any (opsOf Try.f15 12) = haymowref18_Read.T12 := by kernel_rfl
theorem haymowref18_Read.bits12 : waitsOk haymowref18_Read.T12.2 haymowref18_Read.B12 = true := by kernel_rfl
def haymowref18_Read.T17 : Bool × List (List Nat × List Nat) := (true, [([], []), ([], []), ([0, 1], [0, 1]), ([2], [2]), ([3], [3]), ([], []), ([], []), ([6], [6]), ([5, 7], [5, 7]), ([8], [8]), ([9], [9]), ([10], [10]), ([4, 11], [4, 11]), ([12, 0, 1, 2, 3, 4, 5, 6, 7, 8, 9, 10, 11, 12], [12])])
def haymowref18_Read.B17 : List Nat := [0, 0, 3, 7, 15, 0, 0, 64, 224, 480, 992, 2016, 4095, 8191]
theorem haymowref18_Read.tab17 : rtab .any (opsOf Try.f15 17) = haymowref18_Read.T17 := by kernel_rfl
theorem haymowref18_Read.bits17 : waitsOk haymowref18_Read.T17.2 haymowref18_Read.B17 = true := by kernel_rfl
def haymowref18_Read.T20 : Bool × List (List Nat × List Nat) := (true, [([], []), ([0], [0]), ([], []), ([], []), ([3], [3]), ([], []), ([5], [5]), ([], []), ([6, 7], [6, 7]), ([2, 4, 8], [2, 4, 8]), ([1, 9], [1, 9]), ([0, 1, 2, 3, 4, 5, 6, 7, 8, 9, 10], []), ([11, 10, 10, 0, 1, 2, 3, 4, 5, 6, 7, 8, 9, 10], [10, 11])])
def haymowref18_Read.B20 : List Nat := [0, 1, 0, 0, 8, 0, 32, 0, 224, 508, 1023, 2047, 4095]
theorem haymowref18_Read.tab20 : rtab .any (opsOf Try.f15 20) = haymowref18_Read.T20 := by kernel_rfl
theorem haymowref18_Read.bits20 : waitsOk haymowref18_Read.T20.2 haymowref18_Read.B20 = true := by kernel_rfl
def haymowref18_Read.T47 : Bool × List (List Nat × List Nat) := (true, [([], []), ([], []), ([0, 1], [0, 1]), ([2], [2]), ([3], [3]), ([], []), ([], []), ([6], [6]), ([5, 7], [5, 7]), ([8], [8]), ([9], [9]), ([10], [10]), ([4, 11], [4, 11]), ([0, 1, 2, 3, 4, 5, 6, 7, 8, 9, 10, 11, 12], []), ([13, 12, 0, 1, 2, 3, 4, 5, 6, 7, 8, 9, 10, 11, 12], [12, 13])])
def haymowref18_Read.B47 : List Nat := [0, 0, 3, 7, 15, 0, 0, 64, 224, 480, 992, 2016, 4095, 8191, 16383]
theorem haymowref18_Read.tab47 : rtab .any (opsOf Try.f15 47) = haymowref18_Read.T47 := by kernel_rfl
theorem haymowref18_Read.bits47 : waitsOk haymowref18_Read.T47.2 haymowref18_Read.B47 = true := by kernel_rfl
set_option maxHeartbeats 8000000 in
set_option maxRecDepth 100000 in
theorem haymowref18_Read.calls (k : Nat) (A0 : Option Addr) (c0 : Nat) (l0 : List Int) (r1 : List (S33)) (r2 : Int) (w : World) (hr0 : Kd.C (Kd.int .u8) w A0 l0.length l0) (hc0 : l0.length ≤ c0) (h : haymowref18_Read.f k l0 = some (r1, r2)) :
    Calls Try.prog 15 #[.slice A0 l0.length c0] w fun e w' => ∃ v0_ : Value, e = .returned (.tuple #[v0_, .int .i64 r2]) ∧ Kd.S k33 33 w' w.heap.size (fun _ => True) v0_ r1 ∧ Below w.heap.size w w' := by
  have hu33 := Try.underlying33
  have HR0 := Aside0.mk hr0
  have HC0 := Aside0.mk hc0
  clear hr0 hc0
  have HB := Aside0.mk (Below.refl w.heap.size w)
  have H : (haymowref18_Read.l0 k l0 ([] : List (S33)) 0) = some (r1, r2) := h
  clear h
  have H' := Aside0.mk H
  clear H
  go_enter Try.func15, Try.ntmps15
  go_wp2
  go_loopg [4, 5] k (fun kq v4 v5 w' => ∃ (x4_1 : List (S33)) (x5_1 : Int), v5 = .int .i64 x5_1 ∧ Aside0 (haymowref18_Read.l0 kq l0 x4_1 x5_1 = some (r1, r2)) ∧ Aside0 (kq ≤ k) ∧ Aside0 (Kd.S k33 33 w' w.heap.size (fun _ => True) v4 x4_1) ∧ Aside0 (Below w.heap.size w w'))
  case atStart => exact ⟨(([] : List (S33))), (0), (by first | rfl | (simp; done) | (simp [*]; done)), H', ⟨Nat.le_refl _⟩, ⟨by first | exact Kd.S_nil _ _ _ _ _ | exact Kd.N_nil _ _ _ _ _ | exact Kd.V_nil _ _ _ _ _ | exact Kd.Q_nil _ _ _ _ _ | exact Kd.R_nil _ _ _ _ _⟩, ⟨by repeat (first | (with_reducible first | exact HB.out | apply below_alloc | apply pw_below_drewN | apply below_drew1) | exact HB.out)⟩⟩
  case round =>
    clear H'
    try clear c1
    obtain ⟨x4_1, x5_1, rfl, HA, HK1, HO_4, HB⟩ := hrel
    cases gk with
    | zero => exact absurd HA.out (by simp [haymowref18_Read.l0])
    | succ k1 =>
      have H := HA.out
      clear HA
      simp only [haymowref18_Read.l0] at H
      by_cases c2 : x5_1 < (l0.length : Int)
      · rw [if_pos c2] at H
        have c2b0 : decide (x5_1 < (l0.length : Int)) = true := decide_eq_true c2
        clear c2
        by_cases c3 : 0 ≤ x5_1
        · rw [if_pos c3] at H
          have c3b0 : decide (0 ≤ x5_1) = true := decide_eq_true c3
          clear c3
          by_cases c4 : (wrap64 (rd l0 x5_1)) = 1
          · rw [if_pos c4] at H
            have c4b0 : ((wrap64 (rd l0 x5_1)) == 1) = true := beq_iff_eq.mpr c4
            have c4b1 : ((wrap64 (rd l0 x5_1)) != 1) = false := bne_eq_false_iff_eq.mpr c4
            clear c4
            by_cases c5 : (wrap64 ((l0.length : Int) - (wrap64 (x5_1 + 1)))) < 2
            · rw [if_pos c5] at H
              have c5b0 : decide ((wrap64 ((l0.length : Int) - (wrap64 (x5_1 + 1)))) < 2) = true := decide_eq_true c5
              clear c5
              simp only [Option.some.injEq, Prod.mk.injEq] at H
              obtain ⟨rfl, rfl⟩ := H
              have p111 : 0 ≤ (x5_1 : Int) := of_decide_eq_true (by first | (with_reducible assumption) | assumption)
              have q111 : x5_1 < (l0.length : Int) := of_decide_eq_true (by first | (with_reducible assumption) | assumption)
              obtain ⟨ad111, e111, hx111_0⟩ := Kd.at_int HR0.out x5_1 p111 q111
              cases e111
              replace hx111_0 := (HB.out.cell (World.block_lt_of_cell? w _ hx111_0)).trans hx111_0
              replace p111 := eq_true p111
              replace q111 := eq_true q111
              go_wp2_with (first | ((with_reducible refine gate_dst (N := 6) rfl ?_); refine box_event ?hg (N := 6) ?hd (cs := #[.int .i64 0, .int .i64 0, .int .i64 0, .int .i64 0, .slice none 0 0, .slice none 0 0]) (t := 33) ?hr ?_; (case hd => rfl); (case hg => rfl); (case hr => first | (go_simp; done) | (go_simp; rfl)); intro gb112 hg w6 hbox hb; have n0_ := Aside0.mk (Kd.S_below (Kd.S_elderB (by (with_reducible repeat (first | apply Kd.S_alloc | apply Kd.S_drewN | apply Kd.S_drew)); exact HO_4.out) gb112 (Nat.le_of_eq hg.symm)) hb); have n1_ := Aside0.mk (below_step (by repeat (first | (with_reducible first | exact HB.out | apply below_alloc | apply pw_below_drewN | apply below_drew1) | exact HB.out)) hb); have n2_ := Aside0.mk (hbox); have n3_ := Aside0.mk ((by rw [hg]; exact (below_size (by repeat (first | (with_reducible first | exact HB.out | apply below_alloc | apply pw_below_drewN | apply below_drew1) | exact HB.out))) : w.heap.size ≤ gb112)); have n4_ := Aside0.mk ((by rw [hg]; exact (below_size (by repeat (first | (with_reducible first | exact HB.out | apply below_alloc | apply pw_below_drewN | apply below_drew1) | exact HB.out))) : w.heap.size ≤ gb112)); clear HO_4; clear HB; have HO_4 := n0_; have HB := n1_; have BK112 := n2_; have GW112 := n3_; have GE112 := n4_; clear n0_ n1_ n2_ n3_ n4_; clear hb hbox hg; have hcz7_0 : w6.cell? ⟨gb112, 0, none⟩ = some (.int .i64 0) := (blk_cell BK112.out 0).trans rfl; have hcz7_1 : w6.cell? ⟨gb112, 1, none⟩ = some (.int .i64 0) := (blk_cell BK112.out 1).trans rfl; have hcz7_2 : w6.cell? ⟨gb112, 2, none⟩ = some (.int .i64 0) := (blk_cell BK112.out 2).trans rfl; have hcz7_3 : w6.cell? ⟨gb112, 3, none⟩ = some (.int .i64 0) := (blk_cell BK112.out 3).trans rfl; have hcz7_4 : w6.cell? ⟨gb112, 4, none⟩ = some (.slice none 0 0) := (blk_cell BK112.out 4).trans rfl; have hcz7_5 : w6.cell? ⟨gb112, 5, none⟩ = some (.slice none 0 0) := (blk_cell BK112.out 5).trans rfl; have hfz7_0 := blk_frozen BK112.out 0; have hfz7_1 := blk_frozen BK112.out 1; have hfz7_2 := blk_frozen BK112.out 2; have hfz7_3 := blk_frozen BK112.out 3; have hfz7_4 := blk_frozen BK112.out 4; have hfz7_5 := blk_frozen BK112.out 5))
              go_ret2
              exact ⟨_, by first | rfl | (simp [errW_none, errW_some] <;> rfl) | (simp [*, errW_none, errW_some] <;> rfl), by first | exact Kd.S_nil _ _ _ _ _ | exact Kd.N_nil _ _ _ _ _ | exact Kd.V_nil _ _ _ _ _ | exact Kd.Q_nil _ _ _ _ _ | exact Kd.R_nil _ _ _ _ _, by repeat (first | (with_reducible first | exact HB.out | apply below_alloc | apply pw_below_drewN | apply below_drew1 | refine below_set ?_ GE112.out) | exact HB.out)⟩
            · rw [if_neg c5] at H
              have c5b0 : decide ((wrap64 ((l0.length : Int) - (wrap64 (x5_1 + 1)))) < 2) = false := decide_eq_false c5
              clear c5
              obtain ⟨ji8, hji8⟩ : ∃ j_ : Int, (wrap64 (x5_1 + 1)) = j_ := ⟨_, rfl⟩
              replace H : (if 0 ≤ (ji8) then (if (ji8) < (l0.length : Int) then (if 0 ≤ (wrap64 ((ji8) + 1)) then (if (wrap64 ((ji8) + 1)) < (l0.length : Int) then (if x4_1.length < 1759218604441 then (haymowref18_Read.l0 k1 l0 (x4_1 ++ [(⟨wrap64 (rd l0 x5_1), wrap64 (rd l0 (ji8)), wrap64 (rd l0 (wrap64 ((ji8) + 1))), 0, ([] : List Int), ([] : List Int)⟩ : S33)]) (wrap64 ((ji8) + 2))) else (none)) else (none)) else (none)) else (none)) else (none)) = some (r1, r2) := by first | (rw [hji8] at H; exact H) | (simp only [hji8] at H ⊢; exact H)
              (try rw [hji8] at c5b0)
              have hji8w : (IntKind.i64.wrap (x5_1 + 1)) = ji8 := (i64_w _).trans hji8
              by_cases c9 : 0 ≤ (ji8)
              · rw [if_pos c9] at H
                have c9b0 : decide (0 ≤ (ji8)) = true := decide_eq_true c9
                clear c9
                by_cases c10 : (ji8) < (l0.length : Int)
                · rw [if_pos c10] at H
                  have c10b0 : decide ((ji8) < (l0.length : Int)) = true := decide_eq_true c10
                  clear c10
                  obtain ⟨ji11, hji11⟩ : ∃ j_ : Int, (wrap64 ((ji8) + 1)) = j_ := ⟨_, rfl⟩
                  replace H : (if 0 ≤ (ji11) then (if (ji11) < (l0.length : Int) then (if x4_1.length < 1759218604441 then (haymowref18_Read.l0 k1 l0 (x4_1 ++ [(⟨wrap64 (rd l0 x5_1), wrap64 (rd l0 (ji8)), wrap64 (rd l0 (ji11)), 0, ([] : List Int), ([] : List Int)⟩ : S33)]) (wrap64 ((ji8) + 2))) else (none)) else (none)) else (none)) = some (r1, r2) := by first | (rw [hji11] at H; exact H) | (simp only [hji11] at H ⊢; exact H)
                  have hji11w : (IntKind.i64.wrap ((ji8) + 1)) = ji11 := (i64_w _).trans hji11
                  by_cases c12 : 0 ≤ (ji11)
                  · rw [if_pos c12] at H
                    have c12b0 : decide (0 ≤ (ji11)) = true := decide_eq_true c12
                    clear c12
                    by_cases c13 : (ji11) < (l0.length : Int)
                    · rw [if_pos c13] at H
                      have c13b0 : decide ((ji11) < (l0.length : Int)) = true := decide_eq_true c13
                      clear c13
                      by_cases c14 : x4_1.length < 1759218604441
                      · rw [if_pos c14] at H
                        have LMc14 := Aside0.mk c14
                        clear c14
                        obtain ⟨y115, hy115⟩ : ∃ y_ : List (S33), y_ = (x4_1 ++ [(⟨wrap64 (rd l0 x5_1), wrap64 (rd l0 (ji8)), wrap64 (rd l0 (ji11)), 0, ([] : List Int), ([] : List Int)⟩ : S33)]) := ⟨_, rfl⟩
                        replace H : (haymowref18_Read.l0 k1 l0 y115 (wrap64 ((ji8) + 2))) = some (r1, r2) := by first | (rw [hy115]; with_reducible exact H) | (have H2_ := (Option.bind_some _ _).symm.trans H; rw [hy115]; with_reducible exact H2_) | (have H2_ := (Option.bind_some _ _).symm.trans H; with_reducible exact H2_) | with_reducible exact H | (rw [hy115]; exact H) | exact H
                        have Ny115 := Aside0.mk hy115
                        clear hy115
                        have H' := Aside0.mk H
                        clear H
                        have p111 : 0 ≤ (x5_1 : Int) := of_decide_eq_true (by first | (with_reducible assumption) | assumption)
                        have q111 : x5_1 < (l0.length : Int) := of_decide_eq_true (by first | (with_reducible assumption) | assumption)
                        obtain ⟨ad111, e111, hx111_0⟩ := Kd.at_int HR0.out x5_1 p111 q111
                        cases e111
                        replace hx111_0 := (HB.out.cell (World.block_lt_of_cell? w _ hx111_0)).trans hx111_0
                        replace p111 := eq_true p111
                        replace q111 := eq_true q111
                        try go_wp2_with (first | ((with_reducible refine gate_dst (N := 6) rfl ?_); refine box_event ?hg (N := 6) ?hd (cs := #[.int .i64 0, .int .i64 0, .int .i64 0, .int .i64 0, .slice none 0 0, .slice none 0 0]) (t := 33) ?hr ?_; (case hd => rfl); (case hg => rfl); (case hr => first | (go_simp; done) | (go_simp; rfl)); intro gb112 hg w15 hbox hb; have n0_ := Aside0.mk (Kd.S_below (Kd.S_elderB (by (with_reducible repeat (first | apply Kd.S_alloc | apply Kd.S_drewN | apply Kd.S_drew)); exact HO_4.out) gb112 (Nat.le_of_eq hg.symm)) hb); have n1_ := Aside0.mk (below_step (by repeat (first | (with_reducible first | exact HB.out | apply below_alloc | apply pw_below_drewN | apply below_drew1) | exact HB.out)) hb); have n2_ := Aside0.mk (hbox); have n3_ := Aside0.mk ((by rw [hg]; exact (below_size (by repeat (first | (with_reducible first | exact HB.out | apply below_alloc | apply pw_below_drewN | apply below_drew1) | exact HB.out))) : w.heap.size ≤ gb112)); have n4_ := Aside0.mk ((by rw [hg]; exact (below_size (by repeat (first | (with_reducible first | exact HB.out | apply below_alloc | apply pw_below_drewN | apply below_drew1) | exact HB.out))) : w.heap.size ≤ gb112)); clear HO_4; clear HB; have HO_4 := n0_; have HB := n1_; have BK112 := n2_; have GW112 := n3_; have GE112 := n4_; clear n0_ n1_ n2_ n3_ n4_; clear hb hbox hg; have hcz16_0 : w15.cell? ⟨gb112, 0, none⟩ = some (.int .i64 0) := (blk_cell BK112.out 0).trans rfl; have hcz16_1 : w15.cell? ⟨gb112, 1, none⟩ = some (.int .i64 0) := (blk_cell BK112.out 1).trans rfl; have hcz16_2 : w15.cell? ⟨gb112, 2, none⟩ = some (.int .i64 0) := (blk_cell BK112.out 2).trans rfl; have hcz16_3 : w15.cell? ⟨gb112, 3, none⟩ = some (.int .i64 0) := (blk_cell BK112.out 3).trans rfl; have hcz16_4 : w15.cell? ⟨gb112, 4, none⟩ = some (.slice none 0 0) := (blk_cell BK112.out 4).trans rfl; have hcz16_5 : w15.cell? ⟨gb112, 5, none⟩ = some (.slice none 0 0) := (blk_cell BK112.out 5).trans rfl; have hfz16_0 := blk_frozen BK112.out 0; have hfz16_1 := blk_frozen BK112.out 1; have hfz16_2 := blk_frozen BK112.out 2; have hfz16_3 := blk_frozen BK112.out 3; have hfz16_4 := blk_frozen BK112.out 4; have hfz16_5 := blk_frozen BK112.out 5))
                        have n0_ : Aside0 (Kd.S k33 33 ((((((w15.setCell ⟨gb112, 0, none⟩ (.int .i64 (wrap64 (rd l0 x5_1)))).setCell ⟨gb112, 1, none⟩ (.int .i64 0)).setCell ⟨gb112, 2, none⟩ (.int .i64 0)).setCell ⟨gb112, 3, none⟩ (.int .i64 0)).setCell ⟨gb112, 4, none⟩ (.slice none 0 0)).setCell ⟨gb112, 5, none⟩ (.slice none 0 0)) w.heap.size (fun k_ => k_ ≠ gb112) u4 x4_1) := ⟨by (with_reducible repeat (first | apply Kd.S_alloc | apply Kd.S_drewN | apply Kd.S_drew)); exact Kd.S_mono (Kd.S_far (p := ⟨gb112, 5, none⟩) (Kd.S_far (p := ⟨gb112, 4, none⟩) (Kd.S_far (p := ⟨gb112, 3, none⟩) (Kd.S_far (p := ⟨gb112, 2, none⟩) (Kd.S_far (p := ⟨gb112, 1, none⟩) (Kd.S_far (p := ⟨gb112, 0, none⟩) (Kd.S_mono HO_4.out (fun k_ hk => (⟨hk, hk.2⟩ : _ ∧ k_ ≠ gb112))) (fun _ hk => hk.2) (.int .i64 (wrap64 (rd l0 x5_1)))) (fun _ hk => hk.2) (.int .i64 0)) (fun _ hk => hk.2) (.int .i64 0)) (fun _ hk => hk.2) (.int .i64 0)) (fun _ hk => hk.2) (.slice none 0 0)) (fun _ hk => hk.2) (.slice none 0 0)) (fun _ hk => hk.1.2)⟩
                        have n1_ : Aside0 (((((((w15.setCell ⟨gb112, 0, none⟩ (.int .i64 (wrap64 (rd l0 x5_1)))).setCell ⟨gb112, 1, none⟩ (.int .i64 0)).setCell ⟨gb112, 2, none⟩ (.int .i64 0)).setCell ⟨gb112, 3, none⟩ (.int .i64 0)).setCell ⟨gb112, 4, none⟩ (.slice none 0 0)).setCell ⟨gb112, 5, none⟩ (.slice none 0 0)).heap[gb112]? = some (.cells #[.int .i64 (wrap64 (rd l0 x5_1)), .int .i64 0, .int .i64 0, .int .i64 0, .slice none 0 0, .slice none 0 0] 33 (0, 0))) := ⟨by (with_reducible repeat (first | refine blk_drewN ?_ _ | refine blk_drew ?_ | refine blk_alloc ?_ _)); refine blk_put (cs := #[.int .i64 (wrap64 (rd l0 x5_1)), .int .i64 0, .int .i64 0, .int .i64 0, .slice none 0 0, .slice none 0 0]) ?_ 5 _ rfl; (with_reducible repeat (first | refine blk_drewN ?_ _ | refine blk_drew ?_ | refine blk_alloc ?_ _)); refine blk_put (cs := #[.int .i64 (wrap64 (rd l0 x5_1)), .int .i64 0, .int .i64 0, .int .i64 0, .slice none 0 0, .slice none 0 0]) ?_ 4 _ rfl; (with_reducible repeat (first | refine blk_drewN ?_ _ | refine blk_drew ?_ | refine blk_alloc ?_ _)); refine blk_put (cs := #[.int .i64 (wrap64 (rd l0 x5_1)), .int .i64 0, .int .i64 0, .int .i64 0, .slice none 0 0, .slice none 0 0]) ?_ 3 _ rfl; (with_reducible repeat (first | refine blk_drewN ?_ _ | refine blk_drew ?_ | refine blk_alloc ?_ _)); refine blk_put (cs := #[.int .i64 (wrap64 (rd l0 x5_1)), .int .i64 0, .int .i64 0, .int .i64 0, .slice none 0 0, .slice none 0 0]) ?_ 2 _ rfl; (with_reducible repeat (first | refine blk_drewN ?_ _ | refine blk_drew ?_ | refine blk_alloc ?_ _)); refine blk_put (cs := #[.int .i64 (wrap64 (rd l0 x5_1)), .int .i64 0, .int .i64 0, .int .i64 0, .slice none 0 0, .slice none 0 0]) ?_ 1 _ rfl; (with_reducible repeat (first | refine blk_drewN ?_ _ | refine blk_drew ?_ | refine blk_alloc ?_ _)); refine blk_put (cs := #[.int .i64 0, .int .i64 0, .int .i64 0, .int .i64 0, .slice none 0 0, .slice none 0 0]) ?_ 0 _ rfl; (with_reducible repeat (first | refine blk_drewN ?_ _ | refine blk_drew ?_ | refine blk_alloc ?_ _)); exact BK112.out⟩
                        have n2_ : Aside0 (Below w.heap.size w ((((((w15.setCell ⟨gb112, 0, none⟩ (.int .i64 (wrap64 (rd l0 x5_1)))).setCell ⟨gb112, 1, none⟩ (.int .i64 0)).setCell ⟨gb112, 2, none⟩ (.int .i64 0)).setCell ⟨gb112, 3, none⟩ (.int .i64 0)).setCell ⟨gb112, 4, none⟩ (.slice none 0 0)).setCell ⟨gb112, 5, none⟩ (.slice none 0 0))) := ⟨by repeat (first | (with_reducible first | exact HB.out | apply below_alloc | apply pw_below_drewN | apply below_drew1 | refine below_set ?_ GE112.out) | exact HB.out)⟩
                        (try clear HO_4)
                        (try clear BK112)
                        (try clear HB)
                        generalize ((((((w15.setCell ⟨gb112, 0, none⟩ (.int .i64 (wrap64 (rd l0 x5_1)))).setCell ⟨gb112, 1, none⟩ (.int .i64 0)).setCell ⟨gb112, 2, none⟩ (.int .i64 0)).setCell ⟨gb112, 3, none⟩ (.int .i64 0)).setCell ⟨gb112, 4, none⟩ (.slice none 0 0)).setCell ⟨gb112, 5, none⟩ (.slice none 0 0)) = w17 at n0_ n1_ n2_ ⊢
                        have HO_4 := n0_
                        have BK112 := n1_
                        have HB := n2_
                        clear n0_ n1_ n2_
                        have n0_ := Aside0.mk (Kd.S_drew HO_4.out)
                        have n1_ := Aside0.mk (blk_drew BK112.out)
                        have n2_ := Aside0.mk (below_drew1 HB.out)
                        clear HO_4
                        clear BK112
                        clear HB
                        have HO_4 := n0_
                        have BK112 := n1_
                        have HB := n2_
                        clear n0_ n1_ n2_
                        have p113 : 0 ≤ ((ji8) : Int) := of_decide_eq_true (by first | (with_reducible assumption) | assumption)
                        have q113 : (ji8) < (l0.length : Int) := of_decide_eq_true (by first | (with_reducible assumption) | assumption)
                        obtain ⟨ad113, e113, hx113_0⟩ := Kd.at_int HR0.out (ji8) p113 q113
                        have hw113_0 := hx113_0
                        obtain rfl : ad111 = ad113 := (by injection e113)
                        replace hx113_0 := (HB.out.cell (World.block_lt_of_cell? w _ hx113_0)).trans hx113_0
                        replace p113 := eq_true p113
                        replace q113 := eq_true q113
                        have p114 : 0 ≤ ((ji11) : Int) := of_decide_eq_true (by first | (with_reducible assumption) | assumption)
                        have q114 : (ji11) < (l0.length : Int) := of_decide_eq_true (by first | (with_reducible assumption) | assumption)
                        obtain ⟨ad114, e114, hx114_0⟩ := Kd.at_int HR0.out (ji11) p114 q114
                        have hw114_0 := hx114_0
                        obtain rfl : ad111 = ad114 := (by injection e114)
                        replace hx114_0 := (HB.out.cell (World.block_lt_of_cell? w _ hx114_0)).trans hx114_0
                        replace p114 := eq_true p114
                        replace q114 := eq_true q114
                        refine start_ (n := 15) (S := fun w' => w'.cell? (ad111.add ((ji8)).toNat) = some (.int .u8 (rd l0 (ji8))) ∧ w'.cell? (ad111.add ((ji11)).toNat) = some (.int .u8 (rd l0 (ji11)))) (ds := []) #[false, false, false, false, false, false, false, false, false, false, false, false, false, false, false] (by kernel_rfl) rfl rfl ⟨((HB.out.cell (World.block_lt_of_cell? w _ hw113_0)).trans hw113_0), ((HB.out.cell (World.block_lt_of_cell? w _ hw114_0)).trans hw114_0)⟩ (fun hHeld => ?_); refine with_tabW haymowref18_Read.tab12 haymowref18_Read.bits12 (fun HT_ HW_ => ?_)
                        generalize w17.drew = w18 at HO_4 BK112 HB hx113_0 hx114_0 hHeld ⊢
                        refine pure_ (i := 0) (N := some 35) (v := ?_) (a' := ?_) #[true, false, false, false, false, false, false, false, false, false, false, false, false, false, false] rfl rfl (any_of HT_.out (by kernel_rfl)) (fun _ _ _ h => h) (Or.inl ⟨by rfl, ?_⟩) ?_ ?_
                        rotate_left
                        · intro w'
                          go_simp
                          with_reducible rfl
                        rotate_left
                        · simp only [Act.put, List.setIfInBounds_toArray, List.set_cons_zero, List.set_cons_succ, i64_w, i32_w]
                          rfl
                        refine pure_ (i := 1) (N := some 36) (v := ?_) (a' := ?_) #[true, true, false, false, false, false, false, false, false, false, false, false, false, false, false] rfl rfl (any_of HT_.out (by kernel_rfl)) (fun _ _ _ h => h) (Or.inl ⟨by rfl, ?_⟩) ?_ ?_
                        rotate_left
                        · intro w'
                          go_simp
                          with_reducible rfl
                        rotate_left
                        · simp only [Act.put, List.setIfInBounds_toArray, List.set_cons_zero, List.set_cons_succ, i64_w, i32_w]
                          rfl
                        refine pure_ (i := 2) (N := some 37) (v := ?_) (a' := ?_) #[true, true, true, false, false, false, false, false, false, false, false, false, false, false, false] rfl rfl (any_of HT_.out (by kernel_rfl)) (fun _ _ _ h => h) (Or.inl ⟨by rfl, ?_⟩) ?_ ?_
                        rotate_left
                        · intro w'
                          go_simp
                          with_reducible rfl
                        rotate_left
                        · simp only [Act.put, List.setIfInBounds_toArray, List.set_cons_zero, List.set_cons_succ, i64_w, i32_w]
                          rfl
                        refine pure_ (i := 5) (N := some 40) (v := ?_) (a' := ?_) #[true, true, true, false, false, true, false, false, false, false, false, false, false, false, false] rfl rfl (any_of HT_.out (by kernel_rfl)) (fun _ _ _ h => h) (Or.inl ⟨by rfl, ?_⟩) ?_ ?_
                        rotate_left
                        · intro w'
                          go_simp
                          with_reducible rfl
                        rotate_left
                        · simp only [Act.put, List.setIfInBounds_toArray, List.set_cons_zero, List.set_cons_succ, i64_w, i32_w]
                          rfl
                        refine pure_ (i := 6) (N := some 41) (v := ?_) (a' := ?_) #[true, true, true, false, false, true, true, false, false, false, false, false, false, false, false] rfl rfl (any_of HT_.out (by kernel_rfl)) (fun _ _ _ h => h) (Or.inl ⟨by rfl, ?_⟩) ?_ ?_
                        rotate_left
                        · intro w'
                          go_simp
                          with_reducible rfl
                        rotate_left
                        · simp only [Act.put, List.setIfInBounds_toArray, List.set_cons_zero, List.set_cons_succ, i64_w, i32_w]
                          rfl
                        refine pure_ (i := 7) (N := some 42) (v := ?_) (a' := ?_) #[true, true, true, false, false, true, true, true, false, false, false, false, false, false, false] rfl rfl (any_of HT_.out (by kernel_rfl)) (fun _ _ _ h => h) (Or.inl ⟨by rfl, ?_⟩) ?_ ?_
                        rotate_left
                        · intro w'
                          go_simp
                          with_reducible rfl
                        rotate_left
                        · simp only [Act.put, List.setIfInBounds_toArray, List.set_cons_zero, List.set_cons_succ, i64_w, i32_w]
                          rfl
                        refine pure_ (i := 8) (N := some 43) (v := ?_) (a' := ?_) #[true, true, true, false, false, true, true, true, true, false, false, false, false, false, false] rfl rfl (any_of HT_.out (by kernel_rfl)) (fun _ _ _ h => h) (Or.inl ⟨by rfl, ?_⟩) ?_ ?_
                        rotate_left
                        · intro w'
                          go_simp
                          with_reducible rfl
                        rotate_left
                        · simp only [Act.put, List.setIfInBounds_toArray, List.set_cons_zero, List.set_cons_succ, i64_w, i32_w]
                          rfl
                        refine take_ (i := 3) (N := some 38) (v := ?_) (a' := ?_) #[true, true, true, true, false, true, true, true, true, false, false, false, false, false, false] rfl rfl (take_ofW HT_.out HW_.out (by kernel_rfl)) (fun _ _ _ h => h) (Or.inl ⟨by rfl, ?_⟩) hHeld ?_ ?_
                        rotate_left
                        · rintro w' ⟨s0, s1⟩
                          go_simp
                          with_reducible rfl
                        rotate_left
                        · simp only [Act.put, List.setIfInBounds_toArray, List.set_cons_zero, List.set_cons_succ, i64_w, i32_w]
                          rfl
                        refine pure_ (i := 4) (N := some 39) (v := ?_) (a' := ?_) #[true, true, true, true, true, true, true, true, true, false, false, false, false, false, false] rfl rfl (any_of HT_.out (by kernel_rfl)) (fun _ _ _ h => h) (Or.inl ⟨by rfl, ?_⟩) ?_ ?_
                        rotate_left
                        · intro w'
                          go_simp
                          with_reducible rfl
                        rotate_left
                        · simp only [Act.put, List.setIfInBounds_toArray, List.set_cons_zero, List.set_cons_succ, i64_w, i32_w]
                          rfl
                        refine pure_ (i := 11) (N := some 46) (v := ?_) (a' := ?_) #[true, true, true, true, true, true, true, true, true, false, false, true, false, false, false] rfl rfl (any_of HT_.out (by kernel_rfl)) (fun _ _ _ h => h) (Or.inl ⟨by rfl, ?_⟩) ?_ ?_
                        rotate_left
                        · intro w'
                          go_simp
                          with_reducible rfl
                        rotate_left
                        · simp only [Act.put, List.setIfInBounds_toArray, List.set_cons_zero, List.set_cons_succ, i64_w, i32_w]
                          rfl
                        refine take_ (i := 9) (N := some 44) (v := ?_) (a' := ?_) #[true, true, true, true, true, true, true, true, true, true, false, true, false, false, false] rfl rfl (take_ofW HT_.out HW_.out (by kernel_rfl)) (fun _ _ _ h => h) (Or.inl ⟨by rfl, ?_⟩) hHeld ?_ ?_
                        rotate_left
                        · rintro w' ⟨s0, s1⟩
                          go_simp
                          with_reducible rfl
                        rotate_left
                        · simp only [Act.put, List.setIfInBounds_toArray, List.set_cons_zero, List.set_cons_succ, i64_w, i32_w]
                          rfl
                        refine pure_ (i := 10) (N := some 45) (v := ?_) (a' := ?_) #[true, true, true, true, true, true, true, true, true, true, true, true, false, false, false] rfl rfl (any_of HT_.out (by kernel_rfl)) (fun _ _ _ h => h) (Or.inl ⟨by rfl, ?_⟩) ?_ ?_
                        rotate_left
                        · intro w'
                          go_simp
                          with_reducible rfl
                        rotate_left
                        · simp only [Act.put, List.setIfInBounds_toArray, List.set_cons_zero, List.set_cons_succ, i64_w, i32_w]
                          rfl
                        refine one_ (i := 12) (N := none) #[true, true, true, true, true, true, true, true, true, true, true, true, true, false, false] rfl rfl (one_of HT_.out (by kernel_rfl)) (by decide) (fun K hK => ?_)
                        have hs19 : w18.cell? ⟨gb112, 1, none⟩ = some (.int .i64 0) := (blk_cell BK112.out 1).trans rfl
                        have hfs19 := blk_frozen BK112.out 1
                        refine skip_ (w1 := ?_) (by rfl) rfl ?_ ?_
                        rotate_left
                        · go_simp
                          rfl
                        refine hK.out _ _ ⟨((cell_far (p := ⟨gb112, _, none⟩) (by first | exact Nat.ne_of_lt (Nat.lt_of_lt_of_le (by have := World.block_lt_of_cell? _ _ hw113_0; first | rwa [add_block] at this | exact this) GW112.out) | (rw [add_block]; exact Nat.ne_of_lt (Nat.lt_of_lt_of_le (by have := World.block_lt_of_cell? _ _ hw113_0; first | rwa [add_block] at this | exact this) GW112.out)) | (show (Addr.add _ _).block ≠ _; rw [add_block]; exact Nat.ne_of_lt (Nat.lt_of_lt_of_le (by have := World.block_lt_of_cell? _ _ hw113_0; first | rwa [add_block] at this | exact this) GW112.out)) | (dsimp only; exact Nat.ne_of_lt (Nat.lt_of_lt_of_le (by have := World.block_lt_of_cell? _ _ hw113_0; first | rwa [add_block] at this | exact this) GW112.out))) _).trans (hHeld.1)), ((cell_far (p := ⟨gb112, _, none⟩) (by first | exact Nat.ne_of_lt (Nat.lt_of_lt_of_le (by have := World.block_lt_of_cell? _ _ hw114_0; first | rwa [add_block] at this | exact this) GW112.out) | (rw [add_block]; exact Nat.ne_of_lt (Nat.lt_of_lt_of_le (by have := World.block_lt_of_cell? _ _ hw114_0; first | rwa [add_block] at this | exact this) GW112.out)) | (show (Addr.add _ _).block ≠ _; rw [add_block]; exact Nat.ne_of_lt (Nat.lt_of_lt_of_le (by have := World.block_lt_of_cell? _ _ hw114_0; first | rwa [add_block] at this | exact this) GW112.out)) | (dsimp only; exact Nat.ne_of_lt (Nat.lt_of_lt_of_le (by have := World.block_lt_of_cell? _ _ hw114_0; first | rwa [add_block] at this | exact this) GW112.out))) _).trans (hHeld.2))⟩ (fun hHeld => ?_)
                        clear hK K
                        refine pure_ (i := 13) (N := some 47) (v := ?_) (a' := ?_) #[true, true, true, true, true, true, true, true, true, true, true, true, true, true, false] rfl rfl (any_of HT_.out (by kernel_rfl)) (fun _ _ _ h => h) (Or.inl ⟨by rfl, ?_⟩) ?_ ?_
                        rotate_left
                        · intro w'
                          go_simp
                          with_reducible rfl
                        rotate_left
                        · simp only [Act.put, List.setIfInBounds_toArray, List.set_cons_zero, List.set_cons_succ, i64_w, i32_w]
                          rfl
                        refine one_ (i := 14) (N := none) #[true, true, true, true, true, true, true, true, true, true, true, true, true, true, true] rfl rfl (one_of HT_.out (by kernel_rfl)) (by decide) (fun K hK => ?_)
                        have hs20 : w18.cell? ⟨gb112, 2, none⟩ = some (.int .i64 0) := (blk_cell BK112.out 2).trans rfl
                        have hfs20 := blk_frozen BK112.out 2
                        refine skip_ (w1 := ?_) (by rfl) rfl ?_ ?_
                        rotate_left
                        · go_simp
                          rfl
                        refine hK.out _ _ ⟨((cell_far (p := ⟨gb112, _, none⟩) (by first | exact Nat.ne_of_lt (Nat.lt_of_lt_of_le (by have := World.block_lt_of_cell? _ _ hw113_0; first | rwa [add_block] at this | exact this) GW112.out) | (rw [add_block]; exact Nat.ne_of_lt (Nat.lt_of_lt_of_le (by have := World.block_lt_of_cell? _ _ hw113_0; first | rwa [add_block] at this | exact this) GW112.out)) | (show (Addr.add _ _).block ≠ _; rw [add_block]; exact Nat.ne_of_lt (Nat.lt_of_lt_of_le (by have := World.block_lt_of_cell? _ _ hw113_0; first | rwa [add_block] at this | exact this) GW112.out)) | (dsimp only; exact Nat.ne_of_lt (Nat.lt_of_lt_of_le (by have := World.block_lt_of_cell? _ _ hw113_0; first | rwa [add_block] at this | exact this) GW112.out))) _).trans (hHeld.1)), ((cell_far (p := ⟨gb112, _, none⟩) (by first | exact Nat.ne_of_lt (Nat.lt_of_lt_of_le (by have := World.block_lt_of_cell? _ _ hw114_0; first | rwa [add_block] at this | exact this) GW112.out) | (rw [add_block]; exact Nat.ne_of_lt (Nat.lt_of_lt_of_le (by have := World.block_lt_of_cell? _ _ hw114_0; first | rwa [add_block] at this | exact this) GW112.out)) | (show (Addr.add _ _).block ≠ _; rw [add_block]; exact Nat.ne_of_lt (Nat.lt_of_lt_of_le (by have := World.block_lt_of_cell? _ _ hw114_0; first | rwa [add_block] at this | exact this) GW112.out)) | (dsimp only; exact Nat.ne_of_lt (Nat.lt_of_lt_of_le (by have := World.block_lt_of_cell? _ _ hw114_0; first | rwa [add_block] at this | exact this) GW112.out))) _).trans (hHeld.2))⟩ (fun hHeld => ?_)
                        clear hK K
                        refine done_ (done_of HT_.out (by kernel_rfl)) ?_
                        have hcz21_0 : w18.cell? ⟨gb112, 0, none⟩ = some (.int .i64 (wrap64 (rd l0 x5_1))) := (blk_cell BK112.out 0).trans rfl
                        have hcz21_1 : w18.cell? ⟨gb112, 1, none⟩ = some (.int .i64 0) := (blk_cell BK112.out 1).trans rfl
                        have hcz21_2 : w18.cell? ⟨gb112, 2, none⟩ = some (.int .i64 0) := (blk_cell BK112.out 2).trans rfl
                        have hcz21_3 : w18.cell? ⟨gb112, 3, none⟩ = some (.int .i64 0) := (blk_cell BK112.out 3).trans rfl
                        have hcz21_4 : w18.cell? ⟨gb112, 4, none⟩ = some (.slice none 0 0) := (blk_cell BK112.out 4).trans rfl
                        have hcz21_5 : w18.cell? ⟨gb112, 5, none⟩ = some (.slice none 0 0) := (blk_cell BK112.out 5).trans rfl
                        have hfz21_0 := blk_frozen BK112.out 0
                        have hfz21_1 := blk_frozen BK112.out 1
                        have hfz21_2 := blk_frozen BK112.out 2
                        have hfz21_3 := blk_frozen BK112.out 3
                        have hfz21_4 := blk_frozen BK112.out 4
                        have hfz21_5 := blk_frozen BK112.out 5
                        try go_wp2_with (first | ((with_reducible refine gate_builtin (b := .append) (xs := #[.tmp 165, .tmp 167]) rfl ?_); at_builtin; refine Kd.S_append k33 (w0 := w) w.heap.size rfl (.tmp 165) (.tmp 167) 22 33 (.agg #[(.int .i64 0), (.int .i64 0), (.int .i64 0), (.int .i64 0), (.slice none 0 0), (.slice none 0 0)]) 80 rfl Try.underlying22 info33 rfl (by decide) (by omega) u4 x4_1 (⟨wrap64 (rd l0 x5_1), wrap64 (rd l0 (ji8)), wrap64 (rd l0 (ji11)), 0, ([] : List Int), ([] : List Int)⟩ : S33) [.int .i64 (wrap64 (rd l0 x5_1)), .int .i64 (wrap64 (rd l0 (ji8))), .int .i64 (wrap64 (rd l0 (ji11))), .int .i64 0, .slice none 0 0, .slice none 0 0] (fun k_ => k_ ≠ gb112) (fun _ => False) rfl (by first | (go_simp; done) | (go_simp; rfl)) ?aP (fun k_ hk_ => hk_.elim) ?aF ?aO ?aB ?aS ?aL ?_; (case aP => exact k33_mkM _ _ _ (⟨wrap64 (rd l0 x5_1), wrap64 (rd l0 (ji8)), wrap64 (rd l0 (ji11)), 0, ([] : List Int), ([] : List Int)⟩ : S33) (Kd.R_nil _ _ _ _ _) (Kd.R_nil _ _ _ _ _)); (case aB => exact (by repeat (first | (with_reducible first | exact HB.out | apply below_alloc | apply pw_below_drewN | apply below_drew1 | refine below_set ?_ GE112.out) | exact HB.out))); (case aF => exact (fun k_ hk => Kd.freshB (g := gb112) (o := .cells #[.int .i64 (wrap64 (rd l0 x5_1)), .int .i64 (wrap64 (rd l0 (ji8))), .int .i64 (wrap64 (rd l0 (ji11))), .int .i64 0, .slice none 0 0, .slice none 0 0] 33 (0, 0)) (by (with_reducible repeat (first | refine blk_drewN ?_ _ | refine blk_drew ?_ | refine blk_alloc ?_ _)); refine blk_put (cs := #[.int .i64 (wrap64 (rd l0 x5_1)), .int .i64 (wrap64 (rd l0 (ji8))), .int .i64 0, .int .i64 0, .slice none 0 0, .slice none 0 0]) ?_ 2 _ rfl; (with_reducible repeat (first | refine blk_drewN ?_ _ | refine blk_drew ?_ | refine blk_alloc ?_ _)); refine blk_put (cs := #[.int .i64 (wrap64 (rd l0 x5_1)), .int .i64 0, .int .i64 0, .int .i64 0, .slice none 0 0, .slice none 0 0]) ?_ 1 _ rfl; (with_reducible repeat (first | refine blk_drewN ?_ _ | refine blk_drew ?_ | refine blk_alloc ?_ _)); exact BK112.out) k_ hk)); (case aO => exact (by (with_reducible repeat (first | apply Kd.S_alloc | apply Kd.S_drewN | apply Kd.S_drew)); exact Kd.S_mono (Kd.S_far (p := ⟨gb112, 2, none⟩) (Kd.S_far (p := ⟨gb112, 1, none⟩) (Kd.S_mono HO_4.out (fun k_ hk => (⟨hk, hk⟩ : _ ∧ k_ ≠ gb112))) (fun _ hk => hk.2) (.int .i64 (wrap64 (rd l0 (ji8))))) (fun _ hk => hk.2) (.int .i64 (wrap64 (rd l0 (ji11))))) (fun k_ hk => ⟨hk.1, fun e_ => e_⟩))); (case aS => exact (below_size (by repeat (first | (with_reducible first | exact HB.out | apply below_alloc | apply pw_below_drewN | apply below_drew1 | refine below_set ?_ GE112.out) | exact HB.out)))); (case aL => have := LMc14.out; omega); intro v116 w22 ho hb hg hat; rw [← Ny115.out] at ho; have n0_ := Aside0.mk (blk_grown (g := gb112) (o := .cells #[.int .i64 (wrap64 (rd l0 x5_1)), .int .i64 (wrap64 (rd l0 (ji8))), .int .i64 (wrap64 (rd l0 (ji11))), .int .i64 0, .slice none 0 0, .slice none 0 0] 33 (0, 0)) (by (with_reducible repeat (first | refine blk_drewN ?_ _ | refine blk_drew ?_ | refine blk_alloc ?_ _)); refine blk_put (cs := #[.int .i64 (wrap64 (rd l0 x5_1)), .int .i64 (wrap64 (rd l0 (ji8))), .int .i64 0, .int .i64 0, .slice none 0 0, .slice none 0 0]) ?_ 2 _ rfl; (with_reducible repeat (first | refine blk_drewN ?_ _ | refine blk_drew ?_ | refine blk_alloc ?_ _)); refine blk_put (cs := #[.int .i64 (wrap64 (rd l0 x5_1)), .int .i64 0, .int .i64 0, .int .i64 0, .slice none 0 0, .slice none 0 0]) ?_ 1 _ rfl; (with_reducible repeat (first | refine blk_drewN ?_ _ | refine blk_drew ?_ | refine blk_alloc ?_ _)); exact BK112.out) hg (Kd.S_away HO_4.out (fun _ hk => hk))); have n1_ := Aside0.mk (hb); have n2_ := Aside0.mk (ho); clear BK112; clear HB; clear HO_4; have BK112 := n0_; have HB := n1_; have HO117 := n2_; clear n0_ n1_ n2_; clear ho hb hg hat))
                        go_roundg k1
                        case measure => have := HK1.out; omega
                        case rel => exact ⟨(y115), (wrap64 ((ji8) + 2)), (by first | rfl | (simp; done) | (simp only [← hji8] <;> (first | rfl | simp)) | (simp [*]; done)), H', ⟨by have := HK1.out; omega⟩, ⟨by (with_reducible repeat (first | apply Kd.S_alloc | apply Kd.S_drewN | apply Kd.S_drew)); exact Kd.S_mono HO117.out (fun _ hk => trivial)⟩, ⟨by repeat (first | (with_reducible first | exact HB.out | apply below_alloc | apply pw_below_drewN | apply below_drew1 | refine below_set ?_ GE112.out) | exact HB.out)⟩⟩
                      · rw [if_neg c14] at H
                        exact absurd H (by simp)
                    · rw [if_neg c13] at H
                      exact absurd H (by simp)
                  · rw [if_neg c12] at H
                    exact absurd H (by simp)
                · rw [if_neg c10] at H
                  exact absurd H (by simp)
              · rw [if_neg c9] at H
                exact absurd H (by simp)
          · rw [if_neg c4] at H
            have c4b0 : ((wrap64 (rd l0 x5_1)) == 1) = false := beq_eq_false_iff_ne.mpr c4
            have c4b1 : ((wrap64 (rd l0 x5_1)) != 1) = true := bne_iff_ne.mpr c4
            by_cases c23 : (wrap64 (rd l0 x5_1)) = 2
            · rw [if_pos c23] at H
              have c23b0 : ((wrap64 (rd l0 x5_1)) == 2) = true := beq_iff_eq.mpr c23
              have c23b1 : ((wrap64 (rd l0 x5_1)) != 2) = false := bne_eq_false_iff_eq.mpr c23
              clear c23
              by_cases c24 : (wrap64 ((l0.length : Int) - (wrap64 (x5_1 + 1)))) < 2
              · rw [if_pos c24] at H
                have c24b0 : decide ((wrap64 ((l0.length : Int) - (wrap64 (x5_1 + 1)))) < 2) = true := decide_eq_true c24
                clear c24
                simp only [Option.some.injEq, Prod.mk.injEq] at H
                obtain ⟨rfl, rfl⟩ := H
                have p111 : 0 ≤ (x5_1 : Int) := of_decide_eq_true (by first | (with_reducible assumption) | assumption)
                have q111 : x5_1 < (l0.length : Int) := of_decide_eq_true (by first | (with_reducible assumption) | assumption)
                obtain ⟨ad111, e111, hx111_0⟩ := Kd.at_int HR0.out x5_1 p111 q111
                cases e111
                replace hx111_0 := (HB.out.cell (World.block_lt_of_cell? w _ hx111_0)).trans hx111_0
                replace p111 := eq_true p111
                replace q111 := eq_true q111
                go_wp2_with (first | ((with_reducible refine gate_dst (N := 6) rfl ?_); refine box_event ?hg (N := 6) ?hd (cs := #[.int .i64 0, .int .i64 0, .int .i64 0, .int .i64 0, .slice none 0 0, .slice none 0 0]) (t := 33) ?hr ?_; (case hd => rfl); (case hg => rfl); (case hr => first | (go_simp; done) | (go_simp; rfl)); intro gb112 hg w25 hbox hb; have n0_ := Aside0.mk (Kd.S_below (Kd.S_elderB (by (with_reducible repeat (first | apply Kd.S_alloc | apply Kd.S_drewN | apply Kd.S_drew)); exact HO_4.out) gb112 (Nat.le_of_eq hg.symm)) hb); have n1_ := Aside0.mk (below_step (by repeat (first | (with_reducible first | exact HB.out | apply below_alloc | apply pw_below_drewN | apply below_drew1) | exact HB.out)) hb); have n2_ := Aside0.mk (hbox); have n3_ := Aside0.mk ((by rw [hg]; exact (below_size (by repeat (first | (with_reducible first | exact HB.out | apply below_alloc | apply pw_below_drewN | apply below_drew1) | exact HB.out))) : w.heap.size ≤ gb112)); have n4_ := Aside0.mk ((by rw [hg]; exact (below_size (by repeat (first | (with_reducible first | exact HB.out | apply below_alloc | apply pw_below_drewN | apply below_drew1) | exact HB.out))) : w.heap.size ≤ gb112)); clear HO_4; clear HB; have HO_4 := n0_; have HB := n1_; have BK112 := n2_; have GW112 := n3_; have GE112 := n4_; clear n0_ n1_ n2_ n3_ n4_; clear hb hbox hg; have hcz26_0 : w25.cell? ⟨gb112, 0, none⟩ = some (.int .i64 0) := (blk_cell BK112.out 0).trans rfl; have hcz26_1 : w25.cell? ⟨gb112, 1, none⟩ = some (.int .i64 0) := (blk_cell BK112.out 1).trans rfl; have hcz26_2 : w25.cell? ⟨gb112, 2, none⟩ = some (.int .i64 0) := (blk_cell BK112.out 2).trans rfl; have hcz26_3 : w25.cell? ⟨gb112, 3, none⟩ = some (.int .i64 0) := (blk_cell BK112.out 3).trans rfl; have hcz26_4 : w25.cell? ⟨gb112, 4, none⟩ = some (.slice none 0 0) := (blk_cell BK112.out 4).trans rfl; have hcz26_5 : w25.cell? ⟨gb112, 5, none⟩ = some (.slice none 0 0) := (blk_cell BK112.out 5).trans rfl; have hfz26_0 := blk_frozen BK112.out 0; have hfz26_1 := blk_frozen BK112.out 1; have hfz26_2 := blk_frozen BK112.out 2; have hfz26_3 := blk_frozen BK112.out 3; have hfz26_4 := blk_frozen BK112.out 4; have hfz26_5 := blk_frozen BK112.out 5))
                go_ret2
                exact ⟨_, by first | rfl | (simp [errW_none, errW_some] <;> rfl) | (simp [*, errW_none, errW_some] <;> rfl), by first | exact Kd.S_nil _ _ _ _ _ | exact Kd.N_nil _ _ _ _ _ | exact Kd.V_nil _ _ _ _ _ | exact Kd.Q_nil _ _ _ _ _ | exact Kd.R_nil _ _ _ _ _, by repeat (first | (with_reducible first | exact HB.out | apply below_alloc | apply pw_below_drewN | apply below_drew1 | refine below_set ?_ GE112.out) | exact HB.out)⟩
              · rw [if_neg c24] at H
                have c24b0 : decide ((wrap64 ((l0.length : Int) - (wrap64 (x5_1 + 1)))) < 2) = false := decide_eq_false c24
                clear c24
                obtain ⟨ji27, hji27⟩ : ∃ j_ : Int, (wrap64 (x5_1 + 1)) = j_ := ⟨_, rfl⟩
                replace H : (if 0 ≤ (ji27) then (if (ji27) < (l0.length : Int) then (if 0 ≤ (wrap64 ((ji27) + 1)) then (if (wrap64 ((ji27) + 1)) < (l0.length : Int) then (if (wrap64 ((l0.length : Int) - (ji27))) < (wrap64 (3 + (wrap64 ((wrap64 (rd l0 (ji27))) + (wrap64 (256 * (wrap64 (rd l0 (wrap64 ((ji27) + 1)))))))))) then (some (([] : List (S33)), 2)) else (if 0 ≤ (wrap64 ((ji27) + 2)) then (if (wrap64 ((ji27) + 2)) ≤ (wrap64 ((wrap64 ((ji27) + 2)) + (wrap64 ((wrap64 (rd l0 (ji27))) + (wrap64 (256 * (wrap64 (rd l0 (wrap64 ((ji27) + 1)))))))))) then (if (wrap64 ((wrap64 ((ji27) + 2)) + (wrap64 ((wrap64 (rd l0 (ji27))) + (wrap64 (256 * (wrap64 (rd l0 (wrap64 ((ji27) + 1)))))))))) ≤ (l0.length : Int) then (if ([] : List Int).length + ((l0.take ((wrap64 ((wrap64 ((ji27) + 2)) + (wrap64 ((wrap64 (rd l0 (ji27))) + (wrap64 (256 * (wrap64 (rd l0 (wrap64 ((ji27) + 1)))))))))) : Int).toNat).drop ((wrap64 ((ji27) + 2)) : Int).toNat).length < 140737488355328 then (if 0 ≤ (wrap64 ((ji27) + (wrap64 (2 + (wrap64 ((wrap64 (rd l0 (ji27))) + (wrap64 (256 * (wrap64 (rd l0 (wrap64 ((ji27) + 1)))))))))))) then (if (wrap64 ((ji27) + (wrap64 (2 + (wrap64 ((wrap64 (rd l0 (ji27))) + (wrap64 (256 * (wrap64 (rd l0 (wrap64 ((ji27) + 1)))))))))))) < (l0.length : Int) then (if (wrap64 ((l0.length : Int) - (wrap64 ((wrap64 ((ji27) + (wrap64 (2 + (wrap64 ((wrap64 (rd l0 (ji27))) + (wrap64 (256 * (wrap64 (rd l0 (wrap64 ((ji27) + 1)))))))))))) + 1)))) < (wrap64 (8 * (wrap64 (rd l0 (wrap64 ((ji27) + (wrap64 (2 + (wrap64 ((wrap64 (rd l0 (ji27))) + (wrap64 (256 * (wrap64 (rd l0 (wrap64 ((ji27) + 1)))))))))))))))) then (some (([] : List (S33)), 2)) else (haymowref18_Read.l1 k1 l0 x4_1 (wrap64 ((wrap64 ((ji27) + (wrap64 (2 + (wrap64 ((wrap64 (rd l0 (ji27))) + (wrap64 (256 * (wrap64 (rd l0 (wrap64 ((ji27) + 1)))))))))))) + 1)) (wrap64 (rd l0 (wrap64 ((ji27) + (wrap64 (2 + (wrap64 ((wrap64 (rd l0 (ji27))) + (wrap64 (256 * (wrap64 (rd l0 (wrap64 ((ji27) + 1)))))))))))))) 0 (wrap64 (rd l0 x5_1)) 0 0 0 (([] : List Int) ++ ((l0.take ((wrap64 ((wrap64 ((ji27) + 2)) + (wrap64 ((wrap64 (rd l0 (ji27))) + (wrap64 (256 * (wrap64 (rd l0 (wrap64 ((ji27) + 1)))))))))) : Int).toNat).drop ((wrap64 ((ji27) + 2)) : Int).toNat)) ([] : List Int))) else (none)) else (none)) else (none)) else (none)) else (none)) else (none))) else (none)) else (none)) else (none)) else (none)) = some (r1, r2) := by first | (rw [hji27] at H; exact H) | (simp only [hji27] at H ⊢; exact H)
                (try rw [hji27] at c24b0)
                have hji27w : (IntKind.i64.wrap (x5_1 + 1)) = ji27 := (i64_w _).trans hji27
                by_cases c28 : 0 ≤ (ji27)
                · rw [if_pos c28] at H
                  have c28b0 : decide (0 ≤ (ji27)) = true := decide_eq_true c28
                  clear c28
                  by_cases c29 : (ji27) < (l0.length : Int)
                  · rw [if_pos c29] at H
                    have c29b0 : decide ((ji27) < (l0.length : Int)) = true := decide_eq_true c29
                    clear c29
                    obtain ⟨ji30, hji30⟩ : ∃ j_ : Int, (wrap64 ((ji27) + 1)) = j_ := ⟨_, rfl⟩
                    replace H : (if 0 ≤ (ji30) then (if (ji30) < (l0.length : Int) then (if (wrap64 ((l0.length : Int) - (ji27))) < (wrap64 (3 + (wrap64 ((wrap64 (rd l0 (ji27))) + (wrap64 (256 * (wrap64 (rd l0 (ji30))))))))) then (some (([] : List (S33)), 2)) else (if 0 ≤ (wrap64 ((ji27) + 2)) then (if (wrap64 ((ji27) + 2)) ≤ (wrap64 ((wrap64 ((ji27) + 2)) + (wrap64 ((wrap64 (rd l0 (ji27))) + (wrap64 (256 * (wrap64 (rd l0 (ji30))))))))) then (if (wrap64 ((wrap64 ((ji27) + 2)) + (wrap64 ((wrap64 (rd l0 (ji27))) + (wrap64 (256 * (wrap64 (rd l0 (ji30))))))))) ≤ (l0.length : Int) then (if ([] : List Int).length + ((l0.take ((wrap64 ((wrap64 ((ji27) + 2)) + (wrap64 ((wrap64 (rd l0 (ji27))) + (wrap64 (256 * (wrap64 (rd l0 (ji30))))))))) : Int).toNat).drop ((wrap64 ((ji27) + 2)) : Int).toNat).length < 140737488355328 then (if 0 ≤ (wrap64 ((ji27) + (wrap64 (2 + (wrap64 ((wrap64 (rd l0 (ji27))) + (wrap64 (256 * (wrap64 (rd l0 (ji30))))))))))) then (if (wrap64 ((ji27) + (wrap64 (2 + (wrap64 ((wrap64 (rd l0 (ji27))) + (wrap64 (256 * (wrap64 (rd l0 (ji30))))))))))) < (l0.length : Int) then (if (wrap64 ((l0.length : Int) - (wrap64 ((wrap64 ((ji27) + (wrap64 (2 + (wrap64 ((wrap64 (rd l0 (ji27))) + (wrap64 (256 * (wrap64 (rd l0 (ji30))))))))))) + 1)))) < (wrap64 (8 * (wrap64 (rd l0 (wrap64 ((ji27) + (wrap64 (2 + (wrap64 ((wrap64 (rd l0 (ji27))) + (wrap64 (256 * (wrap64 (rd l0 (ji30))))))))))))))) then (some (([] : List (S33)), 2)) else (haymowref18_Read.l1 k1 l0 x4_1 (wrap64 ((wrap64 ((ji27) + (wrap64 (2 + (wrap64 ((wrap64 (rd l0 (ji27))) + (wrap64 (256 * (wrap64 (rd l0 (ji30))))))))))) + 1)) (wrap64 (rd l0 (wrap64 ((ji27) + (wrap64 (2 + (wrap64 ((wrap64 (rd l0 (ji27))) + (wrap64 (256 * (wrap64 (rd l0 (ji30))))))))))))) 0 (wrap64 (rd l0 x5_1)) 0 0 0 (([] : List Int) ++ ((l0.take ((wrap64 ((wrap64 ((ji27) + 2)) + (wrap64 ((wrap64 (rd l0 (ji27))) + (wrap64 (256 * (wrap64 (rd l0 (ji30))))))))) : Int).toNat).drop ((wrap64 ((ji27) + 2)) : Int).toNat)) ([] : List Int))) else (none)) else (none)) else (none)) else (none)) else (none)) else (none))) else (none)) else (none)) = some (r1, r2) := by first | (rw [hji30] at H; exact H) | (simp only [hji30] at H ⊢; exact H)
                    have hji30w : (IntKind.i64.wrap ((ji27) + 1)) = ji30 := (i64_w _).trans hji30
                    by_cases c31 : 0 ≤ (ji30)
                    · rw [if_pos c31] at H
                      have c31b0 : decide (0 ≤ (ji30)) = true := decide_eq_true c31
                      clear c31
                      by_cases c32 : (ji30) < (l0.length : Int)
                      · rw [if_pos c32] at H
                        have c32b0 : decide ((ji30) < (l0.length : Int)) = true := decide_eq_true c32
                        clear c32
                        by_cases c33 : (wrap64 ((l0.length : Int) - (ji27))) < (wrap64 (3 + (wrap64 ((wrap64 (rd l0 (ji27))) + (wrap64 (256 * (wrap64 (rd l0 (ji30)))))))))
                        · rw [if_pos c33] at H
                          have c33b0 : decide ((wrap64 ((l0.length : Int) - (ji27))) < (wrap64 (3 + (wrap64 ((wrap64 (rd l0 (ji27))) + (wrap64 (256 * (wrap64 (rd l0 (ji30)))))))))) = true := decide_eq_true c33
                          clear c33
                          simp only [Option.some.injEq, Prod.mk.injEq] at H
                          obtain ⟨rfl, rfl⟩ := H
                          have p111 : 0 ≤ (x5_1 : Int) := of_decide_eq_true (by first | (with_reducible assumption) | assumption)
                          have q111 : x5_1 < (l0.length : Int) := of_decide_eq_true (by first | (with_reducible assumption) | assumption)
                          obtain ⟨ad111, e111, hx111_0⟩ := Kd.at_int HR0.out x5_1 p111 q111
                          cases e111
                          replace hx111_0 := (HB.out.cell (World.block_lt_of_cell? w _ hx111_0)).trans hx111_0
                          replace p111 := eq_true p111
                          replace q111 := eq_true q111
                          try go_wp2_with (first | ((with_reducible refine gate_dst (N := 6) rfl ?_); refine box_event ?hg (N := 6) ?hd (cs := #[.int .i64 0, .int .i64 0, .int .i64 0, .int .i64 0, .slice none 0 0, .slice none 0 0]) (t := 33) ?hr ?_; (case hd => rfl); (case hg => rfl); (case hr => first | (go_simp; done) | (go_simp; rfl)); intro gb112 hg w34 hbox hb; have n0_ := Aside0.mk (Kd.S_below (Kd.S_elderB (by (with_reducible repeat (first | apply Kd.S_alloc | apply Kd.S_drewN | apply Kd.S_drew)); exact HO_4.out) gb112 (Nat.le_of_eq hg.symm)) hb); have n1_ := Aside0.mk (below_step (by repeat (first | (with_reducible first | exact HB.out | apply below_alloc | apply pw_below_drewN | apply below_drew1) | exact HB.out)) hb); have n2_ := Aside0.mk (hbox); have n3_ := Aside0.mk ((by rw [hg]; exact (below_size (by repeat (first | (with_reducible first | exact HB.out | apply below_alloc | apply pw_below_drewN | apply below_drew1) | exact HB.out))) : w.heap.size ≤ gb112)); have n4_ := Aside0.mk ((by rw [hg]; exact (below_size (by repeat (first | (with_reducible first | exact HB.out | apply below_alloc | apply pw_below_drewN | apply below_drew1) | exact HB.out))) : w.heap.size ≤ gb112)); clear HO_4; clear HB; have HO_4 := n0_; have HB := n1_; have BK112 := n2_; have GW112 := n3_; have GE112 := n4_; clear n0_ n1_ n2_ n3_ n4_; clear hb hbox hg; have hcz35_0 : w34.cell? ⟨gb112, 0, none⟩ = some (.int .i64 0) := (blk_cell BK112.out 0).trans rfl; have hcz35_1 : w34.cell? ⟨gb112, 1, none⟩ = some (.int .i64 0) := (blk_cell BK112.out 1).trans rfl; have hcz35_2 : w34.cell? ⟨gb112, 2, none⟩ = some (.int .i64 0) := (blk_cell BK112.out 2).trans rfl; have hcz35_3 : w34.cell? ⟨gb112, 3, none⟩ = some (.int .i64 0) := (blk_cell BK112.out 3).trans rfl; have hcz35_4 : w34.cell? ⟨gb112, 4, none⟩ = some (.slice none 0 0) := (blk_cell BK112.out 4).trans rfl; have hcz35_5 : w34.cell? ⟨gb112, 5, none⟩ = some (.slice none 0 0) := (blk_cell BK112.out 5).trans rfl; have hfz35_0 := blk_frozen BK112.out 0; have hfz35_1 := blk_frozen BK112.out 1; have hfz35_2 := blk_frozen BK112.out 2; have hfz35_3 := blk_frozen BK112.out 3; have hfz35_4 := blk_frozen BK112.out 4; have hfz35_5 := blk_frozen BK112.out 5))
                          have n0_ : Aside0 (Kd.S k33 33 ((((((w34.setCell ⟨gb112, 0, none⟩ (.int .i64 (wrap64 (rd l0 x5_1)))).setCell ⟨gb112, 1, none⟩ (.int .i64 0)).setCell ⟨gb112, 2, none⟩ (.int .i64 0)).setCell ⟨gb112, 3, none⟩ (.int .i64 0)).setCell ⟨gb112, 4, none⟩ (.slice none 0 0)).setCell ⟨gb112, 5, none⟩ (.slice none 0 0)) w.heap.size (fun k_ => k_ ≠ gb112) u4 x4_1) := ⟨by (with_reducible repeat (first | apply Kd.S_alloc | apply Kd.S_drewN | apply Kd.S_drew)); exact Kd.S_mono (Kd.S_far (p := ⟨gb112, 5, none⟩) (Kd.S_far (p := ⟨gb112, 4, none⟩) (Kd.S_far (p := ⟨gb112, 3, none⟩) (Kd.S_far (p := ⟨gb112, 2, none⟩) (Kd.S_far (p := ⟨gb112, 1, none⟩) (Kd.S_far (p := ⟨gb112, 0, none⟩) (Kd.S_mono HO_4.out (fun k_ hk => (⟨hk, hk.2⟩ : _ ∧ k_ ≠ gb112))) (fun _ hk => hk.2) (.int .i64 (wrap64 (rd l0 x5_1)))) (fun _ hk => hk.2) (.int .i64 0)) (fun _ hk => hk.2) (.int .i64 0)) (fun _ hk => hk.2) (.int .i64 0)) (fun _ hk => hk.2) (.slice none 0 0)) (fun _ hk => hk.2) (.slice none 0 0)) (fun _ hk => hk.1.2)⟩
                          have n1_ : Aside0 (((((((w34.setCell ⟨gb112, 0, none⟩ (.int .i64 (wrap64 (rd l0 x5_1)))).setCell ⟨gb112, 1, none⟩ (.int .i64 0)).setCell ⟨gb112, 2, none⟩ (.int .i64 0)).setCell ⟨gb112, 3, none⟩ (.int .i64 0)).setCell ⟨gb112, 4, none⟩ (.slice none 0 0)).setCell ⟨gb112, 5, none⟩ (.slice none 0 0)).heap[gb112]? = some (.cells #[.int .i64 (wrap64 (rd l0 x5_1)), .int .i64 0, .int .i64 0, .int .i64 0, .slice none 0 0, .slice none 0 0] 33 (0, 0))) := ⟨by (with_reducible repeat (first | refine blk_drewN ?_ _ | refine blk_drew ?_ | refine blk_alloc ?_ _)); refine blk_put (cs := #[.int .i64 (wrap64 (rd l0 x5_1)), .int .i64 0, .int .i64 0, .int .i64 0, .slice none 0 0, .slice none 0 0]) ?_ 5 _ rfl; (with_reducible repeat (first | refine blk_drewN ?_ _ | refine blk_drew ?_ | refine blk_alloc ?_ _)); refine blk_put (cs := #[.int .i64 (wrap64 (rd l0 x5_1)), .int .i64 0, .int .i64 0, .int .i64 0, .slice none 0 0, .slice none 0 0]) ?_ 4 _ rfl; (with_reducible repeat (first | refine blk_drewN ?_ _ | refine blk_drew ?_ | refine blk_alloc ?_ _)); refine blk_put (cs := #[.int .i64 (wrap64 (rd l0 x5_1)), .int .i64 0, .int .i64 0, .int .i64 0, .slice none 0 0, .slice none 0 0]) ?_ 3 _ rfl; (with_reducible repeat (first | refine blk_drewN ?_ _ | refine blk_drew ?_ | refine blk_alloc ?_ _)); refine blk_put (cs := #[.int .i64 (wrap64 (rd l0 x5_1)), .int .i64 0, .int .i64 0, .int .i64 0, .slice none 0 0, .slice none 0 0]) ?_ 2 _ rfl; (with_reducible repeat (first | refine blk_drewN ?_ _ | refine blk_drew ?_ | refine blk_alloc ?_ _)); refine blk_put (cs := #[.int .i64 (wrap64 (rd l0 x5_1)), .int .i64 0, .int .i64 0, .int .i64 0, .slice none 0 0, .slice none 0 0]) ?_ 1 _ rfl; (with_reducible repeat (first | refine blk_drewN ?_ _ | refine blk_drew ?_ | refine blk_alloc ?_ _)); refine blk_put (cs := #[.int .i64 0, .int .i64 0, .int .i64 0, .int .i64 0, .slice none 0 0, .slice none 0 0]) ?_ 0 _ rfl; (with_reducible repeat (first | refine blk_drewN ?_ _ | refine blk_drew ?_ | refine blk_alloc ?_ _)); exact BK112.out⟩
                          have n2_ : Aside0 (Below w.heap.size w ((((((w34.setCell ⟨gb112, 0, none⟩ (.int .i64 (wrap64 (rd l0 x5_1)))).setCell ⟨gb112, 1, none⟩ (.int .i64 0)).setCell ⟨gb112, 2, none⟩ (.int .i64 0)).setCell ⟨gb112, 3, none⟩ (.int .i64 0)).setCell ⟨gb112, 4, none⟩ (.slice none 0 0)).setCell ⟨gb112, 5, none⟩ (.slice none 0 0))) := ⟨by repeat (first | (with_reducible first | exact HB.out | apply below_alloc | apply pw_below_drewN | apply below_drew1 | refine below_set ?_ GE112.out) | exact HB.out)⟩
                          (try clear HO_4)
                          (try clear BK112)
                          (try clear HB)
                          generalize ((((((w34.setCell ⟨gb112, 0, none⟩ (.int .i64 (wrap64 (rd l0 x5_1)))).setCell ⟨gb112, 1, none⟩ (.int .i64 0)).setCell ⟨gb112, 2, none⟩ (.int .i64 0)).setCell ⟨gb112, 3, none⟩ (.int .i64 0)).setCell ⟨gb112, 4, none⟩ (.slice none 0 0)).setCell ⟨gb112, 5, none⟩ (.slice none 0 0)) = w36 at n0_ n1_ n2_ ⊢
                          have HO_4 := n0_
                          have BK112 := n1_
                          have HB := n2_
                          clear n0_ n1_ n2_
                          have n0_ := Aside0.mk (Kd.S_drew HO_4.out)
                          have n1_ := Aside0.mk (blk_drew BK112.out)
                          have n2_ := Aside0.mk (below_drew1 HB.out)
                          clear HO_4
                          clear BK112
                          clear HB
                          have HO_4 := n0_
                          have BK112 := n1_
                          have HB := n2_
                          clear n0_ n1_ n2_
                          have p118 : 0 ≤ ((ji27) : Int) := of_decide_eq_true (by first | (with_reducible assumption) | assumption)
                          have q118 : (ji27) < (l0.length : Int) := of_decide_eq_true (by first | (with_reducible assumption) | assumption)
                          obtain ⟨ad118, e118, hx118_0⟩ := Kd.at_int HR0.out (ji27) p118 q118
                          have hw118_0 := hx118_0
                          obtain rfl : ad111 = ad118 := (by injection e118)
                          replace hx118_0 := (HB.out.cell (World.block_lt_of_cell? w _ hx118_0)).trans hx118_0
                          replace p118 := eq_true p118
                          replace q118 := eq_true q118
                          have p119 : 0 ≤ ((ji30) : Int) := of_decide_eq_true (by first | (with_reducible assumption) | assumption)
                          have q119 : (ji30) < (l0.length : Int) := of_decide_eq_true (by first | (with_reducible assumption) | assumption)
                          obtain ⟨ad119, e119, hx119_0⟩ := Kd.at_int HR0.out (ji30) p119 q119
                          have hw119_0 := hx119_0
                          obtain rfl : ad111 = ad119 := (by injection e119)
                          replace hx119_0 := (HB.out.cell (World.block_lt_of_cell? w _ hx119_0)).trans hx119_0
                          replace p119 := eq_true p119
                          replace q119 := eq_true q119
                          refine start_ (n := 14) (S := fun w' => w'.cell? (ad111.add ((ji27)).toNat) = some (.int .u8 (rd l0 (ji27))) ∧ w'.cell? (ad111.add ((ji30)).toNat) = some (.int .u8 (rd l0 (ji30)))) (ds := []) #[false, false, false, false, false, false, false, false, false, false, false, false, false, false] (by kernel_rfl) rfl rfl ⟨((HB.out.cell (World.block_lt_of_cell? w _ hw118_0)).trans hw118_0), ((HB.out.cell (World.block_lt_of_cell? w _ hw119_0)).trans hw119_0)⟩ (fun hHeld => ?_); refine with_tabW haymowref18_Read.tab17 haymowref18_Read.bits17 (fun HT_ HW_ => ?_)
                          generalize w36.drew = w37 at HO_4 BK112 HB hx118_0 hx119_0 hHeld ⊢
                          refine pure_ (i := 0) (N := some 54) (v := ?_) (a' := ?_) #[true, false, false, false, false, false, false, false, false, false, false, false, false, false] rfl rfl (any_of HT_.out (by kernel_rfl)) (fun _ _ _ h => h) (Or.inl ⟨by rfl, ?_⟩) ?_ ?_
                          rotate_left
                          · intro w'
                            go_simp
                            with_reducible rfl
                          rotate_left
                          · simp only [Act.put, List.setIfInBounds_toArray, List.set_cons_zero, List.set_cons_succ, i64_w, i32_w]
                            rfl
                          refine pure_ (i := 1) (N := some 55) (v := ?_) (a' := ?_) #[true, true, false, false, false, false, false, false, false, false, false, false, false, false] rfl rfl (any_of HT_.out (by kernel_rfl)) (fun _ _ _ h => h) (Or.inl ⟨by rfl, ?_⟩) ?_ ?_
                          rotate_left
                          · intro w'
                            go_simp
                            with_reducible rfl
                          rotate_left
                          · simp only [Act.put, List.setIfInBounds_toArray, List.set_cons_zero, List.set_cons_succ, i64_w, i32_w]
                            rfl
                          refine pure_ (i := 2) (N := some 56) (v := ?_) (a' := ?_) #[true, true, true, false, false, false, false, false, false, false, false, false, false, false] rfl rfl (any_of HT_.out (by kernel_rfl)) (fun _ _ _ h => h) (Or.inl ⟨by rfl, ?_⟩) ?_ ?_
                          rotate_left
                          · intro w'
                            go_simp
                            with_reducible rfl
                          rotate_left
                          · simp only [Act.put, List.setIfInBounds_toArray, List.set_cons_zero, List.set_cons_succ, i64_w, i32_w]
                            rfl
                          refine pure_ (i := 5) (N := some 59) (v := ?_) (a' := ?_) #[true, true, true, false, false, true, false, false, false, false, false, false, false, false] rfl rfl (any_of HT_.out (by kernel_rfl)) (fun _ _ _ h => h) (Or.inl ⟨by rfl, ?_⟩) ?_ ?_
                          rotate_left
                          · intro w'
                            go_simp
                            with_reducible rfl
                          rotate_left
                          · simp only [Act.put, List.setIfInBounds_toArray, List.set_cons_zero, List.set_cons_succ, i64_w, i32_w]
                            rfl
                          refine pure_ (i := 6) (N := some 60) (v := ?_) (a' := ?_) #[true, true, true, false, false, true, true, false, false, false, false, false, false, false] rfl rfl (any_of HT_.out (by kernel_rfl)) (fun _ _ _ h => h) (Or.inl ⟨by rfl, ?_⟩) ?_ ?_
                          rotate_left
                          · intro w'
                            go_simp
                            with_reducible rfl
                          rotate_left
                          · simp only [Act.put, List.setIfInBounds_toArray, List.set_cons_zero, List.set_cons_succ, i64_w, i32_w]
                            rfl
                          refine pure_ (i := 7) (N := some 61) (v := ?_) (a' := ?_) #[true, true, true, false, false, true, true, true, false, false, false, false, false, false] rfl rfl (any_of HT_.out (by kernel_rfl)) (fun _ _ _ h => h) (Or.inl ⟨by rfl, ?_⟩) ?_ ?_
                          rotate_left
                          · intro w'
                            go_simp
                            with_reducible rfl
                          rotate_left
                          · simp only [Act.put, List.setIfInBounds_toArray, List.set_cons_zero, List.set_cons_succ, i64_w, i32_w]
                            rfl
                          refine pure_ (i := 8) (N := some 62) (v := ?_) (a' := ?_) #[true, true, true, false, false, true, true, true, true, false, false, false, false, false] rfl rfl (any_of HT_.out (by kernel_rfl)) (fun _ _ _ h => h) (Or.inl ⟨by rfl, ?_⟩) ?_ ?_
                          rotate_left
                          · intro w'
                            go_simp
                            with_reducible rfl
                          rotate_left
                          · simp only [Act.put, List.setIfInBounds_toArray, List.set_cons_zero, List.set_cons_succ, i64_w, i32_w]
                            rfl
                          refine take_ (i := 3) (N := some 57) (v := ?_) (a' := ?_) #[true, true, true, true, false, true, true, true, true, false, false, false, false, false] rfl rfl (take_ofW HT_.out HW_.out (by kernel_rfl)) (fun _ _ _ h => h) (Or.inl ⟨by rfl, ?_⟩) hHeld ?_ ?_
                          rotate_left
                          · rintro w' ⟨s0, s1⟩
                            go_simp
                            with_reducible rfl
                          rotate_left
                          · simp only [Act.put, List.setIfInBounds_toArray, List.set_cons_zero, List.set_cons_succ, i64_w, i32_w]
                            rfl
                          refine pure_ (i := 4) (N := some 58) (v := ?_) (a' := ?_) #[true, true, true, true, true, true, true, true, true, false, false, false, false, false] rfl rfl (any_of HT_.out (by kernel_rfl)) (fun _ _ _ h => h) (Or.inl ⟨by rfl, ?_⟩) ?_ ?_
                          rotate_left
                          · intro w'
                            go_simp
                            with_reducible rfl
                          rotate_left
                          · simp only [Act.put, List.setIfInBounds_toArray, List.set_cons_zero, List.set_cons_succ, i64_w, i32_w]
                            rfl
                          refine take_ (i := 9) (N := some 63) (v := ?_) (a' := ?_) #[true, true, true, true, true, true, true, true, true, true, false, false, false, false] rfl rfl (take_ofW HT_.out HW_.out (by kernel_rfl)) (fun _ _ _ h => h) (Or.inl ⟨by rfl, ?_⟩) hHeld ?_ ?_
                          rotate_left
                          · rintro w' ⟨s0, s1⟩
                            go_simp
                            with_reducible rfl
                          rotate_left
                          · simp only [Act.put, List.setIfInBounds_toArray, List.set_cons_zero, List.set_cons_succ, i64_w, i32_w]
                            rfl
                          refine pure_ (i := 10) (N := some 64) (v := ?_) (a' := ?_) #[true, true, true, true, true, true, true, true, true, true, true, false, false, false] rfl rfl (any_of HT_.out (by kernel_rfl)) (fun _ _ _ h => h) (Or.inl ⟨by rfl, ?_⟩) ?_ ?_
                          rotate_left
                          · intro w'
                            go_simp
                            with_reducible rfl
                          rotate_left
                          · simp only [Act.put, List.setIfInBounds_toArray, List.set_cons_zero, List.set_cons_succ, i64_w, i32_w]
                            rfl
                          refine pure_ (i := 11) (N := some 65) (v := ?_) (a' := ?_) #[true, true, true, true, true, true, true, true, true, true, true, true, false, false] rfl rfl (any_of HT_.out (by kernel_rfl)) (fun _ _ _ h => h) (Or.inl ⟨by rfl, ?_⟩) ?_ ?_
                          rotate_left
                          · intro w'
                            go_simp
                            with_reducible rfl
                          rotate_left
                          · simp only [Act.put, List.setIfInBounds_toArray, List.set_cons_zero, List.set_cons_succ, i64_w, i32_w]
                            rfl
                          refine pure_ (i := 12) (N := some 66) (v := ?_) (a' := ?_) #[true, true, true, true, true, true, true, true, true, true, true, true, true, false] rfl rfl (any_of HT_.out (by kernel_rfl)) (fun _ _ _ h => h) (Or.inl ⟨by rfl, ?_⟩) ?_ ?_
                          rotate_left
                          · intro w'
                            go_simp
                            with_reducible rfl
                          rotate_left
                          · simp only [Act.put, List.setIfInBounds_toArray, List.set_cons_zero, List.set_cons_succ, i64_w, i32_w]
                            rfl
                          refine pure_ (i := 13) (N := some 8) (v := ?_) (a' := ?_) #[true, true, true, true, true, true, true, true, true, true, true, true, true, true] rfl rfl (any_of HT_.out (by kernel_rfl)) (fun _ _ _ h => h) (Or.inl ⟨by rfl, ?_⟩) ?_ ?_
                          rotate_left
                          · intro w'
                            go_simp
                            with_reducible rfl
                          rotate_left
                          · simp only [Act.put, List.setIfInBounds_toArray, List.set_cons_zero, List.set_cons_succ, i64_w, i32_w]
                            rfl
                          refine done_ (done_of HT_.out (by kernel_rfl)) ?_
                          try go_wp2
                          go_ret2
                          exact ⟨_, by first | rfl | (simp [errW_none, errW_some] <;> rfl) | (simp only [← hji27, ← hji30]; first | rfl | (simp [errW_none, errW_some] <;> rfl)) | (simp [*, errW_none, errW_some] <;> rfl), by first | exact Kd.S_nil _ _ _ _ _ | exact Kd.N_nil _ _ _ _ _ | exact Kd.V_nil _ _ _ _ _ | exact Kd.Q_nil _ _ _ _ _ | exact Kd.R_nil _ _ _ _ _, by repeat (first | (with_reducible first | exact HB.out | apply below_alloc | apply pw_below_drewN | apply below_drew1 | refine below_set ?_ GE112.out) | exact HB.out)⟩
                        · rw [if_neg c33] at H
                          have c33b0 : decide ((wrap64 ((l0.length : Int) - (ji27))) < (wrap64 (3 + (wrap64 ((wrap64 (rd l0 (ji27))) + (wrap64 (256 * (wrap64 (rd l0 (ji30)))))))))) = false := decide_eq_false c33
                          clear c33
                          obtain ⟨ji38, hji38⟩ : ∃ j_ : Int, (wrap64 ((ji27) + 2)) = j_ := ⟨_, rfl⟩
                          replace H : (if 0 ≤ (ji38) then (if (ji38) ≤ (wrap64 ((ji38) + (wrap64 ((wrap64 (rd l0 (ji27))) + (wrap64 (256 * (wrap64 (rd l0 (ji30))))))))) then (if (wrap64 ((ji38) + (wrap64 ((wrap64 (rd l0 (ji27))) + (wrap64 (256 * (wrap64 (rd l0 (ji30))))))))) ≤ (l0.length : Int) then (if ([] : List Int).length + ((l0.take ((wrap64 ((ji38) + (wrap64 ((wrap64 (rd l0 (ji27))) + (wrap64 (256 * (wrap64 (rd l0 (ji30))))))))) : Int).toNat).drop ((ji38) : Int).toNat).length < 140737488355328 then (if 0 ≤ (wrap64 ((ji27) + (wrap64 (2 + (wrap64 ((wrap64 (rd l0 (ji27))) + (wrap64 (256 * (wrap64 (rd l0 (ji30))))))))))) then (if (wrap64 ((ji27) + (wrap64 (2 + (wrap64 ((wrap64 (rd l0 (ji27))) + (wrap64 (256 * (wrap64 (rd l0 (ji30))))))))))) < (l0.length : Int) then (if (wrap64 ((l0.length : Int) - (wrap64 ((wrap64 ((ji27) + (wrap64 (2 + (wrap64 ((wrap64 (rd l0 (ji27))) + (wrap64 (256 * (wrap64 (rd l0 (ji30))))))))))) + 1)))) < (wrap64 (8 * (wrap64 (rd l0 (wrap64 ((ji27) + (wrap64 (2 + (wrap64 ((wrap64 (rd l0 (ji27))) + (wrap64 (256 * (wrap64 (rd l0 (ji30))))))))))))))) then (some (([] : List (S33)), 2)) else (haymowref18_Read.l1 k1 l0 x4_1 (wrap64 ((wrap64 ((ji27) + (wrap64 (2 + (wrap64 ((wrap64 (rd l0 (ji27))) + (wrap64 (256 * (wrap64 (rd l0 (ji30))))))))))) + 1)) (wrap64 (rd l0 (wrap64 ((ji27) + (wrap64 (2 + (wrap64 ((wrap64 (rd l0 (ji27))) + (wrap64 (256 * (wrap64 (rd l0 (ji30))))))))))))) 0 (wrap64 (rd l0 x5_1)) 0 0 0 (([] : List Int) ++ ((l0.take ((wrap64 ((ji38) + (wrap64 ((wrap64 (rd l0 (ji27))) + (wrap64 (256 * (wrap64 (rd l0 (ji30))))))))) : Int).toNat).drop ((ji38) : Int).toNat)) ([] : List Int))) else (none)) else (none)) else (none)) else (none)) else (none)) else (none)) = some (r1, r2) := by first | (rw [hji38] at H; exact H) | (simp only [hji38] at H ⊢; exact H)
                          have hji38w : (IntKind.i64.wrap ((ji27) + 2)) = ji38 := (i64_w _).trans hji38
                          by_cases c39 : 0 ≤ (ji38)
                          · rw [if_pos c39] at H
                            have c39b0 := eq_true c39
                            have c39b1 : decide (0 ≤ (ji38)) = true := decide_eq_true c39
                            clear c39
                            by_cases c40 : (ji38) ≤ (wrap64 ((ji38) + (wrap64 ((wrap64 (rd l0 (ji27))) + (wrap64 (256 * (wrap64 (rd l0 (ji30)))))))))
                            · rw [if_pos c40] at H
                              have c40b0 := eq_true c40
                              have c40b1 : decide ((ji38) ≤ (wrap64 ((ji38) + (wrap64 ((wrap64 (rd l0 (ji27))) + (wrap64 (256 * (wrap64 (rd l0 (ji30)))))))))) = true := decide_eq_true c40
                              by_cases c41 : (wrap64 ((ji38) + (wrap64 ((wrap64 (rd l0 (ji27))) + (wrap64 (256 * (wrap64 (rd l0 (ji30))))))))) ≤ (l0.length : Int)
                              · rw [if_pos c41] at H
                                have c41b0 := eq_true c41
                                have c41b1 : decide ((wrap64 ((ji38) + (wrap64 ((wrap64 (rd l0 (ji27))) + (wrap64 (256 * (wrap64 (rd l0 (ji30))))))))) ≤ (l0.length : Int)) = true := decide_eq_true c41
                                by_cases c42 : ([] : List Int).length + ((l0.take ((wrap64 ((ji38) + (wrap64 ((wrap64 (rd l0 (ji27))) + (wrap64 (256 * (wrap64 (rd l0 (ji30))))))))) : Int).toNat).drop ((ji38) : Int).toNat).length < 140737488355328
                                · rw [if_pos c42] at H
                                  have LMc42 := Aside0.mk c42
                                  clear c42
                                  obtain ⟨y121, hy121⟩ : ∃ y_ : List Int, y_ = (([] : List Int) ++ ((l0.take ((wrap64 ((ji38) + (wrap64 ((wrap64 (rd l0 (ji27))) + (wrap64 (256 * (wrap64 (rd l0 (ji30))))))))) : Int).toNat).drop ((ji38) : Int).toNat)) := ⟨_, rfl⟩
                                  replace H : (if 0 ≤ (wrap64 ((ji27) + (wrap64 (2 + (wrap64 ((wrap64 (rd l0 (ji27))) + (wrap64 (256 * (wrap64 (rd l0 (ji30))))))))))) then (if (wrap64 ((ji27) + (wrap64 (2 + (wrap64 ((wrap64 (rd l0 (ji27))) + (wrap64 (256 * (wrap64 (rd l0 (ji30))))))))))) < (l0.length : Int) then (if (wrap64 ((l0.length : Int) - (wrap64 ((wrap64 ((ji27) + (wrap64 (2 + (wrap64 ((wrap64 (rd l0 (ji27))) + (wrap64 (256 * (wrap64 (rd l0 (ji30))))))))))) + 1)))) < (wrap64 (8 * (wrap64 (rd l0 (wrap64 ((ji27) + (wrap64 (2 + (wrap64 ((wrap64 (rd l0 (ji27))) + (wrap64 (256 * (wrap64 (rd l0 (ji30))))))))))))))) then (some (([] : List (S33)), 2)) else (haymowref18_Read.l1 k1 l0 x4_1 (wrap64 ((wrap64 ((ji27) + (wrap64 (2 + (wrap64 ((wrap64 (rd l0 (ji27))) + (wrap64 (256 * (wrap64 (rd l0 (ji30))))))))))) + 1)) (wrap64 (rd l0 (wrap64 ((ji27) + (wrap64 (2 + (wrap64 ((wrap64 (rd l0 (ji27))) + (wrap64 (256 * (wrap64 (rd l0 (ji30))))))))))))) 0 (wrap64 (rd l0 x5_1)) 0 0 0 y121 ([] : List Int))) else (none)) else (none)) = some (r1, r2) := by first | (rw [hy121]; with_reducible exact H) | (have H2_ := (Option.bind_some _ _).symm.trans H; rw [hy121]; with_reducible exact H2_) | (have H2_ := (Option.bind_some _ _).symm.trans H; with_reducible exact H2_) | with_reducible exact H | (rw [hy121]; exact H) | exact H
                                  have Ny121 := Aside0.mk hy121
                                  clear hy121
                                  obtain ⟨ji43, hji43⟩ : ∃ j_ : Int, (wrap64 ((ji27) + (wrap64 (2 + (wrap64 ((wrap64 (rd l0 (ji27))) + (wrap64 (256 * (wrap64 (rd l0 (ji30))))))))))) = j_ := ⟨_, rfl⟩
                                  replace H : (if 0 ≤ (ji43) then (if (ji43) < (l0.length : Int) then (if (wrap64 ((l0.length : Int) - (wrap64 ((ji43) + 1)))) < (wrap64 (8 * (wrap64 (rd l0 (ji43))))) then (some (([] : List (S33)), 2)) else (haymowref18_Read.l1 k1 l0 x4_1 (wrap64 ((ji43) + 1)) (wrap64 (rd l0 (ji43))) 0 (wrap64 (rd l0 x5_1)) 0 0 0 y121 ([] : List Int))) else (none)) else (none)) = some (r1, r2) := by first | (rw [hji43] at H; exact H) | (simp only [hji43] at H ⊢; exact H)
                                  have hji43w : (IntKind.i64.wrap ((ji27) + (wrap64 (2 + (wrap64 ((wrap64 (rd l0 (ji27))) + (wrap64 (256 * (wrap64 (rd l0 (ji30))))))))))) = ji43 := (i64_w _).trans hji43
                                  by_cases c44 : 0 ≤ (ji43)
                                  · rw [if_pos c44] at H
                                    have c44b0 : decide (0 ≤ (ji43)) = true := decide_eq_true c44
                                    clear c44
                                    by_cases c45 : (ji43) < (l0.length : Int)
                                    · rw [if_pos c45] at H
                                      have c45b0 : decide ((ji43) < (l0.length : Int)) = true := decide_eq_true c45
                                      clear c45
                                      by_cases c46 : (wrap64 ((l0.length : Int) - (wrap64 ((ji43) + 1)))) < (wrap64 (8 * (wrap64 (rd l0 (ji43)))))
                                      · rw [if_pos c46] at H
                                        have c46b0 : decide ((wrap64 ((l0.length : Int) - (wrap64 ((ji43) + 1)))) < (wrap64 (8 * (wrap64 (rd l0 (ji43)))))) = true := decide_eq_true c46
                                        clear c46
                                        simp only [Option.some.injEq, Prod.mk.injEq] at H
                                        obtain ⟨rfl, rfl⟩ := H
                                        have p111 : 0 ≤ (x5_1 : Int) := of_decide_eq_true (by first | (with_reducible assumption) | assumption)
                                        have q111 : x5_1 < (l0.length : Int) := of_decide_eq_true (by first | (with_reducible assumption) | assumption)
                                        obtain ⟨ad111, e111, hx111_0⟩ := Kd.at_int HR0.out x5_1 p111 q111
                                        cases e111
                                        replace hx111_0 := (HB.out.cell (World.block_lt_of_cell? w _ hx111_0)).trans hx111_0
                                        replace p111 := eq_true p111
                                        replace q111 := eq_true q111
                                        try go_wp2_with (first | ((with_reducible refine gate_dst (N := 6) rfl ?_); refine box_event ?hg (N := 6) ?hd (cs := #[.int .i64 0, .int .i64 0, .int .i64 0, .int .i64 0, .slice none 0 0, .slice none 0 0]) (t := 33) ?hr ?_; (case hd => rfl); (case hg => rfl); (case hr => first | (go_simp; done) | (go_simp; rfl)); intro gb112 hg w47 hbox hb; have n0_ := Aside0.mk (Kd.S_below (Kd.S_elderB (by (with_reducible repeat (first | apply Kd.S_alloc | apply Kd.S_drewN | apply Kd.S_drew)); exact HO_4.out) gb112 (Nat.le_of_eq hg.symm)) hb); have n1_ := Aside0.mk (below_step (by repeat (first | (with_reducible first | exact HB.out | apply below_alloc | apply pw_below_drewN | apply below_drew1) | exact HB.out)) hb); have n2_ := Aside0.mk (hbox); have n3_ := Aside0.mk ((by rw [hg]; exact (below_size (by repeat (first | (with_reducible first | exact HB.out | apply below_alloc | apply pw_below_drewN | apply below_drew1) | exact HB.out))) : w.heap.size ≤ gb112)); have n4_ := Aside0.mk ((by rw [hg]; exact (below_size (by repeat (first | (with_reducible first | exact HB.out | apply below_alloc | apply pw_below_drewN | apply below_drew1) | exact HB.out))) : w.heap.size ≤ gb112)); clear HO_4; clear HB; have HO_4 := n0_; have HB := n1_; have BK112 := n2_; have GW112 := n3_; have GE112 := n4_; clear n0_ n1_ n2_ n3_ n4_; clear hb hbox hg; have hcz48_0 : w47.cell? ⟨gb112, 0, none⟩ = some (.int .i64 0) := (blk_cell BK112.out 0).trans rfl; have hcz48_1 : w47.cell? ⟨gb112, 1, none⟩ = some (.int .i64 0) := (blk_cell BK112.out 1).trans rfl; have hcz48_2 : w47.cell? ⟨gb112, 2, none⟩ = some (.int .i64 0) := (blk_cell BK112.out 2).trans rfl; have hcz48_3 : w47.cell? ⟨gb112, 3, none⟩ = some (.int .i64 0) := (blk_cell BK112.out 3).trans rfl; have hcz48_4 : w47.cell? ⟨gb112, 4, none⟩ = some (.slice none 0 0) := (blk_cell BK112.out 4).trans rfl; have hcz48_5 : w47.cell? ⟨gb112, 5, none⟩ = some (.slice none 0 0) := (blk_cell BK112.out 5).trans rfl; have hfz48_0 := blk_frozen BK112.out 0; have hfz48_1 := blk_frozen BK112.out 1; have hfz48_2 := blk_frozen BK112.out 2; have hfz48_3 := blk_frozen BK112.out 3; have hfz48_4 := blk_frozen BK112.out 4; have hfz48_5 := blk_frozen BK112.out 5))
                                        have n0_ : Aside0 (Kd.S k33 33 ((((((w47.setCell ⟨gb112, 0, none⟩ (.int .i64 (wrap64 (rd l0 x5_1)))).setCell ⟨gb112, 1, none⟩ (.int .i64 0)).setCell ⟨gb112, 2, none⟩ (.int .i64 0)).setCell ⟨gb112, 3, none⟩ (.int .i64 0)).setCell ⟨gb112, 4, none⟩ (.slice none 0 0)).setCell ⟨gb112, 5, none⟩ (.slice none 0 0)) w.heap.size (fun k_ => k_ ≠ gb112) u4 x4_1) := ⟨by (with_reducible repeat (first | apply Kd.S_alloc | apply Kd.S_drewN | apply Kd.S_drew)); exact Kd.S_mono (Kd.S_far (p := ⟨gb112, 5, none⟩) (Kd.S_far (p := ⟨gb112, 4, none⟩) (Kd.S_far (p := ⟨gb112, 3, none⟩) (Kd.S_far (p := ⟨gb112, 2, none⟩) (Kd.S_far (p := ⟨gb112, 1, none⟩) (Kd.S_far (p := ⟨gb112, 0, none⟩) (Kd.S_mono HO_4.out (fun k_ hk => (⟨hk, hk.2⟩ : _ ∧ k_ ≠ gb112))) (fun _ hk => hk.2) (.int .i64 (wrap64 (rd l0 x5_1)))) (fun _ hk => hk.2) (.int .i64 0)) (fun _ hk => hk.2) (.int .i64 0)) (fun _ hk => hk.2) (.int .i64 0)) (fun _ hk => hk.2) (.slice none 0 0)) (fun _ hk => hk.2) (.slice none 0 0)) (fun _ hk => hk.1.2)⟩
                                        have n1_ : Aside0 (((((((w47.setCell ⟨gb112, 0, none⟩ (.int .i64 (wrap64 (rd l0 x5_1)))).setCell ⟨gb112, 1, none⟩ (.int .i64 0)).setCell ⟨gb112, 2, none⟩ (.int .i64 0)).setCell ⟨gb112, 3, none⟩ (.int .i64 0)).setCell ⟨gb112, 4, none⟩ (.slice none 0 0)).setCell ⟨gb112, 5, none⟩ (.slice none 0 0)).heap[gb112]? = some (.cells #[.int .i64 (wrap64 (rd l0 x5_1)), .int .i64 0, .int .i64 0, .int .i64 0, .slice none 0 0, .slice none 0 0] 33 (0, 0))) := ⟨by (with_reducible repeat (first | refine blk_drewN ?_ _ | refine blk_drew ?_ | refine blk_alloc ?_ _)); refine blk_put (cs := #[.int .i64 (wrap64 (rd l0 x5_1)), .int .i64 0, .int .i64 0, .int .i64 0, .slice none 0 0, .slice none 0 0]) ?_ 5 _ rfl; (with_reducible repeat (first | refine blk_drewN ?_ _ | refine blk_drew ?_ | refine blk_alloc ?_ _)); refine blk_put (cs := #[.int .i64 (wrap64 (rd l0 x5_1)), .int .i64 0, .int .i64 0, .int .i64 0, .slice none 0 0, .slice none 0 0]) ?_ 4 _ rfl; (with_reducible repeat (first | refine blk_drewN ?_ _ | refine blk_drew ?_ | refine blk_alloc ?_ _)); refine blk_put (cs := #[.int .i64 (wrap64 (rd l0 x5_1)), .int .i64 0, .int .i64 0, .int .i64 0, .slice none 0 0, .slice none 0 0]) ?_ 3 _ rfl; (with_reducible repeat (first | refine blk_drewN ?_ _ | refine blk_drew ?_ | refine blk_alloc ?_ _)); refine blk_put (cs := #[.int .i64 (wrap64 (rd l0 x5_1)), .int .i64 0, .int .i64 0, .int .i64 0, .slice none 0 0, .slice none 0 0]) ?_ 2 _ rfl; (with_reducible repeat (first | refine blk_drewN ?_ _ | refine blk_drew ?_ | refine blk_alloc ?_ _)); refine blk_put (cs := #[.int .i64 (wrap64 (rd l0 x5_1)), .int .i64 0, .int .i64 0, .int .i64 0, .slice none 0 0, .slice none 0 0]) ?_ 1 _ rfl; (with_reducible repeat (first | refine blk_drewN ?_ _ | refine blk_drew ?_ | refine blk_alloc ?_ _)); refine blk_put (cs := #[.int .i64 0, .int .i64 0, .int .i64 0, .int .i64 0, .slice none 0 0, .slice none 0 0]) ?_ 0 _ rfl; (with_reducible repeat (first | refine blk_drewN ?_ _ | refine blk_drew ?_ | refine blk_alloc ?_ _)); exact BK112.out⟩
                                        have n2_ : Aside0 (Below w.heap.size w ((((((w47.setCell ⟨gb112, 0, none⟩ (.int .i64 (wrap64 (rd l0 x5_1)))).setCell ⟨gb112, 1, none⟩ (.int .i64 0)).setCell ⟨gb112, 2, none⟩ (.int .i64 0)).setCell ⟨gb112, 3, none⟩ (.int .i64 0)).setCell ⟨gb112, 4, none⟩ (.slice none 0 0)).setCell ⟨gb112, 5, none⟩ (.slice none 0 0))) := ⟨by repeat (first | (with_reducible first | exact HB.out | apply below_alloc | apply pw_below_drewN | apply below_drew1 | refine below_set ?_ GE112.out) | exact HB.out)⟩
                                        (try clear HO_4)
                                        (try clear BK112)
                                        (try clear HB)
                                        generalize ((((((w47.setCell ⟨gb112, 0, none⟩ (.int .i64 (wrap64 (rd l0 x5_1)))).setCell ⟨gb112, 1, none⟩ (.int .i64 0)).setCell ⟨gb112, 2, none⟩ (.int .i64 0)).setCell ⟨gb112, 3, none⟩ (.int .i64 0)).setCell ⟨gb112, 4, none⟩ (.slice none 0 0)).setCell ⟨gb112, 5, none⟩ (.slice none 0 0)) = w49 at n0_ n1_ n2_ ⊢
                                        have HO_4 := n0_
                                        have BK112 := n1_
                                        have HB := n2_
                                        clear n0_ n1_ n2_
                                        have n0_ := Aside0.mk (Kd.S_drew HO_4.out)
                                        have n1_ := Aside0.mk (blk_drew BK112.out)
                                        have n2_ := Aside0.mk (below_drew1 HB.out)
                                        clear HO_4
                                        clear BK112
                                        clear HB
                                        have HO_4 := n0_
                                        have BK112 := n1_
                                        have HB := n2_
                                        clear n0_ n1_ n2_
                                        have p118 : 0 ≤ ((ji27) : Int) := of_decide_eq_true (by first | (with_reducible assumption) | assumption)
                                        have q118 : (ji27) < (l0.length : Int) := of_decide_eq_true (by first | (with_reducible assumption) | assumption)
                                        obtain ⟨ad118, e118, hx118_0⟩ := Kd.at_int HR0.out (ji27) p118 q118
                                        have hw118_0 := hx118_0
                                        obtain rfl : ad111 = ad118 := (by injection e118)
                                        replace hx118_0 := (HB.out.cell (World.block_lt_of_cell? w _ hx118_0)).trans hx118_0
                                        replace p118 := eq_true p118
                                        replace q118 := eq_true q118
                                        have p119 : 0 ≤ ((ji30) : Int) := of_decide_eq_true (by first | (with_reducible assumption) | assumption)
                                        have q119 : (ji30) < (l0.length : Int) := of_decide_eq_true (by first | (with_reducible assumption) | assumption)
                                        obtain ⟨ad119, e119, hx119_0⟩ := Kd.at_int HR0.out (ji30) p119 q119
                                        have hw119_0 := hx119_0
                                        obtain rfl : ad111 = ad119 := (by injection e119)
                                        replace hx119_0 := (HB.out.cell (World.block_lt_of_cell? w _ hx119_0)).trans hx119_0
                                        replace p119 := eq_true p119
                                        replace q119 := eq_true q119
                                        refine start_ (n := 14) (S := fun w' => w'.cell? (ad111.add ((ji27)).toNat) = some (.int .u8 (rd l0 (ji27))) ∧ w'.cell? (ad111.add ((ji30)).toNat) = some (.int .u8 (rd l0 (ji30)))) (ds := []) #[false, false, false, false, false, false, false, false, false, false, false, false, false, false] (by kernel_rfl) rfl rfl ⟨((HB.out.cell (World.block_lt_of_cell? w _ hw118_0)).trans hw118_0), ((HB.out.cell (World.block_lt_of_cell? w _ hw119_0)).trans hw119_0)⟩ (fun hHeld => ?_); refine with_tabW haymowref18_Read.tab17 haymowref18_Read.bits17 (fun HT_ HW_ => ?_)
                                        generalize w49.drew = w50 at HO_4 BK112 HB hx118_0 hx119_0 hHeld ⊢
                                        refine pure_ (i := 0) (N := some 54) (v := ?_) (a' := ?_) #[true, false, false, false, false, false, false, false, false, false, false, false, false, false] rfl rfl (any_of HT_.out (by kernel_rfl)) (fun _ _ _ h => h) (Or.inl ⟨by rfl, ?_⟩) ?_ ?_
                                        rotate_left
                                        · intro w'
                                          go_simp
                                          with_reducible rfl
                                        rotate_left
                                        · simp only [Act.put, List.setIfInBounds_toArray, List.set_cons_zero, List.set_cons_succ, i64_w, i32_w]
                                          rfl
                                        refine pure_ (i := 1) (N := some 55) (v := ?_) (a' := ?_) #[true, true, false, false, false, false, false, false, false, false, false, false, false, false] rfl rfl (any_of HT_.out (by kernel_rfl)) (fun _ _ _ h => h) (Or.inl ⟨by rfl, ?_⟩) ?_ ?_
                                        rotate_left
                                        · intro w'
                                          go_simp
                                          with_reducible rfl
                                        rotate_left
                                        · simp only [Act.put, List.setIfInBounds_toArray, List.set_cons_zero, List.set_cons_succ, i64_w, i32_w]
                                          rfl
                                        refine pure_ (i := 2) (N := some 56) (v := ?_) (a' := ?_) #[true, true, true, false, false, false, false, false, false, false, false, false, false, false] rfl rfl (any_of HT_.out (by kernel_rfl)) (fun _ _ _ h => h) (Or.inl ⟨by rfl, ?_⟩) ?_ ?_
                                        rotate_left
                                        · intro w'
                                          go_simp
                                          with_reducible rfl
                                        rotate_left
                                        · simp only [Act.put, List.setIfInBounds_toArray, List.set_cons_zero, List.set_cons_succ, i64_w, i32_w]
                                          rfl
                                        refine pure_ (i := 5) (N := some 59) (v := ?_) (a' := ?_) #[true, true, true, false, false, true, false, false, false, false, false, false, false, false] rfl rfl (any_of HT_.out (by kernel_rfl)) (fun _ _ _ h => h) (Or.inl ⟨by rfl, ?_⟩) ?_ ?_
                                        rotate_left
                                        · intro w'
                                          go_simp
                                          with_reducible rfl
                                        rotate_left
                                        · simp only [Act.put, List.setIfInBounds_toArray, List.set_cons_zero, List.set_cons_succ, i64_w, i32_w]
                                          rfl
                                        refine pure_ (i := 6) (N := some 60) (v := ?_) (a' := ?_) #[true, true, true, false, false, true, true, false, false, false, false, false, false, false] rfl rfl (any_of HT_.out (by kernel_rfl)) (fun _ _ _ h => h) (Or.inl ⟨by rfl, ?_⟩) ?_ ?_
                                        rotate_left
                                        · intro w'
                                          go_simp
                                          with_reducible rfl
                                        rotate_left
                                        · simp only [Act.put, List.setIfInBounds_toArray, List.set_cons_zero, List.set_cons_succ, i64_w, i32_w]
                                          rfl
                                        refine pure_ (i := 7) (N := some 61) (v := ?_) (a' := ?_) #[true, true, true, false, false, true, true, true, false, false, false, false, false, false] rfl rfl (any_of HT_.out (by kernel_rfl)) (fun _ _ _ h => h) (Or.inl ⟨by rfl, ?_⟩) ?_ ?_
                                        rotate_left
                                        · intro w'
                                          go_simp
                                          with_reducible rfl
                                        rotate_left
                                        · simp only [Act.put, List.setIfInBounds_toArray, List.set_cons_zero, List.set_cons_succ, i64_w, i32_w]
                                          rfl
                                        refine pure_ (i := 8) (N := some 62) (v := ?_) (a' := ?_) #[true, true, true, false, false, true, true, true, true, false, false, false, false, false] rfl rfl (any_of HT_.out (by kernel_rfl)) (fun _ _ _ h => h) (Or.inl ⟨by rfl, ?_⟩) ?_ ?_
                                        rotate_left
                                        · intro w'
                                          go_simp
                                          with_reducible rfl
                                        rotate_left
                                        · simp only [Act.put, List.setIfInBounds_toArray, List.set_cons_zero, List.set_cons_succ, i64_w, i32_w]
                                          rfl
                                        refine take_ (i := 3) (N := some 57) (v := ?_) (a' := ?_) #[true, true, true, true, false, true, true, true, true, false, false, false, false, false] rfl rfl (take_ofW HT_.out HW_.out (by kernel_rfl)) (fun _ _ _ h => h) (Or.inl ⟨by rfl, ?_⟩) hHeld ?_ ?_
                                        rotate_left
                                        · rintro w' ⟨s0, s1⟩
                                          go_simp
                                          with_reducible rfl
                                        rotate_left
                                        · simp only [Act.put, List.setIfInBounds_toArray, List.set_cons_zero, List.set_cons_succ, i64_w, i32_w]
                                          rfl
                                        refine pure_ (i := 4) (N := some 58) (v := ?_) (a' := ?_) #[true, true, true, true, true, true, true, true, true, false, false, false, false, false] rfl rfl (any_of HT_.out (by kernel_rfl)) (fun _ _ _ h => h) (Or.inl ⟨by rfl, ?_⟩) ?_ ?_
                                        rotate_left
                                        · intro w'
                                          go_simp
                                          with_reducible rfl
                                        rotate_left
                                        · simp only [Act.put, List.setIfInBounds_toArray, List.set_cons_zero, List.set_cons_succ, i64_w, i32_w]
                                          rfl
                                        refine take_ (i := 9) (N := some 63) (v := ?_) (a' := ?_) #[true, true, true, true, true, true, true, true, true, true, false, false, false, false] rfl rfl (take_ofW HT_.out HW_.out (by kernel_rfl)) (fun _ _ _ h => h) (Or.inl ⟨by rfl, ?_⟩) hHeld ?_ ?_
                                        rotate_left
                                        · rintro w' ⟨s0, s1⟩
                                          go_simp
                                          with_reducible rfl
                                        rotate_left
                                        · simp only [Act.put, List.setIfInBounds_toArray, List.set_cons_zero, List.set_cons_succ, i64_w, i32_w]
                                          rfl
                                        refine pure_ (i := 10) (N := some 64) (v := ?_) (a' := ?_) #[true, true, true, true, true, true, true, true, true, true, true, false, false, false] rfl rfl (any_of HT_.out (by kernel_rfl)) (fun _ _ _ h => h) (Or.inl ⟨by rfl, ?_⟩) ?_ ?_
                                        rotate_left
                                        · intro w'
                                          go_simp
                                          with_reducible rfl
                                        rotate_left
                                        · simp only [Act.put, List.setIfInBounds_toArray, List.set_cons_zero, List.set_cons_succ, i64_w, i32_w]
                                          rfl
                                        refine pure_ (i := 11) (N := some 65) (v := ?_) (a' := ?_) #[true, true, true, true, true, true, true, true, true, true, true, true, false, false] rfl rfl (any_of HT_.out (by kernel_rfl)) (fun _ _ _ h => h) (Or.inl ⟨by rfl, ?_⟩) ?_ ?_
                                        rotate_left
                                        · intro w'
                                          go_simp
                                          with_reducible rfl
                                        rotate_left
                                        · simp only [Act.put, List.setIfInBounds_toArray, List.set_cons_zero, List.set_cons_succ, i64_w, i32_w]
                                          rfl
                                        refine pure_ (i := 12) (N := some 66) (v := ?_) (a' := ?_) #[true, true, true, true, true, true, true, true, true, true, true, true, true, false] rfl rfl (any_of HT_.out (by kernel_rfl)) (fun _ _ _ h => h) (Or.inl ⟨by rfl, ?_⟩) ?_ ?_
                                        rotate_left
                                        · intro w'
                                          go_simp
                                          with_reducible rfl
                                        rotate_left
                                        · simp only [Act.put, List.setIfInBounds_toArray, List.set_cons_zero, List.set_cons_succ, i64_w, i32_w]
                                          rfl
                                        refine pure_ (i := 13) (N := some 8) (v := ?_) (a' := ?_) #[true, true, true, true, true, true, true, true, true, true, true, true, true, true] rfl rfl (any_of HT_.out (by kernel_rfl)) (fun _ _ _ h => h) (Or.inl ⟨by rfl, ?_⟩) ?_ ?_
                                        rotate_left
                                        · intro w'
                                          go_simp
                                          with_reducible rfl
                                        rotate_left
                                        · simp only [Act.put, List.setIfInBounds_toArray, List.set_cons_zero, List.set_cons_succ, i64_w, i32_w]
                                          rfl
                                        refine done_ (done_of HT_.out (by kernel_rfl)) ?_
                                        try go_wp2
                                        have n0_ := Aside0.mk (Kd.S_drew HO_4.out)
                                        have n1_ := Aside0.mk (blk_drew BK112.out)
                                        have n2_ := Aside0.mk (below_drew1 HB.out)
                                        clear HO_4
                                        clear BK112
                                        clear HB
                                        have HO_4 := n0_
                                        have BK112 := n1_
                                        have HB := n2_
                                        clear n0_ n1_ n2_
                                        obtain ⟨i052, hi052, _, hsz52, _⟩ := info_parts info5
                                        obtain ⟨A52, hcut52, hA52, hC52⟩ := print_mid_of (P := Try.prog) (Value.int .u8) 0 24 5 .i64 .i64 Try.underlying24 hi052 hsz52 (some ad111) c0 l0 (ji38) (wrap64 ((ji38) + (wrap64 ((wrap64 (rd l0 (ji27))) + (wrap64 (256 * (wrap64 (rd l0 (ji30))))))))) (of_decide_eq_true (by first | (with_reducible assumption) | assumption)) (by first | omega | exact of_decide_eq_true (by first | (with_reducible assumption) | assumption)) (of_decide_eq_true (by first | (with_reducible assumption) | assumption)) HC0.out
                                        have HR120 := Aside0.mk (Kd.C_of_reads (h1 := fun _ => rfl) (hA52 _ (Kd.reads_of_C HR0.out)))
                                        have HC120 := Aside0.mk hC52
                                        clear hA52 hC52 hi052 hsz52
                                        refine start_ (n := 13) (S := fun w' => w'.cell? ⟨gb112, 0, none⟩ = some (.int .i64 (wrap64 (rd l0 x5_1))) ∧ w'.cell? ⟨gb112, 1, none⟩ = some (.int .i64 0) ∧ w'.cell? ⟨gb112, 2, none⟩ = some (.int .i64 0) ∧ w'.cell? ⟨gb112, 3, none⟩ = some (.int .i64 0) ∧ w'.cell? ⟨gb112, 4, none⟩ = some (.slice none 0 0) ∧ w'.cell? ⟨gb112, 5, none⟩ = some (.slice none 0 0)) (ds := [12]) #[false, false, false, false, false, false, false, false, false, false, false, false, false] (by kernel_rfl) rfl rfl ⟨(blk_cell BK112.out 0).trans rfl, (blk_cell BK112.out 1).trans rfl, (blk_cell BK112.out 2).trans rfl, (blk_cell BK112.out 3).trans rfl, (blk_cell BK112.out 4).trans rfl, (blk_cell BK112.out 5).trans rfl⟩ (fun hHeld => ?_); refine with_tabW haymowref18_Read.tab20 haymowref18_Read.bits20 (fun HT_ HW_ => ?_)
                                        generalize w50.drew = w51 at HO_4 BK112 HB HR120 hHeld ⊢
                                        refine pure_ (i := 0) (N := some 71) (v := ?_) (a' := ?_) #[true, false, false, false, false, false, false, false, false, false, false, false, false] rfl rfl (any_of HT_.out (by kernel_rfl)) (fun _ _ _ h => h) (Or.inl ⟨by rfl, ?_⟩) ?_ ?_
                                        rotate_left
                                        · intro w'
                                          go_simp
                                          with_reducible rfl
                                        rotate_left
                                        · simp only [Act.put, List.setIfInBounds_toArray, List.set_cons_zero, List.set_cons_succ, i64_w, i32_w]
                                          rfl
                                        refine pure_ (i := 2) (N := some 73) (v := ?_) (a' := ?_) #[true, false, true, false, false, false, false, false, false, false, false, false, false] rfl rfl (any_of HT_.out (by kernel_rfl)) (fun _ _ _ h => h) (Or.inl ⟨by rfl, ?_⟩) ?_ ?_
                                        rotate_left
                                        · intro w'
                                          go_simp
                                          with_reducible rfl
                                        rotate_left
                                        · simp only [Act.put, List.setIfInBounds_toArray, List.set_cons_zero, List.set_cons_succ, i64_w, i32_w]
                                          rfl
                                        refine pure_ (i := 3) (N := some 74) (v := ?_) (a' := ?_) #[true, false, true, true, false, false, false, false, false, false, false, false, false] rfl rfl (any_of HT_.out (by kernel_rfl)) (fun _ _ _ h => h) (Or.inl ⟨by rfl, ?_⟩) ?_ ?_
                                        rotate_left
                                        · intro w'
                                          go_simp
                                          with_reducible rfl
                                        rotate_left
                                        · simp only [Act.put, List.setIfInBounds_toArray, List.set_cons_zero, List.set_cons_succ, i64_w, i32_w]
                                          rfl
                                        refine pure_ (i := 4) (N := some 75) (v := ?_) (a' := ?_) #[true, false, true, true, true, false, false, false, false, false, false, false, false] rfl rfl (any_of HT_.out (by kernel_rfl)) (fun _ _ _ h => h) (Or.inl ⟨by rfl, ?_⟩) ?_ ?_
                                        rotate_left
                                        · intro w'
                                          go_simp
                                          with_reducible rfl
                                        rotate_left
                                        · simp only [Act.put, List.setIfInBounds_toArray, List.set_cons_zero, List.set_cons_succ, i64_w, i32_w]
                                          rfl
                                        refine pure_ (i := 5) (N := some 76) (v := ?_) (a' := ?_) #[true, false, true, true, true, true, false, false, false, false, false, false, false] rfl rfl (any_of HT_.out (by kernel_rfl)) (fun _ _ _ h => h) (Or.inl ⟨by rfl, ?_⟩) ?_ ?_
                                        rotate_left
                                        · intro w'
                                          go_simp
                                          with_reducible rfl
                                        rotate_left
                                        · simp only [Act.put, List.setIfInBounds_toArray, List.set_cons_zero, List.set_cons_succ, i64_w, i32_w]
                                          rfl
                                        refine pure_ (i := 6) (N := some 77) (v := ?_) (a' := ?_) #[true, false, true, true, true, true, true, false, false, false, false, false, false] rfl rfl (any_of HT_.out (by kernel_rfl)) (fun _ _ _ h => h) (Or.inl ⟨by rfl, ?_⟩) ?_ ?_
                                        rotate_left
                                        · intro w'
                                          go_simp
                                          with_reducible rfl
                                        rotate_left
                                        · simp only [Act.put, List.setIfInBounds_toArray, List.set_cons_zero, List.set_cons_succ, i64_w, i32_w]
                                          rfl
                                        refine pure_ (i := 7) (N := some 78) (v := ?_) (a' := ?_) #[true, false, true, true, true, true, true, true, false, false, false, false, false] rfl rfl (any_of HT_.out (by kernel_rfl)) (fun _ _ _ h => h) (Or.inl ⟨by rfl, ?_⟩) ?_ ?_
                                        rotate_left
                                        · intro w'
                                          go_simp
                                          with_reducible rfl
                                        rotate_left
                                        · simp only [Act.put, List.setIfInBounds_toArray, List.set_cons_zero, List.set_cons_succ, i64_w, i32_w]
                                          rfl
                                        refine pure_ (i := 8) (N := some 79) (v := ?_) (a' := ?_) #[true, false, true, true, true, true, true, true, true, false, false, false, false] rfl rfl (any_of HT_.out (by kernel_rfl)) (fun _ _ _ h => h) (Or.inl ⟨by rfl, ?_⟩) ?_ ?_
                                        rotate_left
                                        · intro w'
                                          go_simp
                                          with_reducible rfl
                                        rotate_left
                                        · simp only [Act.put, List.setIfInBounds_toArray, List.set_cons_zero, List.set_cons_succ, i64_w, i32_w]
                                          rfl
                                        refine pure_ (i := 9) (N := some 80) (v := ?_) (a' := ?_) #[true, false, true, true, true, true, true, true, true, true, false, false, false] rfl rfl (any_of HT_.out (by kernel_rfl)) (fun _ _ _ h => h) (Or.inl ⟨by rfl, ?_⟩) ?_ ?_
                                        rotate_left
                                        · intro w'
                                          go_simp
                                          with_reducible rfl
                                        rotate_left
                                        · simp only [Act.put, List.setIfInBounds_toArray, List.set_cons_zero, List.set_cons_succ, i64_w, i32_w]
                                          rfl
                                        refine take_ (i := 1) (N := some 72) (v := ?_) (a' := ?_) #[true, true, true, true, true, true, true, true, true, true, false, false, false] rfl rfl (take_ofW HT_.out HW_.out (by kernel_rfl)) (fun _ _ _ h => h) (Or.inl ⟨by rfl, ?_⟩) hHeld ?_ ?_
                                        rotate_left
                                        · rintro w' ⟨s0, s1, s2, s3, s4, s5⟩
                                          go_simp
                                          with_reducible rfl
                                        rotate_left
                                        · simp only [Act.put, List.setIfInBounds_toArray, List.set_cons_zero, List.set_cons_succ, i64_w, i32_w]
                                          rfl
                                        refine one_ (i := 10) (N := some 81) #[true, true, true, true, true, true, true, true, true, true, true, false, false] rfl rfl (one_of HT_.out (by kernel_rfl)) (by decide) (fun K hK => ?_)
                                        refine Kd.R_append_rows_step (Kd.int .u8) (w0 := w) w.heap.size (by rfl) (.tmp 72) (.tmp 80) 24 5 (.int .u8 0) 1 rfl Try.underlying24 info5 rfl (by decide) (by omega) (.slice none 0 0) ([] : List Int) ((l0.take ((wrap64 ((ji38) + (wrap64 ((wrap64 (rd l0 (ji27))) + (wrap64 (256 * (wrap64 (rd l0 (ji30))))))))) : Int).toNat).drop ((ji38) : Int).toNat) _ _ _ (fun _ => True) (fun _ => False) rfl rfl ?aO ?aR (fun _ _ h => h) (fun _ h => h.elim) ?aF ?aB ?aS ?aL ?_
                                        (case aR => first | (rw [← show ((l0.take ((wrap64 ((ji38) + (wrap64 ((wrap64 (rd l0 (ji27))) + (wrap64 (256 * (wrap64 (rd l0 (ji30))))))))) : Int).toNat).drop ((ji38) : Int).toNat).length = ((wrap64 ((ji38) + (wrap64 ((wrap64 (rd l0 (ji27))) + (wrap64 (256 * (wrap64 (rd l0 (ji30))))))))).toNat - (ji38).toNat) from (by rw [List.length_drop, List.length_take]; have h_ : ((wrap64 ((ji38) + (wrap64 ((wrap64 (rd l0 (ji27))) + (wrap64 (256 * (wrap64 (rd l0 (ji30))))))))) : Int) ≤ (l0.length : Int) := of_decide_eq_true (by first | (with_reducible assumption) | assumption); omega)]; repeat (first | exact (Kd.C_below HR120.out HB.out) | (with_reducible refine Kd.C_alloc ?_ _) | (with_reducible refine Kd.C_drewN ?_ _) | (with_reducible refine Kd.C_drew ?_))) | (repeat (first | exact (Kd.C_below HR120.out HB.out) | (with_reducible refine Kd.C_alloc ?_ _) | (with_reducible refine Kd.C_drewN ?_ _) | (with_reducible refine Kd.C_drew ?_))))
                                        (case aB => exact (by repeat (first | (with_reducible first | exact HB.out | apply below_alloc | apply pw_below_drewN | apply below_drew1 | refine below_set ?_ GE112.out) | exact HB.out)))
                                        (case aF => exact (fun _ _ => trivial))
                                        (case aO => exact ((Kd.R_nil _ _ _ _ (fun _ => True))))
                                        (case aS => exact (below_size (by repeat (first | (with_reducible first | exact HB.out | apply below_alloc | apply pw_below_drewN | apply below_drew1 | refine below_set ?_ GE112.out) | exact HB.out))))
                                        (case aL => have := LMc42.out; have hlx_ := (show ((l0.take ((wrap64 ((ji38) + (wrap64 ((wrap64 (rd l0 (ji27))) + (wrap64 (256 * (wrap64 (rd l0 (ji30))))))))) : Int).toNat).drop ((ji38) : Int).toNat).length = ((wrap64 ((ji38) + (wrap64 ((wrap64 (rd l0 (ji27))) + (wrap64 (256 * (wrap64 (rd l0 (ji30))))))))).toNat - (ji38).toNat) from (by rw [List.length_drop, List.length_take]; have h_ : ((wrap64 ((ji38) + (wrap64 ((wrap64 (rd l0 (ji27))) + (wrap64 (256 * (wrap64 (rd l0 (ji30))))))))) : Int) ≤ (l0.length : Int) := of_decide_eq_true (by first | (with_reducible assumption) | assumption); omega)); omega)
                                        intro v122 w53 ho hb hg hat
                                        rw [← Ny121.out] at ho
                                        have n0_ := Aside0.mk (Kd.S_after (Kd.S_apart_nil (by (with_reducible repeat (first | apply Kd.S_alloc | apply Kd.S_drewN | apply Kd.S_drew)); exact HO_4.out)) hg hat)
                                        have n1_ := Aside0.mk (blk_grown (g := gb112) (o := .cells #[.int .i64 (wrap64 (rd l0 x5_1)), .int .i64 0, .int .i64 0, .int .i64 0, .slice none 0 0, .slice none 0 0] 33 (0, 0)) (by (with_reducible repeat (first | refine blk_drewN ?_ _ | refine blk_drew ?_ | refine blk_alloc ?_ _)); exact BK112.out) hg (by simp [Value.ownBlock]))
                                        have n2_ := Aside0.mk (hb)
                                        have n3_ := Aside0.mk (ho)
                                        clear HO_4
                                        clear BK112
                                        clear HB
                                        have HO_4 := n0_
                                        have BK112 := n1_
                                        have HB := n2_
                                        have HO123 := n3_
                                        clear n0_ n1_ n2_ n3_
                                        clear ho hb hg hat
                                        obtain ⟨Ao54, co54, eo54⟩ := Kd.R_slice HO123.out
                                        (first | subst eo54 | (injection eo54 with f1_ f2_ f3_; have f4_ := f1_.symm; have f5_ := f3_.symm; clear f1_ f2_ f3_; subst f4_; subst f5_))
                                        refine hK.out _ _ ⟨(blk_cell BK112.out 0).trans rfl, (blk_cell BK112.out 1).trans rfl, (blk_cell BK112.out 2).trans rfl, (blk_cell BK112.out 3).trans rfl, (blk_cell BK112.out 4).trans rfl, (blk_cell BK112.out 5).trans rfl⟩ (fun hHeld => ?_)
                                        clear hK K
                                        refine norm_ (a' := ?_) ?_ ?_
                                        rotate_left
                                        · show Act.put _ (some 81) _ = _
                                          simp only [Act.put, List.setIfInBounds_toArray, List.set_cons_zero, List.set_cons_succ, i64_w, i32_w]
                                          rfl
                                        refine pure_ (i := 11) (N := some 82) (v := ?_) (a' := ?_) #[true, true, true, true, true, true, true, true, true, true, true, true, false] rfl rfl (any_of HT_.out (by kernel_rfl)) (fun _ _ _ h => h) (Or.inl ⟨by rfl, ?_⟩) ?_ ?_
                                        rotate_left
                                        · intro w'
                                          go_simp
                                          with_reducible rfl
                                        rotate_left
                                        · simp only [Act.put, List.setIfInBounds_toArray, List.set_cons_zero, List.set_cons_succ, i64_w, i32_w]
                                          rfl
                                        refine last_ (i := 12) (N := none) #[true, true, true, true, true, true, true, true, true, true, true, true, true] rfl rfl (one_of HT_.out (by kernel_rfl)) (by decide) (fun K hK => ?_)
                                        have hs55 : w53.cell? ⟨gb112, 4, none⟩ = some (.slice none 0 0) := (blk_cell BK112.out 4).trans rfl
                                        have hfs55 := blk_frozen BK112.out 4
                                        refine skip_ (w1 := ?_) (by rfl) rfl ?_ ?_
                                        rotate_left
                                        · go_simp
                                          rfl
                                        refine hK.out _ _ ?_
                                        clear hK K
                                        refine done_ (done_of HT_.out (by kernel_rfl)) ?_
                                        have p124 : 0 ≤ ((ji43) : Int) := of_decide_eq_true (by first | (with_reducible assumption) | assumption)
                                        have q124 : (ji43) < (l0.length : Int) := of_decide_eq_true (by first | (with_reducible assumption) | assumption)
                                        obtain ⟨ad124, e124, hx124_0⟩ := Kd.at_int HR0.out (ji43) p124 q124
                                        obtain rfl : ad111 = ad124 := (by injection e124)
                                        have hn124_0 : ad111.block ≠ gb112 := Nat.ne_of_lt (Nat.lt_of_lt_of_le (by have := World.block_lt_of_cell? _ _ hx124_0; first | rwa [add_block] at this | exact this) GW112.out)
                                        replace hx124_0 := (HB.out.cell (World.block_lt_of_cell? w _ hx124_0)).trans hx124_0
                                        replace hx124_0 := (cell_far (p := ⟨gb112, 4, none⟩) (by first | (rw [add_block]; exact hn124_0) | (show (Addr.add _ _).block ≠ _; rw [add_block]; exact hn124_0) | exact hn124_0) (.slice Ao54 y121.length co54)).trans hx124_0
                                        clear hn124_0
                                        replace p124 := eq_true p124
                                        replace q124 := eq_true q124
                                        try go_wp2
                                        go_ret2
                                        exact ⟨_, by first | rfl | (simp [errW_none, errW_some] <;> rfl) | (simp only [← hji27, ← hji30, ← hji38, ← hji43]; first | rfl | (simp [errW_none, errW_some] <;> rfl)) | (simp [*, errW_none, errW_some] <;> rfl), by first | exact Kd.S_nil _ _ _ _ _ | exact Kd.N_nil _ _ _ _ _ | exact Kd.V_nil _ _ _ _ _ | exact Kd.Q_nil _ _ _ _ _ | exact Kd.R_nil _ _ _ _ _, by repeat (first | (with_reducible first | exact HB.out | apply below_alloc | apply pw_below_drewN | apply below_drew1 | refine below_set ?_ GE112.out) | exact HB.out)⟩
                                      · rw [if_neg c46] at H
                                        have c46b0 : decide ((wrap64 ((l0.length : Int) - (wrap64 ((ji43) + 1)))) < (wrap64 (8 * (wrap64 (rd l0 (ji43)))))) = false := decide_eq_false c46
                                        clear c46
                                        have H' := Aside0.mk H
                                        clear H
                                        have p111 : 0 ≤ (x5_1 : Int) := of_decide_eq_true (by first | (with_reducible assumption) | assumption)
                                        have q111 : x5_1 < (l0.length : Int) := of_decide_eq_true (by first | (with_reducible assumption) | assumption)
                                        obtain ⟨ad111, e111, hx111_0⟩ := Kd.at_int HR0.out x5_1 p111 q111
                                        cases e111
                                        replace hx111_0 := (HB.out.cell (World.block_lt_of_cell? w _ hx111_0)).trans hx111_0
                                        replace p111 := eq_true p111
                                        replace q111 := eq_true q111
                                        try go_wp2_with (first | ((with_reducible refine gate_dst (N := 6) rfl ?_); refine box_event ?hg (N := 6) ?hd (cs := #[.int .i64 0, .int .i64 0, .int .i64 0, .int .i64 0, .slice none 0 0, .slice none 0 0]) (t := 33) ?hr ?_; (case hd => rfl); (case hg => rfl); (case hr => first | (go_simp; done) | (go_simp; rfl)); intro gb112 hg w56 hbox hb; have n0_ := Aside0.mk (Kd.S_below (Kd.S_elderB (by (with_reducible repeat (first | apply Kd.S_alloc | apply Kd.S_drewN | apply Kd.S_drew)); exact HO_4.out) gb112 (Nat.le_of_eq hg.symm)) hb); have n1_ := Aside0.mk (below_step (by repeat (first | (with_reducible first | exact HB.out | apply below_alloc | apply pw_below_drewN | apply below_drew1) | exact HB.out)) hb); have n2_ := Aside0.mk (hbox); have n3_ := Aside0.mk ((by rw [hg]; exact (below_size (by repeat (first | (with_reducible first | exact HB.out | apply below_alloc | apply pw_below_drewN | apply below_drew1) | exact HB.out))) : w.heap.size ≤ gb112)); have n4_ := Aside0.mk ((by rw [hg]; exact (below_size (by repeat (first | (with_reducible first | exact HB.out | apply below_alloc | apply pw_below_drewN | apply below_drew1) | exact HB.out))) : w.heap.size ≤ gb112)); clear HO_4; clear HB; have HO_4 := n0_; have HB := n1_; have BK112 := n2_; have GW112 := n3_; have GE112 := n4_; clear n0_ n1_ n2_ n3_ n4_; clear hb hbox hg; have hcz57_0 : w56.cell? ⟨gb112, 0, none⟩ = some (.int .i64 0) := (blk_cell BK112.out 0).trans rfl; have hcz57_1 : w56.cell? ⟨gb112, 1, none⟩ = some (.int .i64 0) := (blk_cell BK112.out 1).trans rfl; have hcz57_2 : w56.cell? ⟨gb112, 2, none⟩ = some (.int .i64 0) := (blk_cell BK112.out 2).trans rfl; have hcz57_3 : w56.cell? ⟨gb112, 3, none⟩ = some (.int .i64 0) := (blk_cell BK112.out 3).trans rfl; have hcz57_4 : w56.cell? ⟨gb112, 4, none⟩ = some (.slice none 0 0) := (blk_cell BK112.out 4).trans rfl; have hcz57_5 : w56.cell? ⟨gb112, 5, none⟩ = some (.slice none 0 0) := (blk_cell BK112.out 5).trans rfl; have hfz57_0 := blk_frozen BK112.out 0; have hfz57_1 := blk_frozen BK112.out 1; have hfz57_2 := blk_frozen BK112.out 2; have hfz57_3 := blk_frozen BK112.out 3; have hfz57_4 := blk_frozen BK112.out 4; have hfz57_5 := blk_frozen BK112.out 5))
                                        have n0_ : Aside0 (Kd.S k33 33 ((((((w56.setCell ⟨gb112, 0, none⟩ (.int .i64 (wrap64 (rd l0 x5_1)))).setCell ⟨gb112, 1, none⟩ (.int .i64 0)).setCell ⟨gb112, 2, none⟩ (.int .i64 0)).setCell ⟨gb112, 3, none⟩ (.int .i64 0)).setCell ⟨gb112, 4, none⟩ (.slice none 0 0)).setCell ⟨gb112, 5, none⟩ (.slice none 0 0)) w.heap.size (fun k_ => k_ ≠ gb112) u4 x4_1) := ⟨by (with_reducible repeat (first | apply Kd.S_alloc | apply Kd.S_drewN | apply Kd.S_drew)); exact Kd.S_mono (Kd.S_far (p := ⟨gb112, 5, none⟩) (Kd.S_far (p := ⟨gb112, 4, none⟩) (Kd.S_far (p := ⟨gb112, 3, none⟩) (Kd.S_far (p := ⟨gb112, 2, none⟩) (Kd.S_far (p := ⟨gb112, 1, none⟩) (Kd.S_far (p := ⟨gb112, 0, none⟩) (Kd.S_mono HO_4.out (fun k_ hk => (⟨hk, hk.2⟩ : _ ∧ k_ ≠ gb112))) (fun _ hk => hk.2) (.int .i64 (wrap64 (rd l0 x5_1)))) (fun _ hk => hk.2) (.int .i64 0)) (fun _ hk => hk.2) (.int .i64 0)) (fun _ hk => hk.2) (.int .i64 0)) (fun _ hk => hk.2) (.slice none 0 0)) (fun _ hk => hk.2) (.slice none 0 0)) (fun _ hk => hk.1.2)⟩
                                        have n1_ : Aside0 (((((((w56.setCell ⟨gb112, 0, none⟩ (.int .i64 (wrap64 (rd l0 x5_1)))).setCell ⟨gb112, 1, none⟩ (.int .i64 0)).setCell ⟨gb112, 2, none⟩ (.int .i64 0)).setCell ⟨gb112, 3, none⟩ (.int .i64 0)).setCell ⟨gb112, 4, none⟩ (.slice none 0 0)).setCell ⟨gb112, 5, none⟩ (.slice none 0 0)).heap[gb112]? = some (.cells #[.int .i64 (wrap64 (rd l0 x5_1)), .int .i64 0, .int .i64 0, .int .i64 0, .slice none 0 0, .slice none 0 0] 33 (0, 0))) := ⟨by (with_reducible repeat (first | refine blk_drewN ?_ _ | refine blk_drew ?_ | refine blk_alloc ?_ _)); refine blk_put (cs := #[.int .i64 (wrap64 (rd l0 x5_1)), .int .i64 0, .int .i64 0, .int .i64 0, .slice none 0 0, .slice none 0 0]) ?_ 5 _ rfl; (with_reducible repeat (first | refine blk_drewN ?_ _ | refine blk_drew ?_ | refine blk_alloc ?_ _)); refine blk_put (cs := #[.int .i64 (wrap64 (rd l0 x5_1)), .int .i64 0, .int .i64 0, .int .i64 0, .slice none 0 0, .slice none 0 0]) ?_ 4 _ rfl; (with_reducible repeat (first | refine blk_drewN ?_ _ | refine blk_drew ?_ | refine blk_alloc ?_ _)); refine blk_put (cs := #[.int .i64 (wrap64 (rd l0 x5_1)), .int .i64 0, .int .i64 0, .int .i64 0, .slice none 0 0, .slice none 0 0]) ?_ 3 _ rfl; (with_reducible repeat (first | refine blk_drewN ?_ _ | refine blk_drew ?_ | refine blk_alloc ?_ _)); refine blk_put (cs := #[.int .i64 (wrap64 (rd l0 x5_1)), .int .i64 0, .int .i64 0, .int .i64 0, .slice none 0 0, .slice none 0 0]) ?_ 2 _ rfl; (with_reducible repeat (first | refine blk_drewN ?_ _ | refine blk_drew ?_ | refine blk_alloc ?_ _)); refine blk_put (cs := #[.int .i64 (wrap64 (rd l0 x5_1)), .int .i64 0, .int .i64 0, .int .i64 0, .slice none 0 0, .slice none 0 0]) ?_ 1 _ rfl; (with_reducible repeat (first | refine blk_drewN ?_ _ | refine blk_drew ?_ | refine blk_alloc ?_ _)); refine blk_put (cs := #[.int .i64 0, .int .i64 0, .int .i64 0, .int .i64 0, .slice none 0 0, .slice none 0 0]) ?_ 0 _ rfl; (with_reducible repeat (first | refine blk_drewN ?_ _ | refine blk_drew ?_ | refine blk_alloc ?_ _)); exact BK112.out⟩
                                        have n2_ : Aside0 (Below w.heap.size w ((((((w56.setCell ⟨gb112, 0, none⟩ (.int .i64 (wrap64 (rd l0 x5_1)))).setCell ⟨gb112, 1, none⟩ (.int .i64 0)).setCell ⟨gb112, 2, none⟩ (.int .i64 0)).setCell ⟨gb112, 3, none⟩ (.int .i64 0)).setCell ⟨gb112, 4, none⟩ (.slice none 0 0)).setCell ⟨gb112, 5, none⟩ (.slice none 0 0))) := ⟨by repeat (first | (with_reducible first | exact HB.out | apply below_alloc | apply pw_below_drewN | apply below_drew1 | refine below_set ?_ GE112.out) | exact HB.out)⟩
                                        (try clear HO_4)
                                        (try clear BK112)
                                        (try clear HB)
                                        generalize ((((((w56.setCell ⟨gb112, 0, none⟩ (.int .i64 (wrap64 (rd l0 x5_1)))).setCell ⟨gb112, 1, none⟩ (.int .i64 0)).setCell ⟨gb112, 2, none⟩ (.int .i64 0)).setCell ⟨gb112, 3, none⟩ (.int .i64 0)).setCell ⟨gb112, 4, none⟩ (.slice none 0 0)).setCell ⟨gb112, 5, none⟩ (.slice none 0 0)) = w58 at n0_ n1_ n2_ ⊢
                                        have HO_4 := n0_
                                        have BK112 := n1_
                                        have HB := n2_
                                        clear n0_ n1_ n2_
                                        have n0_ := Aside0.mk (Kd.S_drew HO_4.out)
                                        have n1_ := Aside0.mk (blk_drew BK112.out)
                                        have n2_ := Aside0.mk (below_drew1 HB.out)
                                        clear HO_4
                                        clear BK112
                                        clear HB
                                        have HO_4 := n0_
                                        have BK112 := n1_
                                        have HB := n2_
                                        clear n0_ n1_ n2_
                                        have p118 : 0 ≤ ((ji27) : Int) := of_decide_eq_true (by first | (with_reducible assumption) | assumption)
                                        have q118 : (ji27) < (l0.length : Int) := of_decide_eq_true (by first | (with_reducible assumption) | assumption)
                                        obtain ⟨ad118, e118, hx118_0⟩ := Kd.at_int HR0.out (ji27) p118 q118
                                        have hw118_0 := hx118_0
                                        obtain rfl : ad111 = ad118 := (by injection e118)
                                        replace hx118_0 := (HB.out.cell (World.block_lt_of_cell? w _ hx118_0)).trans hx118_0
                                        replace p118 := eq_true p118
                                        replace q118 := eq_true q118
                                        have p119 : 0 ≤ ((ji30) : Int) := of_decide_eq_true (by first | (with_reducible assumption) | assumption)
                                        have q119 : (ji30) < (l0.length : Int) := of_decide_eq_true (by first | (with_reducible assumption) | assumption)
                                        obtain ⟨ad119, e119, hx119_0⟩ := Kd.at_int HR0.out (ji30) p119 q119
                                        have hw119_0 := hx119_0
                                        obtain rfl : ad111 = ad119 := (by injection e119)
                                        replace hx119_0 := (HB.out.cell (World.block_lt_of_cell? w _ hx119_0)).trans hx119_0
                                        replace p119 := eq_true p119
                                        replace q119 := eq_true q119
                                        refine start_ (n := 14) (S := fun w' => w'.cell? (ad111.add ((ji27)).toNat) = some (.int .u8 (rd l0 (ji27))) ∧ w'.cell? (ad111.add ((ji30)).toNat) = some (.int .u8 (rd l0 (ji30)))) (ds := []) #[false, false, false, false, false, false, false, false, false, false, false, false, false, false] (by kernel_rfl) rfl rfl ⟨((HB.out.cell (World.block_lt_of_cell? w _ hw118_0)).trans hw118_0), ((HB.out.cell (World.block_lt_of_cell? w _ hw119_0)).trans hw119_0)⟩ (fun hHeld => ?_); refine with_tabW haymowref18_Read.tab17 haymowref18_Read.bits17 (fun HT_ HW_ => ?_)
                                        generalize w58.drew = w59 at HO_4 BK112 HB hx118_0 hx119_0 hHeld ⊢
                                        refine pure_ (i := 0) (N := some 54) (v := ?_) (a' := ?_) #[true, false, false, false, false, false, false, false, false, false, false, false, false, false] rfl rfl (any_of HT_.out (by kernel_rfl)) (fun _ _ _ h => h) (Or.inl ⟨by rfl, ?_⟩) ?_ ?_
                                        rotate_left
                                        · intro w'
                                          go_simp
                                          with_reducible rfl
                                        rotate_left
                                        · simp only [Act.put, List.setIfInBounds_toArray, List.set_cons_zero, List.set_cons_succ, i64_w, i32_w]
                                          rfl
                                        refine pure_ (i := 1) (N := some 55) (v := ?_) (a' := ?_) #[true, true, false, false, false, false, false, false, false, false, false, false, false, false] rfl rfl (any_of HT_.out (by kernel_rfl)) (fun _ _ _ h => h) (Or.inl ⟨by rfl, ?_⟩) ?_ ?_
                                        rotate_left
                                        · intro w'
                                          go_simp
                                          with_reducible rfl
                                        rotate_left
                                        · simp only [Act.put, List.setIfInBounds_toArray, List.set_cons_zero, List.set_cons_succ, i64_w, i32_w]
                                          rfl
                                        refine pure_ (i := 2) (N := some 56) (v := ?_) (a' := ?_) #[true, true, true, false, false, false, false, false, false, false, false, false, false, false] rfl rfl (any_of HT_.out (by kernel_rfl)) (fun _ _ _ h => h) (Or.inl ⟨by rfl, ?_⟩) ?_ ?_
                                        rotate_left
                                        · intro w'
                                          go_simp
                                          with_reducible rfl
                                        rotate_left
                                        · simp only [Act.put, List.setIfInBounds_toArray, List.set_cons_zero, List.set_cons_succ, i64_w, i32_w]
                                          rfl
                                        refine pure_ (i := 5) (N := some 59) (v := ?_) (a' := ?_) #[true, true, true, false, false, true, false, false, false, false, false, false, false, false] rfl rfl (any_of HT_.out (by kernel_rfl)) (fun _ _ _ h => h) (Or.inl ⟨by rfl, ?_⟩) ?_ ?_
                                        rotate_left
                                        · intro w'
                                          go_simp
                                          with_reducible rfl
                                        rotate_left
                                        · simp only [Act.put, List.setIfInBounds_toArray, List.set_cons_zero, List.set_cons_succ, i64_w, i32_w]
                                          rfl
                                        refine pure_ (i := 6) (N := some 60) (v := ?_) (a' := ?_) #[true, true, true, false, false, true, true, false, false, false, false, false, false, false] rfl rfl (any_of HT_.out (by kernel_rfl)) (fun _ _ _ h => h) (Or.inl ⟨by rfl, ?_⟩) ?_ ?_
                                        rotate_left
                                        · intro w'
                                          go_simp
                                          with_reducible rfl
                                        rotate_left
                                        · simp only [Act.put, List.setIfInBounds_toArray, List.set_cons_zero, List.set_cons_succ, i64_w, i32_w]
                                          rfl
                                        refine pure_ (i := 7) (N := some 61) (v := ?_) (a' := ?_) #[true, true, true, false, false, true, true, true, false, false, false, false, false, false] rfl rfl (any_of HT_.out (by kernel_rfl)) (fun _ _ _ h => h) (Or.inl ⟨by rfl, ?_⟩) ?_ ?_
                                        rotate_left
                                        · intro w'
                                          go_simp
                                          with_reducible rfl
                                        rotate_left
                                        · simp only [Act.put, List.setIfInBounds_toArray, List.set_cons_zero, List.set_cons_succ, i64_w, i32_w]
                                          rfl
                                        refine pure_ (i := 8) (N := some 62) (v := ?_) (a' := ?_) #[true, true, true, false, false, true, true, true, true, false, false, false, false, false] rfl rfl (any_of HT_.out (by kernel_rfl)) (fun _ _ _ h => h) (Or.inl ⟨by rfl, ?_⟩) ?_ ?_
                                        rotate_left
                                        · intro w'
                                          go_simp
                                          with_reducible rfl
                                        rotate_left
                                        · simp only [Act.put, List.setIfInBounds_toArray, List.set_cons_zero, List.set_cons_succ, i64_w, i32_w]
                                          rfl
                                        refine take_ (i := 3) (N := some 57) (v := ?_) (a' := ?_) #[true, true, true, true, false, true, true, true, true, false, false, false, false, false] rfl rfl (take_ofW HT_.out HW_.out (by kernel_rfl)) (fun _ _ _ h => h) (Or.inl ⟨by rfl, ?_⟩) hHeld ?_ ?_
                                        rotate_left
                                        · rintro w' ⟨s0, s1⟩
                                          go_simp
                                          with_reducible rfl
                                        rotate_left
                                        · simp only [Act.put, List.setIfInBounds_toArray, List.set_cons_zero, List.set_cons_succ, i64_w, i32_w]
                                          rfl
                                        refine pure_ (i := 4) (N := some 58) (v := ?_) (a' := ?_) #[true, true, true, true, true, true, true, true, true, false, false, false, false, false] rfl rfl (any_of HT_.out (by kernel_rfl)) (fun _ _ _ h => h) (Or.inl ⟨by rfl, ?_⟩) ?_ ?_
                                        rotate_left
                                        · intro w'
                                          go_simp
                                          with_reducible rfl
                                        rotate_left
                                        · simp only [Act.put, List.setIfInBounds_toArray, List.set_cons_zero, List.set_cons_succ, i64_w, i32_w]
                                          rfl
                                        refine take_ (i := 9) (N := some 63) (v := ?_) (a' := ?_) #[true, true, true, true, true, true, true, true, true, true, false, false, false, false] rfl rfl (take_ofW HT_.out HW_.out (by kernel_rfl)) (fun _ _ _ h => h) (Or.inl ⟨by rfl, ?_⟩) hHeld ?_ ?_
                                        rotate_left
                                        · rintro w' ⟨s0, s1⟩
                                          go_simp
                                          with_reducible rfl
                                        rotate_left
                                        · simp only [Act.put, List.setIfInBounds_toArray, List.set_cons_zero, List.set_cons_succ, i64_w, i32_w]
                                          rfl
                                        refine pure_ (i := 10) (N := some 64) (v := ?_) (a' := ?_) #[true, true, true, true, true, true, true, true, true, true, true, false, false, false] rfl rfl (any_of HT_.out (by kernel_rfl)) (fun _ _ _ h => h) (Or.inl ⟨by rfl, ?_⟩) ?_ ?_
                                        rotate_left
                                        · intro w'
                                          go_simp
                                          with_reducible rfl
                                        rotate_left
                                        · simp only [Act.put, List.setIfInBounds_toArray, List.set_cons_zero, List.set_cons_succ, i64_w, i32_w]
                                          rfl
                                        refine pure_ (i := 11) (N := some 65) (v := ?_) (a' := ?_) #[true, true, true, true, true, true, true, true, true, true, true, true, false, false] rfl rfl (any_of HT_.out (by kernel_rfl)) (fun _ _ _ h => h) (Or.inl ⟨by rfl, ?_⟩) ?_ ?_
                                        rotate_left
                                        · intro w'
                                          go_simp
                                          with_reducible rfl
                                        rotate_left
                                        · simp only [Act.put, List.setIfInBounds_toArray, List.set_cons_zero, List.set_cons_succ, i64_w, i32_w]
                                          rfl
                                        refine pure_ (i := 12) (N := some 66) (v := ?_) (a' := ?_) #[true, true, true, true, true, true, true, true, true, true, true, true, true, false] rfl rfl (any_of HT_.out (by kernel_rfl)) (fun _ _ _ h => h) (Or.inl ⟨by rfl, ?_⟩) ?_ ?_
                                        rotate_left
                                        · intro w'
                                          go_simp
                                          with_reducible rfl
                                        rotate_left
                                        · simp only [Act.put, List.setIfInBounds_toArray, List.set_cons_zero, List.set_cons_succ, i64_w, i32_w]
                                          rfl
                                        refine pure_ (i := 13) (N := some 8) (v := ?_) (a' := ?_) #[true, true, true, true, true, true, true, true, true, true, true, true, true, true] rfl rfl (any_of HT_.out (by kernel_rfl)) (fun _ _ _ h => h) (Or.inl ⟨by rfl, ?_⟩) ?_ ?_
                                        rotate_left
                                        · intro w'
                                          go_simp
                                          with_reducible rfl
                                        rotate_left
                                        · simp only [Act.put, List.setIfInBounds_toArray, List.set_cons_zero, List.set_cons_succ, i64_w, i32_w]
                                          rfl
                                        refine done_ (done_of HT_.out (by kernel_rfl)) ?_
                                        try go_wp2
                                        have n0_ := Aside0.mk (Kd.S_drew HO_4.out)
                                        have n1_ := Aside0.mk (blk_drew BK112.out)
                                        have n2_ := Aside0.mk (below_drew1 HB.out)
                                        clear HO_4
                                        clear BK112
                                        clear HB
                                        have HO_4 := n0_
                                        have BK112 := n1_
                                        have HB := n2_
                                        clear n0_ n1_ n2_
                                        obtain ⟨i061, hi061, _, hsz61, _⟩ := info_parts info5
                                        obtain ⟨A61, hcut61, hA61, hC61⟩ := print_mid_of (P := Try.prog) (Value.int .u8) 0 24 5 .i64 .i64 Try.underlying24 hi061 hsz61 (some ad111) c0 l0 (ji38) (wrap64 ((ji38) + (wrap64 ((wrap64 (rd l0 (ji27))) + (wrap64 (256 * (wrap64 (rd l0 (ji30))))))))) (of_decide_eq_true (by first | (with_reducible assumption) | assumption)) (by first | omega | exact of_decide_eq_true (by first | (with_reducible assumption) | assumption)) (of_decide_eq_true (by first | (with_reducible assumption) | assumption)) HC0.out
                                        have HR120 := Aside0.mk (Kd.C_of_reads (h1 := fun _ => rfl) (hA61 _ (Kd.reads_of_C HR0.out)))
                                        have HC120 := Aside0.mk hC61
                                        clear hA61 hC61 hi061 hsz61
                                        refine start_ (n := 13) (S := fun w' => w'.cell? ⟨gb112, 0, none⟩ = some (.int .i64 (wrap64 (rd l0 x5_1))) ∧ w'.cell? ⟨gb112, 1, none⟩ = some (.int .i64 0) ∧ w'.cell? ⟨gb112, 2, none⟩ = some (.int .i64 0) ∧ w'.cell? ⟨gb112, 3, none⟩ = some (.int .i64 0) ∧ w'.cell? ⟨gb112, 4, none⟩ = some (.slice none 0 0) ∧ w'.cell? ⟨gb112, 5, none⟩ = some (.slice none 0 0)) (ds := [12]) #[false, false, false, false, false, false, false, false, false, false, false, false, false] (by kernel_rfl) rfl rfl ⟨(blk_cell BK112.out 0).trans rfl, (blk_cell BK112.out 1).trans rfl, (blk_cell BK112.out 2).trans rfl, (blk_cell BK112.out 3).trans rfl, (blk_cell BK112.out 4).trans rfl, (blk_cell BK112.out 5).trans rfl⟩ (fun hHeld => ?_); refine with_tabW haymowref18_Read.tab20 haymowref18_Read.bits20 (fun HT_ HW_ => ?_)
                                        generalize w59.drew = w60 at HO_4 BK112 HB HR120 hHeld ⊢
                                        refine pure_ (i := 0) (N := some 71) (v := ?_) (a' := ?_) #[true, false, false, false, false, false, false, false, false, false, false, false, false] rfl rfl (any_of HT_.out (by kernel_rfl)) (fun _ _ _ h => h) (Or.inl ⟨by rfl, ?_⟩) ?_ ?_
                                        rotate_left
                                        · intro w'
                                          go_simp
                                          with_reducible rfl
                                        rotate_left
                                        · simp only [Act.put, List.setIfInBounds_toArray, List.set_cons_zero, List.set_cons_succ, i64_w, i32_w]
                                          rfl
                                        refine pure_ (i := 2) (N := some 73) (v := ?_) (a' := ?_) #[true, false, true, false, false, false, false, false, false, false, false, false, false] rfl rfl (any_of HT_.out (by kernel_rfl)) (fun _ _ _ h => h) (Or.inl ⟨by rfl, ?_⟩) ?_ ?_
                                        rotate_left
                                        · intro w'
                                          go_simp
                                          with_reducible rfl
                                        rotate_left
                                        · simp only [Act.put, List.setIfInBounds_toArray, List.set_cons_zero, List.set_cons_succ, i64_w, i32_w]
                                          rfl
                                        refine pure_ (i := 3) (N := some 74) (v := ?_) (a' := ?_) #[true, false, true, true, false, false, false, false, false, false, false, false, false] rfl rfl (any_of HT_.out (by kernel_rfl)) (fun _ _ _ h => h) (Or.inl ⟨by rfl, ?_⟩) ?_ ?_
                                        rotate_left
                                        · intro w'
                                          go_simp
                                          with_reducible rfl
                                        rotate_left
                                        · simp only [Act.put, List.setIfInBounds_toArray, List.set_cons_zero, List.set_cons_succ, i64_w, i32_w]
                                          rfl
                                        refine pure_ (i := 4) (N := some 75) (v := ?_) (a' := ?_) #[true, false, true, true, true, false, false, false, false, false, false, false, false] rfl rfl (any_of HT_.out (by kernel_rfl)) (fun _ _ _ h => h) (Or.inl ⟨by rfl, ?_⟩) ?_ ?_
                                        rotate_left
                                        · intro w'
                                          go_simp
                                          with_reducible rfl
                                        rotate_left
                                        · simp only [Act.put, List.setIfInBounds_toArray, List.set_cons_zero, List.set_cons_succ, i64_w, i32_w]
                                          rfl
                                        refine pure_ (i := 5) (N := some 76) (v := ?_) (a' := ?_) #[true, false, true, true, true, true, false, false, false, false, false, false, false] rfl rfl (any_of HT_.out (by kernel_rfl)) (fun _ _ _ h => h) (Or.inl ⟨by rfl, ?_⟩) ?_ ?_
                                        rotate_left
                                        · intro w'
                                          go_simp
                                          with_reducible rfl
                                        rotate_left
                                        · simp only [Act.put, List.setIfInBounds_toArray, List.set_cons_zero, List.set_cons_succ, i64_w, i32_w]
                                          rfl
                                        refine pure_ (i := 6) (N := some 77) (v := ?_) (a' := ?_) #[true, false, true, true, true, true, true, false, false, false, false, false, false] rfl rfl (any_of HT_.out (by kernel_rfl)) (fun _ _ _ h => h) (Or.inl ⟨by rfl, ?_⟩) ?_ ?_
                                        rotate_left
                                        · intro w'
                                          go_simp
                                          with_reducible rfl
                                        rotate_left
                                        · simp only [Act.put, List.setIfInBounds_toArray, List.set_cons_zero, List.set_cons_succ, i64_w, i32_w]
                                          rfl
                                        refine pure_ (i := 7) (N := some 78) (v := ?_) (a' := ?_) #[true, false, true, true, true, true, true, true, false, false, false, false, false] rfl rfl (any_of HT_.out (by kernel_rfl)) (fun _ _ _ h => h) (Or.inl ⟨by rfl, ?_⟩) ?_ ?_
                                        rotate_left
                                        · intro w'
                                          go_simp
                                          with_reducible rfl
                                        rotate_left
                                        · simp only [Act.put, List.setIfInBounds_toArray, List.set_cons_zero, List.set_cons_succ, i64_w, i32_w]
                                          rfl
                                        refine pure_ (i := 8) (N := some 79) (v := ?_) (a' := ?_) #[true, false, true, true, true, true, true, true, true, false, false, false, false] rfl rfl (any_of HT_.out (by kernel_rfl)) (fun _ _ _ h => h) (Or.inl ⟨by rfl, ?_⟩) ?_ ?_
                                        rotate_left
                                        · intro w'
                                          go_simp
                                          with_reducible rfl
                                        rotate_left
                                        · simp only [Act.put, List.setIfInBounds_toArray, List.set_cons_zero, List.set_cons_succ, i64_w, i32_w]
                                          rfl
                                        refine pure_ (i := 9) (N := some 80) (v := ?_) (a' := ?_) #[true, false, true, true, true, true, true, true, true, true, false, false, false] rfl rfl (any_of HT_.out (by kernel_rfl)) (fun _ _ _ h => h) (Or.inl ⟨by rfl, ?_⟩) ?_ ?_
                                        rotate_left
                                        · intro w'
                                          go_simp
                                          with_reducible rfl
                                        rotate_left
                                        · simp only [Act.put, List.setIfInBounds_toArray, List.set_cons_zero, List.set_cons_succ, i64_w, i32_w]
                                          rfl
                                        refine take_ (i := 1) (N := some 72) (v := ?_) (a' := ?_) #[true, true, true, true, true, true, true, true, true, true, false, false, false] rfl rfl (take_ofW HT_.out HW_.out (by kernel_rfl)) (fun _ _ _ h => h) (Or.inl ⟨by rfl, ?_⟩) hHeld ?_ ?_
                                        rotate_left
                                        · rintro w' ⟨s0, s1, s2, s3, s4, s5⟩
                                          go_simp
                                          with_reducible rfl
                                        rotate_left
                                        · simp only [Act.put, List.setIfInBounds_toArray, List.set_cons_zero, List.set_cons_succ, i64_w, i32_w]
                                          rfl
                                        refine one_ (i := 10) (N := some 81) #[true, true, true, true, true, true, true, true, true, true, true, false, false] rfl rfl (one_of HT_.out (by kernel_rfl)) (by decide) (fun K hK => ?_)
                                        refine Kd.R_append_rows_step (Kd.int .u8) (w0 := w) w.heap.size (by rfl) (.tmp 72) (.tmp 80) 24 5 (.int .u8 0) 1 rfl Try.underlying24 info5 rfl (by decide) (by omega) (.slice none 0 0) ([] : List Int) ((l0.take ((wrap64 ((ji38) + (wrap64 ((wrap64 (rd l0 (ji27))) + (wrap64 (256 * (wrap64 (rd l0 (ji30))))))))) : Int).toNat).drop ((ji38) : Int).toNat) _ _ _ (fun _ => True) (fun _ => False) rfl rfl ?aO ?aR (fun _ _ h => h) (fun _ h => h.elim) ?aF ?aB ?aS ?aL ?_
                                        (case aR => first | (rw [← show ((l0.take ((wrap64 ((ji38) + (wrap64 ((wrap64 (rd l0 (ji27))) + (wrap64 (256 * (wrap64 (rd l0 (ji30))))))))) : Int).toNat).drop ((ji38) : Int).toNat).length = ((wrap64 ((ji38) + (wrap64 ((wrap64 (rd l0 (ji27))) + (wrap64 (256 * (wrap64 (rd l0 (ji30))))))))).toNat - (ji38).toNat) from (by rw [List.length_drop, List.length_take]; have h_ : ((wrap64 ((ji38) + (wrap64 ((wrap64 (rd l0 (ji27))) + (wrap64 (256 * (wrap64 (rd l0 (ji30))))))))) : Int) ≤ (l0.length : Int) := of_decide_eq_true (by first | (with_reducible assumption) | assumption); omega)]; repeat (first | exact (Kd.C_below HR120.out HB.out) | (with_reducible refine Kd.C_alloc ?_ _) | (with_reducible refine Kd.C_drewN ?_ _) | (with_reducible refine Kd.C_drew ?_))) | (repeat (first | exact (Kd.C_below HR120.out HB.out) | (with_reducible refine Kd.C_alloc ?_ _) | (with_reducible refine Kd.C_drewN ?_ _) | (with_reducible refine Kd.C_drew ?_))))
                                        (case aB => exact (by repeat (first | (with_reducible first | exact HB.out | apply below_alloc | apply pw_below_drewN | apply below_drew1 | refine below_set ?_ GE112.out) | exact HB.out)))
                                        (case aF => exact (fun _ _ => trivial))
                                        (case aO => exact ((Kd.R_nil _ _ _ _ (fun _ => True))))
                                        (case aS => exact (below_size (by repeat (first | (with_reducible first | exact HB.out | apply below_alloc | apply pw_below_drewN | apply below_drew1 | refine below_set ?_ GE112.out) | exact HB.out))))
                                        (case aL => have := LMc42.out; have hlx_ := (show ((l0.take ((wrap64 ((ji38) + (wrap64 ((wrap64 (rd l0 (ji27))) + (wrap64 (256 * (wrap64 (rd l0 (ji30))))))))) : Int).toNat).drop ((ji38) : Int).toNat).length = ((wrap64 ((ji38) + (wrap64 ((wrap64 (rd l0 (ji27))) + (wrap64 (256 * (wrap64 (rd l0 (ji30))))))))).toNat - (ji38).toNat) from (by rw [List.length_drop, List.length_take]; have h_ : ((wrap64 ((ji38) + (wrap64 ((wrap64 (rd l0 (ji27))) + (wrap64 (256 * (wrap64 (rd l0 (ji30))))))))) : Int) ≤ (l0.length : Int) := of_decide_eq_true (by first | (with_reducible assumption) | assumption); omega)); omega)
                                        intro v122 w62 ho hb hg hat
                                        rw [← Ny121.out] at ho
                                        have n0_ := Aside0.mk (Kd.S_after (Kd.S_apart_nil (by (with_reducible repeat (first | apply Kd.S_alloc | apply Kd.S_drewN | apply Kd.S_drew)); exact HO_4.out)) hg hat)
                                        have n1_ := Aside0.mk (blk_grown (g := gb112) (o := .cells #[.int .i64 (wrap64 (rd l0 x5_1)), .int .i64 0, .int .i64 0, .int .i64 0, .slice none 0 0, .slice none 0 0] 33 (0, 0)) (by (with_reducible repeat (first | refine blk_drewN ?_ _ | refine blk_drew ?_ | refine blk_alloc ?_ _)); exact BK112.out) hg (by simp [Value.ownBlock]))
                                        have n2_ := Aside0.mk (hb)
                                        have n3_ := Aside0.mk (ho)
                                        clear HO_4
                                        clear BK112
                                        clear HB
                                        have HO_4 := n0_
                                        have BK112 := n1_
                                        have HB := n2_
                                        have HO123 := n3_
                                        clear n0_ n1_ n2_ n3_
                                        clear ho hb hg hat
                                        obtain ⟨Ao63, co63, eo63⟩ := Kd.R_slice HO123.out
                                        (first | subst eo63 | (injection eo63 with f1_ f2_ f3_; have f4_ := f1_.symm; have f5_ := f3_.symm; clear f1_ f2_ f3_; subst f4_; subst f5_))
                                        refine hK.out _ _ ⟨(blk_cell BK112.out 0).trans rfl, (blk_cell BK112.out 1).trans rfl, (blk_cell BK112.out 2).trans rfl, (blk_cell BK112.out 3).trans rfl, (blk_cell BK112.out 4).trans rfl, (blk_cell BK112.out 5).trans rfl⟩ (fun hHeld => ?_)
                                        clear hK K
                                        refine norm_ (a' := ?_) ?_ ?_
                                        rotate_left
                                        · show Act.put _ (some 81) _ = _
                                          simp only [Act.put, List.setIfInBounds_toArray, List.set_cons_zero, List.set_cons_succ, i64_w, i32_w]
                                          rfl
                                        refine pure_ (i := 11) (N := some 82) (v := ?_) (a' := ?_) #[true, true, true, true, true, true, true, true, true, true, true, true, false] rfl rfl (any_of HT_.out (by kernel_rfl)) (fun _ _ _ h => h) (Or.inl ⟨by rfl, ?_⟩) ?_ ?_
                                        rotate_left
                                        · intro w'
                                          go_simp
                                          with_reducible rfl
                                        rotate_left
                                        · simp only [Act.put, List.setIfInBounds_toArray, List.set_cons_zero, List.set_cons_succ, i64_w, i32_w]
                                          rfl
                                        refine last_ (i := 12) (N := none) #[true, true, true, true, true, true, true, true, true, true, true, true, true] rfl rfl (one_of HT_.out (by kernel_rfl)) (by decide) (fun K hK => ?_)
                                        have hs64 : w62.cell? ⟨gb112, 4, none⟩ = some (.slice none 0 0) := (blk_cell BK112.out 4).trans rfl
                                        have hfs64 := blk_frozen BK112.out 4
                                        refine skip_ (w1 := ?_) (by rfl) rfl ?_ ?_
                                        rotate_left
                                        · go_simp
                                          rfl
                                        refine hK.out _ _ ?_
                                        clear hK K
                                        refine done_ (done_of HT_.out (by kernel_rfl)) ?_
                                        have p124 : 0 ≤ ((ji43) : Int) := of_decide_eq_true (by first | (with_reducible assumption) | assumption)
                                        have q124 : (ji43) < (l0.length : Int) := of_decide_eq_true (by first | (with_reducible assumption) | assumption)
                                        obtain ⟨ad124, e124, hx124_0⟩ := Kd.at_int HR0.out (ji43) p124 q124
                                        obtain rfl : ad111 = ad124 := (by injection e124)
                                        have hn124_0 : ad111.block ≠ gb112 := Nat.ne_of_lt (Nat.lt_of_lt_of_le (by have := World.block_lt_of_cell? _ _ hx124_0; first | rwa [add_block] at this | exact this) GW112.out)
                                        replace hx124_0 := (HB.out.cell (World.block_lt_of_cell? w _ hx124_0)).trans hx124_0
                                        replace hx124_0 := (cell_far (p := ⟨gb112, 4, none⟩) (by first | (rw [add_block]; exact hn124_0) | (show (Addr.add _ _).block ≠ _; rw [add_block]; exact hn124_0) | exact hn124_0) (.slice Ao63 y121.length co63)).trans hx124_0
                                        clear hn124_0
                                        replace p124 := eq_true p124
                                        replace q124 := eq_true q124
                                        try go_wp2
                                        go_loopg [5, 10] k1 (fun kq v5 v10 w' => ∃ (x5_2 : Int) (x10_2 : Int) (x113005_2 : List Int) (u113005 : Value), v5 = .int .i64 x5_2 ∧ v10 = .int .i64 x10_2 ∧ Aside0 (haymowref18_Read.l1 kq l0 x4_1 x5_2 (wrap64 (rd l0 (ji43))) x10_2 (wrap64 (rd l0 x5_1)) 0 0 0 y121 x113005_2 = some (r1, r2)) ∧ Aside0 (kq ≤ k1) ∧ Aside0 (Kd.S k33 33 w' w.heap.size (fun k_ => some k_ ≠ ((.slice Ao63 y121.length co63) : Value).ownBlock ∧ some k_ ≠ (u113005 : Value).ownBlock ∧ k_ ≠ gb112) u4 x4_1) ∧ Aside0 (Kd.R (Kd.int .u8) 5 w' w.heap.size (fun _ => True) (.slice Ao63 y121.length co63) y121) ∧ Aside0 (Kd.R (Kd.int .i64) 2 w' w.heap.size (fun _ => True) u113005 x113005_2) ∧ Aside0 (w'.heap[gb112]? = some (.cells #[.int .i64 (wrap64 (rd l0 x5_1)), .int .i64 0, .int .i64 0, .int .i64 0, (.slice Ao63 y121.length co63), u113005] 33 (0, 0))) ∧ Aside0 (Below w.heap.size w w'))
                                        case atStart => exact ⟨(wrap64 ((ji43) + 1)), (0), (([] : List Int)), (.slice none 0 0), (by first | rfl | (simp; done) | (simp only [← hji43] <;> (first | rfl | simp)) | (simp [*]; done)), (by first | rfl | (simp; done) | (simp [*]; done)), H', ⟨Nat.le_refl _⟩, ⟨by (with_reducible repeat (first | apply Kd.S_alloc | apply Kd.S_drewN | apply Kd.S_drew)); exact Kd.S_mono (Kd.S_far (p := ⟨gb112, 4, none⟩) (Kd.S_mono HO_4.out (fun k_ hk => (⟨hk, hk.1⟩ : _ ∧ k_ ≠ gb112))) (fun _ hk => hk.2) (.slice Ao63 y121.length co63)) (fun _ hk => ⟨hk.1.2, ⟨(by simp [Value.ownBlock]), hk.1.1⟩⟩)⟩, ⟨by (with_reducible repeat (first | apply Kd.R_alloc | apply Kd.R_drewN | apply Kd.R_drew)); exact Kd.R_mono (Kd.R_far (p := ⟨gb112, 4, none⟩) (Kd.R_types HO123.out BK112.out (by decide)) (fun _ hk => hk.2) (.slice Ao63 y121.length co63)) (fun _ hk => trivial)⟩, ⟨by first | exact Kd.R_nil _ _ _ _ _ | exact Kd.N_nil _ _ _ _ _ | exact Kd.V_nil _ _ _ _ _ | exact Kd.Q_nil _ _ _ _ _ | exact Kd.S_nil _ _ _ _ _⟩, ⟨by (with_reducible repeat (first | refine blk_drewN ?_ _ | refine blk_drew ?_ | refine blk_alloc ?_ _)); refine blk_put (cs := #[.int .i64 (wrap64 (rd l0 x5_1)), .int .i64 0, .int .i64 0, .int .i64 0, .slice none 0 0, .slice none 0 0]) ?_ 4 _ rfl; (with_reducible repeat (first | refine blk_drewN ?_ _ | refine blk_drew ?_ | refine blk_alloc ?_ _)); exact BK112.out⟩, ⟨by repeat (first | (with_reducible first | exact HB.out | apply below_alloc | apply pw_below_drewN | apply below_drew1 | refine below_set ?_ GE112.out) | exact HB.out)⟩⟩
                                        case round =>
                                          clear H'
                                          try clear p1
                                          try clear q1
                                          try clear hx1
                                          try clear p2
                                          try clear c4
                                          try clear p6
                                          try clear p11
                                          try clear q11
                                          try clear hx11
                                          try clear p12
                                          try clear q12
                                          try clear hx12
                                          try clear c42
                                          try clear c46
                                          try clear c46b0
                                          try clear p64
                                          try clear hcz57_0
                                          try clear hcz57_1
                                          try clear hcz57_2
                                          try clear hcz57_3
                                          try clear hcz57_4
                                          try clear hcz57_5
                                          try clear hfz57_0
                                          try clear hfz57_1
                                          try clear hfz57_2
                                          try clear hfz57_3
                                          try clear hfz57_4
                                          try clear hfz57_5
                                          try clear hx111_0
                                          try clear hx118_0
                                          try clear hx119_0
                                          try clear hx124_0
                                          try clear p111
                                          try clear p118
                                          try clear p119
                                          try clear p124
                                          try clear q111
                                          try clear q118
                                          try clear q119
                                          try clear q124
                                          obtain ⟨x5_2, x10_2, x113005_2, u113005, rfl, rfl, HA, HK2, HO_4, HO_113004, HO_113005, BK112, HB⟩ := hrel
                                          cases gk with
                                          | zero => exact absurd HA.out (by simp [haymowref18_Read.l1])
                                          | succ k2 =>
                                            have H := HA.out
                                            clear HA
                                            simp only [haymowref18_Read.l1] at H
                                            by_cases c65 : x10_2 < (wrap64 (rd l0 (ji43)))
                                            · rw [if_pos c65] at H
                                              have c65b0 : decide (x10_2 < (wrap64 (rd l0 (ji43)))) = true := decide_eq_true c65
                                              clear c65
                                              have H' := Aside0.mk H
                                              clear H
                                              go_wp2
                                              go_loopg [11, 12] k2 (fun kq v11 v12 w' => ∃ (x11_3 : Int) (x12_3 : Int), v11 = .int .u64 x11_3 ∧ v12 = .int .i64 x12_3 ∧ Aside0 (haymowref18_Read.l2 kq l0 x4_1 x5_2 (wrap64 (rd l0 (ji43))) x10_2 x11_3 x12_3 (wrap64 (rd l0 x5_1)) 0 0 0 y121 x113005_2 = some (r1, r2)) ∧ Aside0 (kq ≤ k2) ∧ Aside0 (Kd.S k33 33 w' w.heap.size (fun k_ => some k_ ≠ ((.slice Ao63 y121.length co63) : Value).ownBlock ∧ some k_ ≠ (u113005 : Value).ownBlock ∧ k_ ≠ gb112) u4 x4_1) ∧ Aside0 (Kd.R (Kd.int .u8) 5 w' w.heap.size (fun _ => True) (.slice Ao63 y121.length co63) y121) ∧ Aside0 (Kd.R (Kd.int .i64) 2 w' w.heap.size (fun _ => True) u113005 x113005_2) ∧ Aside0 (w'.heap[gb112]? = some (.cells #[.int .i64 (wrap64 (rd l0 x5_1)), .int .i64 0, .int .i64 0, .int .i64 0, (.slice Ao63 y121.length co63), u113005] 33 (0, 0))) ∧ Aside0 (Below w.heap.size w w'))
                                              case atStart => exact ⟨(0), (7), (by first | rfl | (simp; done) | (simp [*]; done)), (by first | rfl | (simp; done) | (simp [*]; done)), H', ⟨Nat.le_refl _⟩, ⟨by (with_reducible repeat (first | apply Kd.S_alloc | apply Kd.S_drewN | apply Kd.S_drew)); exact HO_4.out⟩, ⟨by (with_reducible repeat (first | apply Kd.R_alloc | apply Kd.R_drewN | apply Kd.R_drew)); exact HO_113004.out⟩, ⟨by (with_reducible repeat (first | apply Kd.R_alloc | apply Kd.R_drewN | apply Kd.R_drew)); exact HO_113005.out⟩, ⟨by (with_reducible repeat (first | refine blk_drewN ?_ _ | refine blk_drew ?_ | refine blk_alloc ?_ _)); exact BK112.out⟩, ⟨by repeat (first | (with_reducible first | exact HB.out | apply below_alloc | apply pw_below_drewN | apply below_drew1 | refine below_set ?_ GE112.out) | exact HB.out)⟩⟩
                                              case round =>
                                                clear H'
                                                try clear p1
                                                try clear q1
                                                try clear hx1
                                                try clear p2
                                                try clear c4
                                                try clear c6
                                                try clear p6
                                                try clear p11
                                                try clear q11
                                                try clear hx11
                                                try clear p12
                                                try clear q12
                                                try clear hx12
                                                try clear c42
                                                try clear c46
                                                try clear c46b0
                                                try clear p64
                                                try clear c65
                                                try clear c65b0
                                                try clear hcz57_0
                                                try clear hcz57_1
                                                try clear hcz57_2
                                                try clear hcz57_3
                                                try clear hcz57_4
                                                try clear hcz57_5
                                                try clear hfz57_0
                                                try clear hfz57_1
                                                try clear hfz57_2
                                                try clear hfz57_3
                                                try clear hfz57_4
                                                try clear hfz57_5
                                                try clear hx111_0
                                                try clear hx118_0
                                                try clear hx119_0
                                                try clear hx124_0
                                                try clear p1
                                                try clear p11
                                                try clear p111
                                                try clear p118
                                                try clear p119
                                                try clear p12
                                                try clear p124
                                                try clear p2
                                                try clear p6
                                                try clear p64
                                                try clear q1
                                                try clear q11
                                                try clear q111
                                                try clear q118
                                                try clear q119
                                                try clear q12
                                                try clear q124
                                                obtain ⟨x11_3, x12_3, rfl, rfl, HA, HK3, HO_4, HO_113004, HO_113005, BK112, HB⟩ := hrel
                                                cases gk with
                                                | zero => exact absurd HA.out (by simp [haymowref18_Read.l2])
                                                | succ k3 =>
                                                  have H := HA.out
                                                  clear HA
                                                  simp only [haymowref18_Read.l2] at H
                                                  by_cases c66 : x12_3 ≥ 0
                                                  · rw [if_pos c66] at H
                                                    have c66b0 : decide (0 ≤ x12_3) = true := decide_eq_true c66
                                                    clear c66
                                                    obtain ⟨ji67, hji67⟩ : ∃ j_ : Int, (wrap64 (x5_2 + x12_3)) = j_ := ⟨_, rfl⟩
                                                    replace H : (if 0 ≤ (ji67) then (if (ji67) < (l0.length : Int) then (haymowref18_Read.l2 k3 l0 x4_1 x5_2 (wrap64 (rd l0 (ji43))) x10_2 (IntKind.u64.wrap ((IntKind.u64.wrap (256 * x11_3)) + (IntKind.u64.wrap (rd l0 (ji67))))) (wrap64 (x12_3 - 1)) (wrap64 (rd l0 x5_1)) 0 0 0 y121 x113005_2) else (none)) else (none)) = some (r1, r2) := by first | (rw [hji67] at H; exact H) | (simp only [hji67] at H ⊢; exact H)
                                                    have hji67w : (IntKind.i64.wrap (x5_2 + x12_3)) = ji67 := (i64_w _).trans hji67
                                                    by_cases c68 : 0 ≤ (ji67)
                                                    · rw [if_pos c68] at H
                                                      have c68b0 : decide (0 ≤ (ji67)) = true := decide_eq_true c68
                                                      clear c68
                                                      by_cases c69 : (ji67) < (l0.length : Int)
                                                      · rw [if_pos c69] at H
                                                        have c69b0 : decide ((ji67) < (l0.length : Int)) = true := decide_eq_true c69
                                                        clear c69
                                                        have H' := Aside0.mk H
                                                        clear H
                                                        have p128 : 0 ≤ ((ji67) : Int) := of_decide_eq_true (by first | (with_reducible assumption) | assumption)
                                                        have q128 : (ji67) < (l0.length : Int) := of_decide_eq_true (by first | (with_reducible assumption) | assumption)
                                                        obtain ⟨ad128, e128, hx128_0⟩ := Kd.at_int HR0.out (ji67) p128 q128
                                                        obtain rfl : ad111 = ad128 := (by injection e128)
                                                        replace hx128_0 := (HB.out.cell (World.block_lt_of_cell? w _ hx128_0)).trans hx128_0
                                                        replace p128 := eq_true p128
                                                        replace q128 := eq_true q128
                                                        go_wp2
                                                        go_roundg k3
                                                        case measure => have := HK1.out; have := HK2.out; have := HK3.out; omega
                                                        case rel => exact ⟨(IntKind.u64.wrap ((IntKind.u64.wrap (256 * x11_3)) + (IntKind.u64.wrap (rd l0 (ji67))))), (wrap64 (x12_3 - 1)), (by first | rfl | (simp; done) | (simp only [← hji67] <;> (first | rfl | simp)) | (simp [*]; done)), (by first | rfl | (simp; done) | (simp [*]; done)), H', ⟨by have := HK1.out; have := HK2.out; have := HK3.out; omega⟩, ⟨by (with_reducible repeat (first | apply Kd.S_alloc | apply Kd.S_drewN | apply Kd.S_drew)); exact HO_4.out⟩, ⟨by (with_reducible repeat (first | apply Kd.R_alloc | apply Kd.R_drewN | apply Kd.R_drew)); exact HO_113004.out⟩, ⟨by (with_reducible repeat (first | apply Kd.R_alloc | apply Kd.R_drewN | apply Kd.R_drew)); exact HO_113005.out⟩, ⟨by (with_reducible repeat (first | refine blk_drewN ?_ _ | refine blk_drew ?_ | refine blk_alloc ?_ _)); exact BK112.out⟩, ⟨by repeat (first | (with_reducible first | exact HB.out | apply below_alloc | apply pw_below_drewN | apply below_drew1 | refine below_set ?_ GE112.out) | exact HB.out)⟩⟩
                                                      · rw [if_neg c69] at H
                                                        exact absurd H (by simp)
                                                    · rw [if_neg c68] at H
                                                      exact absurd H (by simp)
                                                  · rw [if_neg c66] at H
                                                    have c66b0 : decide (0 ≤ x12_3) = false := decide_eq_false c66
                                                    clear c66
                                                    by_cases c70 : x113005_2.length < 17592186044416
                                                    · rw [if_pos c70] at H
                                                      have LMc70 := Aside0.mk c70
                                                      clear c70
                                                      obtain ⟨y129, hy129⟩ : ∃ y_ : List Int, y_ = (x113005_2 ++ [wrap64 (x11_3)]) := ⟨_, rfl⟩
                                                      replace H : (haymowref18_Read.l1 k3 l0 x4_1 (wrap64 (x5_2 + 8)) (wrap64 (rd l0 (ji43))) (wrap64 (x10_2 + 1)) (wrap64 (rd l0 x5_1)) 0 0 0 y121 y129) = some (r1, r2) := by first | (rw [hy129]; with_reducible exact H) | (have H2_ := (Option.bind_some _ _).symm.trans H; rw [hy129]; with_reducible exact H2_) | (have H2_ := (Option.bind_some _ _).symm.trans H; with_reducible exact H2_) | with_reducible exact H | (rw [hy129]; exact H) | exact H
                                                      have Ny129 := Aside0.mk hy129
                                                      clear hy129
                                                      have H' := Aside0.mk H
                                                      clear H
                                                      have hcz71_0 : wr.cell? ⟨gb112, 0, none⟩ = some (.int .i64 (wrap64 (rd l0 x5_1))) := (blk_cell BK112.out 0).trans rfl
                                                      have hcz71_1 : wr.cell? ⟨gb112, 1, none⟩ = some (.int .i64 0) := (blk_cell BK112.out 1).trans rfl
                                                      have hcz71_2 : wr.cell? ⟨gb112, 2, none⟩ = some (.int .i64 0) := (blk_cell BK112.out 2).trans rfl
                                                      have hcz71_3 : wr.cell? ⟨gb112, 3, none⟩ = some (.int .i64 0) := (blk_cell BK112.out 3).trans rfl
                                                      have hcz71_4 : wr.cell? ⟨gb112, 4, none⟩ = some (.slice Ao63 y121.length co63) := (blk_cell BK112.out 4).trans rfl
                                                      have hcz71_5 : wr.cell? ⟨gb112, 5, none⟩ = some (u113005) := (blk_cell BK112.out 5).trans rfl
                                                      have hfz71_0 := blk_frozen BK112.out 0
                                                      have hfz71_1 := blk_frozen BK112.out 1
                                                      have hfz71_2 := blk_frozen BK112.out 2
                                                      have hfz71_3 := blk_frozen BK112.out 3
                                                      have hfz71_4 := blk_frozen BK112.out 4
                                                      have hfz71_5 := blk_frozen BK112.out 5
                                                      go_wp2_with (first | ((with_reducible refine gate_builtin (b := .append) (xs := #[.tmp 121, .tmp 124]) rfl ?_); at_builtin; refine Kd.R_append (Kd.int .i64) (w0 := w) w.heap.size rfl (.tmp 121) (.tmp 124) 31 2 (.int .i64 0) 8 rfl Try.underlying31 info2 rfl (by decide) (by omega) u113005 x113005_2 (wrap64 (x11_3)) [.int .i64 (wrap64 (x11_3))] (fun _ => True) (fun _ => False) rfl rfl ?aP (fun _ hk => hk.elim) ?aF ?aO ?aB ?aS ?aL ?_; (case aP => exact rfl); (case aB => exact (by repeat (first | (with_reducible first | exact HB.out | apply below_alloc | apply pw_below_drewN | apply below_drew1 | refine below_set ?_ GE112.out) | exact HB.out))); (case aF => exact (fun _ _ => trivial)); (case aO => exact (by (with_reducible repeat (first | apply Kd.R_alloc | apply Kd.R_drewN | apply Kd.R_drew)); exact HO_113005.out)); (case aS => exact (below_size (by repeat (first | (with_reducible first | exact HB.out | apply below_alloc | apply pw_below_drewN | apply below_drew1 | refine below_set ?_ GE112.out) | exact HB.out)))); (case aL => have := LMc70.out; omega); intro v130 w72 ho hb hg hat; rw [← Ny129.out] at ho; have n0_ := Aside0.mk (Kd.S_after (ok := (fun k_ => some k_ ≠ (.slice Ao63 y121.length co63 : Value).ownBlock ∧ k_ ≠ gb112)) (by (with_reducible repeat (first | apply Kd.S_alloc | apply Kd.S_drewN | apply Kd.S_drew)); exact Kd.S_mono HO_4.out (fun _ hk => ⟨⟨hk.1, hk.2.2⟩, hk.2.1⟩)) hg hat); have n1_ := Aside0.mk (Kd.R_over' (by (with_reducible repeat (first | apply Kd.R_alloc | apply Kd.R_drewN | apply Kd.R_drew)); exact HO_113004.out) (Kd.R_typed (by (with_reducible repeat (first | apply Kd.R_alloc | apply Kd.R_drewN | apply Kd.R_drew)); exact HO_113005.out)) (by decide) hg); have n2_ := Aside0.mk (blk_grown (g := gb112) (o := .cells #[.int .i64 (wrap64 (rd l0 x5_1)), .int .i64 0, .int .i64 0, .int .i64 0, .slice Ao63 y121.length co63, u113005] 33 (0, 0)) (by (with_reducible repeat (first | refine blk_drewN ?_ _ | refine blk_drew ?_ | refine blk_alloc ?_ _)); exact BK112.out) hg (Kd.R_ne HO_113005.out BK112.out (by decide))); have n3_ := Aside0.mk (hb); have n4_ := Aside0.mk (ho); clear HO_4; clear HO_113004; clear BK112; clear HB; clear HO_113005; have HO_4 := n0_; have HO_113004 := n1_; have BK112 := n2_; have HB := n3_; have HO131 := n4_; clear n0_ n1_ n2_ n3_ n4_; clear ho hb hg hat; obtain ⟨Ao73, co73, eo73⟩ := Kd.R_slice HO131.out; subst eo73; have hcz74_0 : w72.cell? ⟨gb112, 0, none⟩ = some (.int .i64 (wrap64 (rd l0 x5_1))) := (blk_cell BK112.out 0).trans rfl; have hcz74_1 : w72.cell? ⟨gb112, 1, none⟩ = some (.int .i64 0) := (blk_cell BK112.out 1).trans rfl; have hcz74_2 : w72.cell? ⟨gb112, 2, none⟩ = some (.int .i64 0) := (blk_cell BK112.out 2).trans rfl; have hcz74_3 : w72.cell? ⟨gb112, 3, none⟩ = some (.int .i64 0) := (blk_cell BK112.out 3).trans rfl; have hcz74_4 : w72.cell? ⟨gb112, 4, none⟩ = some (.slice Ao63 y121.length co63) := (blk_cell BK112.out 4).trans rfl; have hcz74_5 : w72.cell? ⟨gb112, 5, none⟩ = some (u113005) := (blk_cell BK112.out 5).trans rfl; have hfz74_0 := blk_frozen BK112.out 0; have hfz74_1 := blk_frozen BK112.out 1; have hfz74_2 := blk_frozen BK112.out 2; have hfz74_3 := blk_frozen BK112.out 3; have hfz74_4 := blk_frozen BK112.out 4; have hfz74_5 := blk_frozen BK112.out 5))
                                                      go_roundg k3
                                                      case measure => have := HK1.out; have := HK2.out; have := HK3.out; omega
                                                      case rel => exact ⟨(wrap64 (x5_2 + 8)), (wrap64 (x10_2 + 1)), (y129), (.slice Ao73 y129.length co73), (by first | rfl | (simp; done) | (simp [*]; done)), (by first | rfl | (simp; done) | (simp [*]; done)), H', ⟨by have := HK1.out; have := HK2.out; have := HK3.out; omega⟩, ⟨by (with_reducible repeat (first | apply Kd.S_alloc | apply Kd.S_drewN | apply Kd.S_drew)); exact Kd.S_mono (Kd.S_far (p := ⟨gb112, 5, none⟩) (Kd.S_mono HO_4.out (fun k_ hk => (⟨hk, hk.1.2⟩ : _ ∧ k_ ≠ gb112))) (fun _ hk => hk.2) (.slice Ao73 y129.length co73)) (fun _ hk => ⟨hk.1.1.1, ⟨hk.1.2, hk.1.1.2⟩⟩)⟩, ⟨by (with_reducible repeat (first | apply Kd.R_alloc | apply Kd.R_drewN | apply Kd.R_drew)); exact Kd.R_mono (Kd.R_far (p := ⟨gb112, 5, none⟩) (Kd.R_types HO_113004.out BK112.out (by decide)) (fun _ hk => hk.2) (.slice Ao73 y129.length co73)) (fun _ hk => trivial)⟩, ⟨by (with_reducible repeat (first | apply Kd.R_alloc | apply Kd.R_drewN | apply Kd.R_drew)); exact Kd.R_mono (Kd.R_far (p := ⟨gb112, 5, none⟩) (Kd.R_types HO131.out BK112.out (by decide)) (fun _ hk => hk.2) (.slice Ao73 y129.length co73)) (fun _ hk => trivial)⟩, ⟨by (with_reducible repeat (first | refine blk_drewN ?_ _ | refine blk_drew ?_ | refine blk_alloc ?_ _)); refine blk_put (cs := #[.int .i64 (wrap64 (rd l0 x5_1)), .int .i64 0, .int .i64 0, .int .i64 0, .slice Ao63 y121.length co63, u113005]) ?_ 5 _ rfl; (with_reducible repeat (first | refine blk_drewN ?_ _ | refine blk_drew ?_ | refine blk_alloc ?_ _)); exact BK112.out⟩, ⟨by repeat (first | (with_reducible first | exact HB.out | apply below_alloc | apply pw_below_drewN | apply below_drew1 | refine below_set ?_ GE112.out) | exact HB.out)⟩⟩
                                                    · rw [if_neg c70] at H
                                                      exact absurd H (by simp)
                                            · rw [if_neg c65] at H
                                              have c65b0 : decide (x10_2 < (wrap64 (rd l0 (ji43)))) = false := decide_eq_false c65
                                              clear c65
                                              by_cases c75 : x4_1.length < 1759218604441
                                              · rw [if_pos c75] at H
                                                have LMc75 := Aside0.mk c75
                                                clear c75
                                                obtain ⟨y125, hy125⟩ : ∃ y_ : List (S33), y_ = (x4_1 ++ [(⟨(wrap64 (rd l0 x5_1)), 0, 0, 0, y121, x113005_2⟩ : S33)]) := ⟨_, rfl⟩
                                                replace H : (haymowref18_Read.l0 k2 l0 y125 x5_2) = some (r1, r2) := by first | (rw [hy125]; with_reducible exact H) | (have H2_ := (Option.bind_some _ _).symm.trans H; rw [hy125]; with_reducible exact H2_) | (have H2_ := (Option.bind_some _ _).symm.trans H; with_reducible exact H2_) | with_reducible exact H | (rw [hy125]; exact H) | exact H
                                                have Ny125 := Aside0.mk hy125
                                                clear hy125
                                                have H' := Aside0.mk H
                                                clear H
                                                have hcz76_0 : wr.cell? ⟨gb112, 0, none⟩ = some (.int .i64 (wrap64 (rd l0 x5_1))) := (blk_cell BK112.out 0).trans rfl
                                                have hcz76_1 : wr.cell? ⟨gb112, 1, none⟩ = some (.int .i64 0) := (blk_cell BK112.out 1).trans rfl
                                                have hcz76_2 : wr.cell? ⟨gb112, 2, none⟩ = some (.int .i64 0) := (blk_cell BK112.out 2).trans rfl
                                                have hcz76_3 : wr.cell? ⟨gb112, 3, none⟩ = some (.int .i64 0) := (blk_cell BK112.out 3).trans rfl
                                                have hcz76_4 : wr.cell? ⟨gb112, 4, none⟩ = some (.slice Ao63 y121.length co63) := (blk_cell BK112.out 4).trans rfl
                                                have hcz76_5 : wr.cell? ⟨gb112, 5, none⟩ = some (u113005) := (blk_cell BK112.out 5).trans rfl
                                                have hfz76_0 := blk_frozen BK112.out 0
                                                have hfz76_1 := blk_frozen BK112.out 1
                                                have hfz76_2 := blk_frozen BK112.out 2
                                                have hfz76_3 := blk_frozen BK112.out 3
                                                have hfz76_4 := blk_frozen BK112.out 4
                                                have hfz76_5 := blk_frozen BK112.out 5
                                                obtain ⟨Ao78, co78, eo78⟩ := Kd.R_slice HO_113005.out
                                                subst eo78
                                                go_wp2_with (first | ((with_reducible refine gate_builtin (b := .append) (xs := #[.tmp 165, .tmp 167]) rfl ?_); at_builtin; refine Kd.S_append k33 (w0 := w) w.heap.size rfl (.tmp 165) (.tmp 167) 22 33 (.agg #[(.int .i64 0), (.int .i64 0), (.int .i64 0), (.int .i64 0), (.slice none 0 0), (.slice none 0 0)]) 80 rfl Try.underlying22 info33 rfl (by decide) (by omega) u4 x4_1 (⟨(wrap64 (rd l0 x5_1)), 0, 0, 0, y121, x113005_2⟩ : S33) [.int .i64 (wrap64 (rd l0 x5_1)), .int .i64 0, .int .i64 0, .int .i64 0, .slice Ao63 y121.length co63, .slice Ao78 x113005_2.length co78] (fun k_ => k_ ≠ gb112) (fun k_ => some k_ = (.slice Ao63 y121.length co63 : Value).ownBlock ∨ some k_ = (.slice Ao78 x113005_2.length co78 : Value).ownBlock) rfl rfl ?aP (fun k_ hk_ => hk_.elim (fun h_ => ((Kd.R_mono (ok' := fun k_ => ((fun k_ => k_ ≠ gb112)) k_ ∧ some k_ ≠ (u4 : Value).ownBlock) (Kd.R_types (Kd.R_apart' (HO_113004.out) (Kd.S_typed HO_4.out) (by decide)) BK112.out (by decide)) (fun k_ hk => ⟨hk.2, hk.1.2⟩))).1 k_ h_.symm) (fun h_ => ((Kd.R_mono (ok' := fun k_ => ((fun k_ => k_ ≠ gb112)) k_ ∧ some k_ ≠ (u4 : Value).ownBlock) (Kd.R_types (Kd.R_apart' (HO_113005.out) (Kd.S_typed HO_4.out) (by decide)) BK112.out (by decide)) (fun k_ hk => ⟨hk.2, hk.1.2⟩))).1 k_ h_.symm)) ?aF ?aO ?aB ?aS ?aL ?_; (case aP => exact k33_mkM _ _ _ (⟨(wrap64 (rd l0 x5_1)), 0, 0, 0, y121, x113005_2⟩ : S33) (Kd.R_mono (Kd.R_tight rfl (Kd.R_mono (ok' := fun k_ => ((fun k_ => k_ ≠ gb112)) k_ ∧ some k_ ≠ (u4 : Value).ownBlock) (Kd.R_types (Kd.R_apart' (HO_113004.out) (Kd.S_typed HO_4.out) (by decide)) BK112.out (by decide)) (fun k_ hk => ⟨hk.2, hk.1.2⟩))) (fun _ h_ => Or.inl h_)) (Kd.R_mono (Kd.R_tight rfl (Kd.R_mono (ok' := fun k_ => ((fun k_ => k_ ≠ gb112)) k_ ∧ some k_ ≠ (u4 : Value).ownBlock) (Kd.R_types (Kd.R_apart' (HO_113005.out) (Kd.S_typed HO_4.out) (by decide)) BK112.out (by decide)) (fun k_ hk => ⟨hk.2, hk.1.2⟩))) (fun _ h_ => Or.inr (h_)))); (case aB => exact (by repeat (first | (with_reducible first | exact HB.out | apply below_alloc | apply pw_below_drewN | apply below_drew1 | refine below_set ?_ GE112.out) | exact HB.out))); (case aF => exact (fun k_ hk => Kd.freshB (g := gb112) (o := .cells #[.int .i64 (wrap64 (rd l0 x5_1)), .int .i64 0, .int .i64 0, .int .i64 0, .slice Ao63 y121.length co63, .slice Ao78 x113005_2.length co78] 33 (0, 0)) (by (with_reducible repeat (first | refine blk_drewN ?_ _ | refine blk_drew ?_ | refine blk_alloc ?_ _)); exact BK112.out) k_ hk)); (case aO => exact (by (with_reducible repeat (first | apply Kd.S_alloc | apply Kd.S_drewN | apply Kd.S_drew)); exact Kd.S_mono HO_4.out (fun k_ hk => ⟨hk.2.2, fun e_ => e_.elim (fun h_ => hk.1 h_) (fun h_ => hk.2.1 h_)⟩))); (case aS => exact (below_size (by repeat (first | (with_reducible first | exact HB.out | apply below_alloc | apply pw_below_drewN | apply below_drew1 | refine below_set ?_ GE112.out) | exact HB.out)))); (case aL => have := LMc75.out; omega); intro v126 w77 ho hb hg hat; rw [← Ny125.out] at ho; have n0_ := Aside0.mk (blk_grown (g := gb112) (o := .cells #[.int .i64 (wrap64 (rd l0 x5_1)), .int .i64 0, .int .i64 0, .int .i64 0, .slice Ao63 y121.length co63, .slice Ao78 x113005_2.length co78] 33 (0, 0)) (by (with_reducible repeat (first | refine blk_drewN ?_ _ | refine blk_drew ?_ | refine blk_alloc ?_ _)); exact BK112.out) hg (Kd.S_away HO_4.out (fun _ hk => hk.2.2))); have n1_ := Aside0.mk (hb); have n2_ := Aside0.mk (ho); clear BK112; clear HB; clear HO_4; clear HO_113004; clear HO_113005; have BK112 := n0_; have HB := n1_; have HO127 := n2_; clear n0_ n1_ n2_; clear ho hb hg hat))
                                                go_roundg k2
                                                case measure => have := HK1.out; have := HK2.out; omega
                                                case rel => exact ⟨(y125), (x5_2), (by first | rfl | (simp; done) | (simp [*]; done)), H', ⟨by have := HK1.out; have := HK2.out; omega⟩, ⟨by (with_reducible repeat (first | apply Kd.S_alloc | apply Kd.S_drewN | apply Kd.S_drew)); exact Kd.S_mono HO127.out (fun _ hk => trivial)⟩, ⟨by repeat (first | (with_reducible first | exact HB.out | apply below_alloc | apply pw_below_drewN | apply below_drew1 | refine below_set ?_ GE112.out) | exact HB.out)⟩⟩
                                              · rw [if_neg c75] at H
                                                exact absurd H (by simp)
                                    · rw [if_neg c45] at H
                                      exact absurd H (by simp)
                                  · rw [if_neg c44] at H
                                    exact absurd H (by simp)
                                · rw [if_neg c42] at H
                                  exact absurd H (by simp)
                              · rw [if_neg c41] at H
                                exact absurd H (by simp)
                            · rw [if_neg c40] at H
                              exact absurd H (by simp)
                          · rw [if_neg c39] at H
                            exact absurd H (by simp)
                      · rw [if_neg c32] at H
                        exact absurd H (by simp)
                    · rw [if_neg c31] at H
                      exact absurd H (by simp)
                  · rw [if_neg c29] at H
                    exact absurd H (by simp)
                · rw [if_neg c28] at H
                  exact absurd H (by simp)
            · rw [if_neg c23] at H
              have c23b0 : ((wrap64 (rd l0 x5_1)) == 2) = false := beq_eq_false_iff_ne.mpr c23
              have c23b1 : ((wrap64 (rd l0 x5_1)) != 2) = true := bne_iff_ne.mpr c23
              have HC79 := Aside0.mk H
              clear H
              have p111 : 0 ≤ (x5_1 : Int) := of_decide_eq_true (by first | (with_reducible assumption) | assumption)
              have q111 : x5_1 < (l0.length : Int) := of_decide_eq_true (by first | (with_reducible assumption) | assumption)
              obtain ⟨ad111, e111, hx111_0⟩ := Kd.at_int HR0.out x5_1 p111 q111
              cases e111
              replace hx111_0 := (HB.out.cell (World.block_lt_of_cell? w _ hx111_0)).trans hx111_0
              replace p111 := eq_true p111
              replace q111 := eq_true q111
              go_upto_if 129 with (first | ((with_reducible refine gate_dst (N := 6) rfl ?_); refine box_event ?hg (N := 6) ?hd (cs := #[.int .i64 0, .int .i64 0, .int .i64 0, .int .i64 0, .slice none 0 0, .slice none 0 0]) (t := 33) ?hr ?_; (case hd => rfl); (case hg => rfl); (case hr => first | (go_simp; done) | (go_simp; rfl)); intro gb112 hg w80 hbox hb; have n0_ := Aside0.mk (Kd.S_below (Kd.S_elderB (by (with_reducible repeat (first | apply Kd.S_alloc | apply Kd.S_drewN | apply Kd.S_drew)); exact HO_4.out) gb112 (Nat.le_of_eq hg.symm)) hb); have n1_ := Aside0.mk (below_step (by repeat (first | (with_reducible first | exact HB.out | apply below_alloc | apply pw_below_drewN | apply below_drew1) | exact HB.out)) hb); have n2_ := Aside0.mk (hbox); have n3_ := Aside0.mk ((by rw [hg]; exact (below_size (by repeat (first | (with_reducible first | exact HB.out | apply below_alloc | apply pw_below_drewN | apply below_drew1) | exact HB.out))) : w.heap.size ≤ gb112)); have n4_ := Aside0.mk ((by rw [hg]; exact (below_size (by repeat (first | (with_reducible first | exact HB.out | apply below_alloc | apply pw_below_drewN | apply below_drew1) | exact HB.out))) : w.heap.size ≤ gb112)); clear HO_4; clear HB; have HO_4 := n0_; have HB := n1_; have BK112 := n2_; have GW112 := n3_; have GE112 := n4_; clear n0_ n1_ n2_ n3_ n4_; clear hb hbox hg; have hcz81_0 : w80.cell? ⟨gb112, 0, none⟩ = some (.int .i64 0) := (blk_cell BK112.out 0).trans rfl; have hcz81_1 : w80.cell? ⟨gb112, 1, none⟩ = some (.int .i64 0) := (blk_cell BK112.out 1).trans rfl; have hcz81_2 : w80.cell? ⟨gb112, 2, none⟩ = some (.int .i64 0) := (blk_cell BK112.out 2).trans rfl; have hcz81_3 : w80.cell? ⟨gb112, 3, none⟩ = some (.int .i64 0) := (blk_cell BK112.out 3).trans rfl; have hcz81_4 : w80.cell? ⟨gb112, 4, none⟩ = some (.slice none 0 0) := (blk_cell BK112.out 4).trans rfl; have hcz81_5 : w80.cell? ⟨gb112, 5, none⟩ = some (.slice none 0 0) := (blk_cell BK112.out 5).trans rfl; have hfz81_0 := blk_frozen BK112.out 0; have hfz81_1 := blk_frozen BK112.out 1; have hfz81_2 := blk_frozen BK112.out 2; have hfz81_3 := blk_frozen BK112.out 3; have hfz81_4 := blk_frozen BK112.out 4; have hfz81_5 := blk_frozen BK112.out 5))
              (try simp only [Act.put, List.setIfInBounds_toArray, List.set_cons_zero, List.set_cons_succ])
              go_cut [129] (fun v129 wc => ∃ (kq : Nat) (x129_78 : Bool), v129 = .bool x129_78 ∧ Aside0 (haymowref18_Read.j3 kq l0 x4_1 (wrap64 (x5_1 + 1)) (wrap64 ((l0.length : Int) - (wrap64 (x5_1 + 1)))) (wrap64 (rd l0 x5_1)) x129_78 (wrap64 (rd l0 x5_1)) 0 0 0 = some (r1, r2)) ∧ Aside0 (kq ≤ k1) ∧ Aside0 (Kd.S k33 33 wc w.heap.size (fun k_ => k_ ≠ gb112) u4 x4_1) ∧ Aside0 (wc.heap[gb112]? = some (.cells #[.int .i64 (wrap64 (rd l0 x5_1)), .int .i64 0, .int .i64 0, .int .i64 0, (.slice none 0 0), (.slice none 0 0)] 33 (0, 0))) ∧ Aside0 (Below w.heap.size w wc))
              case first =>
                have H := HC79.out
                clear HC79
                by_cases c82 : (wrap64 (rd l0 x5_1)) = 3
                · rw [if_pos c82] at H
                  have c82b0 : ((wrap64 (rd l0 x5_1)) == 3) = true := beq_iff_eq.mpr c82
                  have c82b1 : ((wrap64 (rd l0 x5_1)) != 3) = false := bne_eq_false_iff_eq.mpr c82
                  clear c82
                  (first | rw [c82b0] | (simp only [i64_w, i32_w]; rw [c82b0]) | skip)
                  have H' := Aside0.mk H
                  clear H
                  go_wp2
                  go_meet
                  case rel => exact ⟨_, (((wrap64 (rd l0 x5_1)) == 3)), (by first | rfl | (simp; done) | (simp [*]; done)), H', ⟨by have := HK1.out; first | omega | exact Nat.le_refl _⟩, ⟨by (with_reducible repeat (first | apply Kd.S_alloc | apply Kd.S_drewN | apply Kd.S_drew)); exact Kd.S_mono (Kd.S_far (p := ⟨gb112, 5, none⟩) (Kd.S_far (p := ⟨gb112, 4, none⟩) (Kd.S_far (p := ⟨gb112, 3, none⟩) (Kd.S_far (p := ⟨gb112, 2, none⟩) (Kd.S_far (p := ⟨gb112, 1, none⟩) (Kd.S_far (p := ⟨gb112, 0, none⟩) (Kd.S_mono HO_4.out (fun k_ hk => (⟨hk, hk.2⟩ : _ ∧ k_ ≠ gb112))) (fun _ hk => hk.2) (.int .i64 (wrap64 (rd l0 x5_1)))) (fun _ hk => hk.2) (.int .i64 0)) (fun _ hk => hk.2) (.int .i64 0)) (fun _ hk => hk.2) (.int .i64 0)) (fun _ hk => hk.2) (.slice none 0 0)) (fun _ hk => hk.2) (.slice none 0 0)) (fun _ hk => hk.1.2)⟩, ⟨by (with_reducible repeat (first | refine blk_drewN ?_ _ | refine blk_drew ?_ | refine blk_alloc ?_ _)); refine blk_put (cs := #[.int .i64 (wrap64 (rd l0 x5_1)), .int .i64 0, .int .i64 0, .int .i64 0, .slice none 0 0, .slice none 0 0]) ?_ 5 _ rfl; (with_reducible repeat (first | refine blk_drewN ?_ _ | refine blk_drew ?_ | refine blk_alloc ?_ _)); refine blk_put (cs := #[.int .i64 (wrap64 (rd l0 x5_1)), .int .i64 0, .int .i64 0, .int .i64 0, .slice none 0 0, .slice none 0 0]) ?_ 4 _ rfl; (with_reducible repeat (first | refine blk_drewN ?_ _ | refine blk_drew ?_ | refine blk_alloc ?_ _)); refine blk_put (cs := #[.int .i64 (wrap64 (rd l0 x5_1)), .int .i64 0, .int .i64 0, .int .i64 0, .slice none 0 0, .slice none 0 0]) ?_ 3 _ rfl; (with_reducible repeat (first | refine blk_drewN ?_ _ | refine blk_drew ?_ | refine blk_alloc ?_ _)); refine blk_put (cs := #[.int .i64 (wrap64 (rd l0 x5_1)), .int .i64 0, .int .i64 0, .int .i64 0, .slice none 0 0, .slice none 0 0]) ?_ 2 _ rfl; (with_reducible repeat (first | refine blk_drewN ?_ _ | refine blk_drew ?_ | refine blk_alloc ?_ _)); refine blk_put (cs := #[.int .i64 (wrap64 (rd l0 x5_1)), .int .i64 0, .int .i64 0, .int .i64 0, .slice none 0 0, .slice none 0 0]) ?_ 1 _ rfl; (with_reducible repeat (first | refine blk_drewN ?_ _ | refine blk_drew ?_ | refine blk_alloc ?_ _)); refine blk_put (cs := #[.int .i64 0, .int .i64 0, .int .i64 0, .int .i64 0, .slice none 0 0, .slice none 0 0]) ?_ 0 _ rfl; (with_reducible repeat (first | refine blk_drewN ?_ _ | refine blk_drew ?_ | refine blk_alloc ?_ _)); exact BK112.out⟩, ⟨by repeat (first | (with_reducible first | exact HB.out | apply below_alloc | apply pw_below_drewN | apply below_drew1 | refine below_set ?_ GE112.out) | exact HB.out)⟩⟩
                · rw [if_neg c82] at H
                  have c82b0 : ((wrap64 (rd l0 x5_1)) == 3) = false := beq_eq_false_iff_ne.mpr c82
                  have c82b1 : ((wrap64 (rd l0 x5_1)) != 3) = true := bne_iff_ne.mpr c82
                  (first | rw [c82b0] | (simp only [i64_w, i32_w]; rw [c82b0]) | skip)
                  have H' := Aside0.mk H
                  clear H
                  go_wp2
                  go_meet
                  case rel => exact ⟨_, (((wrap64 (rd l0 x5_1)) == 4)), (by first | rfl | (simp; done) | (simp [*]; done)), H', ⟨by have := HK1.out; first | omega | exact Nat.le_refl _⟩, ⟨by (with_reducible repeat (first | apply Kd.S_alloc | apply Kd.S_drewN | apply Kd.S_drew)); exact Kd.S_mono (Kd.S_far (p := ⟨gb112, 5, none⟩) (Kd.S_far (p := ⟨gb112, 4, none⟩) (Kd.S_far (p := ⟨gb112, 3, none⟩) (Kd.S_far (p := ⟨gb112, 2, none⟩) (Kd.S_far (p := ⟨gb112, 1, none⟩) (Kd.S_far (p := ⟨gb112, 0, none⟩) (Kd.S_mono HO_4.out (fun k_ hk => (⟨hk, hk.2⟩ : _ ∧ k_ ≠ gb112))) (fun _ hk => hk.2) (.int .i64 (wrap64 (rd l0 x5_1)))) (fun _ hk => hk.2) (.int .i64 0)) (fun _ hk => hk.2) (.int .i64 0)) (fun _ hk => hk.2) (.int .i64 0)) (fun _ hk => hk.2) (.slice none 0 0)) (fun _ hk => hk.2) (.slice none 0 0)) (fun _ hk => hk.1.2)⟩, ⟨by (with_reducible repeat (first | refine blk_drewN ?_ _ | refine blk_drew ?_ | refine blk_alloc ?_ _)); refine blk_put (cs := #[.int .i64 (wrap64 (rd l0 x5_1)), .int .i64 0, .int .i64 0, .int .i64 0, .slice none 0 0, .slice none 0 0]) ?_ 5 _ rfl; (with_reducible repeat (first | refine blk_drewN ?_ _ | refine blk_drew ?_ | refine blk_alloc ?_ _)); refine blk_put (cs := #[.int .i64 (wrap64 (rd l0 x5_1)), .int .i64 0, .int .i64 0, .int .i64 0, .slice none 0 0, .slice none 0 0]) ?_ 4 _ rfl; (with_reducible repeat (first | refine blk_drewN ?_ _ | refine blk_drew ?_ | refine blk_alloc ?_ _)); refine blk_put (cs := #[.int .i64 (wrap64 (rd l0 x5_1)), .int .i64 0, .int .i64 0, .int .i64 0, .slice none 0 0, .slice none 0 0]) ?_ 3 _ rfl; (with_reducible repeat (first | refine blk_drewN ?_ _ | refine blk_drew ?_ | refine blk_alloc ?_ _)); refine blk_put (cs := #[.int .i64 (wrap64 (rd l0 x5_1)), .int .i64 0, .int .i64 0, .int .i64 0, .slice none 0 0, .slice none 0 0]) ?_ 2 _ rfl; (with_reducible repeat (first | refine blk_drewN ?_ _ | refine blk_drew ?_ | refine blk_alloc ?_ _)); refine blk_put (cs := #[.int .i64 (wrap64 (rd l0 x5_1)), .int .i64 0, .int .i64 0, .int .i64 0, .slice none 0 0, .slice none 0 0]) ?_ 1 _ rfl; (with_reducible repeat (first | refine blk_drewN ?_ _ | refine blk_drew ?_ | refine blk_alloc ?_ _)); refine blk_put (cs := #[.int .i64 0, .int .i64 0, .int .i64 0, .int .i64 0, .slice none 0 0, .slice none 0 0]) ?_ 0 _ rfl; (with_reducible repeat (first | refine blk_drewN ?_ _ | refine blk_drew ?_ | refine blk_alloc ?_ _)); exact BK112.out⟩, ⟨by repeat (first | (with_reducible first | exact HB.out | apply below_alloc | apply pw_below_drewN | apply below_drew1 | refine below_set ?_ GE112.out) | exact HB.out)⟩⟩
              case rest =>
                clear HC79
                try clear p1
                try clear q1
                try clear hx1
                try clear c2
                try clear p2
                try clear c3
                try clear c4
                try clear c6
                try clear p6
                try clear c7
                try clear c8
                try clear p11
                try clear q11
                try clear hx11
                try clear p12
                try clear q12
                try clear hx12
                try clear c23
                try clear c23b0
                try clear c23b1
                try clear c28
                try clear c29
                try clear c31
                try clear c32
                try clear c39
                try clear c40
                try clear c41
                try clear c42
                try clear c44
                try clear c45
                try clear c46
                try clear c46b0
                try clear p64
                try clear c65
                try clear c65b0
                try clear c66
                try clear c66b0
                try clear c68
                try clear c68b0
                try clear c69
                try clear c69b0
                try clear c70
                try clear c75
                try clear c82
                try clear c82b0
                try clear c82b1
                try clear hcz57_0
                try clear hcz57_1
                try clear hcz57_2
                try clear hcz57_3
                try clear hcz57_4
                try clear hcz57_5
                try clear hcz71_0
                try clear hcz71_1
                try clear hcz71_2
                try clear hcz71_3
                try clear hcz71_4
                try clear hcz71_5
                try clear hcz74_0
                try clear hcz74_1
                try clear hcz74_2
                try clear hcz74_3
                try clear hcz74_4
                try clear hcz74_5
                try clear hcz76_0
                try clear hcz76_1
                try clear hcz76_2
                try clear hcz76_3
                try clear hcz76_4
                try clear hcz76_5
                try clear hcz81_0
                try clear hcz81_1
                try clear hcz81_2
                try clear hcz81_3
                try clear hcz81_4
                try clear hcz81_5
                try clear hfz57_0
                try clear hfz57_1
                try clear hfz57_2
                try clear hfz57_3
                try clear hfz57_4
                try clear hfz57_5
                try clear hfz71_0
                try clear hfz71_1
                try clear hfz71_2
                try clear hfz71_3
                try clear hfz71_4
                try clear hfz71_5
                try clear hfz74_0
                try clear hfz74_1
                try clear hfz74_2
                try clear hfz74_3
                try clear hfz74_4
                try clear hfz74_5
                try clear hfz76_0
                try clear hfz76_1
                try clear hfz76_2
                try clear hfz76_3
                try clear hfz76_4
                try clear hfz76_5
                try clear hfz81_0
                try clear hfz81_1
                try clear hfz81_2
                try clear hfz81_3
                try clear hfz81_4
                try clear hfz81_5
                try clear hx111_0
                try clear hx118_0
                try clear hx119_0
                try clear hx124_0
                try clear hx128_0
                try clear p1
                try clear p11
                try clear p111
                try clear p118
                try clear p119
                try clear p12
                try clear p124
                try clear p128
                try clear p2
                try clear p6
                try clear p64
                try clear q1
                try clear q11
                try clear q111
                try clear q118
                try clear q119
                try clear q12
                try clear q124
                try clear q128
                obtain ⟨kq, x129_78, rfl, HA, HJ78, HO_4, BK112, HB⟩ := hcut
                cases kq with
                | zero => exact absurd HA.out (by simp [haymowref18_Read.j3])
                | succ kj78 =>
                  have H := HA.out
                  clear HA
                  simp only [haymowref18_Read.j3] at H
                  by_cases c83 : x129_78 = true
                  · subst c83
                    have H1 : (if (wrap64 ((l0.length : Int) - (wrap64 (x5_1 + 1)))) < 1 then (some (([] : List (S33)), 2)) else (if 0 ≤ (wrap64 (x5_1 + 1)) then (if (wrap64 (x5_1 + 1)) < (l0.length : Int) then (if x4_1.length < 1759218604441 then (haymowref18_Read.l0 kj78 l0 (x4_1 ++ [(⟨(wrap64 (rd l0 x5_1)), 0, 0, wrap64 (rd l0 (wrap64 (x5_1 + 1))), ([] : List Int), ([] : List Int)⟩ : S33)]) (wrap64 ((wrap64 (x5_1 + 1)) + 1))) else (none)) else (none)) else (none))) = some (r1, r2) := by rw [if_pos rfl] at H; exact H
                    clear H
                    have H := H1
                    clear H1
                    by_cases c84 : (wrap64 ((l0.length : Int) - (wrap64 (x5_1 + 1)))) < 1
                    · rw [if_pos c84] at H
                      have c84b0 : decide ((wrap64 ((l0.length : Int) - (wrap64 (x5_1 + 1)))) < 1) = true := decide_eq_true c84
                      clear c84
                      simp only [Option.some.injEq, Prod.mk.injEq] at H
                      obtain ⟨rfl, rfl⟩ := H
                      go_wp2
                      go_ret2
                      exact ⟨_, by first | rfl | (simp [errW_none, errW_some] <;> rfl) | (simp [*, errW_none, errW_some] <;> rfl), by first | exact Kd.S_nil _ _ _ _ _ | exact Kd.N_nil _ _ _ _ _ | exact Kd.V_nil _ _ _ _ _ | exact Kd.Q_nil _ _ _ _ _ | exact Kd.R_nil _ _ _ _ _, by repeat (first | (with_reducible first | exact HB.out | apply below_alloc | apply pw_below_drewN | apply below_drew1 | refine below_set ?_ GE112.out) | exact HB.out)⟩
                    · rw [if_neg c84] at H
                      have c84b0 : decide ((wrap64 ((l0.length : Int) - (wrap64 (x5_1 + 1)))) < 1) = false := decide_eq_false c84
                      clear c84
                      obtain ⟨ji85, hji85⟩ : ∃ j_ : Int, (wrap64 (x5_1 + 1)) = j_ := ⟨_, rfl⟩
                      replace H : (if 0 ≤ (ji85) then (if (ji85) < (l0.length : Int) then (if x4_1.length < 1759218604441 then (haymowref18_Read.l0 kj78 l0 (x4_1 ++ [(⟨(wrap64 (rd l0 x5_1)), 0, 0, wrap64 (rd l0 (ji85)), ([] : List Int), ([] : List Int)⟩ : S33)]) (wrap64 ((ji85) + 1))) else (none)) else (none)) else (none)) = some (r1, r2) := by first | (rw [hji85] at H; exact H) | (simp only [hji85] at H ⊢; exact H)
                      (try rw [hji85] at c84b0)
                      have hji85w : (IntKind.i64.wrap (x5_1 + 1)) = ji85 := (i64_w _).trans hji85
                      by_cases c86 : 0 ≤ (ji85)
                      · rw [if_pos c86] at H
                        have c86b0 : decide (0 ≤ (ji85)) = true := decide_eq_true c86
                        clear c86
                        by_cases c87 : (ji85) < (l0.length : Int)
                        · rw [if_pos c87] at H
                          have c87b0 : decide ((ji85) < (l0.length : Int)) = true := decide_eq_true c87
                          clear c87
                          by_cases c88 : x4_1.length < 1759218604441
                          · rw [if_pos c88] at H
                            have LMc88 := Aside0.mk c88
                            clear c88
                            obtain ⟨y133, hy133⟩ : ∃ y_ : List (S33), y_ = (x4_1 ++ [(⟨(wrap64 (rd l0 x5_1)), 0, 0, wrap64 (rd l0 (ji85)), ([] : List Int), ([] : List Int)⟩ : S33)]) := ⟨_, rfl⟩
                            replace H : (haymowref18_Read.l0 kj78 l0 y133 (wrap64 ((ji85) + 1))) = some (r1, r2) := by first | (rw [hy133]; with_reducible exact H) | (have H2_ := (Option.bind_some _ _).symm.trans H; rw [hy133]; with_reducible exact H2_) | (have H2_ := (Option.bind_some _ _).symm.trans H; with_reducible exact H2_) | with_reducible exact H | (rw [hy133]; exact H) | exact H
                            have Ny133 := Aside0.mk hy133
                            clear hy133
                            have H' := Aside0.mk H
                            clear H
                            have p132 : 0 ≤ ((ji85) : Int) := of_decide_eq_true (by first | (with_reducible assumption) | assumption)
                            have q132 : (ji85) < (l0.length : Int) := of_decide_eq_true (by first | (with_reducible assumption) | assumption)
                            obtain ⟨ad132, e132, hx132_0⟩ := Kd.at_int HR0.out (ji85) p132 q132
                            obtain rfl : ad111 = ad132 := (by injection e132)
                            replace hx132_0 := (HB.out.cell (World.block_lt_of_cell? w _ hx132_0)).trans hx132_0
                            replace p132 := eq_true p132
                            replace q132 := eq_true q132
                            have hcz89_0 : wc.cell? ⟨gb112, 0, none⟩ = some (.int .i64 (wrap64 (rd l0 x5_1))) := (blk_cell BK112.out 0).trans rfl
                            have hcz89_1 : wc.cell? ⟨gb112, 1, none⟩ = some (.int .i64 0) := (blk_cell BK112.out 1).trans rfl
                            have hcz89_2 : wc.cell? ⟨gb112, 2, none⟩ = some (.int .i64 0) := (blk_cell BK112.out 2).trans rfl
                            have hcz89_3 : wc.cell? ⟨gb112, 3, none⟩ = some (.int .i64 0) := (blk_cell BK112.out 3).trans rfl
                            have hcz89_4 : wc.cell? ⟨gb112, 4, none⟩ = some (.slice none 0 0) := (blk_cell BK112.out 4).trans rfl
                            have hcz89_5 : wc.cell? ⟨gb112, 5, none⟩ = some (.slice none 0 0) := (blk_cell BK112.out 5).trans rfl
                            have hfz89_0 := blk_frozen BK112.out 0
                            have hfz89_1 := blk_frozen BK112.out 1
                            have hfz89_2 := blk_frozen BK112.out 2
                            have hfz89_3 := blk_frozen BK112.out 3
                            have hfz89_4 := blk_frozen BK112.out 4
                            have hfz89_5 := blk_frozen BK112.out 5
                            go_wp2_with (first | ((with_reducible refine gate_builtin (b := .append) (xs := #[.tmp 165, .tmp 167]) rfl ?_); at_builtin; refine Kd.S_append k33 (w0 := w) w.heap.size rfl (.tmp 165) (.tmp 167) 22 33 (.agg #[(.int .i64 0), (.int .i64 0), (.int .i64 0), (.int .i64 0), (.slice none 0 0), (.slice none 0 0)]) 80 rfl Try.underlying22 info33 rfl (by decide) (by omega) u4 x4_1 (⟨(wrap64 (rd l0 x5_1)), 0, 0, wrap64 (rd l0 (ji85)), ([] : List Int), ([] : List Int)⟩ : S33) [.int .i64 (wrap64 (rd l0 x5_1)), .int .i64 0, .int .i64 0, .int .i64 (wrap64 (rd l0 (ji85))), .slice none 0 0, .slice none 0 0] (fun k_ => k_ ≠ gb112) (fun _ => False) rfl (by first | (go_simp; done) | (go_simp; rfl)) ?aP (fun k_ hk_ => hk_.elim) ?aF ?aO ?aB ?aS ?aL ?_; (case aP => exact k33_mkM _ _ _ (⟨(wrap64 (rd l0 x5_1)), 0, 0, wrap64 (rd l0 (ji85)), ([] : List Int), ([] : List Int)⟩ : S33) (Kd.R_nil _ _ _ _ _) (Kd.R_nil _ _ _ _ _)); (case aB => exact (by repeat (first | (with_reducible first | exact HB.out | apply below_alloc | apply pw_below_drewN | apply below_drew1 | refine below_set ?_ GE112.out) | exact HB.out))); (case aF => exact (fun k_ hk => Kd.freshB (g := gb112) (o := .cells #[.int .i64 (wrap64 (rd l0 x5_1)), .int .i64 0, .int .i64 0, .int .i64 (wrap64 (rd l0 (ji85))), .slice none 0 0, .slice none 0 0] 33 (0, 0)) (by (with_reducible repeat (first | refine blk_drewN ?_ _ | refine blk_drew ?_ | refine blk_alloc ?_ _)); refine blk_put (cs := #[.int .i64 (wrap64 (rd l0 x5_1)), .int .i64 0, .int .i64 0, .int .i64 0, .slice none 0 0, .slice none 0 0]) ?_ 3 _ rfl; (with_reducible repeat (first | refine blk_drewN ?_ _ | refine blk_drew ?_ | refine blk_alloc ?_ _)); exact BK112.out) k_ hk)); (case aO => exact (by (with_reducible repeat (first | apply Kd.S_alloc | apply Kd.S_drewN | apply Kd.S_drew)); exact Kd.S_mono (Kd.S_far (p := ⟨gb112, 3, none⟩) (Kd.S_mono HO_4.out (fun k_ hk => (⟨hk, hk⟩ : _ ∧ k_ ≠ gb112))) (fun _ hk => hk.2) (.int .i64 (wrap64 (rd l0 (ji85))))) (fun k_ hk => ⟨hk.1, fun e_ => e_⟩))); (case aS => exact (below_size (by repeat (first | (with_reducible first | exact HB.out | apply below_alloc | apply pw_below_drewN | apply below_drew1 | refine below_set ?_ GE112.out) | exact HB.out)))); (case aL => have := LMc88.out; omega); intro v134 w90 ho hb hg hat; rw [← Ny133.out] at ho; have n0_ := Aside0.mk (blk_grown (g := gb112) (o := .cells #[.int .i64 (wrap64 (rd l0 x5_1)), .int .i64 0, .int .i64 0, .int .i64 (wrap64 (rd l0 (ji85))), .slice none 0 0, .slice none 0 0] 33 (0, 0)) (by (with_reducible repeat (first | refine blk_drewN ?_ _ | refine blk_drew ?_ | refine blk_alloc ?_ _)); refine blk_put (cs := #[.int .i64 (wrap64 (rd l0 x5_1)), .int .i64 0, .int .i64 0, .int .i64 0, .slice none 0 0, .slice none 0 0]) ?_ 3 _ rfl; (with_reducible repeat (first | refine blk_drewN ?_ _ | refine blk_drew ?_ | refine blk_alloc ?_ _)); exact BK112.out) hg (Kd.S_away HO_4.out (fun _ hk => hk))); have n1_ := Aside0.mk (hb); have n2_ := Aside0.mk (ho); clear BK112; clear HB; clear HO_4; have BK112 := n0_; have HB := n1_; have HO135 := n2_; clear n0_ n1_ n2_; clear ho hb hg hat))
                            go_roundg kj78
                            case measure => have := HK1.out; have := HJ78.out; omega
                            case rel => exact ⟨(y133), (wrap64 ((ji85) + 1)), (by first | rfl | (simp; done) | (simp only [← hji85] <;> (first | rfl | simp)) | (simp [*]; done)), H', ⟨by have := HK1.out; have := HJ78.out; omega⟩, ⟨by (with_reducible repeat (first | apply Kd.S_alloc | apply Kd.S_drewN | apply Kd.S_drew)); exact Kd.S_mono HO135.out (fun _ hk => trivial)⟩, ⟨by repeat (first | (with_reducible first | exact HB.out | apply below_alloc | apply pw_below_drewN | apply below_drew1 | refine below_set ?_ GE112.out) | exact HB.out)⟩⟩
                          · rw [if_neg c88] at H
                            exact absurd H (by simp)
                        · rw [if_neg c87] at H
                          exact absurd H (by simp)
                      · rw [if_neg c86] at H
                        exact absurd H (by simp)
                  · replace c83 := Bool.eq_false_iff.mpr c83
                    subst c83
                    have H1 : (if (wrap64 (rd l0 x5_1)) = 5 then (haymowref18_Read.j4 kj78 l0 x4_1 (wrap64 (x5_1 + 1)) (wrap64 ((l0.length : Int) - (wrap64 (x5_1 + 1)))) (wrap64 (rd l0 x5_1)) ((wrap64 (rd l0 x5_1)) == 5) (wrap64 (rd l0 x5_1)) 0 0 0) else (haymowref18_Read.j4 kj78 l0 x4_1 (wrap64 (x5_1 + 1)) (wrap64 ((l0.length : Int) - (wrap64 (x5_1 + 1)))) (wrap64 (rd l0 x5_1)) ((wrap64 (rd l0 x5_1)) == 6) (wrap64 (rd l0 x5_1)) 0 0 0)) = some (r1, r2) := by rw [if_neg (show ¬ (false = true) by decide)] at H; exact H
                    clear H
                    have H := H1
                    clear H1
                    have HC91 := Aside0.mk H
                    clear H
                    go_upto_if 142 with (fail)
                    go_cut [142] (fun v142 wc => ∃ (kq : Nat) (x142_90 : Bool), v142 = .bool x142_90 ∧ Aside0 (haymowref18_Read.j4 kq l0 x4_1 (wrap64 (x5_1 + 1)) (wrap64 ((l0.length : Int) - (wrap64 (x5_1 + 1)))) (wrap64 (rd l0 x5_1)) x142_90 (wrap64 (rd l0 x5_1)) 0 0 0 = some (r1, r2)) ∧ Aside0 (kq ≤ kj78) ∧ Aside0 (Kd.S k33 33 wc w.heap.size (fun k_ => k_ ≠ gb112) u4 x4_1) ∧ Aside0 (wc.heap[gb112]? = some (.cells #[.int .i64 (wrap64 (rd l0 x5_1)), .int .i64 0, .int .i64 0, .int .i64 0, (.slice none 0 0), (.slice none 0 0)] 33 (0, 0))) ∧ Aside0 (Below w.heap.size w wc))
                    case first =>
                      have H := HC91.out
                      clear HC91
                      by_cases c92 : (wrap64 (rd l0 x5_1)) = 5
                      · rw [if_pos c92] at H
                        have c92b0 : ((wrap64 (rd l0 x5_1)) == 5) = true := beq_iff_eq.mpr c92
                        have c92b1 : ((wrap64 (rd l0 x5_1)) != 5) = false := bne_eq_false_iff_eq.mpr c92
                        clear c92
                        (first | rw [c92b0] | (simp only [i64_w, i32_w]; rw [c92b0]) | skip)
                        have H' := Aside0.mk H
                        clear H
                        go_wp2
                        go_meet
                        case rel => exact ⟨_, (((wrap64 (rd l0 x5_1)) == 5)), (by first | rfl | (simp; done) | (simp [*]; done)), H', ⟨by have := HK1.out; have := HJ78.out; first | omega | exact Nat.le_refl _⟩, ⟨by (with_reducible repeat (first | apply Kd.S_alloc | apply Kd.S_drewN | apply Kd.S_drew)); exact HO_4.out⟩, ⟨by (with_reducible repeat (first | refine blk_drewN ?_ _ | refine blk_drew ?_ | refine blk_alloc ?_ _)); exact BK112.out⟩, ⟨by repeat (first | (with_reducible first | exact HB.out | apply below_alloc | apply pw_below_drewN | apply below_drew1 | refine below_set ?_ GE112.out) | exact HB.out)⟩⟩
                      · rw [if_neg c92] at H
                        have c92b0 : ((wrap64 (rd l0 x5_1)) == 5) = false := beq_eq_false_iff_ne.mpr c92
                        have c92b1 : ((wrap64 (rd l0 x5_1)) != 5) = true := bne_iff_ne.mpr c92
                        (first | rw [c92b0] | (simp only [i64_w, i32_w]; rw [c92b0]) | skip)
                        have H' := Aside0.mk H
                        clear H
                        go_wp2
                        go_meet
                        case rel => exact ⟨_, (((wrap64 (rd l0 x5_1)) == 6)), (by first | rfl | (simp; done) | (simp [*]; done)), H', ⟨by have := HK1.out; have := HJ78.out; first | omega | exact Nat.le_refl _⟩, ⟨by (with_reducible repeat (first | apply Kd.S_alloc | apply Kd.S_drewN | apply Kd.S_drew)); exact HO_4.out⟩, ⟨by (with_reducible repeat (first | refine blk_drewN ?_ _ | refine blk_drew ?_ | refine blk_alloc ?_ _)); exact BK112.out⟩, ⟨by repeat (first | (with_reducible first | exact HB.out | apply below_alloc | apply pw_below_drewN | apply below_drew1 | refine below_set ?_ GE112.out) | exact HB.out)⟩⟩
                    case rest =>
                      clear HC91
                      try clear p1
                      try clear q1
                      try clear hx1
                      try clear c2
                      try clear p2
                      try clear c3
                      try clear c4
                      try clear c6
                      try clear p6
                      try clear c7
                      try clear c8
                      try clear c9
                      try clear p11
                      try clear q11
                      try clear hx11
                      try clear p12
                      try clear q12
                      try clear hx12
                      try clear p13
                      try clear q13
                      try clear hx13
                      try clear c23
                      try clear c23b0
                      try clear c23b1
                      try clear c28
                      try clear c29
                      try clear c31
                      try clear c32
                      try clear c39
                      try clear c40
                      try clear c41
                      try clear c42
                      try clear c44
                      try clear c45
                      try clear c46
                      try clear c46b0
                      try clear p64
                      try clear c65
                      try clear c65b0
                      try clear c66
                      try clear c66b0
                      try clear c68
                      try clear c68b0
                      try clear c69
                      try clear c69b0
                      try clear c70
                      try clear c75
                      try clear c82
                      try clear c82b0
                      try clear c82b1
                      try clear c83
                      try clear c84
                      try clear c84b0
                      try clear c86
                      try clear c86b0
                      try clear c87
                      try clear c87b0
                      try clear c88
                      try clear c92
                      try clear c92b0
                      try clear c92b1
                      try clear hcz57_0
                      try clear hcz57_1
                      try clear hcz57_2
                      try clear hcz57_3
                      try clear hcz57_4
                      try clear hcz57_5
                      try clear hcz71_0
                      try clear hcz71_1
                      try clear hcz71_2
                      try clear hcz71_3
                      try clear hcz71_4
                      try clear hcz71_5
                      try clear hcz74_0
                      try clear hcz74_1
                      try clear hcz74_2
                      try clear hcz74_3
                      try clear hcz74_4
                      try clear hcz74_5
                      try clear hcz76_0
                      try clear hcz76_1
                      try clear hcz76_2
                      try clear hcz76_3
                      try clear hcz76_4
                      try clear hcz76_5
                      try clear hcz81_0
                      try clear hcz81_1
                      try clear hcz81_2
                      try clear hcz81_3
                      try clear hcz81_4
                      try clear hcz81_5
                      try clear hcz89_0
                      try clear hcz89_1
                      try clear hcz89_2
                      try clear hcz89_3
                      try clear hcz89_4
                      try clear hcz89_5
                      try clear hfz57_0
                      try clear hfz57_1
                      try clear hfz57_2
                      try clear hfz57_3
                      try clear hfz57_4
                      try clear hfz57_5
                      try clear hfz71_0
                      try clear hfz71_1
                      try clear hfz71_2
                      try clear hfz71_3
                      try clear hfz71_4
                      try clear hfz71_5
                      try clear hfz74_0
                      try clear hfz74_1
                      try clear hfz74_2
                      try clear hfz74_3
                      try clear hfz74_4
                      try clear hfz74_5
                      try clear hfz76_0
                      try clear hfz76_1
                      try clear hfz76_2
                      try clear hfz76_3
                      try clear hfz76_4
                      try clear hfz76_5
                      try clear hfz81_0
                      try clear hfz81_1
                      try clear hfz81_2
                      try clear hfz81_3
                      try clear hfz81_4
                      try clear hfz81_5
                      try clear hfz89_0
                      try clear hfz89_1
                      try clear hfz89_2
                      try clear hfz89_3
                      try clear hfz89_4
                      try clear hfz89_5
                      try clear hx111_0
                      try clear hx118_0
                      try clear hx119_0
                      try clear hx124_0
                      try clear hx128_0
                      try clear hx132_0
                      try clear p1
                      try clear p11
                      try clear p111
                      try clear p118
                      try clear p119
                      try clear p12
                      try clear p124
                      try clear p128
                      try clear p132
                      try clear p2
                      try clear p6
                      try clear p64
                      try clear q1
                      try clear q11
                      try clear q111
                      try clear q118
                      try clear q119
                      try clear q12
                      try clear q124
                      try clear q128
                      try clear q132
                      obtain ⟨kq, x142_90, rfl, HA, HJ90, HO_4, BK112, HB⟩ := hcut
                      cases kq with
                      | zero => exact absurd HA.out (by simp [haymowref18_Read.j4])
                      | succ kj90 =>
                        have H := HA.out
                        clear HA
                        simp only [haymowref18_Read.j4] at H
                        by_cases c93 : x142_90 = true
                        · subst c93
                          have H1 : (if x4_1.length < 1759218604441 then (haymowref18_Read.l0 kj90 l0 (x4_1 ++ [(⟨(wrap64 (rd l0 x5_1)), 0, 0, 0, ([] : List Int), ([] : List Int)⟩ : S33)]) (wrap64 (x5_1 + 1))) else (none)) = some (r1, r2) := by rw [if_pos rfl] at H; exact H
                          clear H
                          have H := H1
                          clear H1
                          by_cases c94 : x4_1.length < 1759218604441
                          · rw [if_pos c94] at H
                            have LMc94 := Aside0.mk c94
                            clear c94
                            obtain ⟨y136, hy136⟩ : ∃ y_ : List (S33), y_ = (x4_1 ++ [(⟨(wrap64 (rd l0 x5_1)), 0, 0, 0, ([] : List Int), ([] : List Int)⟩ : S33)]) := ⟨_, rfl⟩
                            replace H : (haymowref18_Read.l0 kj90 l0 y136 (wrap64 (x5_1 + 1))) = some (r1, r2) := by first | (rw [hy136]; with_reducible exact H) | (have H2_ := (Option.bind_some _ _).symm.trans H; rw [hy136]; with_reducible exact H2_) | (have H2_ := (Option.bind_some _ _).symm.trans H; with_reducible exact H2_) | with_reducible exact H | (rw [hy136]; exact H) | exact H
                            have Ny136 := Aside0.mk hy136
                            clear hy136
                            have H' := Aside0.mk H
                            clear H
                            have hcz95_0 : wc.cell? ⟨gb112, 0, none⟩ = some (.int .i64 (wrap64 (rd l0 x5_1))) := (blk_cell BK112.out 0).trans rfl
                            have hcz95_1 : wc.cell? ⟨gb112, 1, none⟩ = some (.int .i64 0) := (blk_cell BK112.out 1).trans rfl
                            have hcz95_2 : wc.cell? ⟨gb112, 2, none⟩ = some (.int .i64 0) := (blk_cell BK112.out 2).trans rfl
                            have hcz95_3 : wc.cell? ⟨gb112, 3, none⟩ = some (.int .i64 0) := (blk_cell BK112.out 3).trans rfl
                            have hcz95_4 : wc.cell? ⟨gb112, 4, none⟩ = some (.slice none 0 0) := (blk_cell BK112.out 4).trans rfl
                            have hcz95_5 : wc.cell? ⟨gb112, 5, none⟩ = some (.slice none 0 0) := (blk_cell BK112.out 5).trans rfl
                            have hfz95_0 := blk_frozen BK112.out 0
                            have hfz95_1 := blk_frozen BK112.out 1
                            have hfz95_2 := blk_frozen BK112.out 2
                            have hfz95_3 := blk_frozen BK112.out 3
                            have hfz95_4 := blk_frozen BK112.out 4
                            have hfz95_5 := blk_frozen BK112.out 5
                            go_wp2_with (first | ((with_reducible refine gate_builtin (b := .append) (xs := #[.tmp 165, .tmp 167]) rfl ?_); at_builtin; refine Kd.S_append k33 (w0 := w) w.heap.size rfl (.tmp 165) (.tmp 167) 22 33 (.agg #[(.int .i64 0), (.int .i64 0), (.int .i64 0), (.int .i64 0), (.slice none 0 0), (.slice none 0 0)]) 80 rfl Try.underlying22 info33 rfl (by decide) (by omega) u4 x4_1 (⟨(wrap64 (rd l0 x5_1)), 0, 0, 0, ([] : List Int), ([] : List Int)⟩ : S33) [.int .i64 (wrap64 (rd l0 x5_1)), .int .i64 0, .int .i64 0, .int .i64 0, .slice none 0 0, .slice none 0 0] (fun k_ => k_ ≠ gb112) (fun _ => False) rfl rfl ?aP (fun k_ hk_ => hk_.elim) ?aF ?aO ?aB ?aS ?aL ?_; (case aP => exact k33_mkM _ _ _ (⟨(wrap64 (rd l0 x5_1)), 0, 0, 0, ([] : List Int), ([] : List Int)⟩ : S33) (Kd.R_nil _ _ _ _ _) (Kd.R_nil _ _ _ _ _)); (case aB => exact (by repeat (first | (with_reducible first | exact HB.out | apply below_alloc | apply pw_below_drewN | apply below_drew1 | refine below_set ?_ GE112.out) | exact HB.out))); (case aF => exact (fun k_ hk => Kd.freshB (g := gb112) (o := .cells #[.int .i64 (wrap64 (rd l0 x5_1)), .int .i64 0, .int .i64 0, .int .i64 0, .slice none 0 0, .slice none 0 0] 33 (0, 0)) (by (with_reducible repeat (first | refine blk_drewN ?_ _ | refine blk_drew ?_ | refine blk_alloc ?_ _)); exact BK112.out) k_ hk)); (case aO => exact (by (with_reducible repeat (first | apply Kd.S_alloc | apply Kd.S_drewN | apply Kd.S_drew)); exact Kd.S_mono HO_4.out (fun k_ hk => ⟨hk, fun e_ => e_⟩))); (case aS => exact (below_size (by repeat (first | (with_reducible first | exact HB.out | apply below_alloc | apply pw_below_drewN | apply below_drew1 | refine below_set ?_ GE112.out) | exact HB.out)))); (case aL => have := LMc94.out; omega); intro v137 w96 ho hb hg hat; rw [← Ny136.out] at ho; have n0_ := Aside0.mk (blk_grown (g := gb112) (o := .cells #[.int .i64 (wrap64 (rd l0 x5_1)), .int .i64 0, .int .i64 0, .int .i64 0, .slice none 0 0, .slice none 0 0] 33 (0, 0)) (by (with_reducible repeat (first | refine blk_drewN ?_ _ | refine blk_drew ?_ | refine blk_alloc ?_ _)); exact BK112.out) hg (Kd.S_away HO_4.out (fun _ hk => hk))); have n1_ := Aside0.mk (hb); have n2_ := Aside0.mk (ho); clear BK112; clear HB; clear HO_4; have BK112 := n0_; have HB := n1_; have HO138 := n2_; clear n0_ n1_ n2_; clear ho hb hg hat))
                            go_roundg kj90
                            case measure => have := HK1.out; have := HJ78.out; have := HJ90.out; omega
                            case rel => exact ⟨(y136), ((wrap64 (x5_1 + 1))), (by first | rfl | (simp; done) | (simp [*]; done)), H', ⟨by have := HK1.out; have := HJ78.out; have := HJ90.out; omega⟩, ⟨by (with_reducible repeat (first | apply Kd.S_alloc | apply Kd.S_drewN | apply Kd.S_drew)); exact Kd.S_mono HO138.out (fun _ hk => trivial)⟩, ⟨by repeat (first | (with_reducible first | exact HB.out | apply below_alloc | apply pw_below_drewN | apply below_drew1 | refine below_set ?_ GE112.out) | exact HB.out)⟩⟩
                          · rw [if_neg c94] at H
                            exact absurd H (by simp)
                        · replace c93 := Bool.eq_false_iff.mpr c93
                          subst c93
                          have H1 : (if (wrap64 (rd l0 x5_1)) = 7 then (if (wrap64 ((l0.length : Int) - (wrap64 (x5_1 + 1)))) < 2 then (some (([] : List (S33)), 2)) else (if 0 ≤ (wrap64 (x5_1 + 1)) then (if (wrap64 (x5_1 + 1)) < (l0.length : Int) then (if 0 ≤ (wrap64 ((wrap64 (x5_1 + 1)) + 1)) then (if (wrap64 ((wrap64 (x5_1 + 1)) + 1)) < (l0.length : Int) then (if x4_1.length < 1759218604441 then (haymowref18_Read.l0 kj90 l0 (x4_1 ++ [(⟨(wrap64 (rd l0 x5_1)), 0, 0, wrap64 ((wrap64 (rd l0 (wrap64 (x5_1 + 1)))) + (wrap64 (256 * (wrap64 (rd l0 (wrap64 ((wrap64 (x5_1 + 1)) + 1))))))), ([] : List Int), ([] : List Int)⟩ : S33)]) (wrap64 ((wrap64 (x5_1 + 1)) + 2))) else (none)) else (none)) else (none)) else (none)) else (none))) else (some (([] : List (S33)), 4))) = some (r1, r2) := by rw [if_neg (show ¬ (false = true) by decide)] at H; exact H
                          clear H
                          have H := H1
                          clear H1
                          by_cases c97 : (wrap64 (rd l0 x5_1)) = 7
                          · rw [if_pos c97] at H
                            have c97b0 : ((wrap64 (rd l0 x5_1)) == 7) = true := beq_iff_eq.mpr c97
                            have c97b1 : ((wrap64 (rd l0 x5_1)) != 7) = false := bne_eq_false_iff_eq.mpr c97
                            clear c97
                            by_cases c98 : (wrap64 ((l0.length : Int) - (wrap64 (x5_1 + 1)))) < 2
                            · rw [if_pos c98] at H
                              have c98b0 : decide ((wrap64 ((l0.length : Int) - (wrap64 (x5_1 + 1)))) < 2) = true := decide_eq_true c98
                              clear c98
                              simp only [Option.some.injEq, Prod.mk.injEq] at H
                              obtain ⟨rfl, rfl⟩ := H
                              go_wp2
                              go_ret2
                              exact ⟨_, by first | rfl | (simp [errW_none, errW_some] <;> rfl) | (simp [*, errW_none, errW_some] <;> rfl), by first | exact Kd.S_nil _ _ _ _ _ | exact Kd.N_nil _ _ _ _ _ | exact Kd.V_nil _ _ _ _ _ | exact Kd.Q_nil _ _ _ _ _ | exact Kd.R_nil _ _ _ _ _, by repeat (first | (with_reducible first | exact HB.out | apply below_alloc | apply pw_below_drewN | apply below_drew1 | refine below_set ?_ GE112.out) | exact HB.out)⟩
                            · rw [if_neg c98] at H
                              have c98b0 : decide ((wrap64 ((l0.length : Int) - (wrap64 (x5_1 + 1)))) < 2) = false := decide_eq_false c98
                              clear c98
                              obtain ⟨ji99, hji99⟩ : ∃ j_ : Int, (wrap64 (x5_1 + 1)) = j_ := ⟨_, rfl⟩
                              replace H : (if 0 ≤ (ji99) then (if (ji99) < (l0.length : Int) then (if 0 ≤ (wrap64 ((ji99) + 1)) then (if (wrap64 ((ji99) + 1)) < (l0.length : Int) then (if x4_1.length < 1759218604441 then (haymowref18_Read.l0 kj90 l0 (x4_1 ++ [(⟨(wrap64 (rd l0 x5_1)), 0, 0, wrap64 ((wrap64 (rd l0 (ji99))) + (wrap64 (256 * (wrap64 (rd l0 (wrap64 ((ji99) + 1))))))), ([] : List Int), ([] : List Int)⟩ : S33)]) (wrap64 ((ji99) + 2))) else (none)) else (none)) else (none)) else (none)) else (none)) = some (r1, r2) := by first | (rw [hji99] at H; exact H) | (simp only [hji99] at H ⊢; exact H)
                              (try rw [hji99] at c98b0)
                              have hji99w : (IntKind.i64.wrap (x5_1 + 1)) = ji99 := (i64_w _).trans hji99
                              by_cases c100 : 0 ≤ (ji99)
                              · rw [if_pos c100] at H
                                have c100b0 : decide (0 ≤ (ji99)) = true := decide_eq_true c100
                                clear c100
                                by_cases c101 : (ji99) < (l0.length : Int)
                                · rw [if_pos c101] at H
                                  have c101b0 : decide ((ji99) < (l0.length : Int)) = true := decide_eq_true c101
                                  clear c101
                                  obtain ⟨ji102, hji102⟩ : ∃ j_ : Int, (wrap64 ((ji99) + 1)) = j_ := ⟨_, rfl⟩
                                  replace H : (if 0 ≤ (ji102) then (if (ji102) < (l0.length : Int) then (if x4_1.length < 1759218604441 then (haymowref18_Read.l0 kj90 l0 (x4_1 ++ [(⟨(wrap64 (rd l0 x5_1)), 0, 0, wrap64 ((wrap64 (rd l0 (ji99))) + (wrap64 (256 * (wrap64 (rd l0 (ji102)))))), ([] : List Int), ([] : List Int)⟩ : S33)]) (wrap64 ((ji99) + 2))) else (none)) else (none)) else (none)) = some (r1, r2) := by first | (rw [hji102] at H; exact H) | (simp only [hji102] at H ⊢; exact H)
                                  have hji102w : (IntKind.i64.wrap ((ji99) + 1)) = ji102 := (i64_w _).trans hji102
                                  by_cases c103 : 0 ≤ (ji102)
                                  · rw [if_pos c103] at H
                                    have c103b0 : decide (0 ≤ (ji102)) = true := decide_eq_true c103
                                    clear c103
                                    by_cases c104 : (ji102) < (l0.length : Int)
                                    · rw [if_pos c104] at H
                                      have c104b0 : decide ((ji102) < (l0.length : Int)) = true := decide_eq_true c104
                                      clear c104
                                      by_cases c105 : x4_1.length < 1759218604441
                                      · rw [if_pos c105] at H
                                        have LMc105 := Aside0.mk c105
                                        clear c105
                                        obtain ⟨y141, hy141⟩ : ∃ y_ : List (S33), y_ = (x4_1 ++ [(⟨(wrap64 (rd l0 x5_1)), 0, 0, wrap64 ((wrap64 (rd l0 (ji99))) + (wrap64 (256 * (wrap64 (rd l0 (ji102)))))), ([] : List Int), ([] : List Int)⟩ : S33)]) := ⟨_, rfl⟩
                                        replace H : (haymowref18_Read.l0 kj90 l0 y141 (wrap64 ((ji99) + 2))) = some (r1, r2) := by first | (rw [hy141]; with_reducible exact H) | (have H2_ := (Option.bind_some _ _).symm.trans H; rw [hy141]; with_reducible exact H2_) | (have H2_ := (Option.bind_some _ _).symm.trans H; with_reducible exact H2_) | with_reducible exact H | (rw [hy141]; exact H) | exact H
                                        have Ny141 := Aside0.mk hy141
                                        clear hy141
                                        have H' := Aside0.mk H
                                        clear H
                                        try go_wp2
                                        have n0_ := Aside0.mk (Kd.S_drew HO_4.out)
                                        have n1_ := Aside0.mk (blk_drew BK112.out)
                                        have n2_ := Aside0.mk (below_drew1 HB.out)
                                        clear HO_4
                                        clear BK112
                                        clear HB
                                        have HO_4 := n0_
                                        have BK112 := n1_
                                        have HB := n2_
                                        clear n0_ n1_ n2_
                                        have p139 : 0 ≤ ((ji99) : Int) := of_decide_eq_true (by first | (with_reducible assumption) | assumption)
                                        have q139 : (ji99) < (l0.length : Int) := of_decide_eq_true (by first | (with_reducible assumption) | assumption)
                                        obtain ⟨ad139, e139, hx139_0⟩ := Kd.at_int HR0.out (ji99) p139 q139
                                        have hw139_0 := hx139_0
                                        obtain rfl : ad111 = ad139 := (by injection e139)
                                        replace hx139_0 := (HB.out.cell (World.block_lt_of_cell? w _ hx139_0)).trans hx139_0
                                        replace p139 := eq_true p139
                                        replace q139 := eq_true q139
                                        have p140 : 0 ≤ ((ji102) : Int) := of_decide_eq_true (by first | (with_reducible assumption) | assumption)
                                        have q140 : (ji102) < (l0.length : Int) := of_decide_eq_true (by first | (with_reducible assumption) | assumption)
                                        obtain ⟨ad140, e140, hx140_0⟩ := Kd.at_int HR0.out (ji102) p140 q140
                                        have hw140_0 := hx140_0
                                        obtain rfl : ad111 = ad140 := (by injection e140)
                                        replace hx140_0 := (HB.out.cell (World.block_lt_of_cell? w _ hx140_0)).trans hx140_0
                                        replace p140 := eq_true p140
                                        replace q140 := eq_true q140
                                        refine start_ (n := 15) (S := fun w' => w'.cell? (ad111.add ((ji99)).toNat) = some (.int .u8 (rd l0 (ji99))) ∧ w'.cell? (ad111.add ((ji102)).toNat) = some (.int .u8 (rd l0 (ji102)))) (ds := []) #[false, false, false, false, false, false, false, false, false, false, false, false, false, false, false] (by kernel_rfl) rfl rfl ⟨((HB.out.cell (World.block_lt_of_cell? w _ hw139_0)).trans hw139_0), ((HB.out.cell (World.block_lt_of_cell? w _ hw140_0)).trans hw140_0)⟩ (fun hHeld => ?_); refine with_tabW haymowref18_Read.tab47 haymowref18_Read.bits47 (fun HT_ HW_ => ?_)
                                        generalize wc.drew = w106 at HO_4 BK112 HB hx139_0 hx140_0 hHeld ⊢
                                        refine pure_ (i := 0) (N := some 149) (v := ?_) (a' := ?_) #[true, false, false, false, false, false, false, false, false, false, false, false, false, false, false] rfl rfl (any_of HT_.out (by kernel_rfl)) (fun _ _ _ h => h) (Or.inl ⟨by rfl, ?_⟩) ?_ ?_
                                        rotate_left
                                        · intro w'
                                          go_simp
                                          with_reducible rfl
                                        rotate_left
                                        · simp only [Act.put, List.setIfInBounds_toArray, List.set_cons_zero, List.set_cons_succ, i64_w, i32_w]
                                          rfl
                                        refine pure_ (i := 1) (N := some 150) (v := ?_) (a' := ?_) #[true, true, false, false, false, false, false, false, false, false, false, false, false, false, false] rfl rfl (any_of HT_.out (by kernel_rfl)) (fun _ _ _ h => h) (Or.inl ⟨by rfl, ?_⟩) ?_ ?_
                                        rotate_left
                                        · intro w'
                                          go_simp
                                          with_reducible rfl
                                        rotate_left
                                        · simp only [Act.put, List.setIfInBounds_toArray, List.set_cons_zero, List.set_cons_succ, i64_w, i32_w]
                                          rfl
                                        refine pure_ (i := 2) (N := some 151) (v := ?_) (a' := ?_) #[true, true, true, false, false, false, false, false, false, false, false, false, false, false, false] rfl rfl (any_of HT_.out (by kernel_rfl)) (fun _ _ _ h => h) (Or.inl ⟨by rfl, ?_⟩) ?_ ?_
                                        rotate_left
                                        · intro w'
                                          go_simp
                                          with_reducible rfl
                                        rotate_left
                                        · simp only [Act.put, List.setIfInBounds_toArray, List.set_cons_zero, List.set_cons_succ, i64_w, i32_w]
                                          rfl
                                        refine pure_ (i := 5) (N := some 154) (v := ?_) (a' := ?_) #[true, true, true, false, false, true, false, false, false, false, false, false, false, false, false] rfl rfl (any_of HT_.out (by kernel_rfl)) (fun _ _ _ h => h) (Or.inl ⟨by rfl, ?_⟩) ?_ ?_
                                        rotate_left
                                        · intro w'
                                          go_simp
                                          with_reducible rfl
                                        rotate_left
                                        · simp only [Act.put, List.setIfInBounds_toArray, List.set_cons_zero, List.set_cons_succ, i64_w, i32_w]
                                          rfl
                                        refine pure_ (i := 6) (N := some 155) (v := ?_) (a' := ?_) #[true, true, true, false, false, true, true, false, false, false, false, false, false, false, false] rfl rfl (any_of HT_.out (by kernel_rfl)) (fun _ _ _ h => h) (Or.inl ⟨by rfl, ?_⟩) ?_ ?_
                                        rotate_left
                                        · intro w'
                                          go_simp
                                          with_reducible rfl
                                        rotate_left
                                        · simp only [Act.put, List.setIfInBounds_toArray, List.set_cons_zero, List.set_cons_succ, i64_w, i32_w]
                                          rfl
                                        refine pure_ (i := 7) (N := some 156) (v := ?_) (a' := ?_) #[true, true, true, false, false, true, true, true, false, false, false, false, false, false, false] rfl rfl (any_of HT_.out (by kernel_rfl)) (fun _ _ _ h => h) (Or.inl ⟨by rfl, ?_⟩) ?_ ?_
                                        rotate_left
                                        · intro w'
                                          go_simp
                                          with_reducible rfl
                                        rotate_left
                                        · simp only [Act.put, List.setIfInBounds_toArray, List.set_cons_zero, List.set_cons_succ, i64_w, i32_w]
                                          rfl
                                        refine pure_ (i := 8) (N := some 157) (v := ?_) (a' := ?_) #[true, true, true, false, false, true, true, true, true, false, false, false, false, false, false] rfl rfl (any_of HT_.out (by kernel_rfl)) (fun _ _ _ h => h) (Or.inl ⟨by rfl, ?_⟩) ?_ ?_
                                        rotate_left
                                        · intro w'
                                          go_simp
                                          with_reducible rfl
                                        rotate_left
                                        · simp only [Act.put, List.setIfInBounds_toArray, List.set_cons_zero, List.set_cons_succ, i64_w, i32_w]
                                          rfl
                                        refine take_ (i := 3) (N := some 152) (v := ?_) (a' := ?_) #[true, true, true, true, false, true, true, true, true, false, false, false, false, false, false] rfl rfl (take_ofW HT_.out HW_.out (by kernel_rfl)) (fun _ _ _ h => h) (Or.inl ⟨by rfl, ?_⟩) hHeld ?_ ?_
                                        rotate_left
                                        · rintro w' ⟨s0, s1⟩
                                          go_simp
                                          with_reducible rfl
                                        rotate_left
                                        · simp only [Act.put, List.setIfInBounds_toArray, List.set_cons_zero, List.set_cons_succ, i64_w, i32_w]
                                          rfl
                                        refine pure_ (i := 4) (N := some 153) (v := ?_) (a' := ?_) #[true, true, true, true, true, true, true, true, true, false, false, false, false, false, false] rfl rfl (any_of HT_.out (by kernel_rfl)) (fun _ _ _ h => h) (Or.inl ⟨by rfl, ?_⟩) ?_ ?_
                                        rotate_left
                                        · intro w'
                                          go_simp
                                          with_reducible rfl
                                        rotate_left
                                        · simp only [Act.put, List.setIfInBounds_toArray, List.set_cons_zero, List.set_cons_succ, i64_w, i32_w]
                                          rfl
                                        refine take_ (i := 9) (N := some 158) (v := ?_) (a' := ?_) #[true, true, true, true, true, true, true, true, true, true, false, false, false, false, false] rfl rfl (take_ofW HT_.out HW_.out (by kernel_rfl)) (fun _ _ _ h => h) (Or.inl ⟨by rfl, ?_⟩) hHeld ?_ ?_
                                        rotate_left
                                        · rintro w' ⟨s0, s1⟩
                                          go_simp
                                          with_reducible rfl
                                        rotate_left
                                        · simp only [Act.put, List.setIfInBounds_toArray, List.set_cons_zero, List.set_cons_succ, i64_w, i32_w]
                                          rfl
                                        refine pure_ (i := 10) (N := some 159) (v := ?_) (a' := ?_) #[true, true, true, true, true, true, true, true, true, true, true, false, false, false, false] rfl rfl (any_of HT_.out (by kernel_rfl)) (fun _ _ _ h => h) (Or.inl ⟨by rfl, ?_⟩) ?_ ?_
                                        rotate_left
                                        · intro w'
                                          go_simp
                                          with_reducible rfl
                                        rotate_left
                                        · simp only [Act.put, List.setIfInBounds_toArray, List.set_cons_zero, List.set_cons_succ, i64_w, i32_w]
                                          rfl
                                        refine pure_ (i := 11) (N := some 160) (v := ?_) (a' := ?_) #[true, true, true, true, true, true, true, true, true, true, true, true, false, false, false] rfl rfl (any_of HT_.out (by kernel_rfl)) (fun _ _ _ h => h) (Or.inl ⟨by rfl, ?_⟩) ?_ ?_
                                        rotate_left
                                        · intro w'
                                          go_simp
                                          with_reducible rfl
                                        rotate_left
                                        · simp only [Act.put, List.setIfInBounds_toArray, List.set_cons_zero, List.set_cons_succ, i64_w, i32_w]
                                          rfl
                                        refine pure_ (i := 12) (N := some 161) (v := ?_) (a' := ?_) #[true, true, true, true, true, true, true, true, true, true, true, true, true, false, false] rfl rfl (any_of HT_.out (by kernel_rfl)) (fun _ _ _ h => h) (Or.inl ⟨by rfl, ?_⟩) ?_ ?_
                                        rotate_left
                                        · intro w'
                                          go_simp
                                          with_reducible rfl
                                        rotate_left
                                        · simp only [Act.put, List.setIfInBounds_toArray, List.set_cons_zero, List.set_cons_succ, i64_w, i32_w]
                                          rfl
                                        refine pure_ (i := 13) (N := some 162) (v := ?_) (a' := ?_) #[true, true, true, true, true, true, true, true, true, true, true, true, true, true, false] rfl rfl (any_of HT_.out (by kernel_rfl)) (fun _ _ _ h => h) (Or.inl ⟨by rfl, ?_⟩) ?_ ?_
                                        rotate_left
                                        · intro w'
                                          go_simp
                                          with_reducible rfl
                                        rotate_left
                                        · simp only [Act.put, List.setIfInBounds_toArray, List.set_cons_zero, List.set_cons_succ, i64_w, i32_w]
                                          rfl
                                        refine one_ (i := 14) (N := none) #[true, true, true, true, true, true, true, true, true, true, true, true, true, true, true] rfl rfl (one_of HT_.out (by kernel_rfl)) (by decide) (fun K hK => ?_)
                                        have hs107 : w106.cell? ⟨gb112, 3, none⟩ = some (.int .i64 0) := (blk_cell BK112.out 3).trans rfl
                                        have hfs107 := blk_frozen BK112.out 3
                                        refine skip_ (w1 := ?_) (by rfl) rfl ?_ ?_
                                        rotate_left
                                        · go_simp
                                          rfl
                                        refine hK.out _ _ ⟨((cell_far (p := ⟨gb112, _, none⟩) (by first | exact Nat.ne_of_lt (Nat.lt_of_lt_of_le (by have := World.block_lt_of_cell? _ _ hw139_0; first | rwa [add_block] at this | exact this) GW112.out) | (rw [add_block]; exact Nat.ne_of_lt (Nat.lt_of_lt_of_le (by have := World.block_lt_of_cell? _ _ hw139_0; first | rwa [add_block] at this | exact this) GW112.out)) | (show (Addr.add _ _).block ≠ _; rw [add_block]; exact Nat.ne_of_lt (Nat.lt_of_lt_of_le (by have := World.block_lt_of_cell? _ _ hw139_0; first | rwa [add_block] at this | exact this) GW112.out)) | (dsimp only; exact Nat.ne_of_lt (Nat.lt_of_lt_of_le (by have := World.block_lt_of_cell? _ _ hw139_0; first | rwa [add_block] at this | exact this) GW112.out))) _).trans (hHeld.1)), ((cell_far (p := ⟨gb112, _, none⟩) (by first | exact Nat.ne_of_lt (Nat.lt_of_lt_of_le (by have := World.block_lt_of_cell? _ _ hw140_0; first | rwa [add_block] at this | exact this) GW112.out) | (rw [add_block]; exact Nat.ne_of_lt (Nat.lt_of_lt_of_le (by have := World.block_lt_of_cell? _ _ hw140_0; first | rwa [add_block] at this | exact this) GW112.out)) | (show (Addr.add _ _).block ≠ _; rw [add_block]; exact Nat.ne_of_lt (Nat.lt_of_lt_of_le (by have := World.block_lt_of_cell? _ _ hw140_0; first | rwa [add_block] at this | exact this) GW112.out)) | (dsimp only; exact Nat.ne_of_lt (Nat.lt_of_lt_of_le (by have := World.block_lt_of_cell? _ _ hw140_0; first | rwa [add_block] at this | exact this) GW112.out))) _).trans (hHeld.2))⟩ (fun hHeld => ?_)
                                        clear hK K
                                        refine done_ (done_of HT_.out (by kernel_rfl)) ?_
                                        have hcz108_0 : w106.cell? ⟨gb112, 0, none⟩ = some (.int .i64 (wrap64 (rd l0 x5_1))) := (blk_cell BK112.out 0).trans rfl
                                        have hcz108_1 : w106.cell? ⟨gb112, 1, none⟩ = some (.int .i64 0) := (blk_cell BK112.out 1).trans rfl
                                        have hcz108_2 : w106.cell? ⟨gb112, 2, none⟩ = some (.int .i64 0) := (blk_cell BK112.out 2).trans rfl
                                        have hcz108_3 : w106.cell? ⟨gb112, 3, none⟩ = some (.int .i64 0) := (blk_cell BK112.out 3).trans rfl
                                        have hcz108_4 : w106.cell? ⟨gb112, 4, none⟩ = some (.slice none 0 0) := (blk_cell BK112.out 4).trans rfl
                                        have hcz108_5 : w106.cell? ⟨gb112, 5, none⟩ = some (.slice none 0 0) := (blk_cell BK112.out 5).trans rfl
                                        have hfz108_0 := blk_frozen BK112.out 0
                                        have hfz108_1 := blk_frozen BK112.out 1
                                        have hfz108_2 := blk_frozen BK112.out 2
                                        have hfz108_3 := blk_frozen BK112.out 3
                                        have hfz108_4 := blk_frozen BK112.out 4
                                        have hfz108_5 := blk_frozen BK112.out 5
                                        try go_wp2_with (first | ((with_reducible refine gate_builtin (b := .append) (xs := #[.tmp 165, .tmp 167]) rfl ?_); at_builtin; refine Kd.S_append k33 (w0 := w) w.heap.size rfl (.tmp 165) (.tmp 167) 22 33 (.agg #[(.int .i64 0), (.int .i64 0), (.int .i64 0), (.int .i64 0), (.slice none 0 0), (.slice none 0 0)]) 80 rfl Try.underlying22 info33 rfl (by decide) (by omega) u4 x4_1 (⟨(wrap64 (rd l0 x5_1)), 0, 0, wrap64 ((wrap64 (rd l0 (ji99))) + (wrap64 (256 * (wrap64 (rd l0 (ji102)))))), ([] : List Int), ([] : List Int)⟩ : S33) [.int .i64 (wrap64 (rd l0 x5_1)), .int .i64 0, .int .i64 0, .int .i64 (wrap64 ((wrap64 (rd l0 (ji99))) + (wrap64 (256 * (wrap64 (rd l0 (ji102))))))), .slice none 0 0, .slice none 0 0] (fun k_ => k_ ≠ gb112) (fun _ => False) rfl (by first | (go_simp; done) | (go_simp; rfl)) ?aP (fun k_ hk_ => hk_.elim) ?aF ?aO ?aB ?aS ?aL ?_; (case aP => exact k33_mkM _ _ _ (⟨(wrap64 (rd l0 x5_1)), 0, 0, wrap64 ((wrap64 (rd l0 (ji99))) + (wrap64 (256 * (wrap64 (rd l0 (ji102)))))), ([] : List Int), ([] : List Int)⟩ : S33) (Kd.R_nil _ _ _ _ _) (Kd.R_nil _ _ _ _ _)); (case aB => exact (by repeat (first | (with_reducible first | exact HB.out | apply below_alloc | apply pw_below_drewN | apply below_drew1 | refine below_set ?_ GE112.out) | exact HB.out))); (case aF => exact (fun k_ hk => Kd.freshB (g := gb112) (o := .cells #[.int .i64 (wrap64 (rd l0 x5_1)), .int .i64 0, .int .i64 0, .int .i64 (wrap64 ((wrap64 (rd l0 (ji99))) + (wrap64 (256 * (wrap64 (rd l0 (ji102))))))), .slice none 0 0, .slice none 0 0] 33 (0, 0)) (by (with_reducible repeat (first | refine blk_drewN ?_ _ | refine blk_drew ?_ | refine blk_alloc ?_ _)); refine blk_put (cs := #[.int .i64 (wrap64 (rd l0 x5_1)), .int .i64 0, .int .i64 0, .int .i64 0, .slice none 0 0, .slice none 0 0]) ?_ 3 _ rfl; (with_reducible repeat (first | refine blk_drewN ?_ _ | refine blk_drew ?_ | refine blk_alloc ?_ _)); exact BK112.out) k_ hk)); (case aO => exact (by (with_reducible repeat (first | apply Kd.S_alloc | apply Kd.S_drewN | apply Kd.S_drew)); exact Kd.S_mono (Kd.S_far (p := ⟨gb112, 3, none⟩) (Kd.S_mono HO_4.out (fun k_ hk => (⟨hk, hk⟩ : _ ∧ k_ ≠ gb112))) (fun _ hk => hk.2) (.int .i64 (wrap64 ((wrap64 (rd l0 (ji99))) + (wrap64 (256 * (wrap64 (rd l0 (ji102))))))))) (fun k_ hk => ⟨hk.1, fun e_ => e_⟩))); (case aS => exact (below_size (by repeat (first | (with_reducible first | exact HB.out | apply below_alloc | apply pw_below_drewN | apply below_drew1 | refine below_set ?_ GE112.out) | exact HB.out)))); (case aL => have := LMc105.out; omega); intro v142 w109 ho hb hg hat; rw [← Ny141.out] at ho; have n0_ := Aside0.mk (blk_grown (g := gb112) (o := .cells #[.int .i64 (wrap64 (rd l0 x5_1)), .int .i64 0, .int .i64 0, .int .i64 (wrap64 ((wrap64 (rd l0 (ji99))) + (wrap64 (256 * (wrap64 (rd l0 (ji102))))))), .slice none 0 0, .slice none 0 0] 33 (0, 0)) (by (with_reducible repeat (first | refine blk_drewN ?_ _ | refine blk_drew ?_ | refine blk_alloc ?_ _)); refine blk_put (cs := #[.int .i64 (wrap64 (rd l0 x5_1)), .int .i64 0, .int .i64 0, .int .i64 0, .slice none 0 0, .slice none 0 0]) ?_ 3 _ rfl; (with_reducible repeat (first | refine blk_drewN ?_ _ | refine blk_drew ?_ | refine blk_alloc ?_ _)); exact BK112.out) hg (Kd.S_away HO_4.out (fun _ hk => hk))); have n1_ := Aside0.mk (hb); have n2_ := Aside0.mk (ho); clear BK112; clear HB; clear HO_4; have BK112 := n0_; have HB := n1_; have HO143 := n2_; clear n0_ n1_ n2_; clear ho hb hg hat))
                                        go_roundg kj90
                                        case measure => have := HK1.out; have := HJ78.out; have := HJ90.out; omega
                                        case rel => exact ⟨(y141), (wrap64 ((ji99) + 2)), (by first | rfl | (simp; done) | (simp only [← hji99] <;> (first | rfl | simp)) | (simp [*]; done)), H', ⟨by have := HK1.out; have := HJ78.out; have := HJ90.out; omega⟩, ⟨by (with_reducible repeat (first | apply Kd.S_alloc | apply Kd.S_drewN | apply Kd.S_drew)); exact Kd.S_mono HO143.out (fun _ hk => trivial)⟩, ⟨by repeat (first | (with_reducible first | exact HB.out | apply below_alloc | apply pw_below_drewN | apply below_drew1 | refine below_set ?_ GE112.out) | exact HB.out)⟩⟩
                                      · rw [if_neg c105] at H
                                        exact absurd H (by simp)
                                    · rw [if_neg c104] at H
                                      exact absurd H (by simp)
                                  · rw [if_neg c103] at H
                                    exact absurd H (by simp)
                                · rw [if_neg c101] at H
                                  exact absurd H (by simp)
                              · rw [if_neg c100] at H
                                exact absurd H (by simp)
                          · rw [if_neg c97] at H
                            have c97b0 : ((wrap64 (rd l0 x5_1)) == 7) = false := beq_eq_false_iff_ne.mpr c97
                            have c97b1 : ((wrap64 (rd l0 x5_1)) != 7) = true := bne_iff_ne.mpr c97
                            simp only [Option.some.injEq, Prod.mk.injEq] at H
                            obtain ⟨rfl, rfl⟩ := H
                            go_wp2
                            go_ret2
                            exact ⟨_, by first | rfl | (simp [errW_none, errW_some] <;> rfl) | (simp [*, errW_none, errW_some] <;> rfl), by first | exact Kd.S_nil _ _ _ _ _ | exact Kd.N_nil _ _ _ _ _ | exact Kd.V_nil _ _ _ _ _ | exact Kd.Q_nil _ _ _ _ _ | exact Kd.R_nil _ _ _ _ _, by repeat (first | (with_reducible first | exact HB.out | apply below_alloc | apply pw_below_drewN | apply below_drew1 | refine below_set ?_ GE112.out) | exact HB.out)⟩
        · rw [if_neg c3] at H
          exact absurd H (by simp)
      · rw [if_neg c2] at H
        have c2b0 : decide (x5_1 < (l0.length : Int)) = false := decide_eq_false c2
        clear c2
        simp only [Option.some.injEq, Prod.mk.injEq] at H
        obtain ⟨rfl, rfl⟩ := H
        go_wp2
        go_ret2
        exact ⟨_, by first | rfl | (simp [errW_none, errW_some] <;> rfl) | (simp [*, errW_none, errW_some] <;> rfl), by (with_reducible repeat (first | apply Kd.S_alloc | apply Kd.S_drewN | apply Kd.S_drew)); exact HO_4.out, by repeat (first | (with_reducible first | exact HB.out | apply below_alloc | apply pw_below_drewN | apply below_drew1) | exact HB.out)⟩

end Go.Proofs.Ythnefjkpjhfkgaa.PScriptReads
