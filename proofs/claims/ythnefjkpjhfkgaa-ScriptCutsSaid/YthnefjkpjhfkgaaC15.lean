/- The reader: acts are read off in one way. -/
import Derived.Test.YthnefjkpjhfkgaaC13
namespace Go.Proofs.Ythnefjkpjhfkgaa.Core
open Go.RowKit Go.Proofs.YthnefjkpjhfkgaaW.PrintWords Go.Proofs.YthnefjkpjhfkgaaW.PrintMore Go.Proofs.Ythnefjkpjhfkgaa.PScriptWrites
set_option linter.unusedVariables false
set_option linter.unusedSimpArgs false
/-- So many acts read off. -/
def stp : Nat → List Int → Option (List S47 × List Int)
  | 0, b => some ([], b)
  | n + 1, b => match stp n b with
    | some (l, rs) => match dec rs with
      | .ok (x, r) => some (l ++ [x], r)
      | .error _ => none
    | none => none
theorem Steps.at_stp {b rs : List Int} {l : List S47} (h : Steps b l rs) : stp l.length b = some (l, rs) := by
  induction h with
  | nil => rfl
  | snoc _ hd ih =>
    rw [List.length_append, List.length_singleton]
    simp only [stp, ih, hd]
theorem stp_none {n m : Nat} {b : List Int} (h : stp n b = none) (hm : n ≤ m) : stp m b = none := by
  induction m with
  | zero => obtain rfl : n = 0 := by omega
            exact h
  | succ m ih =>
    by_cases e : n = m + 1
    · exact e ▸ h
    · simp only [stp, ih (by omega)]
theorem Steps.one {b rs rs2 : List Int} {l l2 : List S47} {n n2 : Int} (h : Steps b l rs) (hd : dec rs = .error n) (h2 : Steps b l2 rs2) (hd2 : dec rs2 = .error n2) : l = l2 ∧ rs = rs2 := by
  have e1 := h.at_stp
  have e2 := h2.at_stp
  have f1 : Core.stp (l.length + 1) b = none := by simp only [Core.stp, e1, hd]
  have f2 : Core.stp (l2.length + 1) b = none := by simp only [Core.stp, e2, hd2]
  have hl : l.length = l2.length := by
    rcases Nat.lt_trichotomy l.length l2.length with hlt | he | hlt
    · rw [stp_none f1 hlt] at e2; cases e2
    · exact he
    · rw [stp_none f2 hlt] at e1; cases e1
  rw [hl, e2] at e1
  injection e1 with e1
  injection e1 with a b
  exact ⟨a.symm, b.symm⟩
end Go.Proofs.Ythnefjkpjhfkgaa.Core
