/- valid: an instruction. -/
import Derived.Test.YtbiajfkencamiaaGreatDoorV2
import Derived.Outline
/-! V3 -/
namespace Go.Proofs.YtbiajfkencamiaaGreatDoor.Core
open Go.RowKit Go.Shelf Go.Proofs.YtbiajfkencamiaaGreatDoorW.PrintWords Go.Proofs.YtbiajfkencamiaaGreatDoorW.PrintMore Go.Proofs.YtbiajfkencamiaaGreatDoor.P1 Go.Proofs.YtbiajfkencamiaaGreatDoor
open Go.Proofs.YtbiajfkencamiaaGreatDoor.PK (S121 k121 z121 S124 k124 z124 at_T124 at_T121 rd_T124 rd_T121)
set_option linter.unusedVariables false
set_option linter.unusedSimpArgs false
/-- What an operation's fields are. -/
def shapeV (o : Int) : Int × Int × Int × Int × Bool :=
  if o = 1 then (1, 0, 0, 4, true) else if o = 2 then (1, 1, 0, 0, true) else if 3 ≤ o ∧ o ≤ 8 then (1, 1, 1, 0, true) else if o = 9 then (0, 0, 0, 5, true) else if o = 10 then (1, 0, 0, 5, true)
  else if o = 11 then (1, 1, 3, 0, true) else if o = 12 then (0, 0, 0, 0, true) else if o = 13 then (2, 1, 3, 0, true) else if o = 14 then (1, 2, 0, 0, true) else if o = 15 ∨ o = 17 then (1, 0, 0, 0, true) else if o = 16 then (0, 0, 0, 6, true) else (0, 0, 0, 0, false)
theorem shape_f (o : Int) : valid_shapeOf.f 5 o = some (shapeV o) := by
  by_cases h : 1 ≤ o ∧ o ≤ 17
  · have hd : ∀ j : Fin 18, valid_shapeOf.f 5 (j.val : Int) = some (shapeV (j.val : Int)) := by decide +kernel
    have := hd ⟨o.toNat, by omega⟩
    rwa [show ((o.toNat : Nat) : Int) = o by omega] at this
  · have e : shapeV o = (0, 0, 0, 0, false) := by
      unfold shapeV
      repeat rw [if_neg (by omega)]
    rw [e]
    unfold valid_shapeOf.f
    repeat rw [if_neg (by omega)]
    have h8 : (o == 8) = false := by rw [beq_eq_false_iff_ne]; omega
    have h17 : (o == 17) = false := by rw [beq_eq_false_iff_ne]; omega
    rw [h8, valid_shapeOf.j0, if_neg (by simp)]
    repeat rw [if_neg (by omega)]
    rw [h17, valid_shapeOf.j1, if_neg (by simp)]
    repeat rw [if_neg (by omega)]
theorem shapeOf_any (o : Int) (w : World) : Calls Tryz.prog 157 #[.int .i64 o] w fun e w' => e = .returned (.tuple #[.agg #[.int .i64 (shapeV o).1, .int .i64 (shapeV o).2.1, .int .i64 (shapeV o).2.2.1, .int .i64 (shapeV o).2.2.2.1], .bool (shapeV o).2.2.2.2]) ∧ Below w.heap.size w w' :=
  valid_shapeOf.calls 5 o _ _ _ _ _ w (shape_f o)
end Go.Proofs.YtbiajfkencamiaaGreatDoor.Core
