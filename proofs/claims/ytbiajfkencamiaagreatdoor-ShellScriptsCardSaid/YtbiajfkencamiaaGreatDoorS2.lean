/- The same: entering, keys. Written by gen_srow.py. -/
import Derived.JoinedOf
import Derived.SevenTiedAt
import Derived.Test.YtbiajfkencamiaaGreatDoorRows
import Derived.KernelRfl
import Derived.ChangeFn
/-! S2 -/
namespace Go.Proofs.YtbiajfkencamiaaGreatDoor.RProg
open Go
theorem p_enter : Tryz.prog.mayEnter = true := by kernel_rfl
theorem p_stops : Tryz.prog.stops = [] := by kernel_rfl
theorem p_knobs : Tryz.prog.stopKnobs = [] := by kernel_rfl
theorem p_lifts : Rows.shellScriptsRow.lifted = Tryz.prog.liftsFinal := by kernel_rfl
theorem p_make : Tryz.prog.make = some Rows.shellScriptsRow.make := by kernel_rfl
end Go.Proofs.YtbiajfkencamiaaGreatDoor.RProg
