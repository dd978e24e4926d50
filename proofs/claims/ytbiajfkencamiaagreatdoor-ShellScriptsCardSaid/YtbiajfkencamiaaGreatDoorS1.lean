/- The same: maps, stops. Written by gen_srow.py. -/
import Derived.JoinedOf
import Derived.SevenTiedAt
import Derived.Test.YtbiajfkencamiaaGreatDoorRows
import Derived.KernelRfl
import Derived.ChangeFn
/-! S1 -/
namespace Go.Proofs.YtbiajfkencamiaaGreatDoor.RProg
open Go
theorem p_mapsRowed : mapsRowed Tryz.prog = true := by kernel_rfl
theorem p_heard : Tryz.prog.stopsHeard = true := by kernel_rfl
end Go.Proofs.YtbiajfkencamiaaGreatDoor.RProg
