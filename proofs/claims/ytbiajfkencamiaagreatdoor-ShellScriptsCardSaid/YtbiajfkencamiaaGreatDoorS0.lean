/- Facts of the program as a whole, each in a text of its own size. Written by gen_srow.py. -/
import Derived.JoinedOf
import Derived.SevenTiedAt
import Derived.Test.YtbiajfkencamiaaGreatDoorRows
import Derived.KernelRfl
import Derived.ChangeFn
/-! S0 -/
namespace Go.Proofs.YtbiajfkencamiaaGreatDoor.RProg
open Go
theorem p_laid : laidOutB Tryz.prog = true := by kernel_rfl
end Go.Proofs.YtbiajfkencamiaaGreatDoor.RProg
