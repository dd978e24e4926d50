/- Facts of the function: in place. Written by gen_srow.py. -/
import Derived.JoinedOf
import Derived.SevenTiedAt
import Derived.Test.YtbiajfkencamiaaGreatDoorRows
import Derived.KernelRfl
import Derived.ChangeFn
/-! ShellScriptsR2 -/
namespace Go.Proofs.YtbiajfkencamiaaGreatDoor.RShellScripts
open Go
theorem f_inPlace : Rows.shellScriptsRow.inPlace = Tryz.prog.inPlace 4 := by kernel_rfl
end Go.Proofs.YtbiajfkencamiaaGreatDoor.RShellScripts
