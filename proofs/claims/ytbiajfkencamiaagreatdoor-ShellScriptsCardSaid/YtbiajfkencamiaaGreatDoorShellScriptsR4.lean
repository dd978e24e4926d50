/- Facts of the function: recursion. Written by gen_srow.py. -/
import Derived.JoinedOf
import Derived.SevenTiedAt
import Derived.Test.YtbiajfkencamiaaGreatDoorRows
import Derived.KernelRfl
import Derived.ChangeFn
/-! ShellScriptsR4 -/
namespace Go.Proofs.YtbiajfkencamiaaGreatDoor.RShellScripts
open Go
theorem f_recurses : Rows.shellScriptsRow.recurses = Tryz.prog.recurses 4 := by kernel_rfl
end Go.Proofs.YtbiajfkencamiaaGreatDoor.RShellScripts
