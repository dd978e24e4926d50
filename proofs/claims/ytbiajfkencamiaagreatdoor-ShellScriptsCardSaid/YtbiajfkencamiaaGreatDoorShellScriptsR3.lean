/- Facts of the function: not followed. Written by gen_srow.py. -/
import Derived.JoinedOf
import Derived.SevenTiedAt
import Derived.Test.YtbiajfkencamiaaGreatDoorRows
import Derived.KernelRfl
import Derived.ChangeFn
/-! ShellScriptsR3 -/
namespace Go.Proofs.YtbiajfkencamiaaGreatDoor.RShellScripts
open Go
theorem f_unfollowed : Rows.shellScriptsRow.unfollowed = Tryz.prog.unfollowed 4 := by kernel_rfl
end Go.Proofs.YtbiajfkencamiaaGreatDoor.RShellScripts
