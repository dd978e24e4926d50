/- Facts of the function: variables named. Written by gen_srow.py. -/
import Derived.JoinedOf
import Derived.SevenTiedAt
import Derived.Test.YtbiajfkencamiaaGreatDoorRows
import Derived.KernelRfl
import Derived.ChangeFn
/-! ShellScriptsR5 -/
namespace Go.Proofs.YtbiajfkencamiaaGreatDoor.RShellScripts
open Go
theorem f_named : Rows.shellScriptsRow.named = Tryz.prog.varsNamed 4 := by kernel_rfl
end Go.Proofs.YtbiajfkencamiaaGreatDoor.RShellScripts
