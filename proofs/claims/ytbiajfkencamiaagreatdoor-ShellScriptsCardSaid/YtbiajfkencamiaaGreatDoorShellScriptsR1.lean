/- Facts of the function: names. Written by gen_srow.py. -/
import Derived.JoinedOf
import Derived.SevenTiedAt
import Derived.Test.YtbiajfkencamiaaGreatDoorRows
import Derived.KernelRfl
import Derived.ChangeFn
/-! ShellScriptsR1 -/
namespace Go.Proofs.YtbiajfkencamiaaGreatDoor.RShellScripts
open Go
theorem f_name : Tryz.prog.funcNamed "haymow/haymowlaw22.ShellScripts" = some 4 := by kernel_rfl
theorem f_plainKeys : Rows.shellScriptsRow.plainKeys = Tryz.prog.plainKeys := by kernel_rfl
end Go.Proofs.YtbiajfkencamiaaGreatDoor.RShellScripts
