/- Facts of the function: goroutines. Written by gen_srow.py. -/
import Derived.Test.YtbiajfkencamiaaGreatDoorShellScriptsR1
import Derived.JoinedOf
import Derived.SevenTiedAt
import Derived.Test.YtbiajfkencamiaaGreatDoorRows
import Derived.KernelRfl
import Derived.ChangeFn
/-! ShellScriptsR6 -/
namespace Go.Proofs.YtbiajfkencamiaaGreatDoor.RShellScripts
open Go
theorem f_goes : false = Rows.shellScriptsRow.goesBy Tryz.prog := by
  show false = ((Option.any Tryz.prog.goes (Tryz.prog.funcNamed "haymow/haymowlaw22.ShellScripts")) || false)
  rw [f_name]
  kernel_rfl
end Go.Proofs.YtbiajfkencamiaaGreatDoor.RShellScripts
