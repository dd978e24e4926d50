/- The kinds of the parameters of haymow/haymowlaw05.PathUnder, and what opens them. Written by rowgen.py. -/
import Derived.Test.YtakkfilcecegeaaDoorProg
import Derived.Test.YtakkfilcecegeaaDoorOpens
import Derived.KernelRfl
namespace Go.Proofs.YtakkfilcecegeaaDoor.KPathUnder
open Go.RowKit Go.Proofs.YtakkfilcecegeaaDoorW.PrintWords Go.Proofs.YtakkfilcecegeaaDoor.Opens

theorem open_arg0 : Opens Tryd.prog 22 (Kd.slice 3 (Kd.int .i64)) (fun x => (∀ e ∈ x, (Lit.int .i64 e).wf = true)) := (opens_slice Tryd.underlying22 (by kernel_rfl) (opens_int Tryd.underlying3 (by kernel_rfl)))
theorem open_arg1 : Opens Tryd.prog 5 (Kd.int .u8) (fun x => (Lit.int .u8 x).wf = true) := (opens_int Tryd.underlying5 (by kernel_rfl))
theorem open_arg2 : Opens Tryd.prog 5 (Kd.int .u8) (fun x => (Lit.int .u8 x).wf = true) := (opens_int Tryd.underlying5 (by kernel_rfl))
end Go.Proofs.YtakkfilcecegeaaDoor.KPathUnder
