/- The kinds of the parameters of haymow/haymowlaw05.PathReads, and what opens them. Written by rowgen.py. -/
import Derived.Test.YtcchoeomeklgmaaDoorProg
import Derived.Test.YtcchoeomeklgmaaDoorOpens
import Derived.KernelRfl
namespace Go.Proofs.YtcchoeomeklgmaaDoor.KPathReads
open Go.RowKit Go.Proofs.YtcchoeomeklgmaaDoorW.PrintWords Go.Proofs.YtcchoeomeklgmaaDoor.Opens

theorem open_arg0 : Opens Tryd.prog 9 Kd.string (fun x => x.size ≤ maxLen) := (opens_string Tryd.underlying9 (by kernel_rfl))
theorem open_arg1 : Opens Tryd.prog 22 (Kd.slice 3 (Kd.int .i64)) (fun x => (∀ e ∈ x, (Lit.int .i64 e).wf = true)) := (opens_slice Tryd.underlying22 (by kernel_rfl) (opens_int Tryd.underlying3 (by kernel_rfl)))
end Go.Proofs.YtcchoeomeklgmaaDoor.KPathReads
