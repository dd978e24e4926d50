/- The kinds of the parameters of haymow/haymowlaw05.PathBack, and what opens them. Written by rowgen.py. -/
import Derived.Test.YtcchoeomeklgmaaDoorProg
import Derived.Test.YtcchoeomeklgmaaDoorOpens
import Derived.KernelRfl
namespace Go.Proofs.YtcchoeomeklgmaaDoor.KPathBack
open Go.RowKit Go.Proofs.YtcchoeomeklgmaaDoorW.PrintWords Go.Proofs.YtcchoeomeklgmaaDoor.Opens

theorem open_arg0 : Opens Tryd.prog 32 (Kd.slice 33 (Kd.int .u32)) (fun x => (∀ e ∈ x, (Lit.int .u32 e).wf = true)) := (opens_slice Tryd.underlying32 (by kernel_rfl) (opens_int Tryd.underlying33 (by kernel_rfl)))
end Go.Proofs.YtcchoeomeklgmaaDoor.KPathBack
