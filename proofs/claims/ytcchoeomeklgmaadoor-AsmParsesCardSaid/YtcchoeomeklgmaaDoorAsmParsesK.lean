/- The kinds of the parameters of haymow/haymowlaw04.AsmParses, and what opens them. Written by rowgen.py. -/
import Derived.Test.YtcchoeomeklgmaaDoorProg
import Derived.Test.YtcchoeomeklgmaaDoorOpens
import Derived.KernelRfl
import Derived.Test.YtcchoeomeklgmaaDoorPAsmParsesx0
namespace Go.Proofs.YtcchoeomeklgmaaDoor.KAsmParses
open Go.RowKit Go.Proofs.YtcchoeomeklgmaaDoorW.PrintWords Go.Proofs.YtcchoeomeklgmaaDoor.Opens Go.Proofs.YtcchoeomeklgmaaDoor.PAsmParses

theorem open_arg0 : Opens Tryd.prog 35 (Kd.slice 9 Kd.string) (fun x => (∀ e ∈ x, e.size ≤ maxLen)) := (opens_slice Tryd.underlying35 (by kernel_rfl) (opens_string Tryd.underlying9 (by kernel_rfl)))
end Go.Proofs.YtcchoeomeklgmaaDoor.KAsmParses
