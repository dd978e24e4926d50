/- The kinds of the parameters of haymow/haymowlaw04.AsmLong, and what opens them. Written by rowgen.py. -/
import Derived.Test.YtcchoeomeklgmaaDoorProg
import Derived.Test.YtcchoeomeklgmaaDoorOpens
import Derived.KernelRfl
import Derived.Test.YtcchoeomeklgmaaDoorPAsmParsesx0
namespace Go.Proofs.YtcchoeomeklgmaaDoor.KAsmLong
open Go.RowKit Go.Proofs.YtcchoeomeklgmaaDoorW.PrintWords Go.Proofs.YtcchoeomeklgmaaDoor.Opens Go.Proofs.YtcchoeomeklgmaaDoor.PAsmParses

theorem open_arg0 : Opens Tryd.prog 44 (Kd.int .u16) (fun x => (Lit.int .u16 x).wf = true) := (opens_int Tryd.underlying44 (by kernel_rfl))
end Go.Proofs.YtcchoeomeklgmaaDoor.KAsmLong
