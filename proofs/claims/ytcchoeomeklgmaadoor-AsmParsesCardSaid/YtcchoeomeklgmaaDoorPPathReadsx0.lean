-- PRINTED BY print.sh 35421559b90ae4d0a3588c463048766b98c2df88dd9212a6774a882060cdf62d: not written by this session
import Derived.Test.YtcchoeomeklgmaaDoorProg
import Derived.Below
import Derived.Deep.Draws
import Derived.Deep.AppendLies
import Derived.Maps.AppendAt
import Derived.OwnWalk
import Derived.Laws.BytesArg
import Derived.Laws.MakeOwn
import Derived.Laws.OwnMore
import Derived.Deep.OwnRows
import Derived.Tactics
import Derived.Lib.ConvBytes
import Derived.Laws.Slices
import Derived.WalkKit
import Derived.KernelRfl
import Derived.RowKit3
import Derived.Deep.LoopGhost
import Derived.Deep.QuietTactic
import Derived.BigQuiet
import Derived.WideLaws
import Derived.Deep.DeepCutAuto
import Derived.Deep.CutBlock
import Derived.Deep.RegionHeld3
import Derived.Laws.Rows
import Derived.Lib.AppendStr
import Derived.ArgAppend
import Derived.Laws.IdiomCopy
import Derived.OrdersHeld
import Derived.Laws.BitsLemmas
import Derived.RowKit
import Derived.Test.YtcchoeomeklgmaaDoorWWords
import Derived.Test.YtcchoeomeklgmaaDoorWLast
import Derived.Test.YtcchoeomeklgmaaDoorWTab
import Derived.Test.YtcchoeomeklgmaaDoorWFour
import Derived.Test.YtcchoeomeklgmaaDoorWQPut
import Derived.Test.YtcchoeomeklgmaaDoorWApart
import Derived.Test.YtcchoeomeklgmaaDoorWArr
import Derived.Test.YtcchoeomeklgmaaDoorWZeros
import Derived.Test.YtcchoeomeklgmaaDoorWFoot
import Derived.Test.YtcchoeomeklgmaaDoorWKept
import Derived.Test.YtcchoeomeklgmaaDoorWShare
import Derived.Test.YtcchoeomeklgmaaDoorWN
import Derived.Test.YtcchoeomeklgmaaDoorWFootNe
import Derived.Test.YtcchoeomeklgmaaDoorWAt
import Derived.Test.YtcchoeomeklgmaaDoorWEqStruct
import Derived.Test.YtcchoeomeklgmaaDoorWRepsOne
import Derived.Test.YtcchoeomeklgmaaDoorWInv
import Derived.Test.YtcchoeomeklgmaaDoorWInvWords
import Derived.Test.YtcchoeomeklgmaaDoorWGuard
import Derived.Test.YtcchoeomeklgmaaDoorWNEv
import Derived.Test.YtcchoeomeklgmaaDoorWMore
namespace Go.Proofs.YtcchoeomeklgmaaDoor.PPathReads
open Go.RowKit Go.Proofs.YtcchoeomeklgmaaDoorW.PrintWords Go.Proofs.YtcchoeomeklgmaaDoorW.PrintLast Go.Proofs.YtcchoeomeklgmaaDoorW.PrintMore
attribute [local go_sem] max2_int min2_int max_two min_two max_three min_three max_four min_four   -- for this text's walks alone
set_option linter.unusedVariables false
set_option linter.unusedSimpArgs false



def errW : Option Int → Value
  | none => .nilIface
  | some c => .iface 104 (.int .i64 c)
theorem errW_none : errW none = .nilIface := rfl
theorem errW_some (c : Int) : errW (some c) = .iface 104 (.int .i64 c) := rfl

theorem info3 : (Tryd.prog.info? 3).map (fun i => (i.zero, i.size, i.bytes)) = some (some (.int .i64 0), 1, 8) := by kernel_rfl
-- the values' own types

end Go.Proofs.YtcchoeomeklgmaaDoor.PPathReads
