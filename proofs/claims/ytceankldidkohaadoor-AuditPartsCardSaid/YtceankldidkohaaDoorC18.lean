/- The world that the sort leaves. -/
import Derived.Test.YtceankldidkohaaDoorC17
namespace Go.Proofs.YtceankldidkohaaDoor.Core
open Go.RowKit Go.Shelf Go.Lib Go.Sort Go.Proofs.YtceankldidkohaaDoorW.PrintWords Go.Proofs.YtceankldidkohaaDoorW.PrintMore Go.Proofs.YtceankldidkohaaDoor.PAuditTwice Go.Proofs.YtceankldidkohaaDoor
set_option linter.unusedVariables false
set_option linter.unusedSimpArgs false
theorem sort_grown {α : Type} [Inhabited α] (enc : α → List Value) (k : Nat) (X : World) (blk off m : Nat) (dk : Array α) (os : Array Obj) : X.grownBy (sortWorldK enc k X blk off m dk os) (some blk) := by
  refine ⟨rfl, rfl, rfl, ?_, fun q hlt hq => sort_block enc k X blk off m dk os (fun e => hq (by rw [e])) hlt⟩
  exact size_sortWorldK_c enc k X blk off m dk os
end Go.Proofs.YtceankldidkohaaDoor.Core
