/- The sort's closure in every world that the sort comes to. -/
import Derived.Test.YtceankldidkohaaDoorC12
namespace Go.Proofs.YtceankldidkohaaDoor.Core
open Go.RowKit Go.Shelf Go.Lib Go.Sort Go.Proofs.YtceankldidkohaaDoorW.PrintWords Go.Proofs.YtceankldidkohaaDoorW.PrintMore Go.Proofs.YtceankldidkohaaDoor.PAuditTwice Go.Proofs.YtceankldidkohaaDoor
set_option linter.unusedVariables false
set_option linter.unusedSimpArgs false
theorem sort_block {α : Type} [Inhabited α] (enc : α → List Value) (k : Nat) (X : World) (blk off m : Nat) (dk : Array α) (os : Array Obj) {q : Nat} (hq : q ≠ blk) (hlt : q < X.heap.size) : (sortWorldK enc k X blk off m dk os).heap[q]? = X.heap[q]? := by
  have h2 : (putRowK enc k (Sort.ahead X m) blk off dk).heap[q]? = X.heap[q]? := by
    simp [putRowK, putRow, mapBlock, Sort.ahead, Array.getElem?_modify, Ne.symm hq]
  have h3 : q < (putRowK enc k (Sort.ahead X m) blk off dk).heap.size := by
    rw [size_putRowK]; exact hlt
  unfold sortWorldK
  show ((putRowK enc k (Sort.ahead X m) blk off dk).heap ++ os)[q]? = _
  rw [Array.getElem?_append_left h3]
  exact h2
theorem El.lays (X : World) (blk size : Nat) : CmpLays Tryd.prog 25 #[] (El.enc (X := X) (blk := blk)) 2 El.cf blk 0 size X := fun m os dk hs x y => by
  have hx := Kd.F_now (Kd.F_step x.rd (W1 := sortWorldK El.enc 2 X blk 0 m dk os) (fun q hq hlt => sort_block _ _ _ _ _ _ _ _ hq.2 hlt))
  have hy := Kd.F_now (Kd.F_step y.rd (W1 := sortWorldK El.enc 2 X blk 0 m dk os) (fun q hq hlt => sort_block _ _ _ _ _ _ _ _ hq.2 hlt))
  exact less_grow x.small y.small hx hy
end Go.Proofs.YtceankldidkohaaDoor.Core
