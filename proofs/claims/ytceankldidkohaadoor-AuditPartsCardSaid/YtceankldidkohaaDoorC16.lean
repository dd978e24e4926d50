/- slices.SortFunc at entries. -/
import Derived.Test.YtceankldidkohaaDoorC15
namespace Go.Proofs.YtceankldidkohaaDoor.Core
open Go.RowKit Go.Shelf Go.Lib Go.Sort Go.Proofs.YtceankldidkohaaDoorW.PrintWords Go.Proofs.YtceankldidkohaaDoorW.PrintMore Go.Proofs.YtceankldidkohaaDoor.PAuditTwice Go.Proofs.YtceankldidkohaaDoor
set_option linter.unusedVariables false
set_option linter.unusedSimpArgs false
theorem sort_run {X : World} {g cap : Nat} {els : List (El X g)} (hH : HoldsK (El.enc (X := X) (blk := g)) 2 X g 0 els.toArray) (hg : g < X.heap.size) (hl : els.length ≤ 1000000) :
    Calls Tryd.prog 24 #[.slice (some ⟨g, 0, none⟩) els.length cap, .func (.func 25) #[] #[]] X fun e w' =>
      e = .returned (.tuple #[]) ∧ ∃ (d' : Array (El X g)) (n : Nat) (os : Array Obj), PermIn 0 els.length els.toArray d' ∧ SortedIn (ltOf El.cf) 0 els.length d' ∧ w' = sortWorldK El.enc 2 X g 0 n d' os := by
  have eg : ∀ args w, (callFunc 25 args).run Tryd.prog w = .ok (.enter 25 args) w := enters_of Tryd.func25 (by kernel_rfl) rfl
  have hcon := AnyQ.slices_SortFunc Tryd.sortE 2 Tryd.isAgg38 Tryd.sizeOf38 (El.enc (X := X) (blk := g)) (fun _ => rfl) (fun x v hv => by simp [El.enc] at hv; rcases hv with rfl | rfl <;> rfl) El.cf (El.swo X g) 25 #[] g 0 cap els.toArray X eg (El.lays X g _) hH hg (by simp; omega)
  have e : els.toArray.size = els.length := by simp
  rw [e] at hcon
  exact hcon
end Go.Proofs.YtceankldidkohaaDoor.Core
