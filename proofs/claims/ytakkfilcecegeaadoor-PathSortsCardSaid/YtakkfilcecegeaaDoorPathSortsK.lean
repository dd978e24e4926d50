/- The kinds of the parameters of haymow/haymowlaw05.PathSorts, and what opens them. Written by rowgen.py. -/
import Derived.Test.YtakkfilcecegeaaDoorProg
import Derived.Test.YtakkfilcecegeaaDoorOpens
import Derived.KernelRfl
namespace Go.Proofs.YtakkfilcecegeaaDoor.KPathSorts
open Go.RowKit Go.Proofs.YtakkfilcecegeaaDoorW.PrintWords Go.Proofs.YtakkfilcecegeaaDoor.Opens

structure S25 where
  f0 : List (Int)
  f1 : Int
  f2 : Int
  f3 : Int
def k25 : Kd S25 := Kd.iso (Kd.pair (Kd.slice 3 (Kd.int .i64)) (Kd.pair (Kd.int .u32) (Kd.pair (Kd.int .u32) (Kd.int .u32)))) (fun x : S25 => (x.f0, x.f1, x.f2, x.f3))
def w25 (x : S25) : Prop := (∀ e ∈ x.f0, (Lit.int .i64 e).wf = true) ∧ (Lit.int .u32 x.f1).wf = true ∧ (Lit.int .u32 x.f2).wf = true ∧ (Lit.int .u32 x.f3).wf = true
theorem opens25 : Opens Tryd.prog 25 k25 w25 :=
  opens_iso (fun x : S25 => (x.f0, x.f1, x.f2, x.f3)) (fun a => ⟨a.1, a.2.1, a.2.2.1, a.2.2.2⟩) (fun _ => rfl) (opens_struct Tryd.underlying25 (by kernel_rfl) (opensF_cons (opens_slice Tryd.underlying22 (by kernel_rfl) (opens_int Tryd.underlying3 (by kernel_rfl))) rfl (opensF_cons (opens_int Tryd.underlying23 (by kernel_rfl)) rfl (opensF_cons (opens_int Tryd.underlying23 (by kernel_rfl)) rfl (opensF_one (opens_int Tryd.underlying23 (by kernel_rfl)))))))
theorem open_arg0 : Opens Tryd.prog 25 k25 (fun x => w25 x) := opens25
end Go.Proofs.YtakkfilcecegeaaDoor.KPathSorts
