/- The kinds of the parameters of haymow/haymowlaw21.BoundLeast, and what opens them. Written by rowgen.py. -/
import Derived.Test.YtponjobacdimeaaGreatProg
import Derived.Test.YtponjobacdimeaaGreatOpens
import Derived.KernelRfl
import Derived.Test.YtponjobacdimeaaGreatPBoundLeastx0
namespace Go.Proofs.YtponjobacdimeaaGreat.KBoundLeast
open Go.RowKit Go.Proofs.YtponjobacdimeaaGreatW.PrintWords Go.Proofs.YtponjobacdimeaaGreat.Opens Go.Proofs.YtponjobacdimeaaGreat.PBoundLeast

def w36 (x : S36) : Prop := (Lit.int .i64 x.f0).wf = true ∧ (Lit.int .i64 x.f1).wf = true ∧ (Lit.int .i64 x.f2).wf = true ∧ (Lit.int .i64 x.f3).wf = true
theorem opens36 : Opens Tryz.prog 36 k36 w36 :=
  opens_iso (fun x : S36 => (x.f0, x.f1, x.f2, x.f3)) (fun a => ⟨a.1, a.2.1, a.2.2.1, a.2.2.2⟩) (fun _ => rfl) (opens_struct Tryz.underlying36 (by kernel_rfl) (opensF_cons (opens_int Tryz.underlying3 (by kernel_rfl)) rfl (opensF_cons (opens_int Tryz.underlying3 (by kernel_rfl)) rfl (opensF_cons (opens_int Tryz.underlying3 (by kernel_rfl)) rfl (opensF_one (opens_int Tryz.underlying3 (by kernel_rfl)))))))
structure S24 where
  f0 : Int
  f1 : Int
  f2 : Int
  f3 : List (S36)
def k24 : Kd S24 := Kd.iso (Kd.pair (Kd.int .i64) (Kd.pair (Kd.int .i64) (Kd.pair (Kd.int .i64) (Kd.slice 36 k36)))) (fun x : S24 => (x.f0, x.f1, x.f2, x.f3))
def w24 (x : S24) : Prop := (Lit.int .i64 x.f0).wf = true ∧ (Lit.int .i64 x.f1).wf = true ∧ (Lit.int .i64 x.f2).wf = true ∧ (∀ e ∈ x.f3, w36 e)
theorem opens24 : Opens Tryz.prog 24 k24 w24 :=
  opens_iso (fun x : S24 => (x.f0, x.f1, x.f2, x.f3)) (fun a => ⟨a.1, a.2.1, a.2.2.1, a.2.2.2⟩) (fun _ => rfl) (opens_struct Tryz.underlying24 (by kernel_rfl) (opensF_cons (opens_int Tryz.underlying3 (by kernel_rfl)) rfl (opensF_cons (opens_int Tryz.underlying3 (by kernel_rfl)) rfl (opensF_cons (opens_int Tryz.underlying3 (by kernel_rfl)) rfl (opensF_one (opens_slice Tryz.underlying22 (by kernel_rfl) opens36))))))
theorem open_arg0 : Opens Tryz.prog 24 k24 (fun x => w24 x) := opens24
end Go.Proofs.YtponjobacdimeaaGreat.KBoundLeast
