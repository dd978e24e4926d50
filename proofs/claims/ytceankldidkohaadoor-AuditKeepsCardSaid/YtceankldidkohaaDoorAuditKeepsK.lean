/- The kinds of the parameters of haymow/haymowlaw20.AuditKeeps, and what opens them. Written by rowgen.py. -/
import Derived.Test.YtceankldidkohaaDoorProg
import Derived.Test.YtceankldidkohaaDoorOpens
import Derived.KernelRfl
import Derived.Test.YtceankldidkohaaDoorPAuditTwicex0
namespace Go.Proofs.YtceankldidkohaaDoor.KAuditKeeps
open Go.RowKit Go.Proofs.YtceankldidkohaaDoorW.PrintWords Go.Proofs.YtceankldidkohaaDoor.Opens Go.Proofs.YtceankldidkohaaDoor.PAuditTwice

def w29 (x : S29) : Prop := (Lit.int .i64 x.f0).wf = true ∧ (Lit.int .i64 x.f1).wf = true ∧ (∀ e ∈ x.f2, (Lit.int .i64 e).wf = true)
theorem opens29 : Opens Tryd.prog 29 k29 w29 :=
  opens_iso (fun x : S29 => (x.f0, x.f1, x.f2)) (fun a => ⟨a.1, a.2.1, a.2.2⟩) (fun _ => rfl) (opens_struct Tryd.underlying29 (by kernel_rfl) (opensF_cons (opens_int Tryd.underlying3 (by kernel_rfl)) rfl (opensF_cons (opens_int Tryd.underlying3 (by kernel_rfl)) rfl (opensF_one (opens_slice Tryd.underlying26 (by kernel_rfl) (opens_int Tryd.underlying3 (by kernel_rfl)))))))
def w40 (x : S40) : Prop := (∀ e ∈ x.f0, (Lit.int .i64 e).wf = true) ∧ (Lit.int .i64 x.f1).wf = true
theorem opens40 : Opens Tryd.prog 40 k40 w40 :=
  opens_iso (fun x : S40 => (x.f0, x.f1)) (fun a => ⟨a.1, a.2⟩) (fun _ => rfl) (opens_struct Tryd.underlying40 (by kernel_rfl) (opensF_cons (opens_slice Tryd.underlying26 (by kernel_rfl) (opens_int Tryd.underlying3 (by kernel_rfl))) rfl (opensF_one (opens_int Tryd.underlying3 (by kernel_rfl)))))
theorem open_arg0 : Opens Tryd.prog 22 (Kd.slice 29 k29) (fun x => (∀ e ∈ x, w29 e)) := (opens_slice Tryd.underlying22 (by kernel_rfl) opens29)
theorem open_arg1 : Opens Tryd.prog 3 (Kd.int .i64) (fun x => (Lit.int .i64 x).wf = true) := (opens_int Tryd.underlying3 (by kernel_rfl))
theorem open_arg2 : Opens Tryd.prog 30 (Kd.slice 40 k40) (fun x => (∀ e ∈ x, w40 e)) := (opens_slice Tryd.underlying30 (by kernel_rfl) opens40)
end Go.Proofs.YtceankldidkohaaDoor.KAuditKeeps
