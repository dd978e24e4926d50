/- The kinds of the parameters of haymow/haymowlaw04.AsmCounts, and what opens them. Written by rowgen.py. -/
import Derived.Test.YtcchoeomeklgmaaGreatDoorProg
import Derived.Test.YtcchoeomeklgmaaGreatDoorOpens
import Derived.KernelRfl
import Derived.Test.YtcchoeomeklgmaaGreatDoorPAsmPrintsx0
namespace Go.Proofs.YtcchoeomeklgmaaGreatDoor.KAsmCounts
open Go.RowKit Go.Proofs.YtcchoeomeklgmaaGreatDoorW.PrintWords Go.Proofs.YtcchoeomeklgmaaGreatDoor.Opens Go.Proofs.YtcchoeomeklgmaaGreatDoor.PAsmPrints

def w59 (x : S59) : Prop := (Lit.int .i64 x.f0).wf = true ∧ (Lit.int .i64 x.f1).wf = true ∧ (Lit.int .i64 x.f2).wf = true ∧ (Lit.int .i64 x.f3).wf = true ∧ (Lit.int .i64 x.f4).wf = true
theorem opens59 : Opens Tryz.prog 59 k59 w59 :=
  opens_iso (fun x : S59 => (x.f0, x.f1, x.f2, x.f3, x.f4)) (fun a => ⟨a.1, a.2.1, a.2.2.1, a.2.2.2.1, a.2.2.2.2⟩) (fun _ => rfl) (opens_struct Tryz.underlying59 (by kernel_rfl) (opensF_cons (opens_int Tryz.underlying3 (by kernel_rfl)) rfl (opensF_cons (opens_int Tryz.underlying3 (by kernel_rfl)) rfl (opensF_cons (opens_int Tryz.underlying3 (by kernel_rfl)) rfl (opensF_cons (opens_int Tryz.underlying3 (by kernel_rfl)) rfl (opensF_one (opens_int Tryz.underlying3 (by kernel_rfl))))))))
def w39 (x : S39) : Prop := (Lit.int .i64 x.f0).wf = true ∧ (∀ e ∈ x.f1, w59 e)
theorem opens39 : Opens Tryz.prog 39 k39 w39 :=
  opens_iso (fun x : S39 => (x.f0, x.f1)) (fun a => ⟨a.1, a.2⟩) (fun _ => rfl) (opens_struct Tryz.underlying39 (by kernel_rfl) (opensF_cons (opens_int Tryz.underlying3 (by kernel_rfl)) rfl (opensF_one (opens_slice Tryz.underlying37 (by kernel_rfl) opens59))))
theorem open_arg0 : Opens Tryz.prog 22 (Kd.slice 39 k39) (fun x => (∀ e ∈ x, w39 e)) := (opens_slice Tryz.underlying22 (by kernel_rfl) opens39)
theorem open_arg1 : Opens Tryz.prog 22 (Kd.slice 39 k39) (fun x => (∀ e ∈ x, w39 e)) := (opens_slice Tryz.underlying22 (by kernel_rfl) opens39)
end Go.Proofs.YtcchoeomeklgmaaGreatDoor.KAsmCounts
