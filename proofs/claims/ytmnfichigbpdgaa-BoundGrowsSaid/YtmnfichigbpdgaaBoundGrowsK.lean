/- The kinds of the parameters of haymow/haymowlaw21.BoundGrows, and what opens them. Written by rowgen.py. -/
import Derived.Test.YtmnfichigbpdgaaProg
import Derived.Test.YtmnfichigbpdgaaOpens
import Derived.KernelRfl
import Derived.Test.YtmnfichigbpdgaaPBoundSumsx0
namespace Go.Proofs.Ytmnfichigbpdgaa.KBoundGrows
set_option linter.unusedVariables false
set_option linter.unusedSimpArgs false
open Go.RowKit Go.Proofs.YtmnfichigbpdgaaW.PrintWords Go.Proofs.Ytmnfichigbpdgaa.Opens Go.Proofs.Ytmnfichigbpdgaa.PBoundSums

def w33 (x : S33) : Prop := (Lit.int .i64 x.f0).wf = true ∧ (Lit.int .i64 x.f1).wf = true ∧ (Lit.int .i64 x.f2).wf = true ∧ (Lit.int .i64 x.f3).wf = true
theorem opens33 : Opens Try.prog 33 k33 w33 :=
  opens_iso (fun x : S33 => (x.f0, x.f1, x.f2, x.f3)) (fun a => ⟨a.1, a.2.1, a.2.2.1, a.2.2.2⟩) (fun _ => rfl) (opens_struct Try.underlying33 (by kernel_rfl) (opensF_cons (opens_int Try.underlying3 (by kernel_rfl)) rfl (opensF_cons (opens_int Try.underlying3 (by kernel_rfl)) rfl (opensF_cons (opens_int Try.underlying3 (by kernel_rfl)) rfl (opensF_one (opens_int Try.underlying3 (by kernel_rfl)))))))
theorem open_arg0 : Opens Try.prog 22 (Kd.slice 33 k33) (fun x => (∀ e ∈ x, w33 e)) := (opens_slice Try.underlying22 (by kernel_rfl) opens33)
theorem open_arg1 : Opens Try.prog 5 (Kd.int .u8) (fun x => (Lit.int .u8 x).wf = true) := (opens_int Try.underlying5 (by kernel_rfl))
theorem open_arg2 : Opens Try.prog 41 (Kd.pair (Kd.int .u16) (Kd.pair (Kd.int .u16) (Kd.int .u16))) (fun x => ((Lit.int .u16 x.1).wf = true ∧ ((Lit.int .u16 x.2.1).wf = true ∧ (Lit.int .u16 x.2.2).wf = true))) := (opens_array Try.underlying41 (by kernel_rfl) (opensF_cons (opens_int Try.underlying40 (by kernel_rfl)) rfl (opensF_cons (opens_int Try.underlying40 (by kernel_rfl)) rfl (opensF_one (opens_int Try.underlying40 (by kernel_rfl))))))
end Go.Proofs.Ytmnfichigbpdgaa.KBoundGrows
