/- The kinds of the parameters of haymow/haymowlaw18.ScriptBack, and what opens them. Written by rowgen.py. -/
import Derived.Test.YthnefjkpjhfkgaaProg
import Derived.Test.YthnefjkpjhfkgaaOpens
import Derived.KernelRfl
import Derived.Test.YthnefjkpjhfkgaaPScriptWritesx0
namespace Go.Proofs.Ythnefjkpjhfkgaa.KScriptBack
open Go.RowKit Go.Proofs.YthnefjkpjhfkgaaW.PrintWords Go.Proofs.Ythnefjkpjhfkgaa.Opens Go.Proofs.Ythnefjkpjhfkgaa.PScriptWrites

def w33 (x : S33) : Prop := (Lit.int .i64 x.f0).wf = true ∧ (Lit.int .i64 x.f1).wf = true ∧ (Lit.int .i64 x.f2).wf = true ∧ (Lit.int .i64 x.f3).wf = true ∧ (∀ e ∈ x.f4, (Lit.int .u8 e).wf = true) ∧ (∀ e ∈ x.f5, (Lit.int .i64 e).wf = true)
theorem opens33 : Opens Try.prog 33 k33 w33 :=
  opens_iso (fun x : S33 => (x.f0, x.f1, x.f2, x.f3, x.f4, x.f5)) (fun a => ⟨a.1, a.2.1, a.2.2.1, a.2.2.2.1, a.2.2.2.2.1, a.2.2.2.2.2⟩) (fun _ => rfl) (opens_struct Try.underlying33 (by kernel_rfl) (opensF_cons (opens_int Try.underlying3 (by kernel_rfl)) rfl (opensF_cons (opens_int Try.underlying3 (by kernel_rfl)) rfl (opensF_cons (opens_int Try.underlying3 (by kernel_rfl)) rfl (opensF_cons (opens_int Try.underlying3 (by kernel_rfl)) rfl (opensF_cons (opens_slice Try.underlying24 (by kernel_rfl) (opens_int Try.underlying5 (by kernel_rfl))) rfl (opensF_one (opens_slice Try.underlying31 (by kernel_rfl) (opens_int Try.underlying2 (by kernel_rfl))))))))))
theorem open_arg0 : Opens Try.prog 22 (Kd.slice 33 k33) (fun x => (∀ e ∈ x, w33 e)) := (opens_slice Try.underlying22 (by kernel_rfl) opens33)
theorem open_arg1 : Opens Try.prog 24 (Kd.slice 5 (Kd.int .u8)) (fun x => (∀ e ∈ x, (Lit.int .u8 e).wf = true)) := (opens_slice Try.underlying24 (by kernel_rfl) (opens_int Try.underlying5 (by kernel_rfl)))
end Go.Proofs.Ythnefjkpjhfkgaa.KScriptBack
