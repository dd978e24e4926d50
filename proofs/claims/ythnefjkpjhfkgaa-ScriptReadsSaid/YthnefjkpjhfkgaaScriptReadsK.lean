/- The kinds of the parameters of haymow/haymowlaw18.ScriptReads, and what opens them. Written by rowgen.py. -/
import Derived.Test.YthnefjkpjhfkgaaProg
import Derived.Test.YthnefjkpjhfkgaaOpens
import Derived.KernelRfl
import Derived.Test.YthnefjkpjhfkgaaPScriptWritesx0
namespace Go.Proofs.Ythnefjkpjhfkgaa.KScriptReads
open Go.RowKit Go.Proofs.YthnefjkpjhfkgaaW.PrintWords Go.Proofs.Ythnefjkpjhfkgaa.Opens Go.Proofs.Ythnefjkpjhfkgaa.PScriptWrites

theorem open_arg0 : Opens Try.prog 24 (Kd.slice 5 (Kd.int .u8)) (fun x => (∀ e ∈ x, (Lit.int .u8 e).wf = true)) := (opens_slice Try.underlying24 (by kernel_rfl) (opens_int Try.underlying5 (by kernel_rfl)))
end Go.Proofs.Ythnefjkpjhfkgaa.KScriptReads
