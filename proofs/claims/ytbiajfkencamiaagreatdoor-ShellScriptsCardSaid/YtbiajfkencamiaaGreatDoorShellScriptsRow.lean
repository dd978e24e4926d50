/- haymow/haymowlaw22.ShellScripts returns true whatever its arguments are, and leaves them as they were: no condition. The row; written by rowgen.py. -/
import Derived.Test.YtbiajfkencamiaaGreatDoorWrap
import Derived.Test.YtbiajfkencamiaaGreatDoorTie
import Derived.Test.YtbiajfkencamiaaGreatDoorCards
import Derived.Test.YtbiajfkencamiaaGreatDoorS0
import Derived.Test.YtbiajfkencamiaaGreatDoorS1
import Derived.Test.YtbiajfkencamiaaGreatDoorS2
import Derived.Test.YtbiajfkencamiaaGreatDoorShellScriptsL
import Derived.Test.YtbiajfkencamiaaGreatDoorShellScriptsR1
import Derived.Test.YtbiajfkencamiaaGreatDoorShellScriptsR2
import Derived.Test.YtbiajfkencamiaaGreatDoorShellScriptsR3
import Derived.Test.YtbiajfkencamiaaGreatDoorShellScriptsR4
import Derived.Test.YtbiajfkencamiaaGreatDoorShellScriptsR5
import Derived.Test.YtbiajfkencamiaaGreatDoorShellScriptsR6
import Derived.LaidMore
import Derived.Stop.Joined
import Derived.SevenTiedAt
import Derived.Lib.LaidTab
import Derived.Lay
import Derived.Test.YtbiajfkencamiaaGreatDoorRows
import Derived.Test.YtbiajfkencamiaaGreatDoorShellScriptsWalk
import Derived.WalkKit
import Derived.ProofKit
import Derived.OpenShut
import Derived.ShutString
import Derived.ChangeOld
import Derived.Below
import Derived.SizedLaws
/-! ShellScriptsRow -/
namespace Go.Proofs.YtbiajfkencamiaaGreatDoor.RShellScripts
open Go.ChangeShapes Go.WideShapes Go.ChangeAt Go.RowKit Go.Proofs.YtbiajfkencamiaaGreatDoor.Opens Go.Proofs.YtbiajfkencamiaaGreatDoorW.PrintWords Go.Proofs.YtbiajfkencamiaaGreatDoor.KShellScripts
open Go.ChangeMaps (open_string shut_string)
set_option maxRecDepth 100000 in
theorem joined_of : joinedFacts Tryz.prog 4 Tryz.f4 Rows.shellScriptsSpec Rows.shellScriptsRow = true := by
  have k1 : Rows.shellScriptsRow.wf (OpenSpec.ofChange Rows.shellScriptsSpec) = true := by kernel_rfl
  have k4 : Tryz.f4.params.all (Tryz.prog.readableRec ·) = true := by kernel_rfl
  have k5 : namedTie Tryz.prog Rows.shellScriptsRow.named Rows.shellScriptsSpec.vars = true := by kernel_rfl
  have k14 : Rows.shellScriptsRow.maps = (Tryz.f4.params.toList ++ Rows.shellScriptsSpec.plain.varTypes Tryz.prog).any (Tryz.prog.mapsRec ·) := by kernel_rfl
  have k15 : Rows.shellScriptsRow.ifaces = (Tryz.f4.params.toList ++ Rows.shellScriptsSpec.plain.varTypes Tryz.prog).any (Tryz.prog.ifacesRec ·) := by kernel_rfl
  have k16 : Rows.shellScriptsRow.mapsOut = Tryz.prog.mapsAmong Tryz.f4.resultTypes.toList := by kernel_rfl
  have k17 : Rows.shellScriptsRow.loops = (Tryz.f4.params.toList ++ Rows.shellScriptsSpec.plain.varTypes Tryz.prog).any (Tryz.prog.loopsFrom ·) := by kernel_rfl
  have k17b : Rows.shellScriptsRow.wideKeys = (Tryz.f4.params.toList ++ Rows.shellScriptsSpec.plain.varTypes Tryz.prog ++ Tryz.f4.resultTypes.toList).any (Tryz.prog.wideKeysFrom ·) := by kernel_rfl
  have k18 : Rows.shellScriptsSpec.vars.all (Tryz.prog.varReadable ·) = true := by kernel_rfl
  have k19 : Tryz.f4.resultTypes.all (fun t => Tryz.prog.readableRec t && decide (t < Tryz.prog.types.size)) = true := by kernel_rfl
  have k20 : Rows.shellScriptsRow.ifacesOut = Tryz.f4.resultTypes.toList.any (Tryz.prog.ifacesRec ·) := by kernel_rfl
  have k21 : Rows.shellScriptsRow.loopsOut = Tryz.f4.resultTypes.toList.any (Tryz.prog.loopsFrom ·) := by kernel_rfl
  have k26 : Rows.shellScriptsRow.pinned = Rows.shellScriptsRow.pinnedBy := by kernel_rfl
  have k27 : Rows.shellScriptsRow.veiled = (Tryz.f4.params.toList ++ Rows.shellScriptsSpec.plain.varTypes Tryz.prog ++ Tryz.f4.resultTypes.toList).any (Tryz.prog.veiledRec ·) := by kernel_rfl
  have k28 : Rows.shellScriptsRow.veiledFits Tryz.prog Tryz.f4.params.toList (Tryz.f4.params.toList ++ Rows.shellScriptsSpec.plain.varTypes Tryz.prog ++ Tryz.f4.resultTypes.toList) = true := by kernel_rfl
  have e1 : Rows.shellScriptsRow.stops = [] := rfl
  have e2 : Rows.shellScriptsRow.knobs = [] := rfl
  have e3 : Rows.shellScriptsRow.shortTexts.isNone = true := rfl
  unfold joinedFacts
  rw [k1, RProg.p_laid, RProg.p_mapsRowed, k4, k5, e1, RProg.p_stops, e2, RProg.p_knobs, ← f_inPlace, ← f_unfollowed, ← f_recurses, ← f_named, ← k14, ← k15, ← k16, ← k17, ← k17b, k18, k19, ← k20, ← k21, ← f_plainKeys, e3, RProg.p_heard, RProg.p_enter, ← RProg.p_lifts, RProg.p_make, ← k26, ← k27, k28]
  refine Eq.trans ?_ (Eq.refl true)
  kernel_rfl
theorem over : Rows.shellScriptsRow.holds Tryz.pinned (OpenSpec.ofChange Rows.shellScriptsSpec) :=
  OpenClaim.holds_of_wide 4 Tryz.f4 rfl rfl rfl rfl rfl rfl rfl ⟨rfl, rfl, rfl, rfl, rfl⟩ rfl rfl rfl rfl rfl f_name Tryz.func4 joined_of
    (of_decide_eq_true (by kernel_rfl)) (by unfold Func.isWrapper; first | (rw [if_pos (by decide +kernel)]; kernel_rfl) | (rw [if_neg (by decide +kernel)]; exact ⟨rfl, rfl⟩))
    (fun os started H enc _ => lifted os started H enc)
end Go.Proofs.YtbiajfkencamiaaGreatDoor.RShellScripts
namespace Go.Proofs.YtbiajfkencamiaaGreatDoor
theorem shellScripts_card_holds : Rows.ShellScriptsCardSaid :=
  Claim7.holds_tied_plain_at .later [] [.data, .data, .data, .data, .sentinel, .sentinel, .listed, .data, .pinned] true (true, "7feb35df4fcc1ee30685654c9ece5f9cbc42db83e383a069beb799dd642423a3") true
    RShellScripts.over (fun _ h => by cases h) (by kernel_rfl) (fun _ h => by cases h) shellScripts_row_tie rfl ⟨rfl, rfl⟩ (by kernel_rfl) rfl
    (fun f fn hf hfn => by
      obtain rfl : f = 4 := Option.some.inj (RShellScripts.f_name.symm.trans hf) |>.symm
      obtain rfl : fn = Tryz.f4 := (Option.some.inj (Tryz.func4.symm.trans hfn)).symm
      exact ⟨by kernel_rfl, fun j t ht => by
        rw [Tryz.params4] at ht
        have hm : t ∈ [25, 9, 28] := by simpa using Array.mem_of_getElem? ht
        have hall : ([25, 9, 28].all fun u => !Tryz.prog.wantsStandIn u) = true := by kernel_rfl
        exact (show Tryz.prog.wantsStandIn t = false by simpa using List.all_eq_true.1 hall t hm)⟩)
    RShellScripts.f_goes
#print axioms shellScripts_card_holds
end Go.Proofs.YtbiajfkencamiaaGreatDoor
