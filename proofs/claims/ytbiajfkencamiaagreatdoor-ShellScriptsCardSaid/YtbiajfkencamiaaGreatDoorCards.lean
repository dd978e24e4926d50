/-
  DERIVED. GIVEN WITH THE SEED: THE CARDS: each row of YtbiajfkencamiaaGreatDoorRows.lean that lists a variable, with what it lists TIED to the program's text (the seventh form; the later family's looks); each row that meets fmt, with fmt's text TOLD by the authors' own Lean function (tested against real Go, not proved from fmt's source: count such statements apart). THE CARD IS WHAT COUNTS. Prove the row's statement (the work); the ties are given (YtbiajfkencamiaaGreatDoorTie.lean); close each card by the builder's one call (the guide's Derived/Test/ToyasCard.lean, 'card_holds'). Laid BY PROGRAM, IN A SANDBOX (cutbox-door.mjs). By AI agents, Wed Nov 11 2026. No macro, syntax, notation, axiom, sorry.
-/
import Derived.Test.YtbiajfkencamiaaGreatDoorRows
import GoSem.ClaimSeven
namespace Go.Proofs.YtbiajfkencamiaaGreatDoor
namespace Rows

/-- THE TIED CARD OF 'haymowlaw22.ShellErrors'. -/
def shellErrorsCard : Claim7 := { stood := { row := shellErrorsRow, standIns := [], harness := (true, "7feb35df4fcc1ee30685654c9ece5f9cbc42db83e383a069beb799dd642423a3"), looks := true }, kinds := [], alts := [], laidByText := true, laidKinds := [.data, .data, .data, .data, .sentinel, .sentinel, .listed, .data, .pinned], laidTests := true, laidLooks := .later }
def ShellErrorsCardSaid : Prop := Claim7.holds Tryz.pinned (.plain (OpenSpec.ofChange shellErrorsSpec)) shellErrorsCard

/-- THE TIED CARD OF 'haymowlaw22.ShellScripts'. -/
def shellScriptsCard : Claim7 := { stood := { row := shellScriptsRow, standIns := [], harness := (true, "7feb35df4fcc1ee30685654c9ece5f9cbc42db83e383a069beb799dd642423a3"), looks := true }, kinds := [], alts := [], laidByText := true, laidKinds := [.data, .data, .data, .data, .sentinel, .sentinel, .listed, .data, .pinned], laidTests := true, laidLooks := .later }
def ShellScriptsCardSaid : Prop := Claim7.holds Tryz.pinned (.plain (OpenSpec.ofChange shellScriptsSpec)) shellScriptsCard

/-- THE SECOND FORM's CARD OF 'haymowlaw22.ShellErrors'. -/
def shellErrorsUptoCard : Claim7 := { stood := { row := shellErrorsUptoRow, standIns := [], harness := (true, "7feb35df4fcc1ee30685654c9ece5f9cbc42db83e383a069beb799dd642423a3"), looks := true }, kinds := [], alts := [], laidByText := true, laidKinds := [.data, .data, .data, .data, .sentinel, .sentinel, .listed, .data, .pinned], laidTests := true, laidLooks := .later }
def ShellErrorsUptoCardSaid : Prop := Claim7.holds Tryz.pinned (.plain (OpenSpec.upto shellErrorsSpec)) shellErrorsUptoCard

/-- THE SECOND FORM's CARD OF 'haymowlaw22.ShellScripts'. -/
def shellScriptsUptoCard : Claim7 := { stood := { row := shellScriptsUptoRow, standIns := [], harness := (true, "7feb35df4fcc1ee30685654c9ece5f9cbc42db83e383a069beb799dd642423a3"), looks := true }, kinds := [], alts := [], laidByText := true, laidKinds := [.data, .data, .data, .data, .sentinel, .sentinel, .listed, .data, .pinned], laidTests := true, laidLooks := .later }
def ShellScriptsUptoCardSaid : Prop := Claim7.holds Tryz.pinned (.plain (OpenSpec.upto shellScriptsSpec)) shellScriptsUptoCard
end Rows
end Go.Proofs.YtbiajfkencamiaaGreatDoor
