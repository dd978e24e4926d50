/-
  DERIVED. GIVEN WITH THE SEED: THE CARDS: each row of YtcchoeomeklgmaaGreatDoorRows.lean that lists a variable, with what it lists TIED to the program's text (the seventh form; the later family's looks); each row that meets fmt, with fmt's text TOLD by the authors' own Lean function (tested against real Go, not proved from fmt's source: count such statements apart). THE CARD IS WHAT COUNTS. Prove the row's statement (the work); the ties are given (YtcchoeomeklgmaaGreatDoorTie.lean); close each card by the builder's one call (the guide's Derived/Test/ToyasCard.lean, 'card_holds'). Laid BY PROGRAM, IN A SANDBOX (cutbox-door.mjs). By AI agents, Wed Nov 11 2026. No macro, syntax, notation, axiom, sorry.
-/
import Derived.Test.YtcchoeomeklgmaaGreatDoorRows
import GoSem.ClaimSeven
namespace Go.Proofs.YtcchoeomeklgmaaGreatDoor
namespace Rows

/-- THE TIED CARD OF 'haymowlaw04.AsmPrints'. -/
def asmPrintsCard : Claim7 := { stood := { row := asmPrintsRow, standIns := [], harness := (true, "e6b4f299d13c6ad984c6cc92d6e61bbf6db8bdd9677abee42b656c8f1fc4da5f"), looks := true }, kinds := [], alts := [], laidByText := true, laidKinds := [.data, .data, .data, .data, .sentinel, .sentinel, .listed, .data, .pinned], laidTests := true, laidLooks := .later }
def AsmPrintsCardSaid : Prop := Claim7.holds Tryz.pinned (.plain (OpenSpec.ofChange asmPrintsSpec)) asmPrintsCard

/-- THE TIED CARD OF 'haymowlaw04.AsmBack'. -/
def asmBackCard : Claim7 := { stood := { row := asmBackRow, standIns := [], harness := (true, "e6b4f299d13c6ad984c6cc92d6e61bbf6db8bdd9677abee42b656c8f1fc4da5f"), looks := true }, kinds := [], alts := [], laidByText := true, laidKinds := [.data, .data, .data, .data, .sentinel, .sentinel, .listed, .data, .pinned], laidTests := true, laidLooks := .later }
def AsmBackCardSaid : Prop := Claim7.holds Tryz.pinned (.plain (OpenSpec.ofChange asmBackSpec)) asmBackCard

/-- THE TIED CARD OF 'haymowlaw04.AsmCounts'. -/
def asmCountsCard : Claim7 := { stood := { row := asmCountsRow, standIns := [], harness := (true, "e6b4f299d13c6ad984c6cc92d6e61bbf6db8bdd9677abee42b656c8f1fc4da5f"), looks := true }, kinds := [], alts := [], laidByText := true, laidKinds := [.data, .data, .data, .data, .sentinel, .sentinel, .listed, .data, .pinned], laidTests := true, laidLooks := .later }
def AsmCountsCardSaid : Prop := Claim7.holds Tryz.pinned (.plain (OpenSpec.ofChange asmCountsSpec)) asmCountsCard

/-- THE SECOND FORM's CARD OF 'haymowlaw04.AsmPrints'. -/
def asmPrintsUptoCard : Claim7 := { stood := { row := asmPrintsUptoRow, standIns := [], harness := (true, "e6b4f299d13c6ad984c6cc92d6e61bbf6db8bdd9677abee42b656c8f1fc4da5f"), looks := true }, kinds := [], alts := [], laidByText := true, laidKinds := [.data, .data, .data, .data, .sentinel, .sentinel, .listed, .data, .pinned], laidTests := true, laidLooks := .later }
def AsmPrintsUptoCardSaid : Prop := Claim7.holds Tryz.pinned (.plain (OpenSpec.upto asmPrintsSpec)) asmPrintsUptoCard

/-- THE SECOND FORM's CARD OF 'haymowlaw04.AsmBack'. -/
def asmBackUptoCard : Claim7 := { stood := { row := asmBackUptoRow, standIns := [], harness := (true, "e6b4f299d13c6ad984c6cc92d6e61bbf6db8bdd9677abee42b656c8f1fc4da5f"), looks := true }, kinds := [], alts := [], laidByText := true, laidKinds := [.data, .data, .data, .data, .sentinel, .sentinel, .listed, .data, .pinned], laidTests := true, laidLooks := .later }
def AsmBackUptoCardSaid : Prop := Claim7.holds Tryz.pinned (.plain (OpenSpec.upto asmBackSpec)) asmBackUptoCard

/-- THE SECOND FORM's CARD OF 'haymowlaw04.AsmCounts'. -/
def asmCountsUptoCard : Claim7 := { stood := { row := asmCountsUptoRow, standIns := [], harness := (true, "e6b4f299d13c6ad984c6cc92d6e61bbf6db8bdd9677abee42b656c8f1fc4da5f"), looks := true }, kinds := [], alts := [], laidByText := true, laidKinds := [.data, .data, .data, .data, .sentinel, .sentinel, .listed, .data, .pinned], laidTests := true, laidLooks := .later }
def AsmCountsUptoCardSaid : Prop := Claim7.holds Tryz.pinned (.plain (OpenSpec.upto asmCountsSpec)) asmCountsUptoCard
end Rows
end Go.Proofs.YtcchoeomeklgmaaGreatDoor
