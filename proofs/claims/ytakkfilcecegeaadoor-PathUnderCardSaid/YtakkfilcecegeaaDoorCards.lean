/-
  DERIVED. GIVEN WITH THE SEED: THE CARDS: each row of YtakkfilcecegeaaDoorRows.lean that lists a variable, with what it lists TIED to the program's text (the seventh form; the later family's looks); each row that meets fmt, with fmt's text TOLD by the authors' own Lean function (tested against real Go, not proved from fmt's source: count such statements apart). THE CARD IS WHAT COUNTS. Prove the row's statement (the work); the ties are given (YtakkfilcecegeaaDoorTie.lean); close each card by the builder's one call (the guide's Derived/Test/ToyasCard.lean, 'card_holds'). Laid BY PROGRAM, IN A SANDBOX (cutbox-door.mjs). By AI agents, Wed Nov 11 2026. No macro, syntax, notation, axiom, sorry.
-/
import Derived.Test.YtakkfilcecegeaaDoorRows
import GoSem.ClaimSeven
namespace Go.Proofs.YtakkfilcecegeaaDoor
namespace Rows

/-- THE TIED CARD OF 'haymowlaw05.PathSorts'. -/
def pathSortsCard : Claim7 := { stood := { row := pathSortsRow, standIns := [], harness := (true, "742a443e47c89b9e415e462427c1a51f6cec59cd6a5667b80c05317773b7ae3c"), looks := false }, kinds := [], alts := [], laidByText := true, laidKinds := [.data, .data, .data], laidTests := true, laidLooks := .later }
def PathSortsCardSaid : Prop := Claim7.holds Tryd.pinned (.plain (OpenSpec.ofChange pathSortsSpec)) pathSortsCard

/-- THE TIED CARD OF 'haymowlaw05.PathOrders'. -/
def pathOrdersCard : Claim7 := { stood := { row := pathOrdersRow, standIns := [], harness := (true, "742a443e47c89b9e415e462427c1a51f6cec59cd6a5667b80c05317773b7ae3c"), looks := false }, kinds := [], alts := [], laidByText := true, laidKinds := [.data, .data, .data], laidTests := true, laidLooks := .later }
def PathOrdersCardSaid : Prop := Claim7.holds Tryd.pinned (.plain (OpenSpec.ofChange pathOrdersSpec)) pathOrdersCard

/-- THE TIED CARD OF 'haymowlaw05.PathThree'. -/
def pathThreeCard : Claim7 := { stood := { row := pathThreeRow, standIns := [], harness := (true, "742a443e47c89b9e415e462427c1a51f6cec59cd6a5667b80c05317773b7ae3c"), looks := false }, kinds := [], alts := [], laidByText := true, laidKinds := [.data, .data, .data], laidTests := true, laidLooks := .later }
def PathThreeCardSaid : Prop := Claim7.holds Tryd.pinned (.plain (OpenSpec.ofChange pathThreeSpec)) pathThreeCard

/-- THE TIED CARD OF 'haymowlaw05.PathUnder'. -/
def pathUnderCard : Claim7 := { stood := { row := pathUnderRow, standIns := [], harness := (true, "742a443e47c89b9e415e462427c1a51f6cec59cd6a5667b80c05317773b7ae3c"), looks := false }, kinds := [], alts := [], laidByText := true, laidKinds := [.data, .data, .data], laidTests := true, laidLooks := .later }
def PathUnderCardSaid : Prop := Claim7.holds Tryd.pinned (.plain (OpenSpec.ofChange pathUnderSpec)) pathUnderCard

/-- THE SECOND FORM's CARD OF 'haymowlaw05.PathSorts'. -/
def pathSortsUptoCard : Claim7 := { stood := { row := pathSortsUptoRow, standIns := [], harness := (true, "742a443e47c89b9e415e462427c1a51f6cec59cd6a5667b80c05317773b7ae3c"), looks := false }, kinds := [], alts := [], laidByText := true, laidKinds := [.data, .data, .data], laidTests := true, laidLooks := .later }
def PathSortsUptoCardSaid : Prop := Claim7.holds Tryd.pinned (.plain (OpenSpec.upto pathSortsSpec)) pathSortsUptoCard

/-- THE SECOND FORM's CARD OF 'haymowlaw05.PathOrders'. -/
def pathOrdersUptoCard : Claim7 := { stood := { row := pathOrdersUptoRow, standIns := [], harness := (true, "742a443e47c89b9e415e462427c1a51f6cec59cd6a5667b80c05317773b7ae3c"), looks := false }, kinds := [], alts := [], laidByText := true, laidKinds := [.data, .data, .data], laidTests := true, laidLooks := .later }
def PathOrdersUptoCardSaid : Prop := Claim7.holds Tryd.pinned (.plain (OpenSpec.upto pathOrdersSpec)) pathOrdersUptoCard

/-- THE SECOND FORM's CARD OF 'haymowlaw05.PathThree'. -/
def pathThreeUptoCard : Claim7 := { stood := { row := pathThreeUptoRow, standIns := [], harness := (true, "742a443e47c89b9e415e462427c1a51f6cec59cd6a5667b80c05317773b7ae3c"), looks := false }, kinds := [], alts := [], laidByText := true, laidKinds := [.data, .data, .data], laidTests := true, laidLooks := .later }
def PathThreeUptoCardSaid : Prop := Claim7.holds Tryd.pinned (.plain (OpenSpec.upto pathThreeSpec)) pathThreeUptoCard

/-- THE SECOND FORM's CARD OF 'haymowlaw05.PathUnder'. -/
def pathUnderUptoCard : Claim7 := { stood := { row := pathUnderUptoRow, standIns := [], harness := (true, "742a443e47c89b9e415e462427c1a51f6cec59cd6a5667b80c05317773b7ae3c"), looks := false }, kinds := [], alts := [], laidByText := true, laidKinds := [.data, .data, .data], laidTests := true, laidLooks := .later }
def PathUnderUptoCardSaid : Prop := Claim7.holds Tryd.pinned (.plain (OpenSpec.upto pathUnderSpec)) pathUnderUptoCard
end Rows
end Go.Proofs.YtakkfilcecegeaaDoor
