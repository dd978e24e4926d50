/-
  DERIVED. GIVEN WITH THE SEED: THE CARDS: each row of YtcchoeomeklgmaaDoorRows.lean that lists a variable, with what it lists TIED to the program's text (the seventh form; the later family's looks); each row that meets fmt, with fmt's text TOLD by the authors' own Lean function (tested against real Go, not proved from fmt's source: count such statements apart). THE CARD IS WHAT COUNTS. Prove the row's statement (the work); the ties are given (YtcchoeomeklgmaaDoorTie.lean); close each card by the builder's one call (the guide's Derived/Test/ToyasCard.lean, 'card_holds'). Laid BY PROGRAM, IN A SANDBOX (cutbox-door.mjs). By AI agents, Wed Nov 11 2026. No macro, syntax, notation, axiom, sorry.
-/
import Derived.Test.YtcchoeomeklgmaaDoorRows
import GoSem.ClaimSeven
namespace Go.Proofs.YtcchoeomeklgmaaDoor
namespace Rows

/-- THE TIED CARD OF 'haymowlaw05.PathReads'. -/
def pathReadsCard : Claim7 := { stood := { row := pathReadsRow, standIns := [], harness := (true, "c59d548a92e9e3b298fe160cf9ebc205c95696e5cd96ec856536bda13f49aa89"), looks := true }, kinds := [], alts := [], laidByText := true, laidKinds := [.data, .data, .data, .data, .sentinel, .sentinel, .pinned], laidTests := true, laidLooks := .later }
def PathReadsCardSaid : Prop := Claim7.holds Tryd.pinned (.plain (OpenSpec.ofChange pathReadsSpec)) pathReadsCard

/-- THE TIED CARD OF 'haymowlaw05.PathBack'. -/
def pathBackCard : Claim7 := { stood := { row := pathBackRow, standIns := [], harness := (true, "c59d548a92e9e3b298fe160cf9ebc205c95696e5cd96ec856536bda13f49aa89"), looks := true }, kinds := [], alts := [], laidByText := true, laidKinds := [.data, .data, .data, .data, .sentinel, .sentinel, .pinned], laidTests := true, laidLooks := .later }
def PathBackCardSaid : Prop := Claim7.holds Tryd.pinned (.plain (OpenSpec.ofChange pathBackSpec)) pathBackCard

/-- THE TIED CARD OF 'haymowlaw04.AsmParses'. -/
def asmParsesCard : Claim7 := { stood := { row := asmParsesRow, standIns := [], harness := (true, "c59d548a92e9e3b298fe160cf9ebc205c95696e5cd96ec856536bda13f49aa89"), looks := true }, kinds := [], alts := [], laidByText := true, laidKinds := [.data, .data, .data, .data, .sentinel, .sentinel, .listed, .data, .pinned], laidTests := true, laidLooks := .later }
def AsmParsesCardSaid : Prop := Claim7.holds Tryd.pinned (.plain (OpenSpec.ofChange asmParsesSpec)) asmParsesCard

/-- THE TIED CARD OF 'haymowlaw04.AsmLong'. -/
def asmLongCard : Claim7 := { stood := { row := asmLongRow, standIns := [], harness := (true, "c59d548a92e9e3b298fe160cf9ebc205c95696e5cd96ec856536bda13f49aa89"), looks := true }, kinds := [], alts := [], laidByText := true, laidKinds := [.data, .data, .data, .data, .sentinel, .sentinel, .listed, .data, .pinned], laidTests := true, laidLooks := .later }
def AsmLongCardSaid : Prop := Claim7.holds Tryd.pinned (.plain (OpenSpec.ofChange asmLongSpec)) asmLongCard

/-- THE TIED CARD OF 'haymowlaw04.AsmFuncs'. -/
def asmFuncsCard : Claim7 := { stood := { row := asmFuncsRow, standIns := [], harness := (true, "c59d548a92e9e3b298fe160cf9ebc205c95696e5cd96ec856536bda13f49aa89"), looks := true }, kinds := [], alts := [], laidByText := true, laidKinds := [.data, .data, .data, .data, .sentinel, .sentinel, .listed, .data, .pinned], laidTests := true, laidLooks := .later }
def AsmFuncsCardSaid : Prop := Claim7.holds Tryd.pinned (.plain (OpenSpec.ofChange asmFuncsSpec)) asmFuncsCard

/-- THE SECOND FORM's CARD OF 'haymowlaw05.PathReads'. -/
def pathReadsUptoCard : Claim7 := { stood := { row := pathReadsUptoRow, standIns := [], harness := (true, "c59d548a92e9e3b298fe160cf9ebc205c95696e5cd96ec856536bda13f49aa89"), looks := true }, kinds := [], alts := [], laidByText := true, laidKinds := [.data, .data, .data, .data, .sentinel, .sentinel, .pinned], laidTests := true, laidLooks := .later }
def PathReadsUptoCardSaid : Prop := Claim7.holds Tryd.pinned (.plain (OpenSpec.upto pathReadsSpec)) pathReadsUptoCard

/-- THE SECOND FORM's CARD OF 'haymowlaw05.PathBack'. -/
def pathBackUptoCard : Claim7 := { stood := { row := pathBackUptoRow, standIns := [], harness := (true, "c59d548a92e9e3b298fe160cf9ebc205c95696e5cd96ec856536bda13f49aa89"), looks := true }, kinds := [], alts := [], laidByText := true, laidKinds := [.data, .data, .data, .data, .sentinel, .sentinel, .pinned], laidTests := true, laidLooks := .later }
def PathBackUptoCardSaid : Prop := Claim7.holds Tryd.pinned (.plain (OpenSpec.upto pathBackSpec)) pathBackUptoCard

/-- THE SECOND FORM's CARD OF 'haymowlaw04.AsmParses'. -/
def asmParsesUptoCard : Claim7 := { stood := { row := asmParsesUptoRow, standIns := [], harness := (true, "c59d548a92e9e3b298fe160cf9ebc205c95696e5cd96ec856536bda13f49aa89"), looks := true }, kinds := [], alts := [], laidByText := true, laidKinds := [.data, .data, .data, .data, .sentinel, .sentinel, .listed, .data, .pinned], laidTests := true, laidLooks := .later }
def AsmParsesUptoCardSaid : Prop := Claim7.holds Tryd.pinned (.plain (OpenSpec.upto asmParsesSpec)) asmParsesUptoCard

/-- THE SECOND FORM's CARD OF 'haymowlaw04.AsmLong'. -/
def asmLongUptoCard : Claim7 := { stood := { row := asmLongUptoRow, standIns := [], harness := (true, "c59d548a92e9e3b298fe160cf9ebc205c95696e5cd96ec856536bda13f49aa89"), looks := true }, kinds := [], alts := [], laidByText := true, laidKinds := [.data, .data, .data, .data, .sentinel, .sentinel, .listed, .data, .pinned], laidTests := true, laidLooks := .later }
def AsmLongUptoCardSaid : Prop := Claim7.holds Tryd.pinned (.plain (OpenSpec.upto asmLongSpec)) asmLongUptoCard

/-- THE SECOND FORM's CARD OF 'haymowlaw04.AsmFuncs'. -/
def asmFuncsUptoCard : Claim7 := { stood := { row := asmFuncsUptoRow, standIns := [], harness := (true, "c59d548a92e9e3b298fe160cf9ebc205c95696e5cd96ec856536bda13f49aa89"), looks := true }, kinds := [], alts := [], laidByText := true, laidKinds := [.data, .data, .data, .data, .sentinel, .sentinel, .listed, .data, .pinned], laidTests := true, laidLooks := .later }
def AsmFuncsUptoCardSaid : Prop := Claim7.holds Tryd.pinned (.plain (OpenSpec.upto asmFuncsSpec)) asmFuncsUptoCard
end Rows
end Go.Proofs.YtcchoeomeklgmaaDoor
