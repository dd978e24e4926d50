/-
  DERIVED. GIVEN WITH THE SEED: THE CARDS: each row of YtceankldidkohaaDoorRows.lean that lists a variable, with what it lists TIED to the program's text (the seventh form; the later family's looks); each row that meets fmt, with fmt's text TOLD by the authors' own Lean function (tested against real Go, not proved from fmt's source: count such statements apart). THE CARD IS WHAT COUNTS. Prove the row's statement (the work); the ties are given (YtceankldidkohaaDoorTie.lean); close each card by the builder's one call (the guide's Derived/Test/ToyasCard.lean, 'card_holds'). Laid BY PROGRAM, IN A SANDBOX (cutbox-door.mjs). By AI agents, Wed Nov 11 2026. No macro, syntax, notation, axiom, sorry.
-/
import Derived.Test.YtceankldidkohaaDoorRows
import GoSem.ClaimSeven
namespace Go.Proofs.YtceankldidkohaaDoor
namespace Rows

/-- THE TIED CARD OF 'haymowlaw20.AuditTwice'. -/
def auditTwiceCard : Claim7 := { stood := { row := auditTwiceRow, standIns := [], harness := (true, "9b31e6866f4118caaa18f945f3b359506b8c3cb40029a307590766cefe3d3883"), looks := false }, kinds := [], alts := [], laidByText := true, laidKinds := [.data, .data, .data], laidTests := true, laidLooks := .later }
def AuditTwiceCardSaid : Prop := Claim7.holds Tryd.pinned (.plain (OpenSpec.ofChange auditTwiceSpec)) auditTwiceCard

/-- THE TIED CARD OF 'haymowlaw20.AuditParts'. -/
def auditPartsCard : Claim7 := { stood := { row := auditPartsRow, standIns := [], harness := (true, "9b31e6866f4118caaa18f945f3b359506b8c3cb40029a307590766cefe3d3883"), looks := false }, kinds := [], alts := [], laidByText := true, laidKinds := [.data, .data, .data], laidTests := true, laidLooks := .later }
def AuditPartsCardSaid : Prop := Claim7.holds Tryd.pinned (.plain (OpenSpec.ofChange auditPartsSpec)) auditPartsCard

/-- THE TIED CARD OF 'haymowlaw20.AuditKeeps'. -/
def auditKeepsCard : Claim7 := { stood := { row := auditKeepsRow, standIns := [], harness := (true, "9b31e6866f4118caaa18f945f3b359506b8c3cb40029a307590766cefe3d3883"), looks := false }, kinds := [], alts := [], laidByText := true, laidKinds := [.data, .data, .data], laidTests := true, laidLooks := .later }
def AuditKeepsCardSaid : Prop := Claim7.holds Tryd.pinned (.plain (OpenSpec.ofChange auditKeepsSpec)) auditKeepsCard

/-- THE TIED CARD OF 'haymowlaw20.AuditSound'. -/
def auditSoundCard : Claim7 := { stood := { row := auditSoundRow, standIns := [], harness := (true, "9b31e6866f4118caaa18f945f3b359506b8c3cb40029a307590766cefe3d3883"), looks := false }, kinds := [], alts := [], laidByText := true, laidKinds := [.data, .data, .data], laidTests := true, laidLooks := .later }
def AuditSoundCardSaid : Prop := Claim7.holds Tryd.pinned (.plain (OpenSpec.ofChange auditSoundSpec)) auditSoundCard

/-- THE SECOND FORM's CARD OF 'haymowlaw20.AuditTwice'. -/
def auditTwiceUptoCard : Claim7 := { stood := { row := auditTwiceUptoRow, standIns := [], harness := (true, "9b31e6866f4118caaa18f945f3b359506b8c3cb40029a307590766cefe3d3883"), looks := false }, kinds := [], alts := [], laidByText := true, laidKinds := [.data, .data, .data], laidTests := true, laidLooks := .later }
def AuditTwiceUptoCardSaid : Prop := Claim7.holds Tryd.pinned (.plain (OpenSpec.upto auditTwiceSpec)) auditTwiceUptoCard

/-- THE SECOND FORM's CARD OF 'haymowlaw20.AuditParts'. -/
def auditPartsUptoCard : Claim7 := { stood := { row := auditPartsUptoRow, standIns := [], harness := (true, "9b31e6866f4118caaa18f945f3b359506b8c3cb40029a307590766cefe3d3883"), looks := false }, kinds := [], alts := [], laidByText := true, laidKinds := [.data, .data, .data], laidTests := true, laidLooks := .later }
def AuditPartsUptoCardSaid : Prop := Claim7.holds Tryd.pinned (.plain (OpenSpec.upto auditPartsSpec)) auditPartsUptoCard

/-- THE SECOND FORM's CARD OF 'haymowlaw20.AuditKeeps'. -/
def auditKeepsUptoCard : Claim7 := { stood := { row := auditKeepsUptoRow, standIns := [], harness := (true, "9b31e6866f4118caaa18f945f3b359506b8c3cb40029a307590766cefe3d3883"), looks := false }, kinds := [], alts := [], laidByText := true, laidKinds := [.data, .data, .data], laidTests := true, laidLooks := .later }
def AuditKeepsUptoCardSaid : Prop := Claim7.holds Tryd.pinned (.plain (OpenSpec.upto auditKeepsSpec)) auditKeepsUptoCard

/-- THE SECOND FORM's CARD OF 'haymowlaw20.AuditSound'. -/
def auditSoundUptoCard : Claim7 := { stood := { row := auditSoundUptoRow, standIns := [], harness := (true, "9b31e6866f4118caaa18f945f3b359506b8c3cb40029a307590766cefe3d3883"), looks := false }, kinds := [], alts := [], laidByText := true, laidKinds := [.data, .data, .data], laidTests := true, laidLooks := .later }
def AuditSoundUptoCardSaid : Prop := Claim7.holds Tryd.pinned (.plain (OpenSpec.upto auditSoundSpec)) auditSoundUptoCard
end Rows
end Go.Proofs.YtceankldidkohaaDoor
