/-
  DERIVED. GIVEN WITH THE SEED: THE CARDS: each row of YtgfngchfmohhbaaDoorRows.lean that lists a variable, with what it lists TIED to the program's text (the seventh form; the later family's looks); each row that meets fmt, with fmt's text TOLD by the authors' own Lean function (tested against real Go, not proved from fmt's source: count such statements apart). THE CARD IS WHAT COUNTS. Prove the row's statement (the work); the ties are given (YtgfngchfmohhbaaDoorTie.lean); close each card by the builder's one call (the guide's Derived/Test/ToyasCard.lean, 'card_holds'). Laid BY PROGRAM, IN A SANDBOX (cutbox-door.mjs). By AI agents, Wed Nov 11 2026. No macro, syntax, notation, axiom, sorry.
-/
import Derived.Test.YtgfngchfmohhbaaDoorRows
import GoSem.ClaimSeven
namespace Go.Proofs.YtgfngchfmohhbaaDoor
namespace Rows

/-- THE TIED CARD OF 'laws.FnExactGroupName'. -/
def fnExactGroupNameCard : Claim7 := { stood := { row := fnExactGroupNameRow, standIns := [], harness := (true, "2a1b518d6075c430ae6e463045a43794f340fd6b6c62488b3b32147332fc7953"), looks := false }, kinds := [], alts := [], laidByText := true, laidKinds := [.data, .data, .data], laidTests := true, laidLooks := .later }
def FnExactGroupNameCardSaid : Prop := Claim7.holds Tryd.pinned (.plain (OpenSpec.ofChange fnExactGroupNameSpec)) fnExactGroupNameCard

/-- THE TIED CARD OF 'laws.FnExactFormatFile'. -/
def fnExactFormatFileCard : Claim7 := { stood := { row := fnExactFormatFileRow, standIns := [], harness := (true, "2a1b518d6075c430ae6e463045a43794f340fd6b6c62488b3b32147332fc7953"), looks := false }, kinds := [], alts := [], laidByText := true, laidKinds := [.data, .data, .data], laidTests := true, laidLooks := .later }
def FnExactFormatFileCardSaid : Prop := Claim7.holds Tryd.pinned (.plain (OpenSpec.ofChange fnExactFormatFileSpec)) fnExactFormatFileCard

/-- THE TIED CARD OF 'laws.FnExactEntryName'. -/
def fnExactEntryNameCard : Claim7 := { stood := { row := fnExactEntryNameRow, standIns := [], harness := (true, "2a1b518d6075c430ae6e463045a43794f340fd6b6c62488b3b32147332fc7953"), looks := false }, kinds := [], alts := [], laidByText := true, laidKinds := [.data, .data, .data], laidTests := true, laidLooks := .later }
def FnExactEntryNameCardSaid : Prop := Claim7.holds Tryd.pinned (.plain (OpenSpec.ofChange fnExactEntryNameSpec)) fnExactEntryNameCard

/-- THE TIED CARD OF 'laws.FnExactResolveName'. -/
def fnExactResolveNameCard : Claim7 := { stood := { row := fnExactResolveNameRow, standIns := [], harness := (true, "2a1b518d6075c430ae6e463045a43794f340fd6b6c62488b3b32147332fc7953"), looks := false }, kinds := [], alts := [], laidByText := true, laidKinds := [.data, .data, .data], laidTests := true, laidLooks := .later }
def FnExactResolveNameCardSaid : Prop := Claim7.holds Tryd.pinned (.plain (OpenSpec.ofChange fnExactResolveNameSpec)) fnExactResolveNameCard

/-- THE TIED CARD OF 'laws.FnExactEntryNames'. -/
def fnExactEntryNamesCard : Claim7 := { stood := { row := fnExactEntryNamesRow, standIns := [], harness := (true, "2a1b518d6075c430ae6e463045a43794f340fd6b6c62488b3b32147332fc7953"), looks := false }, kinds := [], alts := [], laidByText := true, laidKinds := [.data, .data, .data], laidTests := true, laidLooks := .later }
def FnExactEntryNamesCardSaid : Prop := Claim7.holds Tryd.pinned (.plain (OpenSpec.ofChange fnExactEntryNamesSpec)) fnExactEntryNamesCard

/-- THE TIED CARD OF 'laws.FnExactDisambiguatedIDs'. -/
def fnExactDisambiguatedIDsCard : Claim7 := { stood := { row := fnExactDisambiguatedIDsRow, standIns := [], harness := (true, "2a1b518d6075c430ae6e463045a43794f340fd6b6c62488b3b32147332fc7953"), looks := false }, kinds := [], alts := [], laidByText := true, laidKinds := [.data, .data, .data], laidTests := true, laidLooks := .later }
def FnExactDisambiguatedIDsCardSaid : Prop := Claim7.holds Tryd.pinned (.plain (OpenSpec.ofChange fnExactDisambiguatedIDsSpec)) fnExactDisambiguatedIDsCard

/-- THE SECOND FORM's CARD OF 'laws.FnExactGroupName'. -/
def fnExactGroupNameUptoCard : Claim7 := { stood := { row := fnExactGroupNameUptoRow, standIns := [], harness := (true, "2a1b518d6075c430ae6e463045a43794f340fd6b6c62488b3b32147332fc7953"), looks := false }, kinds := [], alts := [], laidByText := true, laidKinds := [.data, .data, .data], laidTests := true, laidLooks := .later }
def FnExactGroupNameUptoCardSaid : Prop := Claim7.holds Tryd.pinned (.plain (OpenSpec.upto fnExactGroupNameSpec)) fnExactGroupNameUptoCard

/-- THE SECOND FORM's CARD OF 'laws.FnExactFormatFile'. -/
def fnExactFormatFileUptoCard : Claim7 := { stood := { row := fnExactFormatFileUptoRow, standIns := [], harness := (true, "2a1b518d6075c430ae6e463045a43794f340fd6b6c62488b3b32147332fc7953"), looks := false }, kinds := [], alts := [], laidByText := true, laidKinds := [.data, .data, .data], laidTests := true, laidLooks := .later }
def FnExactFormatFileUptoCardSaid : Prop := Claim7.holds Tryd.pinned (.plain (OpenSpec.upto fnExactFormatFileSpec)) fnExactFormatFileUptoCard

/-- THE SECOND FORM's CARD OF 'laws.FnExactEntryName'. -/
def fnExactEntryNameUptoCard : Claim7 := { stood := { row := fnExactEntryNameUptoRow, standIns := [], harness := (true, "2a1b518d6075c430ae6e463045a43794f340fd6b6c62488b3b32147332fc7953"), looks := false }, kinds := [], alts := [], laidByText := true, laidKinds := [.data, .data, .data], laidTests := true, laidLooks := .later }
def FnExactEntryNameUptoCardSaid : Prop := Claim7.holds Tryd.pinned (.plain (OpenSpec.upto fnExactEntryNameSpec)) fnExactEntryNameUptoCard

/-- THE SECOND FORM's CARD OF 'laws.FnExactResolveName'. -/
def fnExactResolveNameUptoCard : Claim7 := { stood := { row := fnExactResolveNameUptoRow, standIns := [], harness := (true, "2a1b518d6075c430ae6e463045a43794f340fd6b6c62488b3b32147332fc7953"), looks := false }, kinds := [], alts := [], laidByText := true, laidKinds := [.data, .data, .data], laidTests := true, laidLooks := .later }
def FnExactResolveNameUptoCardSaid : Prop := Claim7.holds Tryd.pinned (.plain (OpenSpec.upto fnExactResolveNameSpec)) fnExactResolveNameUptoCard

/-- THE SECOND FORM's CARD OF 'laws.FnExactEntryNames'. -/
def fnExactEntryNamesUptoCard : Claim7 := { stood := { row := fnExactEntryNamesUptoRow, standIns := [], harness := (true, "2a1b518d6075c430ae6e463045a43794f340fd6b6c62488b3b32147332fc7953"), looks := false }, kinds := [], alts := [], laidByText := true, laidKinds := [.data, .data, .data], laidTests := true, laidLooks := .later }
def FnExactEntryNamesUptoCardSaid : Prop := Claim7.holds Tryd.pinned (.plain (OpenSpec.upto fnExactEntryNamesSpec)) fnExactEntryNamesUptoCard

/-- THE SECOND FORM's CARD OF 'laws.FnExactDisambiguatedIDs'. -/
def fnExactDisambiguatedIDsUptoCard : Claim7 := { stood := { row := fnExactDisambiguatedIDsUptoRow, standIns := [], harness := (true, "2a1b518d6075c430ae6e463045a43794f340fd6b6c62488b3b32147332fc7953"), looks := false }, kinds := [], alts := [], laidByText := true, laidKinds := [.data, .data, .data], laidTests := true, laidLooks := .later }
def FnExactDisambiguatedIDsUptoCardSaid : Prop := Claim7.holds Tryd.pinned (.plain (OpenSpec.upto fnExactDisambiguatedIDsSpec)) fnExactDisambiguatedIDsUptoCard
end Rows
end Go.Proofs.YtgfngchfmohhbaaDoor
