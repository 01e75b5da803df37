/-
  DERIVED. GIVEN WITH THE SEED: THE CARDS: each row of YtdjgfffnaakehaaGreatDoorRows.lean that lists a variable, with what it lists TIED to the program's text (the seventh form; the later family's looks); each row that meets fmt, with fmt's text TOLD by the authors' own Lean function (tested against real Go, not proved from fmt's source: count such statements apart). THE CARD IS WHAT COUNTS. Prove the row's statement (the work); the ties are given (YtdjgfffnaakehaaGreatDoorTie.lean); close each card by the builder's one call (the guide's Derived/Test/ToyasCard.lean, 'card_holds'). Laid BY PROGRAM, IN A SANDBOX (cutbox-door.mjs). By AI agents, Wed Nov 11 2026. No macro, syntax, notation, axiom, sorry.
-/
import Derived.Test.YtdjgfffnaakehaaGreatDoorRows
import GoSem.ClaimSeven
namespace Go.Proofs.YtdjgfffnaakehaaGreatDoor
namespace Rows

/-- THE TIED CARD OF 'laws.FnExactEncodeSlot'. -/
def fnExactEncodeSlotCard : Claim7 := { stood := { row := fnExactEncodeSlotRow, standIns := [], harness := (true, "2f186f5b395cfa460c8f8526d89fb64a5c9feeace5aab35204f7bac902bcf573"), looks := false }, kinds := [], alts := [], laidByText := true, laidKinds := [.data, .data, .data], laidTests := true, laidLooks := .later }
def FnExactEncodeSlotCardSaid : Prop := Claim7.holds Tryz.pinned (.plain (OpenSpec.ofChange fnExactEncodeSlotSpec)) fnExactEncodeSlotCard

/-- THE TIED CARD OF 'laws.FnExactEncodeSnapshot'. -/
def fnExactEncodeSnapshotCard : Claim7 := { stood := { row := fnExactEncodeSnapshotRow, standIns := [], harness := (true, "2f186f5b395cfa460c8f8526d89fb64a5c9feeace5aab35204f7bac902bcf573"), looks := false }, kinds := [], alts := [], laidByText := true, laidKinds := [.data, .data, .data], laidTests := true, laidLooks := .later }
def FnExactEncodeSnapshotCardSaid : Prop := Claim7.holds Tryz.pinned (.plain (OpenSpec.ofChange fnExactEncodeSnapshotSpec)) fnExactEncodeSnapshotCard

/-- THE SECOND FORM's CARD OF 'laws.FnExactEncodeSlot'. -/
def fnExactEncodeSlotUptoCard : Claim7 := { stood := { row := fnExactEncodeSlotUptoRow, standIns := [], harness := (true, "2f186f5b395cfa460c8f8526d89fb64a5c9feeace5aab35204f7bac902bcf573"), looks := false }, kinds := [], alts := [], laidByText := true, laidKinds := [.data, .data, .data], laidTests := true, laidLooks := .later }
def FnExactEncodeSlotUptoCardSaid : Prop := Claim7.holds Tryz.pinned (.plain (OpenSpec.upto fnExactEncodeSlotSpec)) fnExactEncodeSlotUptoCard

/-- THE SECOND FORM's CARD OF 'laws.FnExactEncodeSnapshot'. -/
def fnExactEncodeSnapshotUptoCard : Claim7 := { stood := { row := fnExactEncodeSnapshotUptoRow, standIns := [], harness := (true, "2f186f5b395cfa460c8f8526d89fb64a5c9feeace5aab35204f7bac902bcf573"), looks := false }, kinds := [], alts := [], laidByText := true, laidKinds := [.data, .data, .data], laidTests := true, laidLooks := .later }
def FnExactEncodeSnapshotUptoCardSaid : Prop := Claim7.holds Tryz.pinned (.plain (OpenSpec.upto fnExactEncodeSnapshotSpec)) fnExactEncodeSnapshotUptoCard
end Rows
end Go.Proofs.YtdjgfffnaakehaaGreatDoor
