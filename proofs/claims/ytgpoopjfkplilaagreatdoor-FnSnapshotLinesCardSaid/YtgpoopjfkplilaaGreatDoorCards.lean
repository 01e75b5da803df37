/-
  DERIVED. GIVEN WITH THE SEED: THE CARDS: each row of YtgpoopjfkplilaaGreatDoorRows.lean that lists a variable, with what it lists TIED to the program's text (the seventh form; the later family's looks); each row that meets fmt, with fmt's text TOLD by the authors' own Lean function (tested against real Go, not proved from fmt's source: count such statements apart). THE CARD IS WHAT COUNTS. Prove the row's statement (the work); the ties are given (YtgpoopjfkplilaaGreatDoorTie.lean); close each card by the builder's one call (the guide's Derived/Test/ToyasCard.lean, 'card_holds'). Laid BY PROGRAM, IN A SANDBOX (cutbox-door.mjs). By AI agents, Wed Nov 11 2026. No macro, syntax, notation, axiom, sorry.
-/
import Derived.Test.YtgpoopjfkplilaaGreatDoorRows
import GoSem.ClaimSeven
namespace Go.Proofs.YtgpoopjfkplilaaGreatDoor
namespace Rows

/-- THE TIED CARD OF 'laws.FnExactLatestSnapshot'. -/
def fnExactLatestSnapshotCard : Claim7 := { stood := { row := fnExactLatestSnapshotRow, standIns := [], harness := (true, "35b086ccfa9f2f71603de0d744c8d08ce8207fa0e90619dfd29d550379beeff0"), looks := true }, kinds := [], alts := [], laidByText := true, laidKinds := [.data, .data, .data, .data, .sentinel, .sentinel, .listed, .data, .pinned], laidTests := true, laidLooks := .later }
def FnExactLatestSnapshotCardSaid : Prop := Claim7.holds Tryz.pinned (.plain (OpenSpec.ofChange fnExactLatestSnapshotSpec)) fnExactLatestSnapshotCard

/-- THE TIED CARD OF 'laws.FnExactSlotSize'. -/
def fnExactSlotSizeCard : Claim7 := { stood := { row := fnExactSlotSizeRow, standIns := [], harness := (true, "35b086ccfa9f2f71603de0d744c8d08ce8207fa0e90619dfd29d550379beeff0"), looks := true }, kinds := [], alts := [], laidByText := true, laidKinds := [.data, .data, .data, .data, .sentinel, .sentinel, .listed, .data, .pinned], laidTests := true, laidLooks := .later }
def FnExactSlotSizeCardSaid : Prop := Claim7.holds Tryz.pinned (.plain (OpenSpec.ofChange fnExactSlotSizeSpec)) fnExactSlotSizeCard

/-- THE TIED CARD OF 'laws.FnSnapshotLines'. -/
def fnSnapshotLinesCard : Claim7 := { stood := { row := fnSnapshotLinesRow, standIns := [], harness := (true, "35b086ccfa9f2f71603de0d744c8d08ce8207fa0e90619dfd29d550379beeff0"), looks := true }, kinds := [], alts := [], laidByText := true, laidKinds := [.data, .data, .data, .data, .sentinel, .sentinel, .listed, .data, .pinned], laidTests := true, laidLooks := .later }
def FnSnapshotLinesCardSaid : Prop := Claim7.holds Tryz.pinned (.plain (OpenSpec.ofChange fnSnapshotLinesSpec)) fnSnapshotLinesCard

/-- THE TIED CARD OF 'laws.FnExactDecodeSnapshot'. -/
def fnExactDecodeSnapshotCard : Claim7 := { stood := { row := fnExactDecodeSnapshotRow, standIns := [], harness := (true, "35b086ccfa9f2f71603de0d744c8d08ce8207fa0e90619dfd29d550379beeff0"), looks := true }, kinds := [], alts := [], laidByText := true, laidKinds := [.data, .data, .data, .data, .sentinel, .sentinel, .listed, .data, .pinned], laidTests := true, laidLooks := .later }
def FnExactDecodeSnapshotCardSaid : Prop := Claim7.holds Tryz.pinned (.plain (OpenSpec.ofChange fnExactDecodeSnapshotSpec)) fnExactDecodeSnapshotCard

/-- THE TIED CARD OF 'laws.FnExactDecodeSlot'. -/
def fnExactDecodeSlotCard : Claim7 := { stood := { row := fnExactDecodeSlotRow, standIns := [], harness := (true, "35b086ccfa9f2f71603de0d744c8d08ce8207fa0e90619dfd29d550379beeff0"), looks := true }, kinds := [], alts := [], laidByText := true, laidKinds := [.data, .data, .data, .data, .sentinel, .sentinel, .listed, .data, .pinned], laidTests := true, laidLooks := .later }
def FnExactDecodeSlotCardSaid : Prop := Claim7.holds Tryz.pinned (.plain (OpenSpec.ofChange fnExactDecodeSlotSpec)) fnExactDecodeSlotCard

/-- THE SECOND FORM's CARD OF 'laws.FnExactLatestSnapshot'. -/
def fnExactLatestSnapshotUptoCard : Claim7 := { stood := { row := fnExactLatestSnapshotUptoRow, standIns := [], harness := (true, "35b086ccfa9f2f71603de0d744c8d08ce8207fa0e90619dfd29d550379beeff0"), looks := true }, kinds := [], alts := [], laidByText := true, laidKinds := [.data, .data, .data, .data, .sentinel, .sentinel, .listed, .data, .pinned], laidTests := true, laidLooks := .later }
def FnExactLatestSnapshotUptoCardSaid : Prop := Claim7.holds Tryz.pinned (.plain (OpenSpec.upto fnExactLatestSnapshotSpec)) fnExactLatestSnapshotUptoCard

/-- THE SECOND FORM's CARD OF 'laws.FnExactSlotSize'. -/
def fnExactSlotSizeUptoCard : Claim7 := { stood := { row := fnExactSlotSizeUptoRow, standIns := [], harness := (true, "35b086ccfa9f2f71603de0d744c8d08ce8207fa0e90619dfd29d550379beeff0"), looks := true }, kinds := [], alts := [], laidByText := true, laidKinds := [.data, .data, .data, .data, .sentinel, .sentinel, .listed, .data, .pinned], laidTests := true, laidLooks := .later }
def FnExactSlotSizeUptoCardSaid : Prop := Claim7.holds Tryz.pinned (.plain (OpenSpec.upto fnExactSlotSizeSpec)) fnExactSlotSizeUptoCard

/-- THE SECOND FORM's CARD OF 'laws.FnSnapshotLines'. -/
def fnSnapshotLinesUptoCard : Claim7 := { stood := { row := fnSnapshotLinesUptoRow, standIns := [], harness := (true, "35b086ccfa9f2f71603de0d744c8d08ce8207fa0e90619dfd29d550379beeff0"), looks := true }, kinds := [], alts := [], laidByText := true, laidKinds := [.data, .data, .data, .data, .sentinel, .sentinel, .listed, .data, .pinned], laidTests := true, laidLooks := .later }
def FnSnapshotLinesUptoCardSaid : Prop := Claim7.holds Tryz.pinned (.plain (OpenSpec.upto fnSnapshotLinesSpec)) fnSnapshotLinesUptoCard

/-- THE SECOND FORM's CARD OF 'laws.FnExactDecodeSnapshot'. -/
def fnExactDecodeSnapshotUptoCard : Claim7 := { stood := { row := fnExactDecodeSnapshotUptoRow, standIns := [], harness := (true, "35b086ccfa9f2f71603de0d744c8d08ce8207fa0e90619dfd29d550379beeff0"), looks := true }, kinds := [], alts := [], laidByText := true, laidKinds := [.data, .data, .data, .data, .sentinel, .sentinel, .listed, .data, .pinned], laidTests := true, laidLooks := .later }
def FnExactDecodeSnapshotUptoCardSaid : Prop := Claim7.holds Tryz.pinned (.plain (OpenSpec.upto fnExactDecodeSnapshotSpec)) fnExactDecodeSnapshotUptoCard

/-- THE SECOND FORM's CARD OF 'laws.FnExactDecodeSlot'. -/
def fnExactDecodeSlotUptoCard : Claim7 := { stood := { row := fnExactDecodeSlotUptoRow, standIns := [], harness := (true, "35b086ccfa9f2f71603de0d744c8d08ce8207fa0e90619dfd29d550379beeff0"), looks := true }, kinds := [], alts := [], laidByText := true, laidKinds := [.data, .data, .data, .data, .sentinel, .sentinel, .listed, .data, .pinned], laidTests := true, laidLooks := .later }
def FnExactDecodeSlotUptoCardSaid : Prop := Claim7.holds Tryz.pinned (.plain (OpenSpec.upto fnExactDecodeSlotSpec)) fnExactDecodeSlotUptoCard
end Rows
end Go.Proofs.YtgpoopjfkplilaaGreatDoor
