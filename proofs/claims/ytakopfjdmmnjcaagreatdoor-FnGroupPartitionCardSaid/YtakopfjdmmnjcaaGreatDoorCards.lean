/-
  DERIVED. GIVEN WITH THE SEED: THE CARDS: each row of YtakopfjdmmnjcaaGreatDoorRows.lean that lists a variable, with what it lists TIED to the program's text (the seventh form; the later family's looks); each row that meets fmt, with fmt's text TOLD by the authors' own Lean function (tested against real Go, not proved from fmt's source: count such statements apart). THE CARD IS WHAT COUNTS. Prove the row's statement (the work); the ties are given (YtakopfjdmmnjcaaGreatDoorTie.lean); close each card by the builder's one call (the guide's Derived/Test/ToyasCard.lean, 'card_holds'). Laid BY PROGRAM, IN A SANDBOX (cutbox-door.mjs). By AI agents, Wed Nov 11 2026. No macro, syntax, notation, axiom, sorry.
-/
import Derived.Test.YtakopfjdmmnjcaaGreatDoorRows
import GoSem.ClaimSeven
namespace Go.Proofs.YtakopfjdmmnjcaaGreatDoor
namespace Rows

/-- THE TIED CARD OF 'laws.FnGroupPartition'. -/
def fnGroupPartitionCard : Claim7 := { stood := { row := fnGroupPartitionRow, standIns := [], harness := (true, "1adaba10669d521ca5223ae2ae4fc99cba9727f17b80a34499525a6f3511c059"), looks := false }, kinds := [], alts := [], laidByText := true, laidKinds := [.data, .data, .data], laidTests := true, laidLooks := .later }
def FnGroupPartitionCardSaid : Prop := Claim7.holds Tryz.pinned (.plain (OpenSpec.ofChange fnGroupPartitionSpec)) fnGroupPartitionCard

/-- THE SECOND FORM's CARD OF 'laws.FnGroupPartition'. -/
def fnGroupPartitionUptoCard : Claim7 := { stood := { row := fnGroupPartitionUptoRow, standIns := [], harness := (true, "1adaba10669d521ca5223ae2ae4fc99cba9727f17b80a34499525a6f3511c059"), looks := false }, kinds := [], alts := [], laidByText := true, laidKinds := [.data, .data, .data], laidTests := true, laidLooks := .later }
def FnGroupPartitionUptoCardSaid : Prop := Claim7.holds Tryz.pinned (.plain (OpenSpec.upto fnGroupPartitionSpec)) fnGroupPartitionUptoCard
end Rows
end Go.Proofs.YtakopfjdmmnjcaaGreatDoor
