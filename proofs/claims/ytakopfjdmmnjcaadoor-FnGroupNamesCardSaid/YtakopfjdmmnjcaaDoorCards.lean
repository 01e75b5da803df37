/-
  DERIVED. GIVEN WITH THE SEED: THE CARDS: each row of YtakopfjdmmnjcaaDoorRows.lean that lists a variable, with what it lists TIED to the program's text (the seventh form; the later family's looks); each row that meets fmt, with fmt's text TOLD by the authors' own Lean function (tested against real Go, not proved from fmt's source: count such statements apart). THE CARD IS WHAT COUNTS. Prove the row's statement (the work); the ties are given (YtakopfjdmmnjcaaDoorTie.lean); close each card by the builder's one call (the guide's Derived/Test/ToyasCard.lean, 'card_holds'). Laid BY PROGRAM, IN A SANDBOX (cutbox-door.mjs). By AI agents, Wed Nov 11 2026. No macro, syntax, notation, axiom, sorry.
-/
import Derived.Test.YtakopfjdmmnjcaaDoorRows
import GoSem.ClaimSeven
namespace Go.Proofs.YtakopfjdmmnjcaaDoor
namespace Rows

/-- THE TIED CARD OF 'laws.FnGroupNames'. -/
def fnGroupNamesCard : Claim7 := { stood := { row := fnGroupNamesRow, standIns := [], harness := (true, "80adec387b9b773f7abaf67eba49918a1a99e1ed291f54d98bd912a022e956de"), looks := false }, kinds := [], alts := [], laidByText := true, laidKinds := [.data, .data, .data], laidTests := true, laidLooks := .later }
def FnGroupNamesCardSaid : Prop := Claim7.holds Tryd.pinned (.plain (OpenSpec.ofChange fnGroupNamesSpec)) fnGroupNamesCard

/-- THE SECOND FORM's CARD OF 'laws.FnGroupNames'. -/
def fnGroupNamesUptoCard : Claim7 := { stood := { row := fnGroupNamesUptoRow, standIns := [], harness := (true, "80adec387b9b773f7abaf67eba49918a1a99e1ed291f54d98bd912a022e956de"), looks := false }, kinds := [], alts := [], laidByText := true, laidKinds := [.data, .data, .data], laidTests := true, laidLooks := .later }
def FnGroupNamesUptoCardSaid : Prop := Claim7.holds Tryd.pinned (.plain (OpenSpec.upto fnGroupNamesSpec)) fnGroupNamesUptoCard
end Rows
end Go.Proofs.YtakopfjdmmnjcaaDoor
