/-
  DERIVED. GIVEN WITH THE SEED: THE CARDS: each row of YtlmpmpddakhfnaaDoorRows.lean that lists a variable, with what it lists TIED to the program's text (the seventh form; the later family's looks); each row that meets fmt, with fmt's text TOLD by the authors' own Lean function (tested against real Go, not proved from fmt's source: count such statements apart). THE CARD IS WHAT COUNTS. Prove the row's statement (the work); the ties are given (YtlmpmpddakhfnaaDoorTie.lean); close each card by the builder's one call (the guide's Derived/Test/ToyasCard.lean, 'card_holds'). Laid BY PROGRAM, IN A SANDBOX (cutbox-door.mjs). By AI agents, Wed Nov 11 2026. No macro, syntax, notation, axiom, sorry.
-/
import Derived.Test.YtlmpmpddakhfnaaDoorRows
import GoSem.ClaimSeven
namespace Go.Proofs.YtlmpmpddakhfnaaDoor
namespace Rows

/-- THE TIED CARD OF 'laws.FnGroupNames'. -/
def fnGroupNamesCard : Claim7 := { stood := { row := fnGroupNamesRow, standIns := [], harness := (true, "732b58b5bd58e1845dd7762fa6b2b040df3a07c4a1bbbd385fd3018c313ea7a1"), looks := false }, kinds := [], alts := [], laidByText := true, laidKinds := [.data, .data, .data], laidTests := true, laidLooks := .later }
def FnGroupNamesCardSaid : Prop := Claim7.holds Tryd.pinned (.plain (OpenSpec.ofChange fnGroupNamesSpec)) fnGroupNamesCard

/-- THE TIED CARD OF 'laws.FnUniqueNames'. -/
def fnUniqueNamesCard : Claim7 := { stood := { row := fnUniqueNamesRow, standIns := [], harness := (true, "732b58b5bd58e1845dd7762fa6b2b040df3a07c4a1bbbd385fd3018c313ea7a1"), looks := false }, kinds := [], alts := [], laidByText := true, laidKinds := [.data, .data, .data], laidTests := true, laidLooks := .later }
def FnUniqueNamesCardSaid : Prop := Claim7.holds Tryd.pinned (.plain (OpenSpec.ofChange fnUniqueNamesSpec)) fnUniqueNamesCard

/-- THE SECOND FORM's CARD OF 'laws.FnGroupNames'. -/
def fnGroupNamesUptoCard : Claim7 := { stood := { row := fnGroupNamesUptoRow, standIns := [], harness := (true, "732b58b5bd58e1845dd7762fa6b2b040df3a07c4a1bbbd385fd3018c313ea7a1"), looks := false }, kinds := [], alts := [], laidByText := true, laidKinds := [.data, .data, .data], laidTests := true, laidLooks := .later }
def FnGroupNamesUptoCardSaid : Prop := Claim7.holds Tryd.pinned (.plain (OpenSpec.upto fnGroupNamesSpec)) fnGroupNamesUptoCard

/-- THE SECOND FORM's CARD OF 'laws.FnUniqueNames'. -/
def fnUniqueNamesUptoCard : Claim7 := { stood := { row := fnUniqueNamesUptoRow, standIns := [], harness := (true, "732b58b5bd58e1845dd7762fa6b2b040df3a07c4a1bbbd385fd3018c313ea7a1"), looks := false }, kinds := [], alts := [], laidByText := true, laidKinds := [.data, .data, .data], laidTests := true, laidLooks := .later }
def FnUniqueNamesUptoCardSaid : Prop := Claim7.holds Tryd.pinned (.plain (OpenSpec.upto fnUniqueNamesSpec)) fnUniqueNamesUptoCard
end Rows
end Go.Proofs.YtlmpmpddakhfnaaDoor
