/-
  DERIVED. GIVEN WITH THE SEED: THE CARDS: each row of YtnogfelfgclajaaGreatDoorRows.lean that lists a variable, with what it lists TIED to the program's text (the seventh form; the later family's looks); each row that meets fmt, with fmt's text TOLD by the authors' own Lean function (tested against real Go, not proved from fmt's source: count such statements apart). THE CARD IS WHAT COUNTS. Prove the row's statement (the work); the ties are given (YtnogfelfgclajaaGreatDoorTie.lean); close each card by the builder's one call (the guide's Derived/Test/ToyasCard.lean, 'card_holds'). Laid BY PROGRAM, IN A SANDBOX (cutbox-door.mjs). By AI agents, Wed Nov 11 2026. No macro, syntax, notation, axiom, sorry.
-/
import Derived.Test.YtnogfelfgclajaaGreatDoorRows
import GoSem.ClaimSeven
namespace Go.Proofs.YtnogfelfgclajaaGreatDoor
namespace Rows

/-- THE TIED CARD OF 'brecciatop.TopFlat'. -/
def topFlatCard : Claim7 := { stood := { row := topFlatRow, standIns := [], harness := (true, "5d848ccf4afb3bf60006bc4f4488c6a24632bfd365d62e3cee8a26fe60e604f2"), looks := true }, kinds := [], alts := [], laidByText := true, laidKinds := [.data, .data, .data, .data, .pinned], laidTests := true, laidLooks := .later }
def TopFlatCardSaid : Prop := Claim7.holds Tryz.pinned (.plain (OpenSpec.ofChange topFlatSpec)) topFlatCard

/-- THE TIED CARD OF 'brecciatop.TopPlaced'. -/
def topPlacedCard : Claim7 := { stood := { row := topPlacedRow, standIns := [], harness := (true, "5d848ccf4afb3bf60006bc4f4488c6a24632bfd365d62e3cee8a26fe60e604f2"), looks := true }, kinds := [], alts := [], laidByText := true, laidKinds := [.data, .data, .data, .data, .pinned], laidTests := true, laidLooks := .later }
def TopPlacedCardSaid : Prop := Claim7.holds Tryz.pinned (.plain (OpenSpec.ofChange topPlacedSpec)) topPlacedCard

/-- THE SECOND FORM's CARD OF 'brecciatop.TopFlat'. -/
def topFlatUptoCard : Claim7 := { stood := { row := topFlatUptoRow, standIns := [], harness := (true, "5d848ccf4afb3bf60006bc4f4488c6a24632bfd365d62e3cee8a26fe60e604f2"), looks := true }, kinds := [], alts := [], laidByText := true, laidKinds := [.data, .data, .data, .data, .pinned], laidTests := true, laidLooks := .later }
def TopFlatUptoCardSaid : Prop := Claim7.holds Tryz.pinned (.plain (OpenSpec.upto topFlatSpec)) topFlatUptoCard

/-- THE SECOND FORM's CARD OF 'brecciatop.TopPlaced'. -/
def topPlacedUptoCard : Claim7 := { stood := { row := topPlacedUptoRow, standIns := [], harness := (true, "5d848ccf4afb3bf60006bc4f4488c6a24632bfd365d62e3cee8a26fe60e604f2"), looks := true }, kinds := [], alts := [], laidByText := true, laidKinds := [.data, .data, .data, .data, .pinned], laidTests := true, laidLooks := .later }
def TopPlacedUptoCardSaid : Prop := Claim7.holds Tryz.pinned (.plain (OpenSpec.upto topPlacedSpec)) topPlacedUptoCard
end Rows
end Go.Proofs.YtnogfelfgclajaaGreatDoor
