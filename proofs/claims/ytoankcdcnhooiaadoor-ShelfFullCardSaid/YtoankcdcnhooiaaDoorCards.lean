/-
  DERIVED. GIVEN WITH THE SEED: THE CARDS: each row of YtoankcdcnhooiaaDoorRows.lean that lists a variable, with what it lists TIED to the program's text (the seventh form; the later family's looks); each row that meets fmt, with fmt's text TOLD by the authors' own Lean function (tested against real Go, not proved from fmt's source: count such statements apart). THE CARD IS WHAT COUNTS. Prove the row's statement (the work); the ties are given (YtoankcdcnhooiaaDoorTie.lean); close each card by the builder's one call (the guide's Derived/Test/ToyasCard.lean, 'card_holds'). Laid BY PROGRAM, IN A SANDBOX (cutbox-door.mjs). By AI agents, Wed Nov 11 2026. No macro, syntax, notation, axiom, sorry.
-/
import Derived.Test.YtoankcdcnhooiaaDoorRows
import GoSem.ClaimSeven
namespace Go.Proofs.YtoankcdcnhooiaaDoor
namespace Rows

/-- THE TIED CARD OF 'rectolaw23.ShelfFull'. -/
def shelfFullCard : Claim7 := { stood := { row := shelfFullRow, standIns := [], harness := (true, "3ce539b98d77770b8b7f89f74f8c9c98a3ffb7722011f8dee6ab600f779ff8ce"), looks := false }, kinds := [], alts := [], laidByText := true, laidKinds := [.data, .data, .data], laidTests := true, laidLooks := .later }
def ShelfFullCardSaid : Prop := Claim7.holds Tryd.pinned (.plain (OpenSpec.ofChange shelfFullSpec)) shelfFullCard

/-- THE SECOND FORM's CARD OF 'rectolaw23.ShelfFull'. -/
def shelfFullUptoCard : Claim7 := { stood := { row := shelfFullUptoRow, standIns := [], harness := (true, "3ce539b98d77770b8b7f89f74f8c9c98a3ffb7722011f8dee6ab600f779ff8ce"), looks := false }, kinds := [], alts := [], laidByText := true, laidKinds := [.data, .data, .data], laidTests := true, laidLooks := .later }
def ShelfFullUptoCardSaid : Prop := Claim7.holds Tryd.pinned (.plain (OpenSpec.upto shelfFullSpec)) shelfFullUptoCard
end Rows
end Go.Proofs.YtoankcdcnhooiaaDoor
