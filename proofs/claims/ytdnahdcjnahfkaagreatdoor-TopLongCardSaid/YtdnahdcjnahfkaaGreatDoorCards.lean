/-
  DERIVED. GIVEN WITH THE SEED: THE CARDS: each row of YtdnahdcjnahfkaaGreatDoorRows.lean that lists a variable, with what it lists TIED to the program's text (the seventh form; the later family's looks); each row that meets fmt, with fmt's text TOLD by the authors' own Lean function (tested against real Go, not proved from fmt's source: count such statements apart). THE CARD IS WHAT COUNTS. Prove the row's statement (the work); the ties are given (YtdnahdcjnahfkaaGreatDoorTie.lean); close each card by the builder's one call (the guide's Derived/Test/ToyasCard.lean, 'card_holds'). Laid BY PROGRAM, IN A SANDBOX (cutbox-door.mjs). By AI agents, Wed Nov 11 2026. No macro, syntax, notation, axiom, sorry.
-/
import Derived.Test.YtdnahdcjnahfkaaGreatDoorRows
import GoSem.ClaimSeven
namespace Go.Proofs.YtdnahdcjnahfkaaGreatDoor
namespace Rows

/-- THE TIED CARD OF 'rectotop.TopLong'. -/
def topLongCard : Claim7 := { stood := { row := topLongRow, standIns := [], harness := (true, "ad7378242d2ba0307f296461840370d08061c9aea98cc60a44fe9aa5599fb0f0"), looks := true }, kinds := [], alts := [], laidByText := true, laidKinds := [.data, .data, .data, .data, .handle, .pinned], laidTests := true, laidLooks := .later }
def TopLongCardSaid : Prop := Claim7.holds Tryz.pinned (.plain (OpenSpec.ofChange topLongSpec)) topLongCard

/-- THE SECOND FORM's CARD OF 'rectotop.TopLong'. -/
def topLongUptoCard : Claim7 := { stood := { row := topLongUptoRow, standIns := [], harness := (true, "ad7378242d2ba0307f296461840370d08061c9aea98cc60a44fe9aa5599fb0f0"), looks := true }, kinds := [], alts := [], laidByText := true, laidKinds := [.data, .data, .data, .data, .handle, .pinned], laidTests := true, laidLooks := .later }
def TopLongUptoCardSaid : Prop := Claim7.holds Tryz.pinned (.plain (OpenSpec.upto topLongSpec)) topLongUptoCard
end Rows
end Go.Proofs.YtdnahdcjnahfkaaGreatDoor
