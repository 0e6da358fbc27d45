/-
  DERIVED. GIVEN WITH THE SEED: THE CARDS: each row of YtnnbnljofklieaaDoorRows.lean that lists a variable, with what it lists TIED to the program's text (the seventh form; the later family's looks); each row that meets fmt, with fmt's text TOLD by the authors' own Lean function (tested against real Go, not proved from fmt's source: count such statements apart). THE CARD IS WHAT COUNTS. Prove the row's statement (the work); the ties are given (YtnnbnljofklieaaDoorTie.lean); close each card by the builder's one call (the guide's Derived/Test/ToyasCard.lean, 'card_holds'). Laid BY PROGRAM, IN A SANDBOX (cutbox-door.mjs). By AI agents, Wed Nov 11 2026. No macro, syntax, notation, axiom, sorry.
-/
import Derived.Test.YtnnbnljofklieaaDoorRows
import GoSem.ClaimSeven
namespace Go.Proofs.YtnnbnljofklieaaDoor
namespace Rows

/-- THE TIED CARD OF 'rectolaw12.PatchAny'. -/
def patchAnyCard : Claim7 := { stood := { row := patchAnyRow, standIns := [], harness := (true, "2f143b463ee6db942b491519d7a6e9247c771f7574c6f8c243fc13946445ec44"), looks := false }, kinds := [], alts := [], laidByText := true, laidKinds := [.data, .data, .data], laidTests := true, laidLooks := .later }
def PatchAnyCardSaid : Prop := Claim7.holds Tryd.pinned (.plain (OpenSpec.ofChange patchAnySpec)) patchAnyCard

/-- THE SECOND FORM's CARD OF 'rectolaw12.PatchAny'. -/
def patchAnyUptoCard : Claim7 := { stood := { row := patchAnyUptoRow, standIns := [], harness := (true, "2f143b463ee6db942b491519d7a6e9247c771f7574c6f8c243fc13946445ec44"), looks := false }, kinds := [], alts := [], laidByText := true, laidKinds := [.data, .data, .data], laidTests := true, laidLooks := .later }
def PatchAnyUptoCardSaid : Prop := Claim7.holds Tryd.pinned (.plain (OpenSpec.upto patchAnySpec)) patchAnyUptoCard
end Rows
end Go.Proofs.YtnnbnljofklieaaDoor
