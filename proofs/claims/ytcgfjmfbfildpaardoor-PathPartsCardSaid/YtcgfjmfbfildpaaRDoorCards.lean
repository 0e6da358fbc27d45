/-
  DERIVED. GIVEN WITH THE SEED: THE CARDS: each row of YtcgfjmfbfildpaaRDoorRows.lean that lists a variable, with what it lists TIED to the program's text (the seventh form; the later family's looks); each row that meets fmt, with fmt's text TOLD by the authors' own Lean function (tested against real Go, not proved from fmt's source: count such statements apart). THE CARD IS WHAT COUNTS. Prove the row's statement (the work); the ties are given (YtcgfjmfbfildpaaRDoorTie.lean); close each card by the builder's one call (the guide's Derived/Test/ToyasCard.lean, 'card_holds'). Laid BY PROGRAM, IN A SANDBOX (cutbox-door.mjs). By AI agents, Wed Nov 11 2026. No macro, syntax, notation, axiom, sorry.
-/
import Derived.Test.YtcgfjmfbfildpaaRDoorRows
import GoSem.ClaimSeven
namespace Go.Proofs.YtcgfjmfbfildpaaRDoor
namespace Rows

/-- THE TIED CARD OF 'rectolaw1.PathAny'. -/
def pathAnyCard : Claim7 := { stood := { row := pathAnyRow, standIns := [], harness := (true, "0261143ab321c4276db9f1bd8b8ad23c368ad9d084584a31b6cac715c7a04dce"), looks := true }, kinds := [], alts := [], laidByText := true, laidKinds := [.data, .pinned], laidTests := true, laidLooks := .later }
def PathAnyCardSaid : Prop := Claim7.holds Tryd.pinned (.plain (OpenSpec.ofChange pathAnySpec)) pathAnyCard

/-- THE TIED CARD OF 'rectolaw1.PathTwo'. -/
def pathTwoCard : Claim7 := { stood := { row := pathTwoRow, standIns := [], harness := (true, "0261143ab321c4276db9f1bd8b8ad23c368ad9d084584a31b6cac715c7a04dce"), looks := true }, kinds := [], alts := [], laidByText := true, laidKinds := [.data, .pinned], laidTests := true, laidLooks := .later }
def PathTwoCardSaid : Prop := Claim7.holds Tryd.pinned (.plain (OpenSpec.ofChange pathTwoSpec)) pathTwoCard

/-- THE TIED CARD OF 'rectolaw1.PathFolders'. -/
def pathFoldersCard : Claim7 := { stood := { row := pathFoldersRow, standIns := [], harness := (true, "0261143ab321c4276db9f1bd8b8ad23c368ad9d084584a31b6cac715c7a04dce"), looks := true }, kinds := [], alts := [], laidByText := true, laidKinds := [.data, .pinned], laidTests := true, laidLooks := .later }
def PathFoldersCardSaid : Prop := Claim7.holds Tryd.pinned (.plain (OpenSpec.ofChange pathFoldersSpec)) pathFoldersCard

/-- THE TIED CARD OF 'rectolaw1.PathParts'. -/
def pathPartsCard : Claim7 := { stood := { row := pathPartsRow, standIns := [], harness := (true, "0261143ab321c4276db9f1bd8b8ad23c368ad9d084584a31b6cac715c7a04dce"), looks := true }, kinds := [], alts := [], laidByText := true, laidKinds := [.data, .pinned], laidTests := true, laidLooks := .later }
def PathPartsCardSaid : Prop := Claim7.holds Tryd.pinned (.plain (OpenSpec.ofChange pathPartsSpec)) pathPartsCard

/-- THE TIED CARD OF 'rectolaw12.PatchAny'. -/
def patchAnyCard : Claim7 := { stood := { row := patchAnyRow, standIns := [], harness := (true, "0261143ab321c4276db9f1bd8b8ad23c368ad9d084584a31b6cac715c7a04dce"), looks := true }, kinds := [], alts := [], laidByText := true, laidKinds := [.data, .data, .data], laidTests := true, laidLooks := .later }
def PatchAnyCardSaid : Prop := Claim7.holds Tryd.pinned (.plain (OpenSpec.ofChange patchAnySpec)) patchAnyCard

/-- THE TIED CARD OF 'rectolaw12.PatchMoved'. -/
def patchMovedCard : Claim7 := { stood := { row := patchMovedRow, standIns := [], harness := (true, "0261143ab321c4276db9f1bd8b8ad23c368ad9d084584a31b6cac715c7a04dce"), looks := true }, kinds := [], alts := [], laidByText := true, laidKinds := [.data, .data, .data], laidTests := true, laidLooks := .later }
def PatchMovedCardSaid : Prop := Claim7.holds Tryd.pinned (.plain (OpenSpec.ofChange patchMovedSpec)) patchMovedCard

/-- THE TIED CARD OF 'rectolaw23.ShelfFull'. -/
def shelfFullCard : Claim7 := { stood := { row := shelfFullRow, standIns := [], harness := (true, "0261143ab321c4276db9f1bd8b8ad23c368ad9d084584a31b6cac715c7a04dce"), looks := true }, kinds := [], alts := [], laidByText := true, laidKinds := [.data, .data, .data], laidTests := true, laidLooks := .later }
def ShelfFullCardSaid : Prop := Claim7.holds Tryd.pinned (.plain (OpenSpec.ofChange shelfFullSpec)) shelfFullCard

/-- THE TIED CARD OF 'rectolaw18.StatFresh'. -/
def statFreshCard : Claim7 := { stood := { row := statFreshRow, standIns := [], harness := (true, "0261143ab321c4276db9f1bd8b8ad23c368ad9d084584a31b6cac715c7a04dce"), looks := true }, kinds := [], alts := [], laidByText := true, laidKinds := [.data, .pinned], laidTests := true, laidLooks := .later }
def StatFreshCardSaid : Prop := Claim7.holds Tryd.pinned (.plain (OpenSpec.ofChange statFreshSpec)) statFreshCard

/-- THE TIED CARD OF 'rectolaw18.StatSmudged'. -/
def statSmudgedCard : Claim7 := { stood := { row := statSmudgedRow, standIns := [], harness := (true, "0261143ab321c4276db9f1bd8b8ad23c368ad9d084584a31b6cac715c7a04dce"), looks := true }, kinds := [], alts := [], laidByText := true, laidKinds := [.data, .pinned], laidTests := true, laidLooks := .later }
def StatSmudgedCardSaid : Prop := Claim7.holds Tryd.pinned (.plain (OpenSpec.ofChange statSmudgedSpec)) statSmudgedCard

/-- THE TIED CARD OF 'rectolaw18.StatNever'. -/
def statNeverCard : Claim7 := { stood := { row := statNeverRow, standIns := [], harness := (true, "0261143ab321c4276db9f1bd8b8ad23c368ad9d084584a31b6cac715c7a04dce"), looks := true }, kinds := [], alts := [], laidByText := true, laidKinds := [.data, .pinned], laidTests := true, laidLooks := .later }
def StatNeverCardSaid : Prop := Claim7.holds Tryd.pinned (.plain (OpenSpec.ofChange statNeverSpec)) statNeverCard

/-- THE SECOND FORM's CARD OF 'rectolaw1.PathAny'. -/
def pathAnyUptoCard : Claim7 := { stood := { row := pathAnyUptoRow, standIns := [], harness := (true, "0261143ab321c4276db9f1bd8b8ad23c368ad9d084584a31b6cac715c7a04dce"), looks := true }, kinds := [], alts := [], laidByText := true, laidKinds := [.data, .pinned], laidTests := true, laidLooks := .later }
def PathAnyUptoCardSaid : Prop := Claim7.holds Tryd.pinned (.plain (OpenSpec.upto pathAnySpec)) pathAnyUptoCard

/-- THE SECOND FORM's CARD OF 'rectolaw1.PathTwo'. -/
def pathTwoUptoCard : Claim7 := { stood := { row := pathTwoUptoRow, standIns := [], harness := (true, "0261143ab321c4276db9f1bd8b8ad23c368ad9d084584a31b6cac715c7a04dce"), looks := true }, kinds := [], alts := [], laidByText := true, laidKinds := [.data, .pinned], laidTests := true, laidLooks := .later }
def PathTwoUptoCardSaid : Prop := Claim7.holds Tryd.pinned (.plain (OpenSpec.upto pathTwoSpec)) pathTwoUptoCard

/-- THE SECOND FORM's CARD OF 'rectolaw1.PathFolders'. -/
def pathFoldersUptoCard : Claim7 := { stood := { row := pathFoldersUptoRow, standIns := [], harness := (true, "0261143ab321c4276db9f1bd8b8ad23c368ad9d084584a31b6cac715c7a04dce"), looks := true }, kinds := [], alts := [], laidByText := true, laidKinds := [.data, .pinned], laidTests := true, laidLooks := .later }
def PathFoldersUptoCardSaid : Prop := Claim7.holds Tryd.pinned (.plain (OpenSpec.upto pathFoldersSpec)) pathFoldersUptoCard

/-- THE SECOND FORM's CARD OF 'rectolaw1.PathParts'. -/
def pathPartsUptoCard : Claim7 := { stood := { row := pathPartsUptoRow, standIns := [], harness := (true, "0261143ab321c4276db9f1bd8b8ad23c368ad9d084584a31b6cac715c7a04dce"), looks := true }, kinds := [], alts := [], laidByText := true, laidKinds := [.data, .pinned], laidTests := true, laidLooks := .later }
def PathPartsUptoCardSaid : Prop := Claim7.holds Tryd.pinned (.plain (OpenSpec.upto pathPartsSpec)) pathPartsUptoCard

/-- THE SECOND FORM's CARD OF 'rectolaw12.PatchAny'. -/
def patchAnyUptoCard : Claim7 := { stood := { row := patchAnyUptoRow, standIns := [], harness := (true, "0261143ab321c4276db9f1bd8b8ad23c368ad9d084584a31b6cac715c7a04dce"), looks := true }, kinds := [], alts := [], laidByText := true, laidKinds := [.data, .data, .data], laidTests := true, laidLooks := .later }
def PatchAnyUptoCardSaid : Prop := Claim7.holds Tryd.pinned (.plain (OpenSpec.upto patchAnySpec)) patchAnyUptoCard

/-- THE SECOND FORM's CARD OF 'rectolaw12.PatchMoved'. -/
def patchMovedUptoCard : Claim7 := { stood := { row := patchMovedUptoRow, standIns := [], harness := (true, "0261143ab321c4276db9f1bd8b8ad23c368ad9d084584a31b6cac715c7a04dce"), looks := true }, kinds := [], alts := [], laidByText := true, laidKinds := [.data, .data, .data], laidTests := true, laidLooks := .later }
def PatchMovedUptoCardSaid : Prop := Claim7.holds Tryd.pinned (.plain (OpenSpec.upto patchMovedSpec)) patchMovedUptoCard

/-- THE SECOND FORM's CARD OF 'rectolaw23.ShelfFull'. -/
def shelfFullUptoCard : Claim7 := { stood := { row := shelfFullUptoRow, standIns := [], harness := (true, "0261143ab321c4276db9f1bd8b8ad23c368ad9d084584a31b6cac715c7a04dce"), looks := true }, kinds := [], alts := [], laidByText := true, laidKinds := [.data, .data, .data], laidTests := true, laidLooks := .later }
def ShelfFullUptoCardSaid : Prop := Claim7.holds Tryd.pinned (.plain (OpenSpec.upto shelfFullSpec)) shelfFullUptoCard

/-- THE SECOND FORM's CARD OF 'rectolaw18.StatFresh'. -/
def statFreshUptoCard : Claim7 := { stood := { row := statFreshUptoRow, standIns := [], harness := (true, "0261143ab321c4276db9f1bd8b8ad23c368ad9d084584a31b6cac715c7a04dce"), looks := true }, kinds := [], alts := [], laidByText := true, laidKinds := [.data, .pinned], laidTests := true, laidLooks := .later }
def StatFreshUptoCardSaid : Prop := Claim7.holds Tryd.pinned (.plain (OpenSpec.upto statFreshSpec)) statFreshUptoCard

/-- THE SECOND FORM's CARD OF 'rectolaw18.StatSmudged'. -/
def statSmudgedUptoCard : Claim7 := { stood := { row := statSmudgedUptoRow, standIns := [], harness := (true, "0261143ab321c4276db9f1bd8b8ad23c368ad9d084584a31b6cac715c7a04dce"), looks := true }, kinds := [], alts := [], laidByText := true, laidKinds := [.data, .pinned], laidTests := true, laidLooks := .later }
def StatSmudgedUptoCardSaid : Prop := Claim7.holds Tryd.pinned (.plain (OpenSpec.upto statSmudgedSpec)) statSmudgedUptoCard

/-- THE SECOND FORM's CARD OF 'rectolaw18.StatNever'. -/
def statNeverUptoCard : Claim7 := { stood := { row := statNeverUptoRow, standIns := [], harness := (true, "0261143ab321c4276db9f1bd8b8ad23c368ad9d084584a31b6cac715c7a04dce"), looks := true }, kinds := [], alts := [], laidByText := true, laidKinds := [.data, .pinned], laidTests := true, laidLooks := .later }
def StatNeverUptoCardSaid : Prop := Claim7.holds Tryd.pinned (.plain (OpenSpec.upto statNeverSpec)) statNeverUptoCard
end Rows
end Go.Proofs.YtcgfjmfbfildpaaRDoor
