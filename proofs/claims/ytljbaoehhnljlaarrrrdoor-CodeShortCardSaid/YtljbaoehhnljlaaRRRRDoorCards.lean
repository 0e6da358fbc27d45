/-
  DERIVED. GIVEN WITH THE SEED: THE CARDS: each row of YtljbaoehhnljlaaRRRRDoorRows.lean that lists a variable, with what it lists TIED to the program's text (the seventh form; the later family's looks); each row that meets fmt, with fmt's text TOLD by the authors' own Lean function (tested against real Go, not proved from fmt's source: count such statements apart). THE CARD IS WHAT COUNTS. Prove the row's statement (the work); the ties are given (YtljbaoehhnljlaaRRRRDoorTie.lean); close each card by the builder's one call (the guide's Derived/Test/ToyasCard.lean, 'card_holds'). Laid BY PROGRAM, IN A SANDBOX (cutbox-door.mjs). By AI agents, Wed Nov 11 2026. No macro, syntax, notation, axiom, sorry.
-/
import Derived.Test.YtljbaoehhnljlaaRRRRDoorRows
import GoSem.ClaimSeven
namespace Go.Proofs.YtljbaoehhnljlaaRRRRDoor
namespace Rows

/-- THE TIED CARD OF 'rectolaw23.ShelfFull'. -/
def shelfFullCard : Claim7 := { stood := { row := shelfFullRow, standIns := [], harness := (true, "a9303aba74a5f9c4be01556f69ebe0cc87b08105c41600ee02e9e16c992eaf18"), looks := true }, kinds := [], alts := [], laidByText := true, laidKinds := [.data, .data, .data], laidTests := true, laidLooks := .later }
def ShelfFullCardSaid : Prop := Claim7.holds Tryd.pinned (.plain (OpenSpec.ofChange shelfFullSpec)) shelfFullCard

/-- THE TIED CARD OF 'rectolaw4.SealAny'. -/
def sealAnyCard : Claim7 := { stood := { row := sealAnyRow, standIns := [], harness := (true, "a9303aba74a5f9c4be01556f69ebe0cc87b08105c41600ee02e9e16c992eaf18"), looks := true }, kinds := [], alts := [], laidByText := true, laidKinds := [.handle], laidTests := true, laidLooks := .later }
def SealAnyCardSaid : Prop := Claim7.holds Tryd.pinned (.plain (OpenSpec.ofChange sealAnySpec)) sealAnyCard

/-- THE TIED CARD OF 'rectolaw4.SealTurned'. -/
def sealTurnedCard : Claim7 := { stood := { row := sealTurnedRow, standIns := [], harness := (true, "a9303aba74a5f9c4be01556f69ebe0cc87b08105c41600ee02e9e16c992eaf18"), looks := true }, kinds := [], alts := [], laidByText := true, laidKinds := [.handle], laidTests := true, laidLooks := .later }
def SealTurnedCardSaid : Prop := Claim7.holds Tryd.pinned (.plain (OpenSpec.ofChange sealTurnedSpec)) sealTurnedCard

/-- THE TIED CARD OF 'rectolaw3.CodeBytes'. -/
def codeBytesCard : Claim7 := { stood := { row := codeBytesRow, standIns := [], harness := (true, "a9303aba74a5f9c4be01556f69ebe0cc87b08105c41600ee02e9e16c992eaf18"), looks := true }, kinds := [], alts := [], laidByText := true, laidKinds := [.handle], laidTests := true, laidLooks := .later }
def CodeBytesCardSaid : Prop := Claim7.holds Tryd.pinned (.plain (OpenSpec.ofChange codeBytesSpec)) codeBytesCard

/-- THE TIED CARD OF 'rectolaw3.CodeShort'. -/
def codeShortCard : Claim7 := { stood := { row := codeShortRow, standIns := [], harness := (true, "a9303aba74a5f9c4be01556f69ebe0cc87b08105c41600ee02e9e16c992eaf18"), looks := true }, kinds := [], alts := [], laidByText := true, laidKinds := [.handle], laidTests := true, laidLooks := .later }
def CodeShortCardSaid : Prop := Claim7.holds Tryd.pinned (.plain (OpenSpec.ofChange codeShortSpec)) codeShortCard

/-- THE SECOND FORM's CARD OF 'rectolaw23.ShelfFull'. -/
def shelfFullUptoCard : Claim7 := { stood := { row := shelfFullUptoRow, standIns := [], harness := (true, "a9303aba74a5f9c4be01556f69ebe0cc87b08105c41600ee02e9e16c992eaf18"), looks := true }, kinds := [], alts := [], laidByText := true, laidKinds := [.data, .data, .data], laidTests := true, laidLooks := .later }
def ShelfFullUptoCardSaid : Prop := Claim7.holds Tryd.pinned (.plain (OpenSpec.upto shelfFullSpec)) shelfFullUptoCard

/-- THE SECOND FORM's CARD OF 'rectolaw4.SealAny'. -/
def sealAnyUptoCard : Claim7 := { stood := { row := sealAnyUptoRow, standIns := [], harness := (true, "a9303aba74a5f9c4be01556f69ebe0cc87b08105c41600ee02e9e16c992eaf18"), looks := true }, kinds := [], alts := [], laidByText := true, laidKinds := [.handle], laidTests := true, laidLooks := .later }
def SealAnyUptoCardSaid : Prop := Claim7.holds Tryd.pinned (.plain (OpenSpec.upto sealAnySpec)) sealAnyUptoCard

/-- THE SECOND FORM's CARD OF 'rectolaw4.SealTurned'. -/
def sealTurnedUptoCard : Claim7 := { stood := { row := sealTurnedUptoRow, standIns := [], harness := (true, "a9303aba74a5f9c4be01556f69ebe0cc87b08105c41600ee02e9e16c992eaf18"), looks := true }, kinds := [], alts := [], laidByText := true, laidKinds := [.handle], laidTests := true, laidLooks := .later }
def SealTurnedUptoCardSaid : Prop := Claim7.holds Tryd.pinned (.plain (OpenSpec.upto sealTurnedSpec)) sealTurnedUptoCard

/-- THE SECOND FORM's CARD OF 'rectolaw3.CodeBytes'. -/
def codeBytesUptoCard : Claim7 := { stood := { row := codeBytesUptoRow, standIns := [], harness := (true, "a9303aba74a5f9c4be01556f69ebe0cc87b08105c41600ee02e9e16c992eaf18"), looks := true }, kinds := [], alts := [], laidByText := true, laidKinds := [.handle], laidTests := true, laidLooks := .later }
def CodeBytesUptoCardSaid : Prop := Claim7.holds Tryd.pinned (.plain (OpenSpec.upto codeBytesSpec)) codeBytesUptoCard

/-- THE SECOND FORM's CARD OF 'rectolaw3.CodeShort'. -/
def codeShortUptoCard : Claim7 := { stood := { row := codeShortUptoRow, standIns := [], harness := (true, "a9303aba74a5f9c4be01556f69ebe0cc87b08105c41600ee02e9e16c992eaf18"), looks := true }, kinds := [], alts := [], laidByText := true, laidKinds := [.handle], laidTests := true, laidLooks := .later }
def CodeShortUptoCardSaid : Prop := Claim7.holds Tryd.pinned (.plain (OpenSpec.upto codeShortSpec)) codeShortUptoCard
end Rows
end Go.Proofs.YtljbaoehhnljlaaRRRRDoor
