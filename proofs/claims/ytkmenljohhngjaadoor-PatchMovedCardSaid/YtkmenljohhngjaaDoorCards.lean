/-
  DERIVED. GIVEN WITH THE SEED: THE CARDS: each row of YtkmenljohhngjaaDoorRows.lean that lists a variable, with what it lists TIED to the program's text (the seventh form; the later family's looks); each row that meets fmt, with fmt's text TOLD by the authors' own Lean function (tested against real Go, not proved from fmt's source: count such statements apart). THE CARD IS WHAT COUNTS. Prove the row's statement (the work); the ties are given (YtkmenljohhngjaaDoorTie.lean); close each card by the builder's one call (the guide's Derived/Test/ToyasCard.lean, 'card_holds'). Laid BY PROGRAM, IN A SANDBOX (cutbox-door.mjs). By AI agents, Wed Nov 11 2026. No macro, syntax, notation, axiom, sorry.
-/
import Derived.Test.YtkmenljohhngjaaDoorRows
import GoSem.ClaimSeven
namespace Go.Proofs.YtkmenljohhngjaaDoor
namespace Rows

/-- THE TIED CARD OF 'rectolaw12.PatchAny'. -/
def patchAnyCard : Claim7 := { stood := { row := patchAnyRow, standIns := [], harness := (true, "9353d9e2466ac76b9084e23cad3a62bc22d27cac1e6efb3b76bd8ecc377a5626"), looks := true }, kinds := [], alts := [], laidByText := true, laidKinds := [.data, .data, .data], laidTests := true, laidLooks := .later }
def PatchAnyCardSaid : Prop := Claim7.holds Tryd.pinned (.plain (OpenSpec.ofChange patchAnySpec)) patchAnyCard

/-- THE TIED CARD OF 'rectolaw12.PatchMoved'. -/
def patchMovedCard : Claim7 := { stood := { row := patchMovedRow, standIns := [], harness := (true, "9353d9e2466ac76b9084e23cad3a62bc22d27cac1e6efb3b76bd8ecc377a5626"), looks := true }, kinds := [], alts := [], laidByText := true, laidKinds := [.data, .data, .data], laidTests := true, laidLooks := .later }
def PatchMovedCardSaid : Prop := Claim7.holds Tryd.pinned (.plain (OpenSpec.ofChange patchMovedSpec)) patchMovedCard

/-- THE TIED CARD OF 'rectolaw18.StatFresh'. -/
def statFreshCard : Claim7 := { stood := { row := statFreshRow, standIns := [], harness := (true, "9353d9e2466ac76b9084e23cad3a62bc22d27cac1e6efb3b76bd8ecc377a5626"), looks := true }, kinds := [], alts := [], laidByText := true, laidKinds := [.data, .pinned], laidTests := true, laidLooks := .later }
def StatFreshCardSaid : Prop := Claim7.holds Tryd.pinned (.plain (OpenSpec.ofChange statFreshSpec)) statFreshCard

/-- THE TIED CARD OF 'rectolaw18.StatSmudged'. -/
def statSmudgedCard : Claim7 := { stood := { row := statSmudgedRow, standIns := [], harness := (true, "9353d9e2466ac76b9084e23cad3a62bc22d27cac1e6efb3b76bd8ecc377a5626"), looks := true }, kinds := [], alts := [], laidByText := true, laidKinds := [.data, .pinned], laidTests := true, laidLooks := .later }
def StatSmudgedCardSaid : Prop := Claim7.holds Tryd.pinned (.plain (OpenSpec.ofChange statSmudgedSpec)) statSmudgedCard

/-- THE TIED CARD OF 'rectolaw18.StatNever'. -/
def statNeverCard : Claim7 := { stood := { row := statNeverRow, standIns := [], harness := (true, "9353d9e2466ac76b9084e23cad3a62bc22d27cac1e6efb3b76bd8ecc377a5626"), looks := true }, kinds := [], alts := [], laidByText := true, laidKinds := [.data, .pinned], laidTests := true, laidLooks := .later }
def StatNeverCardSaid : Prop := Claim7.holds Tryd.pinned (.plain (OpenSpec.ofChange statNeverSpec)) statNeverCard

/-- THE TIED CARD OF 'rectolaw11.DiffAny'. -/
def diffAnyCard : Claim7 := { stood := { row := diffAnyRow, standIns := [], harness := (true, "9353d9e2466ac76b9084e23cad3a62bc22d27cac1e6efb3b76bd8ecc377a5626"), looks := true }, kinds := [], alts := [], laidByText := true, laidKinds := [.handle], laidTests := true, laidLooks := .later }
def DiffAnyCardSaid : Prop := Claim7.holds Tryd.pinned (.plain (OpenSpec.ofChange diffAnySpec)) diffAnyCard

/-- THE TIED CARD OF 'rectolaw2.ShaDigits'. -/
def shaDigitsCard : Claim7 := { stood := { row := shaDigitsRow, standIns := [], harness := (true, "9353d9e2466ac76b9084e23cad3a62bc22d27cac1e6efb3b76bd8ecc377a5626"), looks := true }, kinds := [], alts := [], laidByText := true, laidKinds := [.handle], laidTests := true, laidLooks := .later }
def ShaDigitsCardSaid : Prop := Claim7.holds Tryd.pinned (.plain (OpenSpec.ofChange shaDigitsSpec)) shaDigitsCard

/-- THE TIED CARD OF 'rectolaw12.PatchHunks'. -/
def patchHunksCard : Claim7 := { stood := { row := patchHunksRow, standIns := [], harness := (true, "9353d9e2466ac76b9084e23cad3a62bc22d27cac1e6efb3b76bd8ecc377a5626"), looks := true }, kinds := [], alts := [], laidByText := true, laidKinds := [.data, .data, .data, .handle], laidTests := true, laidLooks := .later }
def PatchHunksCardSaid : Prop := Claim7.holds Tryd.pinned (.plain (OpenSpec.ofChange patchHunksSpec)) patchHunksCard

/-- THE SECOND FORM's CARD OF 'rectolaw12.PatchAny'. -/
def patchAnyUptoCard : Claim7 := { stood := { row := patchAnyUptoRow, standIns := [], harness := (true, "9353d9e2466ac76b9084e23cad3a62bc22d27cac1e6efb3b76bd8ecc377a5626"), looks := true }, kinds := [], alts := [], laidByText := true, laidKinds := [.data, .data, .data], laidTests := true, laidLooks := .later }
def PatchAnyUptoCardSaid : Prop := Claim7.holds Tryd.pinned (.plain (OpenSpec.upto patchAnySpec)) patchAnyUptoCard

/-- THE SECOND FORM's CARD OF 'rectolaw12.PatchMoved'. -/
def patchMovedUptoCard : Claim7 := { stood := { row := patchMovedUptoRow, standIns := [], harness := (true, "9353d9e2466ac76b9084e23cad3a62bc22d27cac1e6efb3b76bd8ecc377a5626"), looks := true }, kinds := [], alts := [], laidByText := true, laidKinds := [.data, .data, .data], laidTests := true, laidLooks := .later }
def PatchMovedUptoCardSaid : Prop := Claim7.holds Tryd.pinned (.plain (OpenSpec.upto patchMovedSpec)) patchMovedUptoCard

/-- THE SECOND FORM's CARD OF 'rectolaw18.StatFresh'. -/
def statFreshUptoCard : Claim7 := { stood := { row := statFreshUptoRow, standIns := [], harness := (true, "9353d9e2466ac76b9084e23cad3a62bc22d27cac1e6efb3b76bd8ecc377a5626"), looks := true }, kinds := [], alts := [], laidByText := true, laidKinds := [.data, .pinned], laidTests := true, laidLooks := .later }
def StatFreshUptoCardSaid : Prop := Claim7.holds Tryd.pinned (.plain (OpenSpec.upto statFreshSpec)) statFreshUptoCard

/-- THE SECOND FORM's CARD OF 'rectolaw18.StatSmudged'. -/
def statSmudgedUptoCard : Claim7 := { stood := { row := statSmudgedUptoRow, standIns := [], harness := (true, "9353d9e2466ac76b9084e23cad3a62bc22d27cac1e6efb3b76bd8ecc377a5626"), looks := true }, kinds := [], alts := [], laidByText := true, laidKinds := [.data, .pinned], laidTests := true, laidLooks := .later }
def StatSmudgedUptoCardSaid : Prop := Claim7.holds Tryd.pinned (.plain (OpenSpec.upto statSmudgedSpec)) statSmudgedUptoCard

/-- THE SECOND FORM's CARD OF 'rectolaw18.StatNever'. -/
def statNeverUptoCard : Claim7 := { stood := { row := statNeverUptoRow, standIns := [], harness := (true, "9353d9e2466ac76b9084e23cad3a62bc22d27cac1e6efb3b76bd8ecc377a5626"), looks := true }, kinds := [], alts := [], laidByText := true, laidKinds := [.data, .pinned], laidTests := true, laidLooks := .later }
def StatNeverUptoCardSaid : Prop := Claim7.holds Tryd.pinned (.plain (OpenSpec.upto statNeverSpec)) statNeverUptoCard

/-- THE SECOND FORM's CARD OF 'rectolaw11.DiffAny'. -/
def diffAnyUptoCard : Claim7 := { stood := { row := diffAnyUptoRow, standIns := [], harness := (true, "9353d9e2466ac76b9084e23cad3a62bc22d27cac1e6efb3b76bd8ecc377a5626"), looks := true }, kinds := [], alts := [], laidByText := true, laidKinds := [.handle], laidTests := true, laidLooks := .later }
def DiffAnyUptoCardSaid : Prop := Claim7.holds Tryd.pinned (.plain (OpenSpec.upto diffAnySpec)) diffAnyUptoCard

/-- THE SECOND FORM's CARD OF 'rectolaw2.ShaDigits'. -/
def shaDigitsUptoCard : Claim7 := { stood := { row := shaDigitsUptoRow, standIns := [], harness := (true, "9353d9e2466ac76b9084e23cad3a62bc22d27cac1e6efb3b76bd8ecc377a5626"), looks := true }, kinds := [], alts := [], laidByText := true, laidKinds := [.handle], laidTests := true, laidLooks := .later }
def ShaDigitsUptoCardSaid : Prop := Claim7.holds Tryd.pinned (.plain (OpenSpec.upto shaDigitsSpec)) shaDigitsUptoCard

/-- THE SECOND FORM's CARD OF 'rectolaw12.PatchHunks'. -/
def patchHunksUptoCard : Claim7 := { stood := { row := patchHunksUptoRow, standIns := [], harness := (true, "9353d9e2466ac76b9084e23cad3a62bc22d27cac1e6efb3b76bd8ecc377a5626"), looks := true }, kinds := [], alts := [], laidByText := true, laidKinds := [.data, .data, .data, .handle], laidTests := true, laidLooks := .later }
def PatchHunksUptoCardSaid : Prop := Claim7.holds Tryd.pinned (.plain (OpenSpec.upto patchHunksSpec)) patchHunksUptoCard
end Rows
end Go.Proofs.YtkmenljohhngjaaDoor
