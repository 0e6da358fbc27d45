/-
  DERIVED. GIVEN WITH THE SEED: THE CARDS: each row of YtaolmfepdmgohaaDoorRows.lean that lists a variable, with what it lists TIED to the program's text (the seventh form; the later family's looks); each row that meets fmt, with fmt's text TOLD by the authors' own Lean function (tested against real Go, not proved from fmt's source: count such statements apart). THE CARD IS WHAT COUNTS. Prove the row's statement (the work); the ties are given (YtaolmfepdmgohaaDoorTie.lean); close each card by the builder's one call (the guide's Derived/Test/ToyasCard.lean, 'card_holds'). Laid BY PROGRAM, IN A SANDBOX (cutbox-door.mjs). By AI agents, Wed Nov 11 2026. No macro, syntax, notation, axiom, sorry.
-/
import Derived.Test.YtaolmfepdmgohaaDoorRows
import GoSem.ClaimSeven
namespace Go.Proofs.YtaolmfepdmgohaaDoor
namespace Rows

/-- THE TIED CARD OF 'rectolaw5.FilesArms'. -/
def filesArmsCard : Claim7 := { stood := { row := filesArmsRow, standIns := [], harness := (true, "3751e45fe4a8cb6f68b3955d70d796c2229fca9c72ea283c23f5fe53687c4635"), looks := true }, kinds := [], alts := [], laidByText := true, laidKinds := [.data, .pinned], laidTests := true, laidLooks := .later }
def FilesArmsCardSaid : Prop := Claim7.holds Tryd.pinned (.plain (OpenSpec.ofChange filesArmsSpec)) filesArmsCard

/-- THE TIED CARD OF 'rectolaw5.FilesSync'. -/
def filesSyncCard : Claim7 := { stood := { row := filesSyncRow, standIns := [], harness := (true, "3751e45fe4a8cb6f68b3955d70d796c2229fca9c72ea283c23f5fe53687c4635"), looks := true }, kinds := [], alts := [], laidByText := true, laidKinds := [.data, .pinned], laidTests := true, laidLooks := .later }
def FilesSyncCardSaid : Prop := Claim7.holds Tryd.pinned (.plain (OpenSpec.ofChange filesSyncSpec)) filesSyncCard

/-- THE TIED CARD OF 'rectolaw5.FilesRename'. -/
def filesRenameCard : Claim7 := { stood := { row := filesRenameRow, standIns := [], harness := (true, "3751e45fe4a8cb6f68b3955d70d796c2229fca9c72ea283c23f5fe53687c4635"), looks := true }, kinds := [], alts := [], laidByText := true, laidKinds := [.data, .pinned], laidTests := true, laidLooks := .later }
def FilesRenameCardSaid : Prop := Claim7.holds Tryd.pinned (.plain (OpenSpec.ofChange filesRenameSpec)) filesRenameCard

/-- THE SECOND FORM's CARD OF 'rectolaw5.FilesArms'. -/
def filesArmsUptoCard : Claim7 := { stood := { row := filesArmsUptoRow, standIns := [], harness := (true, "3751e45fe4a8cb6f68b3955d70d796c2229fca9c72ea283c23f5fe53687c4635"), looks := true }, kinds := [], alts := [], laidByText := true, laidKinds := [.data, .pinned], laidTests := true, laidLooks := .later }
def FilesArmsUptoCardSaid : Prop := Claim7.holds Tryd.pinned (.plain (OpenSpec.upto filesArmsSpec)) filesArmsUptoCard

/-- THE SECOND FORM's CARD OF 'rectolaw5.FilesSync'. -/
def filesSyncUptoCard : Claim7 := { stood := { row := filesSyncUptoRow, standIns := [], harness := (true, "3751e45fe4a8cb6f68b3955d70d796c2229fca9c72ea283c23f5fe53687c4635"), looks := true }, kinds := [], alts := [], laidByText := true, laidKinds := [.data, .pinned], laidTests := true, laidLooks := .later }
def FilesSyncUptoCardSaid : Prop := Claim7.holds Tryd.pinned (.plain (OpenSpec.upto filesSyncSpec)) filesSyncUptoCard

/-- THE SECOND FORM's CARD OF 'rectolaw5.FilesRename'. -/
def filesRenameUptoCard : Claim7 := { stood := { row := filesRenameUptoRow, standIns := [], harness := (true, "3751e45fe4a8cb6f68b3955d70d796c2229fca9c72ea283c23f5fe53687c4635"), looks := true }, kinds := [], alts := [], laidByText := true, laidKinds := [.data, .pinned], laidTests := true, laidLooks := .later }
def FilesRenameUptoCardSaid : Prop := Claim7.holds Tryd.pinned (.plain (OpenSpec.upto filesRenameSpec)) filesRenameUptoCard
end Rows
end Go.Proofs.YtaolmfepdmgohaaDoor
