/-
  DERIVED. GIVEN WITH THE SEED: THE CARDS: each row of YtlkfoebophjhfaaGreatDoorRows.lean that lists a variable, with what it lists TIED to the program's text (the seventh form; the later family's looks); each row that meets fmt, with fmt's text TOLD by the authors' own Lean function (tested against real Go, not proved from fmt's source: count such statements apart). THE CARD IS WHAT COUNTS. Prove the row's statement (the work); the ties are given (YtlkfoebophjhfaaGreatDoorTie.lean); close each card by the builder's one call (the guide's Derived/Test/ToyasCard.lean, 'card_holds'). Laid BY PROGRAM, IN A SANDBOX (cutbox-door.mjs). By AI agents, Wed Nov 11 2026. No macro, syntax, notation, axiom, sorry.
-/
import Derived.Test.YtlkfoebophjhfaaGreatDoorRows
import GoSem.ClaimSeven
namespace Go.Proofs.YtlkfoebophjhfaaGreatDoor
namespace Rows

/-- THE TIED CARD OF 'rectolaw6.JournalRoom'. -/
def journalRoomCard : Claim7 := { stood := { row := journalRoomRow, standIns := [], harness := (true, "39e85e06edb1c3f194b0d389da2e5514bf8f1b31a467a0662d882eb29b7c49b4"), looks := true }, kinds := [], alts := [], laidByText := true, laidKinds := [.data, .data, .data, .data, .pinned], laidTests := true, laidLooks := .later }
def JournalRoomCardSaid : Prop := Claim7.holds Tryz.pinned (.plain (OpenSpec.ofChange journalRoomSpec)) journalRoomCard

/-- THE TIED CARD OF 'rectolaw6.JournalMoves'. -/
def journalMovesCard : Claim7 := { stood := { row := journalMovesRow, standIns := [], harness := (true, "39e85e06edb1c3f194b0d389da2e5514bf8f1b31a467a0662d882eb29b7c49b4"), looks := true }, kinds := [], alts := [], laidByText := true, laidKinds := [.data, .data, .data, .data, .pinned], laidTests := true, laidLooks := .later }
def JournalMovesCardSaid : Prop := Claim7.holds Tryz.pinned (.plain (OpenSpec.ofChange journalMovesSpec)) journalMovesCard

/-- THE TIED CARD OF 'rectolaw6.JournalWhole'. -/
def journalWholeCard : Claim7 := { stood := { row := journalWholeRow, standIns := [], harness := (true, "39e85e06edb1c3f194b0d389da2e5514bf8f1b31a467a0662d882eb29b7c49b4"), looks := true }, kinds := [], alts := [], laidByText := true, laidKinds := [.data, .data, .data, .data, .pinned], laidTests := true, laidLooks := .later }
def JournalWholeCardSaid : Prop := Claim7.holds Tryz.pinned (.plain (OpenSpec.ofChange journalWholeSpec)) journalWholeCard

/-- THE TIED CARD OF 'rectolaw6.JournalPlays'. -/
def journalPlaysCard : Claim7 := { stood := { row := journalPlaysRow, standIns := [], harness := (true, "39e85e06edb1c3f194b0d389da2e5514bf8f1b31a467a0662d882eb29b7c49b4"), looks := true }, kinds := [], alts := [], laidByText := true, laidKinds := [.data, .data, .data, .data, .pinned], laidTests := true, laidLooks := .later }
def JournalPlaysCardSaid : Prop := Claim7.holds Tryz.pinned (.plain (OpenSpec.ofChange journalPlaysSpec)) journalPlaysCard

/-- THE SECOND FORM's CARD OF 'rectolaw6.JournalRoom'. -/
def journalRoomUptoCard : Claim7 := { stood := { row := journalRoomUptoRow, standIns := [], harness := (true, "39e85e06edb1c3f194b0d389da2e5514bf8f1b31a467a0662d882eb29b7c49b4"), looks := true }, kinds := [], alts := [], laidByText := true, laidKinds := [.data, .data, .data, .data, .pinned], laidTests := true, laidLooks := .later }
def JournalRoomUptoCardSaid : Prop := Claim7.holds Tryz.pinned (.plain (OpenSpec.upto journalRoomSpec)) journalRoomUptoCard

/-- THE SECOND FORM's CARD OF 'rectolaw6.JournalMoves'. -/
def journalMovesUptoCard : Claim7 := { stood := { row := journalMovesUptoRow, standIns := [], harness := (true, "39e85e06edb1c3f194b0d389da2e5514bf8f1b31a467a0662d882eb29b7c49b4"), looks := true }, kinds := [], alts := [], laidByText := true, laidKinds := [.data, .data, .data, .data, .pinned], laidTests := true, laidLooks := .later }
def JournalMovesUptoCardSaid : Prop := Claim7.holds Tryz.pinned (.plain (OpenSpec.upto journalMovesSpec)) journalMovesUptoCard

/-- THE SECOND FORM's CARD OF 'rectolaw6.JournalWhole'. -/
def journalWholeUptoCard : Claim7 := { stood := { row := journalWholeUptoRow, standIns := [], harness := (true, "39e85e06edb1c3f194b0d389da2e5514bf8f1b31a467a0662d882eb29b7c49b4"), looks := true }, kinds := [], alts := [], laidByText := true, laidKinds := [.data, .data, .data, .data, .pinned], laidTests := true, laidLooks := .later }
def JournalWholeUptoCardSaid : Prop := Claim7.holds Tryz.pinned (.plain (OpenSpec.upto journalWholeSpec)) journalWholeUptoCard

/-- THE SECOND FORM's CARD OF 'rectolaw6.JournalPlays'. -/
def journalPlaysUptoCard : Claim7 := { stood := { row := journalPlaysUptoRow, standIns := [], harness := (true, "39e85e06edb1c3f194b0d389da2e5514bf8f1b31a467a0662d882eb29b7c49b4"), looks := true }, kinds := [], alts := [], laidByText := true, laidKinds := [.data, .data, .data, .data, .pinned], laidTests := true, laidLooks := .later }
def JournalPlaysUptoCardSaid : Prop := Claim7.holds Tryz.pinned (.plain (OpenSpec.upto journalPlaysSpec)) journalPlaysUptoCard
end Rows
end Go.Proofs.YtlkfoebophjhfaaGreatDoor
