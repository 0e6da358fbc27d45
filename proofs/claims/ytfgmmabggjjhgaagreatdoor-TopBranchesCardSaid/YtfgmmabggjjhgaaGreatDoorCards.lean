/-
  DERIVED. GIVEN WITH THE SEED: THE CARDS: each row of YtfgmmabggjjhgaaGreatDoorRows.lean that lists a variable, with what it lists TIED to the program's text (the seventh form; the later family's looks); each row that meets fmt, with fmt's text TOLD by the authors' own Lean function (tested against real Go, not proved from fmt's source: count such statements apart). THE CARD IS WHAT COUNTS. Prove the row's statement (the work); the ties are given (YtfgmmabggjjhgaaGreatDoorTie.lean); close each card by the builder's one call (the guide's Derived/Test/ToyasCard.lean, 'card_holds'). Laid BY PROGRAM, IN A SANDBOX (cutbox-door.mjs). By AI agents, Wed Nov 11 2026. No macro, syntax, notation, axiom, sorry.
-/
import Derived.Test.YtfgmmabggjjhgaaGreatDoorRows
import GoSem.ClaimSeven
namespace Go.Proofs.YtfgmmabggjjhgaaGreatDoor
namespace Rows

/-- THE TIED CARD OF 'rectotop.TopFolders'. -/
def topFoldersCard : Claim7 := { stood := { row := topFoldersRow, standIns := [], harness := (true, "f6fbe7894a2661d4c0aec9791932eb1cf5aaaebf44357bf77442578bfa1654e0"), looks := true }, kinds := [], alts := [], laidByText := true, laidKinds := [.data, .data, .data, .data, .handle, .pinned], laidTests := true, laidLooks := .later }
def TopFoldersCardSaid : Prop := Claim7.holds Tryz.pinned (.plain (OpenSpec.ofChange topFoldersSpec)) topFoldersCard

/-- THE TIED CARD OF 'rectotop.TopStash'. -/
def topStashCard : Claim7 := { stood := { row := topStashRow, standIns := [], harness := (true, "f6fbe7894a2661d4c0aec9791932eb1cf5aaaebf44357bf77442578bfa1654e0"), looks := true }, kinds := [], alts := [], laidByText := true, laidKinds := [.data, .data, .data, .data, .handle, .pinned], laidTests := true, laidLooks := .later }
def TopStashCardSaid : Prop := Claim7.holds Tryz.pinned (.plain (OpenSpec.ofChange topStashSpec)) topStashCard

/-- THE TIED CARD OF 'rectotop.TopBranches'. -/
def topBranchesCard : Claim7 := { stood := { row := topBranchesRow, standIns := [], harness := (true, "f6fbe7894a2661d4c0aec9791932eb1cf5aaaebf44357bf77442578bfa1654e0"), looks := true }, kinds := [], alts := [], laidByText := true, laidKinds := [.data, .data, .data, .data, .handle, .pinned], laidTests := true, laidLooks := .later }
def TopBranchesCardSaid : Prop := Claim7.holds Tryz.pinned (.plain (OpenSpec.ofChange topBranchesSpec)) topBranchesCard

/-- THE TIED CARD OF 'rectotop.TopUndo'. -/
def topUndoCard : Claim7 := { stood := { row := topUndoRow, standIns := [], harness := (true, "f6fbe7894a2661d4c0aec9791932eb1cf5aaaebf44357bf77442578bfa1654e0"), looks := true }, kinds := [], alts := [], laidByText := true, laidKinds := [.data, .data, .data, .data, .handle, .pinned], laidTests := true, laidLooks := .later }
def TopUndoCardSaid : Prop := Claim7.holds Tryz.pinned (.plain (OpenSpec.ofChange topUndoSpec)) topUndoCard

/-- THE TIED CARD OF 'rectotop.TopPick'. -/
def topPickCard : Claim7 := { stood := { row := topPickRow, standIns := [], harness := (true, "f6fbe7894a2661d4c0aec9791932eb1cf5aaaebf44357bf77442578bfa1654e0"), looks := true }, kinds := [], alts := [], laidByText := true, laidKinds := [.data, .data, .data, .data, .handle, .pinned], laidTests := true, laidLooks := .later }
def TopPickCardSaid : Prop := Claim7.holds Tryz.pinned (.plain (OpenSpec.ofChange topPickSpec)) topPickCard

/-- THE TIED CARD OF 'rectotop.TopMerges'. -/
def topMergesCard : Claim7 := { stood := { row := topMergesRow, standIns := [], harness := (true, "f6fbe7894a2661d4c0aec9791932eb1cf5aaaebf44357bf77442578bfa1654e0"), looks := true }, kinds := [], alts := [], laidByText := true, laidKinds := [.data, .data, .data, .data, .handle, .pinned], laidTests := true, laidLooks := .later }
def TopMergesCardSaid : Prop := Claim7.holds Tryz.pinned (.plain (OpenSpec.ofChange topMergesSpec)) topMergesCard

/-- THE TIED CARD OF 'rectotop.TopLong'. -/
def topLongCard : Claim7 := { stood := { row := topLongRow, standIns := [], harness := (true, "f6fbe7894a2661d4c0aec9791932eb1cf5aaaebf44357bf77442578bfa1654e0"), looks := true }, kinds := [], alts := [], laidByText := true, laidKinds := [.data, .data, .data, .data, .handle, .pinned], laidTests := true, laidLooks := .later }
def TopLongCardSaid : Prop := Claim7.holds Tryz.pinned (.plain (OpenSpec.ofChange topLongSpec)) topLongCard

/-- THE SECOND FORM's CARD OF 'rectotop.TopFolders'. -/
def topFoldersUptoCard : Claim7 := { stood := { row := topFoldersUptoRow, standIns := [], harness := (true, "f6fbe7894a2661d4c0aec9791932eb1cf5aaaebf44357bf77442578bfa1654e0"), looks := true }, kinds := [], alts := [], laidByText := true, laidKinds := [.data, .data, .data, .data, .handle, .pinned], laidTests := true, laidLooks := .later }
def TopFoldersUptoCardSaid : Prop := Claim7.holds Tryz.pinned (.plain (OpenSpec.upto topFoldersSpec)) topFoldersUptoCard

/-- THE SECOND FORM's CARD OF 'rectotop.TopStash'. -/
def topStashUptoCard : Claim7 := { stood := { row := topStashUptoRow, standIns := [], harness := (true, "f6fbe7894a2661d4c0aec9791932eb1cf5aaaebf44357bf77442578bfa1654e0"), looks := true }, kinds := [], alts := [], laidByText := true, laidKinds := [.data, .data, .data, .data, .handle, .pinned], laidTests := true, laidLooks := .later }
def TopStashUptoCardSaid : Prop := Claim7.holds Tryz.pinned (.plain (OpenSpec.upto topStashSpec)) topStashUptoCard

/-- THE SECOND FORM's CARD OF 'rectotop.TopBranches'. -/
def topBranchesUptoCard : Claim7 := { stood := { row := topBranchesUptoRow, standIns := [], harness := (true, "f6fbe7894a2661d4c0aec9791932eb1cf5aaaebf44357bf77442578bfa1654e0"), looks := true }, kinds := [], alts := [], laidByText := true, laidKinds := [.data, .data, .data, .data, .handle, .pinned], laidTests := true, laidLooks := .later }
def TopBranchesUptoCardSaid : Prop := Claim7.holds Tryz.pinned (.plain (OpenSpec.upto topBranchesSpec)) topBranchesUptoCard

/-- THE SECOND FORM's CARD OF 'rectotop.TopUndo'. -/
def topUndoUptoCard : Claim7 := { stood := { row := topUndoUptoRow, standIns := [], harness := (true, "f6fbe7894a2661d4c0aec9791932eb1cf5aaaebf44357bf77442578bfa1654e0"), looks := true }, kinds := [], alts := [], laidByText := true, laidKinds := [.data, .data, .data, .data, .handle, .pinned], laidTests := true, laidLooks := .later }
def TopUndoUptoCardSaid : Prop := Claim7.holds Tryz.pinned (.plain (OpenSpec.upto topUndoSpec)) topUndoUptoCard

/-- THE SECOND FORM's CARD OF 'rectotop.TopPick'. -/
def topPickUptoCard : Claim7 := { stood := { row := topPickUptoRow, standIns := [], harness := (true, "f6fbe7894a2661d4c0aec9791932eb1cf5aaaebf44357bf77442578bfa1654e0"), looks := true }, kinds := [], alts := [], laidByText := true, laidKinds := [.data, .data, .data, .data, .handle, .pinned], laidTests := true, laidLooks := .later }
def TopPickUptoCardSaid : Prop := Claim7.holds Tryz.pinned (.plain (OpenSpec.upto topPickSpec)) topPickUptoCard

/-- THE SECOND FORM's CARD OF 'rectotop.TopMerges'. -/
def topMergesUptoCard : Claim7 := { stood := { row := topMergesUptoRow, standIns := [], harness := (true, "f6fbe7894a2661d4c0aec9791932eb1cf5aaaebf44357bf77442578bfa1654e0"), looks := true }, kinds := [], alts := [], laidByText := true, laidKinds := [.data, .data, .data, .data, .handle, .pinned], laidTests := true, laidLooks := .later }
def TopMergesUptoCardSaid : Prop := Claim7.holds Tryz.pinned (.plain (OpenSpec.upto topMergesSpec)) topMergesUptoCard

/-- THE SECOND FORM's CARD OF 'rectotop.TopLong'. -/
def topLongUptoCard : Claim7 := { stood := { row := topLongUptoRow, standIns := [], harness := (true, "f6fbe7894a2661d4c0aec9791932eb1cf5aaaebf44357bf77442578bfa1654e0"), looks := true }, kinds := [], alts := [], laidByText := true, laidKinds := [.data, .data, .data, .data, .handle, .pinned], laidTests := true, laidLooks := .later }
def TopLongUptoCardSaid : Prop := Claim7.holds Tryz.pinned (.plain (OpenSpec.upto topLongSpec)) topLongUptoCard
end Rows
end Go.Proofs.YtfgmmabggjjhgaaGreatDoor
