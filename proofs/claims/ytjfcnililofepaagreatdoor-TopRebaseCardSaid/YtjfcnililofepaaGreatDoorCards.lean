/-
  DERIVED. GIVEN WITH THE SEED: THE CARDS: each row of YtjfcnililofepaaGreatDoorRows.lean that lists a variable, with what it lists TIED to the program's text (the seventh form; the later family's looks); each row that meets fmt, with fmt's text TOLD by the authors' own Lean function (tested against real Go, not proved from fmt's source: count such statements apart). THE CARD IS WHAT COUNTS. Prove the row's statement (the work); the ties are given (YtjfcnililofepaaGreatDoorTie.lean); close each card by the builder's one call (the guide's Derived/Test/ToyasCard.lean, 'card_holds'). Laid BY PROGRAM, IN A SANDBOX (cutbox-door.mjs). By AI agents, Wed Nov 11 2026. No macro, syntax, notation, axiom, sorry.
-/
import Derived.Test.YtjfcnililofepaaGreatDoorRows
import GoSem.ClaimSeven
namespace Go.Proofs.YtjfcnililofepaaGreatDoor
namespace Rows

/-- THE TIED CARD OF 'rectotop.TopReset'. -/
def topResetCard : Claim7 := { stood := { row := topResetRow, standIns := [], harness := (true, "8a9ef717ba1ef9ffb93604e7ef57cd5d4a3d6bc62f1141523239ce7d93f0c0a1"), looks := true }, kinds := [], alts := [], laidByText := true, laidKinds := [.data, .data, .data, .data, .handle, .pinned], laidTests := true, laidLooks := .later }
def TopResetCardSaid : Prop := Claim7.holds Tryz.pinned (.plain (OpenSpec.ofChange topResetSpec)) topResetCard

/-- THE TIED CARD OF 'rectotop.TopRevert'. -/
def topRevertCard : Claim7 := { stood := { row := topRevertRow, standIns := [], harness := (true, "8a9ef717ba1ef9ffb93604e7ef57cd5d4a3d6bc62f1141523239ce7d93f0c0a1"), looks := true }, kinds := [], alts := [], laidByText := true, laidKinds := [.data, .data, .data, .data, .handle, .pinned], laidTests := true, laidLooks := .later }
def TopRevertCardSaid : Prop := Claim7.holds Tryz.pinned (.plain (OpenSpec.ofChange topRevertSpec)) topRevertCard

/-- THE TIED CARD OF 'rectotop.TopPick'. -/
def topPickCard : Claim7 := { stood := { row := topPickRow, standIns := [], harness := (true, "8a9ef717ba1ef9ffb93604e7ef57cd5d4a3d6bc62f1141523239ce7d93f0c0a1"), looks := true }, kinds := [], alts := [], laidByText := true, laidKinds := [.data, .data, .data, .data, .handle, .pinned], laidTests := true, laidLooks := .later }
def TopPickCardSaid : Prop := Claim7.holds Tryz.pinned (.plain (OpenSpec.ofChange topPickSpec)) topPickCard

/-- THE TIED CARD OF 'rectotop.TopRebase'. -/
def topRebaseCard : Claim7 := { stood := { row := topRebaseRow, standIns := [], harness := (true, "8a9ef717ba1ef9ffb93604e7ef57cd5d4a3d6bc62f1141523239ce7d93f0c0a1"), looks := true }, kinds := [], alts := [], laidByText := true, laidKinds := [.data, .data, .data, .data, .handle, .pinned], laidTests := true, laidLooks := .later }
def TopRebaseCardSaid : Prop := Claim7.holds Tryz.pinned (.plain (OpenSpec.ofChange topRebaseSpec)) topRebaseCard

/-- THE TIED CARD OF 'rectotop.TopSquash'. -/
def topSquashCard : Claim7 := { stood := { row := topSquashRow, standIns := [], harness := (true, "8a9ef717ba1ef9ffb93604e7ef57cd5d4a3d6bc62f1141523239ce7d93f0c0a1"), looks := true }, kinds := [], alts := [], laidByText := true, laidKinds := [.data, .data, .data, .data, .handle, .pinned], laidTests := true, laidLooks := .later }
def TopSquashCardSaid : Prop := Claim7.holds Tryz.pinned (.plain (OpenSpec.ofChange topSquashSpec)) topSquashCard

/-- THE TIED CARD OF 'rectotop.TopFolders'. -/
def topFoldersCard : Claim7 := { stood := { row := topFoldersRow, standIns := [], harness := (true, "8a9ef717ba1ef9ffb93604e7ef57cd5d4a3d6bc62f1141523239ce7d93f0c0a1"), looks := true }, kinds := [], alts := [], laidByText := true, laidKinds := [.data, .data, .data, .data, .handle, .pinned], laidTests := true, laidLooks := .later }
def TopFoldersCardSaid : Prop := Claim7.holds Tryz.pinned (.plain (OpenSpec.ofChange topFoldersSpec)) topFoldersCard

/-- THE TIED CARD OF 'rectotop.TopStash'. -/
def topStashCard : Claim7 := { stood := { row := topStashRow, standIns := [], harness := (true, "8a9ef717ba1ef9ffb93604e7ef57cd5d4a3d6bc62f1141523239ce7d93f0c0a1"), looks := true }, kinds := [], alts := [], laidByText := true, laidKinds := [.data, .data, .data, .data, .handle, .pinned], laidTests := true, laidLooks := .later }
def TopStashCardSaid : Prop := Claim7.holds Tryz.pinned (.plain (OpenSpec.ofChange topStashSpec)) topStashCard

/-- THE TIED CARD OF 'rectotop.TopEdit'. -/
def topEditCard : Claim7 := { stood := { row := topEditRow, standIns := [], harness := (true, "8a9ef717ba1ef9ffb93604e7ef57cd5d4a3d6bc62f1141523239ce7d93f0c0a1"), looks := true }, kinds := [], alts := [], laidByText := true, laidKinds := [.data, .data, .data, .data, .handle, .pinned], laidTests := true, laidLooks := .later }
def TopEditCardSaid : Prop := Claim7.holds Tryz.pinned (.plain (OpenSpec.ofChange topEditSpec)) topEditCard

/-- THE TIED CARD OF 'rectotop.TopModes'. -/
def topModesCard : Claim7 := { stood := { row := topModesRow, standIns := [], harness := (true, "8a9ef717ba1ef9ffb93604e7ef57cd5d4a3d6bc62f1141523239ce7d93f0c0a1"), looks := true }, kinds := [], alts := [], laidByText := true, laidKinds := [.data, .data, .data, .data, .handle, .pinned], laidTests := true, laidLooks := .later }
def TopModesCardSaid : Prop := Claim7.holds Tryz.pinned (.plain (OpenSpec.ofChange topModesSpec)) topModesCard

/-- THE TIED CARD OF 'rectotop.TopBranches'. -/
def topBranchesCard : Claim7 := { stood := { row := topBranchesRow, standIns := [], harness := (true, "8a9ef717ba1ef9ffb93604e7ef57cd5d4a3d6bc62f1141523239ce7d93f0c0a1"), looks := true }, kinds := [], alts := [], laidByText := true, laidKinds := [.data, .data, .data, .data, .handle, .pinned], laidTests := true, laidLooks := .later }
def TopBranchesCardSaid : Prop := Claim7.holds Tryz.pinned (.plain (OpenSpec.ofChange topBranchesSpec)) topBranchesCard

/-- THE TIED CARD OF 'rectotop.TopMerges'. -/
def topMergesCard : Claim7 := { stood := { row := topMergesRow, standIns := [], harness := (true, "8a9ef717ba1ef9ffb93604e7ef57cd5d4a3d6bc62f1141523239ce7d93f0c0a1"), looks := true }, kinds := [], alts := [], laidByText := true, laidKinds := [.data, .data, .data, .data, .handle, .pinned], laidTests := true, laidLooks := .later }
def TopMergesCardSaid : Prop := Claim7.holds Tryz.pinned (.plain (OpenSpec.ofChange topMergesSpec)) topMergesCard

/-- THE TIED CARD OF 'rectotop.TopUntracked'. -/
def topUntrackedCard : Claim7 := { stood := { row := topUntrackedRow, standIns := [], harness := (true, "8a9ef717ba1ef9ffb93604e7ef57cd5d4a3d6bc62f1141523239ce7d93f0c0a1"), looks := true }, kinds := [], alts := [], laidByText := true, laidKinds := [.data, .data, .data, .data, .handle, .pinned], laidTests := true, laidLooks := .later }
def TopUntrackedCardSaid : Prop := Claim7.holds Tryz.pinned (.plain (OpenSpec.ofChange topUntrackedSpec)) topUntrackedCard

/-- THE SECOND FORM's CARD OF 'rectotop.TopReset'. -/
def topResetUptoCard : Claim7 := { stood := { row := topResetUptoRow, standIns := [], harness := (true, "8a9ef717ba1ef9ffb93604e7ef57cd5d4a3d6bc62f1141523239ce7d93f0c0a1"), looks := true }, kinds := [], alts := [], laidByText := true, laidKinds := [.data, .data, .data, .data, .handle, .pinned], laidTests := true, laidLooks := .later }
def TopResetUptoCardSaid : Prop := Claim7.holds Tryz.pinned (.plain (OpenSpec.upto topResetSpec)) topResetUptoCard

/-- THE SECOND FORM's CARD OF 'rectotop.TopRevert'. -/
def topRevertUptoCard : Claim7 := { stood := { row := topRevertUptoRow, standIns := [], harness := (true, "8a9ef717ba1ef9ffb93604e7ef57cd5d4a3d6bc62f1141523239ce7d93f0c0a1"), looks := true }, kinds := [], alts := [], laidByText := true, laidKinds := [.data, .data, .data, .data, .handle, .pinned], laidTests := true, laidLooks := .later }
def TopRevertUptoCardSaid : Prop := Claim7.holds Tryz.pinned (.plain (OpenSpec.upto topRevertSpec)) topRevertUptoCard

/-- THE SECOND FORM's CARD OF 'rectotop.TopPick'. -/
def topPickUptoCard : Claim7 := { stood := { row := topPickUptoRow, standIns := [], harness := (true, "8a9ef717ba1ef9ffb93604e7ef57cd5d4a3d6bc62f1141523239ce7d93f0c0a1"), looks := true }, kinds := [], alts := [], laidByText := true, laidKinds := [.data, .data, .data, .data, .handle, .pinned], laidTests := true, laidLooks := .later }
def TopPickUptoCardSaid : Prop := Claim7.holds Tryz.pinned (.plain (OpenSpec.upto topPickSpec)) topPickUptoCard

/-- THE SECOND FORM's CARD OF 'rectotop.TopRebase'. -/
def topRebaseUptoCard : Claim7 := { stood := { row := topRebaseUptoRow, standIns := [], harness := (true, "8a9ef717ba1ef9ffb93604e7ef57cd5d4a3d6bc62f1141523239ce7d93f0c0a1"), looks := true }, kinds := [], alts := [], laidByText := true, laidKinds := [.data, .data, .data, .data, .handle, .pinned], laidTests := true, laidLooks := .later }
def TopRebaseUptoCardSaid : Prop := Claim7.holds Tryz.pinned (.plain (OpenSpec.upto topRebaseSpec)) topRebaseUptoCard

/-- THE SECOND FORM's CARD OF 'rectotop.TopSquash'. -/
def topSquashUptoCard : Claim7 := { stood := { row := topSquashUptoRow, standIns := [], harness := (true, "8a9ef717ba1ef9ffb93604e7ef57cd5d4a3d6bc62f1141523239ce7d93f0c0a1"), looks := true }, kinds := [], alts := [], laidByText := true, laidKinds := [.data, .data, .data, .data, .handle, .pinned], laidTests := true, laidLooks := .later }
def TopSquashUptoCardSaid : Prop := Claim7.holds Tryz.pinned (.plain (OpenSpec.upto topSquashSpec)) topSquashUptoCard

/-- THE SECOND FORM's CARD OF 'rectotop.TopFolders'. -/
def topFoldersUptoCard : Claim7 := { stood := { row := topFoldersUptoRow, standIns := [], harness := (true, "8a9ef717ba1ef9ffb93604e7ef57cd5d4a3d6bc62f1141523239ce7d93f0c0a1"), looks := true }, kinds := [], alts := [], laidByText := true, laidKinds := [.data, .data, .data, .data, .handle, .pinned], laidTests := true, laidLooks := .later }
def TopFoldersUptoCardSaid : Prop := Claim7.holds Tryz.pinned (.plain (OpenSpec.upto topFoldersSpec)) topFoldersUptoCard

/-- THE SECOND FORM's CARD OF 'rectotop.TopStash'. -/
def topStashUptoCard : Claim7 := { stood := { row := topStashUptoRow, standIns := [], harness := (true, "8a9ef717ba1ef9ffb93604e7ef57cd5d4a3d6bc62f1141523239ce7d93f0c0a1"), looks := true }, kinds := [], alts := [], laidByText := true, laidKinds := [.data, .data, .data, .data, .handle, .pinned], laidTests := true, laidLooks := .later }
def TopStashUptoCardSaid : Prop := Claim7.holds Tryz.pinned (.plain (OpenSpec.upto topStashSpec)) topStashUptoCard

/-- THE SECOND FORM's CARD OF 'rectotop.TopEdit'. -/
def topEditUptoCard : Claim7 := { stood := { row := topEditUptoRow, standIns := [], harness := (true, "8a9ef717ba1ef9ffb93604e7ef57cd5d4a3d6bc62f1141523239ce7d93f0c0a1"), looks := true }, kinds := [], alts := [], laidByText := true, laidKinds := [.data, .data, .data, .data, .handle, .pinned], laidTests := true, laidLooks := .later }
def TopEditUptoCardSaid : Prop := Claim7.holds Tryz.pinned (.plain (OpenSpec.upto topEditSpec)) topEditUptoCard

/-- THE SECOND FORM's CARD OF 'rectotop.TopModes'. -/
def topModesUptoCard : Claim7 := { stood := { row := topModesUptoRow, standIns := [], harness := (true, "8a9ef717ba1ef9ffb93604e7ef57cd5d4a3d6bc62f1141523239ce7d93f0c0a1"), looks := true }, kinds := [], alts := [], laidByText := true, laidKinds := [.data, .data, .data, .data, .handle, .pinned], laidTests := true, laidLooks := .later }
def TopModesUptoCardSaid : Prop := Claim7.holds Tryz.pinned (.plain (OpenSpec.upto topModesSpec)) topModesUptoCard

/-- THE SECOND FORM's CARD OF 'rectotop.TopBranches'. -/
def topBranchesUptoCard : Claim7 := { stood := { row := topBranchesUptoRow, standIns := [], harness := (true, "8a9ef717ba1ef9ffb93604e7ef57cd5d4a3d6bc62f1141523239ce7d93f0c0a1"), looks := true }, kinds := [], alts := [], laidByText := true, laidKinds := [.data, .data, .data, .data, .handle, .pinned], laidTests := true, laidLooks := .later }
def TopBranchesUptoCardSaid : Prop := Claim7.holds Tryz.pinned (.plain (OpenSpec.upto topBranchesSpec)) topBranchesUptoCard

/-- THE SECOND FORM's CARD OF 'rectotop.TopMerges'. -/
def topMergesUptoCard : Claim7 := { stood := { row := topMergesUptoRow, standIns := [], harness := (true, "8a9ef717ba1ef9ffb93604e7ef57cd5d4a3d6bc62f1141523239ce7d93f0c0a1"), looks := true }, kinds := [], alts := [], laidByText := true, laidKinds := [.data, .data, .data, .data, .handle, .pinned], laidTests := true, laidLooks := .later }
def TopMergesUptoCardSaid : Prop := Claim7.holds Tryz.pinned (.plain (OpenSpec.upto topMergesSpec)) topMergesUptoCard

/-- THE SECOND FORM's CARD OF 'rectotop.TopUntracked'. -/
def topUntrackedUptoCard : Claim7 := { stood := { row := topUntrackedUptoRow, standIns := [], harness := (true, "8a9ef717ba1ef9ffb93604e7ef57cd5d4a3d6bc62f1141523239ce7d93f0c0a1"), looks := true }, kinds := [], alts := [], laidByText := true, laidKinds := [.data, .data, .data, .data, .handle, .pinned], laidTests := true, laidLooks := .later }
def TopUntrackedUptoCardSaid : Prop := Claim7.holds Tryz.pinned (.plain (OpenSpec.upto topUntrackedSpec)) topUntrackedUptoCard
end Rows
end Go.Proofs.YtjfcnililofepaaGreatDoor
