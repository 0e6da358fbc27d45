/- Facts on the program as a whole that the statement of TopFolders asks for: one by one. -/
import Derived.Test.YtfgmmabggjjhgaaGreatDoorRows
import Derived.Test.YtfgmmabggjjhgaaGreatDoorChecked
import Derived.JoinedCond
namespace Go.Proofs.YtfgmmabggjjhgaaGreatDoor
open Go Go.Proofs
namespace topFolders
theorem jf0 : (Rows.topFoldersRow.wf (OpenSpec.ofChange (OpenSpec.ofChange Rows.topFoldersSpec).bare)) = true := by kernel_rfl
theorem jf1 : (laidOutB Tryz.pinned.checked.prog) = true := by kernel_rfl
theorem jf2 : (mapsRowed Tryz.pinned.checked.prog) = true := by kernel_rfl
theorem jf3 : (Tryz.f3.params.all (Tryz.pinned.checked.prog.readableRec ·)) = true := by kernel_rfl
theorem jf4 : (namedTie Tryz.pinned.checked.prog Rows.topFoldersRow.named (OpenSpec.ofChange Rows.topFoldersSpec).bare.vars) = true := by kernel_rfl
theorem jf5 : ((Rows.topFoldersRow.stops == [])) = true := by kernel_rfl
theorem jf6 : ((Tryz.pinned.checked.prog.stops == [])) = true := by kernel_rfl
theorem jf7 : ((Rows.topFoldersRow.knobs == [])) = true := by kernel_rfl
theorem jf8 : ((Tryz.pinned.checked.prog.stopKnobs == [])) = true := by kernel_rfl
theorem jf13 : ((Rows.topFoldersRow.maps == (Tryz.f3.params.toList ++ (OpenSpec.ofChange Rows.topFoldersSpec).bare.plain.varTypes Tryz.pinned.checked.prog).any (Tryz.pinned.checked.prog.mapsRec ·))) = true := by kernel_rfl
theorem jf14 : ((Rows.topFoldersRow.ifaces == (Tryz.f3.params.toList ++ (OpenSpec.ofChange Rows.topFoldersSpec).bare.plain.varTypes Tryz.pinned.checked.prog).any (Tryz.pinned.checked.prog.ifacesRec ·))) = true := by kernel_rfl
theorem jf15 : ((Rows.topFoldersRow.mapsOut == Tryz.pinned.checked.prog.mapsAmong Tryz.f3.resultTypes.toList)) = true := by kernel_rfl
theorem jf16 : ((Rows.topFoldersRow.loops == (Tryz.f3.params.toList ++ (OpenSpec.ofChange Rows.topFoldersSpec).bare.plain.varTypes Tryz.pinned.checked.prog).any (Tryz.pinned.checked.prog.loopsFrom ·))) = true := by kernel_rfl
theorem jf17 : ((Rows.topFoldersRow.wideKeys == (Tryz.f3.params.toList ++ (OpenSpec.ofChange Rows.topFoldersSpec).bare.plain.varTypes Tryz.pinned.checked.prog ++ Tryz.f3.resultTypes.toList).any (Tryz.pinned.checked.prog.wideKeysFrom ·))) = true := by kernel_rfl
theorem jf18 : ((OpenSpec.ofChange Rows.topFoldersSpec).bare.vars.all (Tryz.pinned.checked.prog.varReadable ·)) = true := by kernel_rfl
theorem jf19 : (Tryz.f3.resultTypes.all (fun t => Tryz.pinned.checked.prog.readableRec t && decide (t < Tryz.pinned.checked.prog.types.size))) = true := by kernel_rfl
theorem jf20 : ((Rows.topFoldersRow.ifacesOut == Tryz.f3.resultTypes.toList.any (Tryz.pinned.checked.prog.ifacesRec ·))) = true := by kernel_rfl
theorem jf21 : ((Rows.topFoldersRow.loopsOut == Tryz.f3.resultTypes.toList.any (Tryz.pinned.checked.prog.loopsFrom ·))) = true := by kernel_rfl
theorem jf22 : ((Rows.topFoldersRow.plainKeys == Tryz.pinned.checked.prog.plainKeys)) = true := by kernel_rfl
theorem jf23 : (Rows.topFoldersRow.shortTexts.isNone) = true := by kernel_rfl
theorem jf27 : ((Tryz.pinned.checked.prog.make == some Rows.topFoldersRow.make)) = true := by kernel_rfl
theorem jf29 : ((Rows.topFoldersRow.pinned == Rows.topFoldersRow.pinnedBy)) = true := by kernel_rfl
theorem jf30 : ((Rows.topFoldersRow.veiled == (Tryz.f3.params.toList ++ (OpenSpec.ofChange Rows.topFoldersSpec).bare.plain.varTypes Tryz.pinned.checked.prog ++ Tryz.f3.resultTypes.toList).any (Tryz.pinned.checked.prog.veiledRec ·))) = true := by kernel_rfl
theorem jf31 : (Rows.topFoldersRow.veiledFits Tryz.pinned.checked.prog Tryz.f3.params.toList (Tryz.f3.params.toList ++ (OpenSpec.ofChange Rows.topFoldersSpec).bare.plain.varTypes Tryz.pinned.checked.prog ++ Tryz.f3.resultTypes.toList)) = true := by kernel_rfl
end topFolders
end Go.Proofs.YtfgmmabggjjhgaaGreatDoor
