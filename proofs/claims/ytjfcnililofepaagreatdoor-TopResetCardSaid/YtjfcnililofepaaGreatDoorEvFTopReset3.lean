/- Facts on the program as a whole that the statement of TopReset asks for: one by one. -/
import Derived.Test.YtjfcnililofepaaGreatDoorRows
import Derived.Test.YtjfcnililofepaaGreatDoorChecked
import Derived.JoinedCond
namespace Go.Proofs.YtjfcnililofepaaGreatDoor
open Go Go.Proofs
namespace topReset
theorem jf0 : (Rows.topResetRow.wf (OpenSpec.ofChange (OpenSpec.ofChange Rows.topResetSpec).bare)) = true := by kernel_rfl
theorem jf1 : (laidOutB Tryz.pinned.checked.prog) = true := by kernel_rfl
theorem jf2 : (mapsRowed Tryz.pinned.checked.prog) = true := by kernel_rfl
theorem jf3 : (Tryz.f3.params.all (Tryz.pinned.checked.prog.readableRec ·)) = true := by kernel_rfl
theorem jf4 : (namedTie Tryz.pinned.checked.prog Rows.topResetRow.named (OpenSpec.ofChange Rows.topResetSpec).bare.vars) = true := by kernel_rfl
theorem jf5 : ((Rows.topResetRow.stops == [])) = true := by kernel_rfl
theorem jf6 : ((Tryz.pinned.checked.prog.stops == [])) = true := by kernel_rfl
theorem jf7 : ((Rows.topResetRow.knobs == [])) = true := by kernel_rfl
theorem jf8 : ((Tryz.pinned.checked.prog.stopKnobs == [])) = true := by kernel_rfl
theorem jf13 : ((Rows.topResetRow.maps == (Tryz.f3.params.toList ++ (OpenSpec.ofChange Rows.topResetSpec).bare.plain.varTypes Tryz.pinned.checked.prog).any (Tryz.pinned.checked.prog.mapsRec ·))) = true := by kernel_rfl
theorem jf14 : ((Rows.topResetRow.ifaces == (Tryz.f3.params.toList ++ (OpenSpec.ofChange Rows.topResetSpec).bare.plain.varTypes Tryz.pinned.checked.prog).any (Tryz.pinned.checked.prog.ifacesRec ·))) = true := by kernel_rfl
theorem jf15 : ((Rows.topResetRow.mapsOut == Tryz.pinned.checked.prog.mapsAmong Tryz.f3.resultTypes.toList)) = true := by kernel_rfl
theorem jf16 : ((Rows.topResetRow.loops == (Tryz.f3.params.toList ++ (OpenSpec.ofChange Rows.topResetSpec).bare.plain.varTypes Tryz.pinned.checked.prog).any (Tryz.pinned.checked.prog.loopsFrom ·))) = true := by kernel_rfl
theorem jf17 : ((Rows.topResetRow.wideKeys == (Tryz.f3.params.toList ++ (OpenSpec.ofChange Rows.topResetSpec).bare.plain.varTypes Tryz.pinned.checked.prog ++ Tryz.f3.resultTypes.toList).any (Tryz.pinned.checked.prog.wideKeysFrom ·))) = true := by kernel_rfl
theorem jf18 : ((OpenSpec.ofChange Rows.topResetSpec).bare.vars.all (Tryz.pinned.checked.prog.varReadable ·)) = true := by kernel_rfl
theorem jf19 : (Tryz.f3.resultTypes.all (fun t => Tryz.pinned.checked.prog.readableRec t && decide (t < Tryz.pinned.checked.prog.types.size))) = true := by kernel_rfl
theorem jf20 : ((Rows.topResetRow.ifacesOut == Tryz.f3.resultTypes.toList.any (Tryz.pinned.checked.prog.ifacesRec ·))) = true := by kernel_rfl
theorem jf21 : ((Rows.topResetRow.loopsOut == Tryz.f3.resultTypes.toList.any (Tryz.pinned.checked.prog.loopsFrom ·))) = true := by kernel_rfl
theorem jf22 : ((Rows.topResetRow.plainKeys == Tryz.pinned.checked.prog.plainKeys)) = true := by kernel_rfl
theorem jf23 : (Rows.topResetRow.shortTexts.isNone) = true := by kernel_rfl
theorem jf27 : ((Tryz.pinned.checked.prog.make == some Rows.topResetRow.make)) = true := by kernel_rfl
theorem jf29 : ((Rows.topResetRow.pinned == Rows.topResetRow.pinnedBy)) = true := by kernel_rfl
theorem jf30 : ((Rows.topResetRow.veiled == (Tryz.f3.params.toList ++ (OpenSpec.ofChange Rows.topResetSpec).bare.plain.varTypes Tryz.pinned.checked.prog ++ Tryz.f3.resultTypes.toList).any (Tryz.pinned.checked.prog.veiledRec ·))) = true := by kernel_rfl
theorem jf31 : (Rows.topResetRow.veiledFits Tryz.pinned.checked.prog Tryz.f3.params.toList (Tryz.f3.params.toList ++ (OpenSpec.ofChange Rows.topResetSpec).bare.plain.varTypes Tryz.pinned.checked.prog ++ Tryz.f3.resultTypes.toList)) = true := by kernel_rfl
end topReset
end Go.Proofs.YtjfcnililofepaaGreatDoor
