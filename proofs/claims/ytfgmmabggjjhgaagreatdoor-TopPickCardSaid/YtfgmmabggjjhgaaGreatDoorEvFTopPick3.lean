/- Facts on the program as a whole that the statement of TopPick asks for: one by one. -/
import Derived.Test.YtfgmmabggjjhgaaGreatDoorRows
import Derived.Test.YtfgmmabggjjhgaaGreatDoorChecked
import Derived.JoinedCond
namespace Go.Proofs.YtfgmmabggjjhgaaGreatDoor
open Go Go.Proofs
namespace topPick
theorem jf0 : (Rows.topPickRow.wf (OpenSpec.ofChange (OpenSpec.ofChange Rows.topPickSpec).bare)) = true := by kernel_rfl
theorem jf1 : (laidOutB Tryz.pinned.checked.prog) = true := by kernel_rfl
theorem jf2 : (mapsRowed Tryz.pinned.checked.prog) = true := by kernel_rfl
theorem jf3 : (Tryz.f7.params.all (Tryz.pinned.checked.prog.readableRec ·)) = true := by kernel_rfl
theorem jf4 : (namedTie Tryz.pinned.checked.prog Rows.topPickRow.named (OpenSpec.ofChange Rows.topPickSpec).bare.vars) = true := by kernel_rfl
theorem jf5 : ((Rows.topPickRow.stops == [])) = true := by kernel_rfl
theorem jf6 : ((Tryz.pinned.checked.prog.stops == [])) = true := by kernel_rfl
theorem jf7 : ((Rows.topPickRow.knobs == [])) = true := by kernel_rfl
theorem jf8 : ((Tryz.pinned.checked.prog.stopKnobs == [])) = true := by kernel_rfl
theorem jf13 : ((Rows.topPickRow.maps == (Tryz.f7.params.toList ++ (OpenSpec.ofChange Rows.topPickSpec).bare.plain.varTypes Tryz.pinned.checked.prog).any (Tryz.pinned.checked.prog.mapsRec ·))) = true := by kernel_rfl
theorem jf14 : ((Rows.topPickRow.ifaces == (Tryz.f7.params.toList ++ (OpenSpec.ofChange Rows.topPickSpec).bare.plain.varTypes Tryz.pinned.checked.prog).any (Tryz.pinned.checked.prog.ifacesRec ·))) = true := by kernel_rfl
theorem jf15 : ((Rows.topPickRow.mapsOut == Tryz.pinned.checked.prog.mapsAmong Tryz.f7.resultTypes.toList)) = true := by kernel_rfl
theorem jf16 : ((Rows.topPickRow.loops == (Tryz.f7.params.toList ++ (OpenSpec.ofChange Rows.topPickSpec).bare.plain.varTypes Tryz.pinned.checked.prog).any (Tryz.pinned.checked.prog.loopsFrom ·))) = true := by kernel_rfl
theorem jf17 : ((Rows.topPickRow.wideKeys == (Tryz.f7.params.toList ++ (OpenSpec.ofChange Rows.topPickSpec).bare.plain.varTypes Tryz.pinned.checked.prog ++ Tryz.f7.resultTypes.toList).any (Tryz.pinned.checked.prog.wideKeysFrom ·))) = true := by kernel_rfl
theorem jf18 : ((OpenSpec.ofChange Rows.topPickSpec).bare.vars.all (Tryz.pinned.checked.prog.varReadable ·)) = true := by kernel_rfl
theorem jf19 : (Tryz.f7.resultTypes.all (fun t => Tryz.pinned.checked.prog.readableRec t && decide (t < Tryz.pinned.checked.prog.types.size))) = true := by kernel_rfl
theorem jf20 : ((Rows.topPickRow.ifacesOut == Tryz.f7.resultTypes.toList.any (Tryz.pinned.checked.prog.ifacesRec ·))) = true := by kernel_rfl
theorem jf21 : ((Rows.topPickRow.loopsOut == Tryz.f7.resultTypes.toList.any (Tryz.pinned.checked.prog.loopsFrom ·))) = true := by kernel_rfl
theorem jf22 : ((Rows.topPickRow.plainKeys == Tryz.pinned.checked.prog.plainKeys)) = true := by kernel_rfl
theorem jf23 : (Rows.topPickRow.shortTexts.isNone) = true := by kernel_rfl
theorem jf27 : ((Tryz.pinned.checked.prog.make == some Rows.topPickRow.make)) = true := by kernel_rfl
theorem jf29 : ((Rows.topPickRow.pinned == Rows.topPickRow.pinnedBy)) = true := by kernel_rfl
theorem jf30 : ((Rows.topPickRow.veiled == (Tryz.f7.params.toList ++ (OpenSpec.ofChange Rows.topPickSpec).bare.plain.varTypes Tryz.pinned.checked.prog ++ Tryz.f7.resultTypes.toList).any (Tryz.pinned.checked.prog.veiledRec ·))) = true := by kernel_rfl
theorem jf31 : (Rows.topPickRow.veiledFits Tryz.pinned.checked.prog Tryz.f7.params.toList (Tryz.f7.params.toList ++ (OpenSpec.ofChange Rows.topPickSpec).bare.plain.varTypes Tryz.pinned.checked.prog ++ Tryz.f7.resultTypes.toList)) = true := by kernel_rfl
end topPick
end Go.Proofs.YtfgmmabggjjhgaaGreatDoor
