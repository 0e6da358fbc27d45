/- Facts on the program as a whole that the statement of TopLong asks for: all together. -/
import Derived.Test.YtdnahdcjnahfkaaGreatDoorRows
import Derived.Test.YtdnahdcjnahfkaaGreatDoorChecked
import Derived.JoinedCond
import Derived.Test.YtdnahdcjnahfkaaGreatDoorEvFTopLong0
import Derived.Test.YtdnahdcjnahfkaaGreatDoorEvFTopLong1
import Derived.Test.YtdnahdcjnahfkaaGreatDoorEvFTopLong2
namespace Go.Proofs.YtdnahdcjnahfkaaGreatDoor
open Go Go.Proofs
namespace topLong
theorem jf0 : (Rows.topLongRow.wf (OpenSpec.ofChange (OpenSpec.ofChange Rows.topLongSpec).bare)) = true := by kernel_rfl
theorem jf1 : (laidOutB Tryz.pinned.checked.prog) = true := by kernel_rfl
theorem jf2 : (mapsRowed Tryz.pinned.checked.prog) = true := by kernel_rfl
theorem jf3 : (Tryz.f3.params.all (Tryz.pinned.checked.prog.readableRec ·)) = true := by kernel_rfl
theorem jf4 : (namedTie Tryz.pinned.checked.prog Rows.topLongRow.named (OpenSpec.ofChange Rows.topLongSpec).bare.vars) = true := by kernel_rfl
theorem jf5 : ((Rows.topLongRow.stops == [])) = true := by kernel_rfl
theorem jf6 : ((Tryz.pinned.checked.prog.stops == [])) = true := by kernel_rfl
theorem jf7 : ((Rows.topLongRow.knobs == [])) = true := by kernel_rfl
theorem jf8 : ((Tryz.pinned.checked.prog.stopKnobs == [])) = true := by kernel_rfl
theorem jf13 : ((Rows.topLongRow.maps == (Tryz.f3.params.toList ++ (OpenSpec.ofChange Rows.topLongSpec).bare.plain.varTypes Tryz.pinned.checked.prog).any (Tryz.pinned.checked.prog.mapsRec ·))) = true := by kernel_rfl
theorem jf14 : ((Rows.topLongRow.ifaces == (Tryz.f3.params.toList ++ (OpenSpec.ofChange Rows.topLongSpec).bare.plain.varTypes Tryz.pinned.checked.prog).any (Tryz.pinned.checked.prog.ifacesRec ·))) = true := by kernel_rfl
theorem jf15 : ((Rows.topLongRow.mapsOut == Tryz.pinned.checked.prog.mapsAmong Tryz.f3.resultTypes.toList)) = true := by kernel_rfl
theorem jf16 : ((Rows.topLongRow.loops == (Tryz.f3.params.toList ++ (OpenSpec.ofChange Rows.topLongSpec).bare.plain.varTypes Tryz.pinned.checked.prog).any (Tryz.pinned.checked.prog.loopsFrom ·))) = true := by kernel_rfl
theorem jf17 : ((Rows.topLongRow.wideKeys == (Tryz.f3.params.toList ++ (OpenSpec.ofChange Rows.topLongSpec).bare.plain.varTypes Tryz.pinned.checked.prog ++ Tryz.f3.resultTypes.toList).any (Tryz.pinned.checked.prog.wideKeysFrom ·))) = true := by kernel_rfl
theorem jf18 : ((OpenSpec.ofChange Rows.topLongSpec).bare.vars.all (Tryz.pinned.checked.prog.varReadable ·)) = true := by kernel_rfl
theorem jf19 : (Tryz.f3.resultTypes.all (fun t => Tryz.pinned.checked.prog.readableRec t && decide (t < Tryz.pinned.checked.prog.types.size))) = true := by kernel_rfl
theorem jf20 : ((Rows.topLongRow.ifacesOut == Tryz.f3.resultTypes.toList.any (Tryz.pinned.checked.prog.ifacesRec ·))) = true := by kernel_rfl
theorem jf21 : ((Rows.topLongRow.loopsOut == Tryz.f3.resultTypes.toList.any (Tryz.pinned.checked.prog.loopsFrom ·))) = true := by kernel_rfl
theorem jf22 : ((Rows.topLongRow.plainKeys == Tryz.pinned.checked.prog.plainKeys)) = true := by kernel_rfl
theorem jf23 : (Rows.topLongRow.shortTexts.isNone) = true := by kernel_rfl
theorem jf27 : ((Tryz.pinned.checked.prog.make == some Rows.topLongRow.make)) = true := by kernel_rfl
theorem jf29 : ((Rows.topLongRow.pinned == Rows.topLongRow.pinnedBy)) = true := by kernel_rfl
theorem jf30 : ((Rows.topLongRow.veiled == (Tryz.f3.params.toList ++ (OpenSpec.ofChange Rows.topLongSpec).bare.plain.varTypes Tryz.pinned.checked.prog ++ Tryz.f3.resultTypes.toList).any (Tryz.pinned.checked.prog.veiledRec ·))) = true := by kernel_rfl
theorem jf31 : (Rows.topLongRow.veiledFits Tryz.pinned.checked.prog Tryz.f3.params.toList (Tryz.f3.params.toList ++ (OpenSpec.ofChange Rows.topLongSpec).bare.plain.varTypes Tryz.pinned.checked.prog ++ Tryz.f3.resultTypes.toList)) = true := by kernel_rfl
end topLong
end Go.Proofs.YtdnahdcjnahfkaaGreatDoor
namespace Go.Proofs.YtdnahdcjnahfkaaGreatDoor
open Go Go.Proofs
namespace topLong
theorem and_in {a b : Bool} (ha : a = true) (hb : b = true) : (a && b) = true := by rw [ha, hb]; rfl
theorem joined : joinedFacts Tryz.pinned.checked.prog 3 Tryz.f3 (OpenSpec.ofChange Rows.topLongSpec).bare Rows.topLongRow = true :=
  and_in (and_in (and_in (and_in (and_in (and_in (and_in (and_in (and_in (and_in (and_in (and_in (and_in (and_in (and_in (and_in (and_in (and_in (and_in (and_in (and_in (and_in (and_in (and_in (and_in (and_in (and_in (and_in (and_in (and_in (and_in (jf0) jf1) jf2) jf3) jf4) jf5) jf6) jf7) jf8) jf9) jf10) jf11) jf12) jf13) jf14) jf15) jf16) jf17) jf18) jf19) jf20) jf21) jf22) jf23) jf24) jf25) jf26) jf27) (by kernel_rfl)) jf29) jf30) jf31
end topLong
end Go.Proofs.YtdnahdcjnahfkaaGreatDoor
