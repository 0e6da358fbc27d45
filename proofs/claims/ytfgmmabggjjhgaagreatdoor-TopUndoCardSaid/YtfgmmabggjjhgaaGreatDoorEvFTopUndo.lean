/- Facts on the program as a whole that the statement of TopUndo asks for: all together. -/
import Derived.Test.YtfgmmabggjjhgaaGreatDoorRows
import Derived.Test.YtfgmmabggjjhgaaGreatDoorChecked
import Derived.JoinedCond
import Derived.Test.YtfgmmabggjjhgaaGreatDoorEvFTopUndo0
import Derived.Test.YtfgmmabggjjhgaaGreatDoorEvFTopUndo1
import Derived.Test.YtfgmmabggjjhgaaGreatDoorEvFTopUndo2
import Derived.Test.YtfgmmabggjjhgaaGreatDoorEvFTopUndo3
namespace Go.Proofs.YtfgmmabggjjhgaaGreatDoor
open Go Go.Proofs
namespace topUndo
theorem and_in {a b : Bool} (ha : a = true) (hb : b = true) : (a && b) = true := by rw [ha, hb]; rfl
theorem joined : joinedFacts Tryz.pinned.checked.prog 6 Tryz.f6 (OpenSpec.ofChange Rows.topUndoSpec).bare Rows.topUndoRow = true :=
  and_in (and_in (and_in (and_in (and_in (and_in (and_in (and_in (and_in (and_in (and_in (and_in (and_in (and_in (and_in (and_in (and_in (and_in (and_in (and_in (and_in (and_in (and_in (and_in (and_in (and_in (and_in (and_in (and_in (and_in (and_in (jf0) jf1) jf2) jf3) jf4) jf5) jf6) jf7) jf8) jf9) jf10) jf11) jf12) jf13) jf14) jf15) jf16) jf17) jf18) jf19) jf20) jf21) jf22) jf23) jf24) jf25) jf26) jf27) (by kernel_rfl)) jf29) jf30) jf31
end topUndo
end Go.Proofs.YtfgmmabggjjhgaaGreatDoor
