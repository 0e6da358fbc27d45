/- Facts on the program as a whole that the statement of TopMerges asks for: all together. -/
import Derived.Test.YtfgmmabggjjhgaaGreatDoorRows
import Derived.Test.YtfgmmabggjjhgaaGreatDoorChecked
import Derived.JoinedCond
import Derived.Test.YtfgmmabggjjhgaaGreatDoorEvFTopMerges0
import Derived.Test.YtfgmmabggjjhgaaGreatDoorEvFTopMerges1
import Derived.Test.YtfgmmabggjjhgaaGreatDoorEvFTopMerges2
import Derived.Test.YtfgmmabggjjhgaaGreatDoorEvFTopMerges3
namespace Go.Proofs.YtfgmmabggjjhgaaGreatDoor
open Go Go.Proofs
namespace topMerges
theorem and_in {a b : Bool} (ha : a = true) (hb : b = true) : (a && b) = true := by rw [ha, hb]; rfl
theorem joined : joinedFacts Tryz.pinned.checked.prog 8 Tryz.f8 (OpenSpec.ofChange Rows.topMergesSpec).bare Rows.topMergesRow = true :=
  and_in (and_in (and_in (and_in (and_in (and_in (and_in (and_in (and_in (and_in (and_in (and_in (and_in (and_in (and_in (and_in (and_in (and_in (and_in (and_in (and_in (and_in (and_in (and_in (and_in (and_in (and_in (and_in (and_in (and_in (and_in (jf0) jf1) jf2) jf3) jf4) jf5) jf6) jf7) jf8) jf9) jf10) jf11) jf12) jf13) jf14) jf15) jf16) jf17) jf18) jf19) jf20) jf21) jf22) jf23) jf24) jf25) jf26) jf27) (by kernel_rfl)) jf29) jf30) jf31
end topMerges
end Go.Proofs.YtfgmmabggjjhgaaGreatDoor
