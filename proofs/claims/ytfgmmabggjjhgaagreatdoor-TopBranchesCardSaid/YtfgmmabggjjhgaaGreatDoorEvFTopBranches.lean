/- Facts on the program as a whole that the statement of TopBranches asks for: all together. -/
import Derived.Test.YtfgmmabggjjhgaaGreatDoorRows
import Derived.Test.YtfgmmabggjjhgaaGreatDoorChecked
import Derived.JoinedCond
import Derived.Test.YtfgmmabggjjhgaaGreatDoorEvFTopBranches0
import Derived.Test.YtfgmmabggjjhgaaGreatDoorEvFTopBranches1
import Derived.Test.YtfgmmabggjjhgaaGreatDoorEvFTopBranches2
import Derived.Test.YtfgmmabggjjhgaaGreatDoorEvFTopBranches3
namespace Go.Proofs.YtfgmmabggjjhgaaGreatDoor
open Go Go.Proofs
namespace topBranches
theorem and_in {a b : Bool} (ha : a = true) (hb : b = true) : (a && b) = true := by rw [ha, hb]; rfl
theorem joined : joinedFacts Tryz.pinned.checked.prog 5 Tryz.f5 (OpenSpec.ofChange Rows.topBranchesSpec).bare Rows.topBranchesRow = true :=
  and_in (and_in (and_in (and_in (and_in (and_in (and_in (and_in (and_in (and_in (and_in (and_in (and_in (and_in (and_in (and_in (and_in (and_in (and_in (and_in (and_in (and_in (and_in (and_in (and_in (and_in (and_in (and_in (and_in (and_in (and_in (jf0) jf1) jf2) jf3) jf4) jf5) jf6) jf7) jf8) jf9) jf10) jf11) jf12) jf13) jf14) jf15) jf16) jf17) jf18) jf19) jf20) jf21) jf22) jf23) jf24) jf25) jf26) jf27) (by kernel_rfl)) jf29) jf30) jf31
end topBranches
end Go.Proofs.YtfgmmabggjjhgaaGreatDoor
