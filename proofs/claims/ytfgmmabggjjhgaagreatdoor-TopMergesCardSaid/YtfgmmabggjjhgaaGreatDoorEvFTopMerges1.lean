/- Facts on the program as a whole that the statement of TopMerges asks for: one by one. -/
import Derived.Test.YtfgmmabggjjhgaaGreatDoorRows
import Derived.Test.YtfgmmabggjjhgaaGreatDoorChecked
import Derived.JoinedCond
namespace Go.Proofs.YtfgmmabggjjhgaaGreatDoor
open Go Go.Proofs
namespace topMerges
theorem jf11 : ((Rows.topMergesRow.recurses == Tryz.pinned.checked.prog.recurses 8)) = true := by kernel_rfl
theorem jf12 : ((Rows.topMergesRow.named == Tryz.pinned.checked.prog.varsNamed 8)) = true := by kernel_rfl
end topMerges
end Go.Proofs.YtfgmmabggjjhgaaGreatDoor
