/- Facts on the program as a whole that the statement of TopMerges asks for: one by one. -/
import Derived.Test.YtfgmmabggjjhgaaGreatDoorRows
import Derived.Test.YtfgmmabggjjhgaaGreatDoorChecked
import Derived.JoinedCond
namespace Go.Proofs.YtfgmmabggjjhgaaGreatDoor
open Go Go.Proofs
namespace topMerges
theorem jf9 : ((Rows.topMergesRow.inPlace == Tryz.pinned.checked.prog.inPlace 8)) = true := by kernel_rfl
theorem jf10 : ((Rows.topMergesRow.unfollowed == Tryz.pinned.checked.prog.unfollowed 8)) = true := by kernel_rfl
end topMerges
end Go.Proofs.YtfgmmabggjjhgaaGreatDoor
