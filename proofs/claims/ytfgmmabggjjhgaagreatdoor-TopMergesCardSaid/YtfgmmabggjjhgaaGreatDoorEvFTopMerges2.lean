/- Facts on the program as a whole that the statement of TopMerges asks for: one by one. -/
import Derived.Test.YtfgmmabggjjhgaaGreatDoorRows
import Derived.Test.YtfgmmabggjjhgaaGreatDoorChecked
import Derived.JoinedCond
namespace Go.Proofs.YtfgmmabggjjhgaaGreatDoor
open Go Go.Proofs
namespace topMerges
theorem jf24 : (Tryz.pinned.checked.prog.stopsHeard) = true := by kernel_rfl
theorem jf25 : (Tryz.pinned.checked.prog.mayEnter) = true := by kernel_rfl
theorem jf26 : ((Rows.topMergesRow.lifted == Tryz.pinned.checked.prog.liftsFinal)) = true := by kernel_rfl
end topMerges
end Go.Proofs.YtfgmmabggjjhgaaGreatDoor
