/- Facts on the program as a whole that the statement of TopBranches asks for: one by one. -/
import Derived.Test.YtfgmmabggjjhgaaGreatDoorRows
import Derived.Test.YtfgmmabggjjhgaaGreatDoorChecked
import Derived.JoinedCond
namespace Go.Proofs.YtfgmmabggjjhgaaGreatDoor
open Go Go.Proofs
namespace topBranches
theorem jf24 : (Tryz.pinned.checked.prog.stopsHeard) = true := by kernel_rfl
theorem jf25 : (Tryz.pinned.checked.prog.mayEnter) = true := by kernel_rfl
theorem jf26 : ((Rows.topBranchesRow.lifted == Tryz.pinned.checked.prog.liftsFinal)) = true := by kernel_rfl
end topBranches
end Go.Proofs.YtfgmmabggjjhgaaGreatDoor
