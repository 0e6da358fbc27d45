/- Facts on the program as a whole that the statement of TopBranches asks for: one by one. -/
import Derived.Test.YtfgmmabggjjhgaaGreatDoorRows
import Derived.Test.YtfgmmabggjjhgaaGreatDoorChecked
import Derived.JoinedCond
namespace Go.Proofs.YtfgmmabggjjhgaaGreatDoor
open Go Go.Proofs
namespace topBranches
theorem jf11 : ((Rows.topBranchesRow.recurses == Tryz.pinned.checked.prog.recurses 5)) = true := by kernel_rfl
theorem jf12 : ((Rows.topBranchesRow.named == Tryz.pinned.checked.prog.varsNamed 5)) = true := by kernel_rfl
end topBranches
end Go.Proofs.YtfgmmabggjjhgaaGreatDoor
