/- Facts on the program as a whole that the statement of TopUndo asks for: one by one. -/
import Derived.Test.YtfgmmabggjjhgaaGreatDoorRows
import Derived.Test.YtfgmmabggjjhgaaGreatDoorChecked
import Derived.JoinedCond
namespace Go.Proofs.YtfgmmabggjjhgaaGreatDoor
open Go Go.Proofs
namespace topUndo
theorem jf9 : ((Rows.topUndoRow.inPlace == Tryz.pinned.checked.prog.inPlace 6)) = true := by kernel_rfl
theorem jf10 : ((Rows.topUndoRow.unfollowed == Tryz.pinned.checked.prog.unfollowed 6)) = true := by kernel_rfl
end topUndo
end Go.Proofs.YtfgmmabggjjhgaaGreatDoor
