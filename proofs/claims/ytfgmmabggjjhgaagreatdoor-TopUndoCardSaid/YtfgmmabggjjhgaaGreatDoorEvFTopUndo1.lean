/- Facts on the program as a whole that the statement of TopUndo asks for: one by one. -/
import Derived.Test.YtfgmmabggjjhgaaGreatDoorRows
import Derived.Test.YtfgmmabggjjhgaaGreatDoorChecked
import Derived.JoinedCond
namespace Go.Proofs.YtfgmmabggjjhgaaGreatDoor
open Go Go.Proofs
namespace topUndo
theorem jf11 : ((Rows.topUndoRow.recurses == Tryz.pinned.checked.prog.recurses 6)) = true := by kernel_rfl
theorem jf12 : ((Rows.topUndoRow.named == Tryz.pinned.checked.prog.varsNamed 6)) = true := by kernel_rfl
end topUndo
end Go.Proofs.YtfgmmabggjjhgaaGreatDoor
