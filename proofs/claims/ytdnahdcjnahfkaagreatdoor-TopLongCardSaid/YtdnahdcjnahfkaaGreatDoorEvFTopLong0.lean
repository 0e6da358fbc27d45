/- Facts on the program as a whole that the statement of TopLong asks for: one by one. -/
import Derived.Test.YtdnahdcjnahfkaaGreatDoorRows
import Derived.Test.YtdnahdcjnahfkaaGreatDoorChecked
import Derived.JoinedCond
namespace Go.Proofs.YtdnahdcjnahfkaaGreatDoor
open Go Go.Proofs
namespace topLong
theorem jf9 : ((Rows.topLongRow.inPlace == Tryz.pinned.checked.prog.inPlace 3)) = true := by kernel_rfl
theorem jf10 : ((Rows.topLongRow.unfollowed == Tryz.pinned.checked.prog.unfollowed 3)) = true := by kernel_rfl
end topLong
end Go.Proofs.YtdnahdcjnahfkaaGreatDoor
