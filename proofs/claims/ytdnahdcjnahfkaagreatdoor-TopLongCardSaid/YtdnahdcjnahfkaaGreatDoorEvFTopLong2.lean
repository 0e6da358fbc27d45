/- Facts on the program as a whole that the statement of TopLong asks for: one by one. -/
import Derived.Test.YtdnahdcjnahfkaaGreatDoorRows
import Derived.Test.YtdnahdcjnahfkaaGreatDoorChecked
import Derived.JoinedCond
namespace Go.Proofs.YtdnahdcjnahfkaaGreatDoor
open Go Go.Proofs
namespace topLong
theorem jf24 : (Tryz.pinned.checked.prog.stopsHeard) = true := by kernel_rfl
theorem jf25 : (Tryz.pinned.checked.prog.mayEnter) = true := by kernel_rfl
theorem jf26 : ((Rows.topLongRow.lifted == Tryz.pinned.checked.prog.liftsFinal)) = true := by kernel_rfl
end topLong
end Go.Proofs.YtdnahdcjnahfkaaGreatDoor
