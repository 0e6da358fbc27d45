/- Facts on the program as a whole that the statement of TopLong asks for: one by one. -/
import Derived.Test.YtdnahdcjnahfkaaGreatDoorRows
import Derived.Test.YtdnahdcjnahfkaaGreatDoorChecked
import Derived.JoinedCond
namespace Go.Proofs.YtdnahdcjnahfkaaGreatDoor
open Go Go.Proofs
namespace topLong
theorem jf11 : ((Rows.topLongRow.recurses == Tryz.pinned.checked.prog.recurses 3)) = true := by kernel_rfl
theorem jf12 : ((Rows.topLongRow.named == Tryz.pinned.checked.prog.varsNamed 3)) = true := by kernel_rfl
end topLong
end Go.Proofs.YtdnahdcjnahfkaaGreatDoor
