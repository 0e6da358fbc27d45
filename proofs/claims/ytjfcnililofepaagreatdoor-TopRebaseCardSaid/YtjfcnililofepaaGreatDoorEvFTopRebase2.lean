/- Facts on the program as a whole that the statement of TopRebase asks for: one by one. -/
import Derived.Test.YtjfcnililofepaaGreatDoorRows
import Derived.Test.YtjfcnililofepaaGreatDoorChecked
import Derived.JoinedCond
namespace Go.Proofs.YtjfcnililofepaaGreatDoor
open Go Go.Proofs
namespace topRebase
theorem jf24 : (Tryz.pinned.checked.prog.stopsHeard) = true := by kernel_rfl
theorem jf25 : (Tryz.pinned.checked.prog.mayEnter) = true := by kernel_rfl
theorem jf26 : ((Rows.topRebaseRow.lifted == Tryz.pinned.checked.prog.liftsFinal)) = true := by kernel_rfl
end topRebase
end Go.Proofs.YtjfcnililofepaaGreatDoor
