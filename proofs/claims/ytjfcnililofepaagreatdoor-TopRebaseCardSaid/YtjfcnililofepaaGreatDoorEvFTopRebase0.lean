/- Facts on the program as a whole that the statement of TopRebase asks for: one by one. -/
import Derived.Test.YtjfcnililofepaaGreatDoorRows
import Derived.Test.YtjfcnililofepaaGreatDoorChecked
import Derived.JoinedCond
namespace Go.Proofs.YtjfcnililofepaaGreatDoor
open Go Go.Proofs
namespace topRebase
theorem jf9 : ((Rows.topRebaseRow.inPlace == Tryz.pinned.checked.prog.inPlace 6)) = true := by kernel_rfl
theorem jf10 : ((Rows.topRebaseRow.unfollowed == Tryz.pinned.checked.prog.unfollowed 6)) = true := by kernel_rfl
end topRebase
end Go.Proofs.YtjfcnililofepaaGreatDoor
