/- Facts on the program as a whole that the statement of TopRebase asks for: one by one. -/
import Derived.Test.YtjfcnililofepaaGreatDoorRows
import Derived.Test.YtjfcnililofepaaGreatDoorChecked
import Derived.JoinedCond
namespace Go.Proofs.YtjfcnililofepaaGreatDoor
open Go Go.Proofs
namespace topRebase
theorem jf11 : ((Rows.topRebaseRow.recurses == Tryz.pinned.checked.prog.recurses 6)) = true := by kernel_rfl
theorem jf12 : ((Rows.topRebaseRow.named == Tryz.pinned.checked.prog.varsNamed 6)) = true := by kernel_rfl
end topRebase
end Go.Proofs.YtjfcnililofepaaGreatDoor
