/- Facts on the program as a whole that the statement of TopRevert asks for: one by one. -/
import Derived.Test.YtjfcnililofepaaGreatDoorRows
import Derived.Test.YtjfcnililofepaaGreatDoorChecked
import Derived.JoinedCond
namespace Go.Proofs.YtjfcnililofepaaGreatDoor
open Go Go.Proofs
namespace topRevert
theorem jf11 : ((Rows.topRevertRow.recurses == Tryz.pinned.checked.prog.recurses 4)) = true := by kernel_rfl
theorem jf12 : ((Rows.topRevertRow.named == Tryz.pinned.checked.prog.varsNamed 4)) = true := by kernel_rfl
end topRevert
end Go.Proofs.YtjfcnililofepaaGreatDoor
