/- Facts on the program as a whole that the statement of TopReset asks for: one by one. -/
import Derived.Test.YtjfcnililofepaaGreatDoorRows
import Derived.Test.YtjfcnililofepaaGreatDoorChecked
import Derived.JoinedCond
namespace Go.Proofs.YtjfcnililofepaaGreatDoor
open Go Go.Proofs
namespace topReset
theorem jf11 : ((Rows.topResetRow.recurses == Tryz.pinned.checked.prog.recurses 3)) = true := by kernel_rfl
theorem jf12 : ((Rows.topResetRow.named == Tryz.pinned.checked.prog.varsNamed 3)) = true := by kernel_rfl
end topReset
end Go.Proofs.YtjfcnililofepaaGreatDoor
