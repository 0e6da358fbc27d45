/- Facts on the program as a whole that the statement of TopEdit asks for: one by one. -/
import Derived.Test.YtjfcnililofepaaGreatDoorRows
import Derived.Test.YtjfcnililofepaaGreatDoorChecked
import Derived.JoinedCond
namespace Go.Proofs.YtjfcnililofepaaGreatDoor
open Go Go.Proofs
namespace topEdit
theorem jf11 : ((Rows.topEditRow.recurses == Tryz.pinned.checked.prog.recurses 10)) = true := by kernel_rfl
theorem jf12 : ((Rows.topEditRow.named == Tryz.pinned.checked.prog.varsNamed 10)) = true := by kernel_rfl
end topEdit
end Go.Proofs.YtjfcnililofepaaGreatDoor
