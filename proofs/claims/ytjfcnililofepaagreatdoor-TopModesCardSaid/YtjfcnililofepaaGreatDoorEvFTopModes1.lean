/- Facts on the program as a whole that the statement of TopModes asks for: one by one. -/
import Derived.Test.YtjfcnililofepaaGreatDoorRows
import Derived.Test.YtjfcnililofepaaGreatDoorChecked
import Derived.JoinedCond
namespace Go.Proofs.YtjfcnililofepaaGreatDoor
open Go Go.Proofs
namespace topModes
theorem jf11 : ((Rows.topModesRow.recurses == Tryz.pinned.checked.prog.recurses 11)) = true := by kernel_rfl
theorem jf12 : ((Rows.topModesRow.named == Tryz.pinned.checked.prog.varsNamed 11)) = true := by kernel_rfl
end topModes
end Go.Proofs.YtjfcnililofepaaGreatDoor
