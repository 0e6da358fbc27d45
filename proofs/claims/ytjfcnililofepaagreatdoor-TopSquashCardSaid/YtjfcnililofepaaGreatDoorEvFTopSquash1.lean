/- Facts on the program as a whole that the statement of TopSquash asks for: one by one. -/
import Derived.Test.YtjfcnililofepaaGreatDoorRows
import Derived.Test.YtjfcnililofepaaGreatDoorChecked
import Derived.JoinedCond
namespace Go.Proofs.YtjfcnililofepaaGreatDoor
open Go Go.Proofs
namespace topSquash
theorem jf11 : ((Rows.topSquashRow.recurses == Tryz.pinned.checked.prog.recurses 7)) = true := by kernel_rfl
theorem jf12 : ((Rows.topSquashRow.named == Tryz.pinned.checked.prog.varsNamed 7)) = true := by kernel_rfl
end topSquash
end Go.Proofs.YtjfcnililofepaaGreatDoor
