/- Facts on the program as a whole that the statement of TopSquash asks for: one by one. -/
import Derived.Test.YtjfcnililofepaaGreatDoorRows
import Derived.Test.YtjfcnililofepaaGreatDoorChecked
import Derived.JoinedCond
namespace Go.Proofs.YtjfcnililofepaaGreatDoor
open Go Go.Proofs
namespace topSquash
theorem jf9 : ((Rows.topSquashRow.inPlace == Tryz.pinned.checked.prog.inPlace 7)) = true := by kernel_rfl
theorem jf10 : ((Rows.topSquashRow.unfollowed == Tryz.pinned.checked.prog.unfollowed 7)) = true := by kernel_rfl
end topSquash
end Go.Proofs.YtjfcnililofepaaGreatDoor
