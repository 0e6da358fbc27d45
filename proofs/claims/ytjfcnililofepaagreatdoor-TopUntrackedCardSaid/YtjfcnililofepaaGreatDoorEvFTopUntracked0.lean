/- Facts on the program as a whole that the statement of TopUntracked asks for: one by one. -/
import Derived.Test.YtjfcnililofepaaGreatDoorRows
import Derived.Test.YtjfcnililofepaaGreatDoorChecked
import Derived.JoinedCond
namespace Go.Proofs.YtjfcnililofepaaGreatDoor
open Go Go.Proofs
namespace topUntracked
theorem jf9 : ((Rows.topUntrackedRow.inPlace == Tryz.pinned.checked.prog.inPlace 14)) = true := by kernel_rfl
theorem jf10 : ((Rows.topUntrackedRow.unfollowed == Tryz.pinned.checked.prog.unfollowed 14)) = true := by kernel_rfl
end topUntracked
end Go.Proofs.YtjfcnililofepaaGreatDoor
