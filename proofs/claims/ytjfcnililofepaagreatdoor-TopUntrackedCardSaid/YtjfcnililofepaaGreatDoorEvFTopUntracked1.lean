/- Facts on the program as a whole that the statement of TopUntracked asks for: one by one. -/
import Derived.Test.YtjfcnililofepaaGreatDoorRows
import Derived.Test.YtjfcnililofepaaGreatDoorChecked
import Derived.JoinedCond
namespace Go.Proofs.YtjfcnililofepaaGreatDoor
open Go Go.Proofs
namespace topUntracked
theorem jf11 : ((Rows.topUntrackedRow.recurses == Tryz.pinned.checked.prog.recurses 14)) = true := by kernel_rfl
theorem jf12 : ((Rows.topUntrackedRow.named == Tryz.pinned.checked.prog.varsNamed 14)) = true := by kernel_rfl
end topUntracked
end Go.Proofs.YtjfcnililofepaaGreatDoor
