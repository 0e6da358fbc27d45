/- Facts on the program as a whole that the statement of TopStash asks for: one by one. -/
import Derived.Test.YtfgmmabggjjhgaaGreatDoorRows
import Derived.Test.YtfgmmabggjjhgaaGreatDoorChecked
import Derived.JoinedCond
namespace Go.Proofs.YtfgmmabggjjhgaaGreatDoor
open Go Go.Proofs
namespace topStash
theorem jf11 : ((Rows.topStashRow.recurses == Tryz.pinned.checked.prog.recurses 4)) = true := by kernel_rfl
theorem jf12 : ((Rows.topStashRow.named == Tryz.pinned.checked.prog.varsNamed 4)) = true := by kernel_rfl
end topStash
end Go.Proofs.YtfgmmabggjjhgaaGreatDoor
