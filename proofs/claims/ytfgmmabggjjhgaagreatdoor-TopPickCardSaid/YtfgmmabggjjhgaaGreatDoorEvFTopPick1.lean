/- Facts on the program as a whole that the statement of TopPick asks for: one by one. -/
import Derived.Test.YtfgmmabggjjhgaaGreatDoorRows
import Derived.Test.YtfgmmabggjjhgaaGreatDoorChecked
import Derived.JoinedCond
namespace Go.Proofs.YtfgmmabggjjhgaaGreatDoor
open Go Go.Proofs
namespace topPick
theorem jf11 : ((Rows.topPickRow.recurses == Tryz.pinned.checked.prog.recurses 7)) = true := by kernel_rfl
theorem jf12 : ((Rows.topPickRow.named == Tryz.pinned.checked.prog.varsNamed 7)) = true := by kernel_rfl
end topPick
end Go.Proofs.YtfgmmabggjjhgaaGreatDoor
