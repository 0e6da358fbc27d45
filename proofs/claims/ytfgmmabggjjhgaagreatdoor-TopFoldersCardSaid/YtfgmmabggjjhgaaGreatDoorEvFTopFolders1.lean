/- Facts on the program as a whole that the statement of TopFolders asks for: one by one. -/
import Derived.Test.YtfgmmabggjjhgaaGreatDoorRows
import Derived.Test.YtfgmmabggjjhgaaGreatDoorChecked
import Derived.JoinedCond
namespace Go.Proofs.YtfgmmabggjjhgaaGreatDoor
open Go Go.Proofs
namespace topFolders
theorem jf11 : ((Rows.topFoldersRow.recurses == Tryz.pinned.checked.prog.recurses 3)) = true := by kernel_rfl
theorem jf12 : ((Rows.topFoldersRow.named == Tryz.pinned.checked.prog.varsNamed 3)) = true := by kernel_rfl
end topFolders
end Go.Proofs.YtfgmmabggjjhgaaGreatDoor
