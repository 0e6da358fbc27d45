/- What the library's proved functions hand back, told in the words of the walks. It speaks of any program; nothing of the claim's own program stands here. -/
import Derived.Test.YtlkfoebophjhfaaGreatDoorAux
import Derived.Lib.Bytealg
import Derived.Lib.IndexLaws
import Derived.Lib.Join
import Derived.Below
namespace Go.Proofs.YtlkfoebophjhfaaGreatDoor
open Go Go.RowKit
theorem Evo_of_Below {w w' : World} (h : Below w.heap.size w w') : Evo [] w w' := ⟨h.os, h.tape, h.output, h.size, fun k hk _ => h.block k hk⟩
end Go.Proofs.YtlkfoebophjhfaaGreatDoor
