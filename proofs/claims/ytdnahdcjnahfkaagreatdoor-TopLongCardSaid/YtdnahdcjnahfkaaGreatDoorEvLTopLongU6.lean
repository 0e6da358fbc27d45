/- Undone one by one, behind some numbers of commands: run by the evaluator in the kernel. -/
import Derived.Test.YtdnahdcjnahfkaaGreatDoorEvLTopLongC
namespace Go.Proofs.YtdnahdcjnahfkaaGreatDoor.Ev
open Go Go.Proofs
namespace TopLong
set_option maxHeartbeats 0 in
theorem u6 : roundsK 28 10 = true := by kernel_rfl
end TopLong
end Go.Proofs.YtdnahdcjnahfkaaGreatDoor.Ev
