/- Commands, one by one: run by the evaluator in the kernel. -/
import Derived.Test.YtdnahdcjnahfkaaGreatDoorEvLTopLongC
namespace Go.Proofs.YtdnahdcjnahfkaaGreatDoor.Ev
open Go Go.Proofs
namespace TopLong
set_option maxHeartbeats 0 in
theorem a0 : addsK 0 45 = true := by kernel_rfl
end TopLong
end Go.Proofs.YtdnahdcjnahfkaaGreatDoor.Ev
