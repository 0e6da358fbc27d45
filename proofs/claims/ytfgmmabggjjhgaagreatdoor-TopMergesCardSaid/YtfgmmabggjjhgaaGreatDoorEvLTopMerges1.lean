/- TopMerges, one case: run by the evaluator in the kernel. -/
import Derived.Test.YtfgmmabggjjhgaaGreatDoorEvLTopMerges
namespace Go.Proofs.YtfgmmabggjjhgaaGreatDoor.Ev
open Go Go.Proofs
namespace TopMerges
set_option maxHeartbeats 0 in
theorem run1 : runMK Tryz.prog ⟨[], false⟩ 5000 60 fl (ol ⟨[], false⟩ (fun i => i)) ml 8 [.opq .u8 0, .opq .u8 1, .bool false] .l 0 isTrue = true := by kernel_rfl
end TopMerges
end Go.Proofs.YtfgmmabggjjhgaaGreatDoor.Ev
