/- TopStash, one case: run by the evaluator in the kernel. -/
import Derived.Test.YtfgmmabggjjhgaaGreatDoorEvLTopStash
namespace Go.Proofs.YtfgmmabggjjhgaaGreatDoor.Ev
open Go Go.Proofs
namespace TopStash
set_option maxHeartbeats 0 in
theorem run0 : runMK Tryz.prog ⟨[], false⟩ 5000 60 fl (ol ⟨[], false⟩ (fun i => i)) ml 4 [.opq .u8 0, .opq .u8 1] .l 0 isTrue = true := by kernel_rfl
end TopStash
end Go.Proofs.YtfgmmabggjjhgaaGreatDoor.Ev
