/- TopPick, one case: run by the evaluator in the kernel. -/
import Derived.Test.YtfgmmabggjjhgaaGreatDoorEvLTopPick
namespace Go.Proofs.YtfgmmabggjjhgaaGreatDoor.Ev
open Go Go.Proofs
namespace TopPick
set_option maxHeartbeats 0 in
theorem run1 : runMK Tryz.prog ⟨[], true⟩ 5000 60 fl (ol ⟨[], true⟩ (fun i => i)) ml 7 [.opq .u8 0, .opq .u8 1] .l 0 isTrue = true := by kernel_rfl
end TopPick
end Go.Proofs.YtfgmmabggjjhgaaGreatDoor.Ev
