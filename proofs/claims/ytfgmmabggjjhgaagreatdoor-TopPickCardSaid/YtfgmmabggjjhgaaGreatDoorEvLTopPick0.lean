/- TopPick, one case: run by the evaluator in the kernel. -/
import Derived.Test.YtfgmmabggjjhgaaGreatDoorEvLTopPick
namespace Go.Proofs.YtfgmmabggjjhgaaGreatDoor.Ev
open Go Go.Proofs
namespace TopPick
set_option maxHeartbeats 0 in
theorem run0 : runMK Tryz.prog ⟨[], false⟩ 5000 60 fl (ol ⟨[], false⟩ (fun _ => 0)) ml 7 [.opq .u8 0, .opq .u8 1] .l 0 isTrue = true := by kernel_rfl
end TopPick
end Go.Proofs.YtfgmmabggjjhgaaGreatDoor.Ev
