/- TopBranches, some cases: run by the evaluator in the kernel. -/
import Derived.Test.YtfgmmabggjjhgaaGreatDoorEvLTopBranchesM
namespace Go.Proofs.YtfgmmabggjjhgaaGreatDoor.Ev
open Go Go.Proofs
namespace TopBranches
set_option maxHeartbeats 0 in
theorem run3 : runMK Tryz.prog ⟨[(0, 20, 3)], false⟩ 5000 60 fl (ol ⟨[(0, 20, 3)], false⟩ (fun i => i)) ml2 5 [.opq .u8 0] .l 0 isTrue = true := by kernel_rfl
set_option maxHeartbeats 0 in
theorem run6 : runMK Tryz.prog ⟨[(0, 20, 6)], false⟩ 5000 60 fl (ol ⟨[(0, 20, 6)], false⟩ (fun i => i)) ml2 5 [.opq .u8 0] .l 0 isTrue = true := by kernel_rfl
set_option maxHeartbeats 0 in
theorem run13 : runMK Tryz.prog ⟨[(0, 20, 13)], false⟩ 5000 60 fl (ol ⟨[(0, 20, 13)], false⟩ (fun i => i)) ml2 5 [.opq .u8 0] .l 0 isTrue = true := by kernel_rfl
set_option maxHeartbeats 0 in
theorem run16 : runMK Tryz.prog ⟨[(0, 20, 16)], false⟩ 5000 60 fl (ol ⟨[(0, 20, 16)], false⟩ (fun i => i)) ml2 5 [.opq .u8 0] .l 0 isTrue = true := by kernel_rfl
end TopBranches
end Go.Proofs.YtfgmmabggjjhgaaGreatDoor.Ev
