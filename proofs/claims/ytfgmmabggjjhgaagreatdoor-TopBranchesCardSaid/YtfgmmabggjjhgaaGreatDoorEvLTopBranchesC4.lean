/- TopBranches, some cases: run by the evaluator in the kernel. -/
import Derived.Test.YtfgmmabggjjhgaaGreatDoorEvLTopBranchesM
namespace Go.Proofs.YtfgmmabggjjhgaaGreatDoor.Ev
open Go Go.Proofs
namespace TopBranches
set_option maxHeartbeats 0 in
theorem run4 : runMK Tryz.prog ⟨[(0, 20, 4)], false⟩ 5000 60 fl (ol ⟨[(0, 20, 4)], false⟩ (fun i => i)) ml2 5 [.opq .u8 0] .l 0 isTrue = true := by kernel_rfl
set_option maxHeartbeats 0 in
theorem run5 : runMK Tryz.prog ⟨[(0, 20, 5)], false⟩ 5000 60 fl (ol ⟨[(0, 20, 5)], false⟩ (fun i => i)) ml2 5 [.opq .u8 0] .l 0 isTrue = true := by kernel_rfl
set_option maxHeartbeats 0 in
theorem run14 : runMK Tryz.prog ⟨[(0, 20, 14)], false⟩ 5000 60 fl (ol ⟨[(0, 20, 14)], false⟩ (fun i => i)) ml2 5 [.opq .u8 0] .l 0 isTrue = true := by kernel_rfl
set_option maxHeartbeats 0 in
theorem run15 : runMK Tryz.prog ⟨[(0, 20, 15)], false⟩ 5000 60 fl (ol ⟨[(0, 20, 15)], false⟩ (fun i => i)) ml2 5 [.opq .u8 0] .l 0 isTrue = true := by kernel_rfl
end TopBranches
end Go.Proofs.YtfgmmabggjjhgaaGreatDoor.Ev
