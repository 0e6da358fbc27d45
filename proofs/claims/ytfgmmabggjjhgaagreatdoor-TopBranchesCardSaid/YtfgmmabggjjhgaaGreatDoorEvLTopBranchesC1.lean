/- TopBranches, some cases: run by the evaluator in the kernel. -/
import Derived.Test.YtfgmmabggjjhgaaGreatDoorEvLTopBranchesM
namespace Go.Proofs.YtfgmmabggjjhgaaGreatDoor.Ev
open Go Go.Proofs
namespace TopBranches
set_option maxHeartbeats 0 in
theorem run1 : runMK Tryz.prog ⟨[(0, 20, 1)], false⟩ 5000 60 fl (ol ⟨[(0, 20, 1)], false⟩ (fun i => i)) ml2 5 [.opq .u8 0] .l 0 isTrue = true := by kernel_rfl
set_option maxHeartbeats 0 in
theorem run8 : runMK Tryz.prog ⟨[(0, 20, 8)], false⟩ 5000 60 fl (ol ⟨[(0, 20, 8)], false⟩ (fun i => i)) ml2 5 [.opq .u8 0] .l 0 isTrue = true := by kernel_rfl
set_option maxHeartbeats 0 in
theorem run11 : runMK Tryz.prog ⟨[(0, 20, 11)], false⟩ 5000 60 fl (ol ⟨[(0, 20, 11)], false⟩ (fun i => i)) ml2 5 [.opq .u8 0] .l 0 isTrue = true := by kernel_rfl
set_option maxHeartbeats 0 in
theorem run18 : runMK Tryz.prog ⟨[(0, 20, 18)], false⟩ 5000 60 fl (ol ⟨[(0, 20, 18)], false⟩ (fun i => i)) ml2 5 [.opq .u8 0] .l 0 isTrue = true := by kernel_rfl
end TopBranches
end Go.Proofs.YtfgmmabggjjhgaaGreatDoor.Ev
