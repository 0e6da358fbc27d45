/- TopBranches, some cases: run by the evaluator in the kernel. -/
import Derived.Test.YtfgmmabggjjhgaaGreatDoorEvLTopBranchesM
namespace Go.Proofs.YtfgmmabggjjhgaaGreatDoor.Ev
open Go Go.Proofs
namespace TopBranches
set_option maxHeartbeats 0 in
theorem run2 : runMK Tryz.prog ⟨[(0, 20, 2)], false⟩ 5000 60 fl (ol ⟨[(0, 20, 2)], false⟩ (fun i => i)) ml2 5 [.opq .u8 0] .l 0 isTrue = true := by kernel_rfl
set_option maxHeartbeats 0 in
theorem run7 : runMK Tryz.prog ⟨[(0, 20, 7)], false⟩ 5000 60 fl (ol ⟨[(0, 20, 7)], false⟩ (fun i => i)) ml2 5 [.opq .u8 0] .l 0 isTrue = true := by kernel_rfl
set_option maxHeartbeats 0 in
theorem run12 : runMK Tryz.prog ⟨[(0, 20, 12)], false⟩ 5000 60 fl (ol ⟨[(0, 20, 12)], false⟩ (fun i => i)) ml2 5 [.opq .u8 0] .l 0 isTrue = true := by kernel_rfl
set_option maxHeartbeats 0 in
theorem run17 : runMK Tryz.prog ⟨[(0, 20, 17)], false⟩ 5000 60 fl (ol ⟨[(0, 20, 17)], false⟩ (fun i => i)) ml2 5 [.opq .u8 0] .l 0 isTrue = true := by kernel_rfl
end TopBranches
end Go.Proofs.YtfgmmabggjjhgaaGreatDoor.Ev
