/- TopBranches, some cases: run by the evaluator in the kernel. -/
import Derived.Test.YtfgmmabggjjhgaaGreatDoorEvLTopBranchesM
namespace Go.Proofs.YtfgmmabggjjhgaaGreatDoor.Ev
open Go Go.Proofs
namespace TopBranches
set_option maxHeartbeats 0 in
theorem run0 : runMK Tryz.prog ⟨[(0, 20, 0)], false⟩ 5000 60 fl (ol ⟨[(0, 20, 0)], false⟩ (fun i => i)) ml2 5 [.opq .u8 0] .l 0 isTrue = true := by kernel_rfl
set_option maxHeartbeats 0 in
theorem run9 : runMK Tryz.prog ⟨[(0, 20, 9)], false⟩ 5000 60 fl (ol ⟨[(0, 20, 9)], false⟩ (fun i => i)) ml2 5 [.opq .u8 0] .l 0 isTrue = true := by kernel_rfl
set_option maxHeartbeats 0 in
theorem run10 : runMK Tryz.prog ⟨[(0, 20, 10)], false⟩ 5000 60 fl (ol ⟨[(0, 20, 10)], false⟩ (fun i => i)) ml2 5 [.opq .u8 0] .l 0 isTrue = true := by kernel_rfl
set_option maxHeartbeats 0 in
theorem run19 : runMK Tryz.prog ⟨[(0, 20, 19)], false⟩ 5000 60 fl (ol ⟨[(0, 20, 19)], false⟩ (fun i => i)) ml2 5 [.opq .u8 0] .l 0 isTrue = true := by kernel_rfl
end TopBranches
end Go.Proofs.YtfgmmabggjjhgaaGreatDoor.Ev
