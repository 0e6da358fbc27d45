/- Calls that the runs of TopBranches share: run by the evaluator in the kernel. -/
import Derived.Test.YtfgmmabggjjhgaaGreatDoorEvLTopBranches
import Derived.Test.YtfgmmabggjjhgaaGreatDoorEvLTopBranchesD
namespace Go.Proofs.YtfgmmabggjjhgaaGreatDoor.Ev
open Go Go.Proofs
namespace TopBranches
set_option maxHeartbeats 0 in
theorem r6 : entK Tryz.prog ⟨[], false⟩ 5000 60 fl (ol ⟨[], false⟩ (fun i => i)) ml 11 e6 = true := by kernel_rfl
set_option maxHeartbeats 0 in
theorem r10 : entK Tryz.prog ⟨[], false⟩ 5000 60 fl (ol ⟨[], false⟩ (fun i => i)) ml 11 e10 = true := by kernel_rfl
set_option maxHeartbeats 0 in
theorem r15 : entK Tryz.prog ⟨[], false⟩ 5000 60 fl (ol ⟨[], false⟩ (fun i => i)) ml 14 e15 = true := by kernel_rfl
set_option maxHeartbeats 0 in
theorem r18 : entK Tryz.prog ⟨[], false⟩ 5000 60 fl (ol ⟨[], false⟩ (fun i => i)) ml 11 e18 = true := by kernel_rfl
set_option maxHeartbeats 0 in
theorem r19 : entK Tryz.prog ⟨[], false⟩ 5000 60 fl (ol ⟨[], false⟩ (fun i => i)) ml 14 e19 = true := by kernel_rfl
set_option maxHeartbeats 0 in
theorem r36 : entK Tryz.prog ⟨[], false⟩ 5000 60 fl (ol ⟨[], false⟩ (fun i => i)) ml 11 e36 = true := by kernel_rfl
end TopBranches
end Go.Proofs.YtfgmmabggjjhgaaGreatDoor.Ev
