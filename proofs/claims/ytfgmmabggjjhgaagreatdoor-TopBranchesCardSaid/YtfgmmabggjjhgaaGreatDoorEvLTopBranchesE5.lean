/- Calls that the runs of TopBranches share: run by the evaluator in the kernel. -/
import Derived.Test.YtfgmmabggjjhgaaGreatDoorEvLTopBranches
import Derived.Test.YtfgmmabggjjhgaaGreatDoorEvLTopBranchesD
namespace Go.Proofs.YtfgmmabggjjhgaaGreatDoor.Ev
open Go Go.Proofs
namespace TopBranches
set_option maxHeartbeats 0 in
theorem r7 : entK Tryz.prog ⟨[], false⟩ 5000 60 fl (ol ⟨[], false⟩ (fun i => i)) ml 14 e7 = true := by kernel_rfl
set_option maxHeartbeats 0 in
theorem r14 : entK Tryz.prog ⟨[], false⟩ 5000 60 fl (ol ⟨[], false⟩ (fun i => i)) ml 11 e14 = true := by kernel_rfl
set_option maxHeartbeats 0 in
theorem r17 : entK Tryz.prog ⟨[], false⟩ 5000 60 fl (ol ⟨[], false⟩ (fun i => i)) ml 14 e17 = true := by kernel_rfl
set_option maxHeartbeats 0 in
theorem r25 : entK Tryz.prog ⟨[], false⟩ 5000 60 fl (ol ⟨[], false⟩ (fun i => i)) ml 14 e25 = true := by kernel_rfl
set_option maxHeartbeats 0 in
theorem r26 : entK Tryz.prog ⟨[], false⟩ 5000 60 fl (ol ⟨[], false⟩ (fun i => i)) ml 11 e26 = true := by kernel_rfl
set_option maxHeartbeats 0 in
theorem r28 : entK Tryz.prog ⟨[], false⟩ 5000 60 fl (ol ⟨[], false⟩ (fun i => i)) ml 11 e28 = true := by kernel_rfl
end TopBranches
end Go.Proofs.YtfgmmabggjjhgaaGreatDoor.Ev
