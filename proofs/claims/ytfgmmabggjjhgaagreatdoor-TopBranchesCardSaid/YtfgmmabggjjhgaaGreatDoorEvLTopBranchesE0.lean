/- Calls that the runs of TopBranches share: run by the evaluator in the kernel. -/
import Derived.Test.YtfgmmabggjjhgaaGreatDoorEvLTopBranches
import Derived.Test.YtfgmmabggjjhgaaGreatDoorEvLTopBranchesD
namespace Go.Proofs.YtfgmmabggjjhgaaGreatDoor.Ev
open Go Go.Proofs
namespace TopBranches
set_option maxHeartbeats 0 in
theorem r2 : entK Tryz.prog ⟨[], false⟩ 5000 60 fl (ol ⟨[], false⟩ (fun i => i)) ml 11 e2 = true := by kernel_rfl
set_option maxHeartbeats 0 in
theorem r5 : entK Tryz.prog ⟨[], false⟩ 5000 60 fl (ol ⟨[], false⟩ (fun i => i)) ml 14 e5 = true := by kernel_rfl
set_option maxHeartbeats 0 in
theorem r9 : entK Tryz.prog ⟨[], false⟩ 5000 60 fl (ol ⟨[], false⟩ (fun i => i)) ml 14 e9 = true := by kernel_rfl
set_option maxHeartbeats 0 in
theorem r12 : entK Tryz.prog ⟨[], false⟩ 5000 60 fl (ol ⟨[], false⟩ (fun i => i)) ml 11 e12 = true := by kernel_rfl
set_option maxHeartbeats 0 in
theorem r16 : entK Tryz.prog ⟨[], false⟩ 5000 60 fl (ol ⟨[], false⟩ (fun i => i)) ml 11 e16 = true := by kernel_rfl
set_option maxHeartbeats 0 in
theorem r27 : entK Tryz.prog ⟨[], false⟩ 5000 60 fl (ol ⟨[], false⟩ (fun i => i)) ml 14 e27 = true := by kernel_rfl
set_option maxHeartbeats 0 in
theorem r38 : entK Tryz.prog ⟨[], false⟩ 5000 60 fl (ol ⟨[], false⟩ (fun i => i)) ml 11 e38 = true := by kernel_rfl
end TopBranches
end Go.Proofs.YtfgmmabggjjhgaaGreatDoor.Ev
