/- Calls that the runs of TopBranches share: run by the evaluator in the kernel. -/
import Derived.Test.YtfgmmabggjjhgaaGreatDoorEvLTopBranches
import Derived.Test.YtfgmmabggjjhgaaGreatDoorEvLTopBranchesD
namespace Go.Proofs.YtfgmmabggjjhgaaGreatDoor.Ev
open Go Go.Proofs
namespace TopBranches
set_option maxHeartbeats 0 in
theorem r1 : entK Tryz.prog ⟨[], false⟩ 5000 60 fl (ol ⟨[], false⟩ (fun i => i)) ml 14 e1 = true := by kernel_rfl
set_option maxHeartbeats 0 in
theorem r11 : entK Tryz.prog ⟨[], false⟩ 5000 60 fl (ol ⟨[], false⟩ (fun i => i)) ml 14 e11 = true := by kernel_rfl
set_option maxHeartbeats 0 in
theorem r22 : entK Tryz.prog ⟨[], false⟩ 5000 60 fl (ol ⟨[], false⟩ (fun i => i)) ml 11 e22 = true := by kernel_rfl
set_option maxHeartbeats 0 in
theorem r23 : entK Tryz.prog ⟨[], false⟩ 5000 60 fl (ol ⟨[], false⟩ (fun i => i)) ml 14 e23 = true := by kernel_rfl
set_option maxHeartbeats 0 in
theorem r31 : entK Tryz.prog ⟨[], false⟩ 5000 60 fl (ol ⟨[], false⟩ (fun i => i)) ml 14 e31 = true := by kernel_rfl
set_option maxHeartbeats 0 in
theorem r32 : entK Tryz.prog ⟨[], false⟩ 5000 60 fl (ol ⟨[], false⟩ (fun i => i)) ml 11 e32 = true := by kernel_rfl
set_option maxHeartbeats 0 in
theorem r35 : entK Tryz.prog ⟨[], false⟩ 5000 60 fl (ol ⟨[], false⟩ (fun i => i)) ml 14 e35 = true := by kernel_rfl
end TopBranches
end Go.Proofs.YtfgmmabggjjhgaaGreatDoor.Ev
