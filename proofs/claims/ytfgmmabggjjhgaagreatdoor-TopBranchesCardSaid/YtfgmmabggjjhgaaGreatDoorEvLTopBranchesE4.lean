/- Calls that the runs of TopBranches share: run by the evaluator in the kernel. -/
import Derived.Test.YtfgmmabggjjhgaaGreatDoorEvLTopBranches
import Derived.Test.YtfgmmabggjjhgaaGreatDoorEvLTopBranchesD
namespace Go.Proofs.YtfgmmabggjjhgaaGreatDoor.Ev
open Go Go.Proofs
namespace TopBranches
set_option maxHeartbeats 0 in
theorem r8 : entK Tryz.prog ⟨[], false⟩ 5000 60 fl (ol ⟨[], false⟩ (fun i => i)) ml 11 e8 = true := by kernel_rfl
set_option maxHeartbeats 0 in
theorem r13 : entK Tryz.prog ⟨[], false⟩ 5000 60 fl (ol ⟨[], false⟩ (fun i => i)) ml 14 e13 = true := by kernel_rfl
set_option maxHeartbeats 0 in
theorem r21 : entK Tryz.prog ⟨[], false⟩ 5000 60 fl (ol ⟨[], false⟩ (fun i => i)) ml 14 e21 = true := by kernel_rfl
set_option maxHeartbeats 0 in
theorem r24 : entK Tryz.prog ⟨[], false⟩ 5000 60 fl (ol ⟨[], false⟩ (fun i => i)) ml 11 e24 = true := by kernel_rfl
set_option maxHeartbeats 0 in
theorem r30 : entK Tryz.prog ⟨[], false⟩ 5000 60 fl (ol ⟨[], false⟩ (fun i => i)) ml 11 e30 = true := by kernel_rfl
set_option maxHeartbeats 0 in
theorem r33 : entK Tryz.prog ⟨[], false⟩ 5000 60 fl (ol ⟨[], false⟩ (fun i => i)) ml 14 e33 = true := by kernel_rfl
end TopBranches
end Go.Proofs.YtfgmmabggjjhgaaGreatDoor.Ev
