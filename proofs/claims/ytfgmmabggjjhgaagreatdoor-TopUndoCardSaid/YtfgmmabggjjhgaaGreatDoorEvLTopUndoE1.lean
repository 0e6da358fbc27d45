/- Calls that the runs of TopUndo share: run by the evaluator in the kernel. -/
import Derived.Test.YtfgmmabggjjhgaaGreatDoorEvLTopUndo
import Derived.Test.YtfgmmabggjjhgaaGreatDoorEvLTopUndoD
namespace Go.Proofs.YtfgmmabggjjhgaaGreatDoor.Ev
open Go Go.Proofs
namespace TopUndo
set_option maxHeartbeats 0 in
theorem r0 : entK Tryz.prog ⟨[], false⟩ 5000 60 fl (ol ⟨[], false⟩ (fun i => i)) ml 16 e0 = true := by kernel_rfl
set_option maxHeartbeats 0 in
theorem r9 : entK Tryz.prog ⟨[], false⟩ 5000 60 fl (ol ⟨[], false⟩ (fun i => i)) ml 14 e9 = true := by kernel_rfl
set_option maxHeartbeats 0 in
theorem r12 : entK Tryz.prog ⟨[], false⟩ 5000 60 fl (ol ⟨[], false⟩ (fun i => i)) ml 14 e12 = true := by kernel_rfl
set_option maxHeartbeats 0 in
theorem r14 : entK Tryz.prog ⟨[], false⟩ 5000 60 fl (ol ⟨[], false⟩ (fun i => i)) ml 14 e14 = true := by kernel_rfl
set_option maxHeartbeats 0 in
theorem r23 : entK Tryz.prog ⟨[], false⟩ 5000 60 fl (ol ⟨[], false⟩ (fun i => i)) ml 14 e23 = true := by kernel_rfl
set_option maxHeartbeats 0 in
theorem r27 : entK Tryz.prog ⟨[], false⟩ 5000 60 fl (ol ⟨[], false⟩ (fun i => i)) ml 16 e27 = true := by kernel_rfl
set_option maxHeartbeats 0 in
theorem r29 : entK Tryz.prog ⟨[], false⟩ 5000 60 fl (ol ⟨[], false⟩ (fun i => i)) ml 14 e29 = true := by kernel_rfl
set_option maxHeartbeats 0 in
theorem r47 : entK Tryz.prog ⟨[], false⟩ 5000 60 fl (ol ⟨[], false⟩ (fun i => i)) ml 14 e47 = true := by kernel_rfl
set_option maxHeartbeats 0 in
theorem r48 : entK Tryz.prog ⟨[], false⟩ 5000 60 fl (ol ⟨[], false⟩ (fun i => i)) ml 14 e48 = true := by kernel_rfl
set_option maxHeartbeats 0 in
theorem r53 : entK Tryz.prog ⟨[], false⟩ 5000 60 fl (ol ⟨[], false⟩ (fun i => i)) ml 14 e53 = true := by kernel_rfl
set_option maxHeartbeats 0 in
theorem r54 : entK Tryz.prog ⟨[], false⟩ 5000 60 fl (ol ⟨[], false⟩ (fun i => i)) ml 14 e54 = true := by kernel_rfl
set_option maxHeartbeats 0 in
theorem r62 : entK Tryz.prog ⟨[], false⟩ 5000 60 fl (ol ⟨[], false⟩ (fun i => i)) ml 14 e62 = true := by kernel_rfl
set_option maxHeartbeats 0 in
theorem r79 : entK Tryz.prog ⟨[], false⟩ 5000 60 fl (ol ⟨[], false⟩ (fun i => i)) ml 14 e79 = true := by kernel_rfl
set_option maxHeartbeats 0 in
theorem r84 : entK Tryz.prog ⟨[], false⟩ 5000 60 fl (ol ⟨[], false⟩ (fun i => i)) ml 14 e84 = true := by kernel_rfl
set_option maxHeartbeats 0 in
theorem r85 : entK Tryz.prog ⟨[], false⟩ 5000 60 fl (ol ⟨[], false⟩ (fun i => i)) ml 14 e85 = true := by kernel_rfl
set_option maxHeartbeats 0 in
theorem r93 : entK Tryz.prog ⟨[], false⟩ 5000 60 fl (ol ⟨[], false⟩ (fun i => i)) ml 14 e93 = true := by kernel_rfl
set_option maxHeartbeats 0 in
theorem r106 : entK Tryz.prog ⟨[], false⟩ 5000 60 fl (ol ⟨[], false⟩ (fun i => i)) ml 14 e106 = true := by kernel_rfl
set_option maxHeartbeats 0 in
theorem r109 : entK Tryz.prog ⟨[], false⟩ 5000 60 fl (ol ⟨[], false⟩ (fun i => i)) ml 14 e109 = true := by kernel_rfl
set_option maxHeartbeats 0 in
theorem r113 : entK Tryz.prog ⟨[], false⟩ 5000 60 fl (ol ⟨[], false⟩ (fun i => i)) ml 19 e113 = true := by kernel_rfl
set_option maxHeartbeats 0 in
theorem r123 : entK Tryz.prog ⟨[], false⟩ 5000 60 fl (ol ⟨[], false⟩ (fun i => i)) ml 14 e123 = true := by kernel_rfl
set_option maxHeartbeats 0 in
theorem r128 : entK Tryz.prog ⟨[], false⟩ 5000 60 fl (ol ⟨[], false⟩ (fun i => i)) ml 14 e128 = true := by kernel_rfl
set_option maxHeartbeats 0 in
theorem r131 : entK Tryz.prog ⟨[], false⟩ 5000 60 fl (ol ⟨[], false⟩ (fun i => i)) ml 14 e131 = true := by kernel_rfl
set_option maxHeartbeats 0 in
theorem r143 : entK Tryz.prog ⟨[], false⟩ 5000 60 fl (ol ⟨[], false⟩ (fun i => i)) ml 14 e143 = true := by kernel_rfl
set_option maxHeartbeats 0 in
theorem r155 : entK Tryz.prog ⟨[], false⟩ 5000 60 fl (ol ⟨[], false⟩ (fun i => i)) ml 14 e155 = true := by kernel_rfl
set_option maxHeartbeats 0 in
theorem r156 : entK Tryz.prog ⟨[], false⟩ 5000 60 fl (ol ⟨[], false⟩ (fun i => i)) ml 14 e156 = true := by kernel_rfl
end TopUndo
end Go.Proofs.YtfgmmabggjjhgaaGreatDoor.Ev
