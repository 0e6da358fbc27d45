/- Calls that the runs of TopUndo share: run by the evaluator in the kernel. -/
import Derived.Test.YtfgmmabggjjhgaaGreatDoorEvLTopUndo
import Derived.Test.YtfgmmabggjjhgaaGreatDoorEvLTopUndoD
namespace Go.Proofs.YtfgmmabggjjhgaaGreatDoor.Ev
open Go Go.Proofs
namespace TopUndo
set_option maxHeartbeats 0 in
theorem r3 : entK Tryz.prog ⟨[], false⟩ 5000 60 fl (ol ⟨[], false⟩ (fun i => i)) ml 19 e3 = true := by kernel_rfl
set_option maxHeartbeats 0 in
theorem r4 : entK Tryz.prog ⟨[], false⟩ 5000 60 fl (ol ⟨[], false⟩ (fun i => i)) ml 14 e4 = true := by kernel_rfl
set_option maxHeartbeats 0 in
theorem r13 : entK Tryz.prog ⟨[], false⟩ 5000 60 fl (ol ⟨[], false⟩ (fun i => i)) ml 14 e13 = true := by kernel_rfl
set_option maxHeartbeats 0 in
theorem r19 : entK Tryz.prog ⟨[], false⟩ 5000 60 fl (ol ⟨[], false⟩ (fun i => i)) ml 19 e19 = true := by kernel_rfl
set_option maxHeartbeats 0 in
theorem r20 : entK Tryz.prog ⟨[], false⟩ 5000 60 fl (ol ⟨[], false⟩ (fun i => i)) ml 14 e20 = true := by kernel_rfl
set_option maxHeartbeats 0 in
theorem r25 : entK Tryz.prog ⟨[], false⟩ 5000 60 fl (ol ⟨[], false⟩ (fun i => i)) ml 14 e25 = true := by kernel_rfl
set_option maxHeartbeats 0 in
theorem r32 : entK Tryz.prog ⟨[], false⟩ 5000 60 fl (ol ⟨[], false⟩ (fun i => i)) ml 14 e32 = true := by kernel_rfl
set_option maxHeartbeats 0 in
theorem r40 : entK Tryz.prog ⟨[], false⟩ 5000 60 fl (ol ⟨[], false⟩ (fun i => i)) ml 16 e40 = true := by kernel_rfl
set_option maxHeartbeats 0 in
theorem r43 : entK Tryz.prog ⟨[], false⟩ 5000 60 fl (ol ⟨[], false⟩ (fun i => i)) ml 19 e43 = true := by kernel_rfl
set_option maxHeartbeats 0 in
theorem r45 : entK Tryz.prog ⟨[], false⟩ 5000 60 fl (ol ⟨[], false⟩ (fun i => i)) ml 14 e45 = true := by kernel_rfl
set_option maxHeartbeats 0 in
theorem r60 : entK Tryz.prog ⟨[], false⟩ 5000 60 fl (ol ⟨[], false⟩ (fun i => i)) ml 14 e60 = true := by kernel_rfl
set_option maxHeartbeats 0 in
theorem r63 : entK Tryz.prog ⟨[], false⟩ 5000 60 fl (ol ⟨[], false⟩ (fun i => i)) ml 14 e63 = true := by kernel_rfl
set_option maxHeartbeats 0 in
theorem r69 : entK Tryz.prog ⟨[], false⟩ 5000 60 fl (ol ⟨[], false⟩ (fun i => i)) ml 14 e69 = true := by kernel_rfl
set_option maxHeartbeats 0 in
theorem r75 : entK Tryz.prog ⟨[], false⟩ 5000 60 fl (ol ⟨[], false⟩ (fun i => i)) ml 19 e75 = true := by kernel_rfl
set_option maxHeartbeats 0 in
theorem r76 : entK Tryz.prog ⟨[], false⟩ 5000 60 fl (ol ⟨[], false⟩ (fun i => i)) ml 14 e76 = true := by kernel_rfl
set_option maxHeartbeats 0 in
theorem r80 : entK Tryz.prog ⟨[], false⟩ 5000 60 fl (ol ⟨[], false⟩ (fun i => i)) ml 14 e80 = true := by kernel_rfl
set_option maxHeartbeats 0 in
theorem r88 : entK Tryz.prog ⟨[], false⟩ 5000 60 fl (ol ⟨[], false⟩ (fun i => i)) ml 14 e88 = true := by kernel_rfl
set_option maxHeartbeats 0 in
theorem r102 : entK Tryz.prog ⟨[], false⟩ 5000 60 fl (ol ⟨[], false⟩ (fun i => i)) ml 14 e102 = true := by kernel_rfl
set_option maxHeartbeats 0 in
theorem r105 : entK Tryz.prog ⟨[], false⟩ 5000 60 fl (ol ⟨[], false⟩ (fun i => i)) ml 14 e105 = true := by kernel_rfl
set_option maxHeartbeats 0 in
theorem r117 : entK Tryz.prog ⟨[], false⟩ 5000 60 fl (ol ⟨[], false⟩ (fun i => i)) ml 14 e117 = true := by kernel_rfl
set_option maxHeartbeats 0 in
theorem r118 : entK Tryz.prog ⟨[], false⟩ 5000 60 fl (ol ⟨[], false⟩ (fun i => i)) ml 14 e118 = true := by kernel_rfl
set_option maxHeartbeats 0 in
theorem r130 : entK Tryz.prog ⟨[], false⟩ 5000 60 fl (ol ⟨[], false⟩ (fun i => i)) ml 14 e130 = true := by kernel_rfl
set_option maxHeartbeats 0 in
theorem r136 : entK Tryz.prog ⟨[], false⟩ 5000 60 fl (ol ⟨[], false⟩ (fun i => i)) ml 19 e136 = true := by kernel_rfl
set_option maxHeartbeats 0 in
theorem r139 : entK Tryz.prog ⟨[], false⟩ 5000 60 fl (ol ⟨[], false⟩ (fun i => i)) ml 14 e139 = true := by kernel_rfl
set_option maxHeartbeats 0 in
theorem r142 : entK Tryz.prog ⟨[], false⟩ 5000 60 fl (ol ⟨[], false⟩ (fun i => i)) ml 14 e142 = true := by kernel_rfl
set_option maxHeartbeats 0 in
theorem r147 : entK Tryz.prog ⟨[], false⟩ 5000 60 fl (ol ⟨[], false⟩ (fun i => i)) ml 14 e147 = true := by kernel_rfl
set_option maxHeartbeats 0 in
theorem r148 : entK Tryz.prog ⟨[], false⟩ 5000 60 fl (ol ⟨[], false⟩ (fun i => i)) ml 14 e148 = true := by kernel_rfl
set_option maxHeartbeats 0 in
theorem r158 : entK Tryz.prog ⟨[], false⟩ 5000 60 fl (ol ⟨[], false⟩ (fun i => i)) ml 14 e158 = true := by kernel_rfl
end TopUndo
end Go.Proofs.YtfgmmabggjjhgaaGreatDoor.Ev
