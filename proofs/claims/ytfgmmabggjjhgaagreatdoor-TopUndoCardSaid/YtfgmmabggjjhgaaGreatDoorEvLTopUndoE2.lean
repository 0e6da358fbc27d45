/- Calls that the runs of TopUndo share: run by the evaluator in the kernel. -/
import Derived.Test.YtfgmmabggjjhgaaGreatDoorEvLTopUndo
import Derived.Test.YtfgmmabggjjhgaaGreatDoorEvLTopUndoD
namespace Go.Proofs.YtfgmmabggjjhgaaGreatDoor.Ev
open Go Go.Proofs
namespace TopUndo
set_option maxHeartbeats 0 in
theorem r7 : entK Tryz.prog ⟨[], false⟩ 5000 60 fl (ol ⟨[], false⟩ (fun i => i)) ml 16 e7 = true := by kernel_rfl
set_option maxHeartbeats 0 in
theorem r11 : entK Tryz.prog ⟨[], false⟩ 5000 60 fl (ol ⟨[], false⟩ (fun i => i)) ml 14 e11 = true := by kernel_rfl
set_option maxHeartbeats 0 in
theorem r16 : entK Tryz.prog ⟨[], false⟩ 5000 60 fl (ol ⟨[], false⟩ (fun i => i)) ml 16 e16 = true := by kernel_rfl
set_option maxHeartbeats 0 in
theorem r18 : entK Tryz.prog ⟨[], false⟩ 5000 60 fl (ol ⟨[], false⟩ (fun i => i)) ml 14 e18 = true := by kernel_rfl
set_option maxHeartbeats 0 in
theorem r22 : entK Tryz.prog ⟨[], false⟩ 5000 60 fl (ol ⟨[], false⟩ (fun i => i)) ml 14 e22 = true := by kernel_rfl
set_option maxHeartbeats 0 in
theorem r26 : entK Tryz.prog ⟨[], false⟩ 5000 60 fl (ol ⟨[], false⟩ (fun i => i)) ml 14 e26 = true := by kernel_rfl
set_option maxHeartbeats 0 in
theorem r33 : entK Tryz.prog ⟨[], false⟩ 5000 60 fl (ol ⟨[], false⟩ (fun i => i)) ml 14 e33 = true := by kernel_rfl
set_option maxHeartbeats 0 in
theorem r35 : entK Tryz.prog ⟨[], false⟩ 5000 60 fl (ol ⟨[], false⟩ (fun i => i)) ml 14 e35 = true := by kernel_rfl
set_option maxHeartbeats 0 in
theorem r38 : entK Tryz.prog ⟨[], false⟩ 5000 60 fl (ol ⟨[], false⟩ (fun i => i)) ml 14 e38 = true := by kernel_rfl
set_option maxHeartbeats 0 in
theorem r61 : entK Tryz.prog ⟨[], false⟩ 5000 60 fl (ol ⟨[], false⟩ (fun i => i)) ml 14 e61 = true := by kernel_rfl
set_option maxHeartbeats 0 in
theorem r67 : entK Tryz.prog ⟨[], false⟩ 5000 60 fl (ol ⟨[], false⟩ (fun i => i)) ml 14 e67 = true := by kernel_rfl
set_option maxHeartbeats 0 in
theorem r68 : entK Tryz.prog ⟨[], false⟩ 5000 60 fl (ol ⟨[], false⟩ (fun i => i)) ml 14 e68 = true := by kernel_rfl
set_option maxHeartbeats 0 in
theorem r78 : entK Tryz.prog ⟨[], false⟩ 5000 60 fl (ol ⟨[], false⟩ (fun i => i)) ml 14 e78 = true := by kernel_rfl
set_option maxHeartbeats 0 in
theorem r86 : entK Tryz.prog ⟨[], false⟩ 5000 60 fl (ol ⟨[], false⟩ (fun i => i)) ml 14 e86 = true := by kernel_rfl
set_option maxHeartbeats 0 in
theorem r100 : entK Tryz.prog ⟨[], false⟩ 5000 60 fl (ol ⟨[], false⟩ (fun i => i)) ml 14 e100 = true := by kernel_rfl
set_option maxHeartbeats 0 in
theorem r103 : entK Tryz.prog ⟨[], false⟩ 5000 60 fl (ol ⟨[], false⟩ (fun i => i)) ml 14 e103 = true := by kernel_rfl
set_option maxHeartbeats 0 in
theorem r114 : entK Tryz.prog ⟨[], false⟩ 5000 60 fl (ol ⟨[], false⟩ (fun i => i)) ml 14 e114 = true := by kernel_rfl
set_option maxHeartbeats 0 in
theorem r116 : entK Tryz.prog ⟨[], false⟩ 5000 60 fl (ol ⟨[], false⟩ (fun i => i)) ml 14 e116 = true := by kernel_rfl
set_option maxHeartbeats 0 in
theorem r119 : entK Tryz.prog ⟨[], false⟩ 5000 60 fl (ol ⟨[], false⟩ (fun i => i)) ml 14 e119 = true := by kernel_rfl
set_option maxHeartbeats 0 in
theorem r124 : entK Tryz.prog ⟨[], false⟩ 5000 60 fl (ol ⟨[], false⟩ (fun i => i)) ml 14 e124 = true := by kernel_rfl
set_option maxHeartbeats 0 in
theorem r127 : entK Tryz.prog ⟨[], false⟩ 5000 60 fl (ol ⟨[], false⟩ (fun i => i)) ml 14 e127 = true := by kernel_rfl
set_option maxHeartbeats 0 in
theorem r140 : entK Tryz.prog ⟨[], false⟩ 5000 60 fl (ol ⟨[], false⟩ (fun i => i)) ml 14 e140 = true := by kernel_rfl
set_option maxHeartbeats 0 in
theorem r145 : entK Tryz.prog ⟨[], false⟩ 5000 60 fl (ol ⟨[], false⟩ (fun i => i)) ml 14 e145 = true := by kernel_rfl
set_option maxHeartbeats 0 in
theorem r157 : entK Tryz.prog ⟨[], false⟩ 5000 60 fl (ol ⟨[], false⟩ (fun i => i)) ml 14 e157 = true := by kernel_rfl
end TopUndo
end Go.Proofs.YtfgmmabggjjhgaaGreatDoor.Ev
