/- Calls that the runs of TopUndo share: run by the evaluator in the kernel. -/
import Derived.Test.YtfgmmabggjjhgaaGreatDoorEvLTopUndo
import Derived.Test.YtfgmmabggjjhgaaGreatDoorEvLTopUndoD
namespace Go.Proofs.YtfgmmabggjjhgaaGreatDoor.Ev
open Go Go.Proofs
namespace TopUndo
set_option maxHeartbeats 0 in
theorem r5 : entK Tryz.prog ⟨[], false⟩ 5000 60 fl (ol ⟨[], false⟩ (fun i => i)) ml 14 e5 = true := by kernel_rfl
set_option maxHeartbeats 0 in
theorem r6 : entK Tryz.prog ⟨[], false⟩ 5000 60 fl (ol ⟨[], false⟩ (fun i => i)) ml 14 e6 = true := by kernel_rfl
set_option maxHeartbeats 0 in
theorem r8 : entK Tryz.prog ⟨[], false⟩ 5000 60 fl (ol ⟨[], false⟩ (fun i => i)) ml 19 e8 = true := by kernel_rfl
set_option maxHeartbeats 0 in
theorem r24 : entK Tryz.prog ⟨[], false⟩ 5000 60 fl (ol ⟨[], false⟩ (fun i => i)) ml 14 e24 = true := by kernel_rfl
set_option maxHeartbeats 0 in
theorem r28 : entK Tryz.prog ⟨[], false⟩ 5000 60 fl (ol ⟨[], false⟩ (fun i => i)) ml 19 e28 = true := by kernel_rfl
set_option maxHeartbeats 0 in
theorem r34 : entK Tryz.prog ⟨[], false⟩ 5000 60 fl (ol ⟨[], false⟩ (fun i => i)) ml 14 e34 = true := by kernel_rfl
set_option maxHeartbeats 0 in
theorem r42 : entK Tryz.prog ⟨[], false⟩ 5000 60 fl (ol ⟨[], false⟩ (fun i => i)) ml 14 e42 = true := by kernel_rfl
set_option maxHeartbeats 0 in
theorem r49 : entK Tryz.prog ⟨[], false⟩ 5000 60 fl (ol ⟨[], false⟩ (fun i => i)) ml 14 e49 = true := by kernel_rfl
set_option maxHeartbeats 0 in
theorem r50 : entK Tryz.prog ⟨[], false⟩ 5000 60 fl (ol ⟨[], false⟩ (fun i => i)) ml 14 e50 = true := by kernel_rfl
set_option maxHeartbeats 0 in
theorem r55 : entK Tryz.prog ⟨[], false⟩ 5000 60 fl (ol ⟨[], false⟩ (fun i => i)) ml 16 e55 = true := by kernel_rfl
set_option maxHeartbeats 0 in
theorem r56 : entK Tryz.prog ⟨[], false⟩ 5000 60 fl (ol ⟨[], false⟩ (fun i => i)) ml 19 e56 = true := by kernel_rfl
set_option maxHeartbeats 0 in
theorem r59 : entK Tryz.prog ⟨[], false⟩ 5000 60 fl (ol ⟨[], false⟩ (fun i => i)) ml 14 e59 = true := by kernel_rfl
set_option maxHeartbeats 0 in
theorem r64 : entK Tryz.prog ⟨[], false⟩ 5000 60 fl (ol ⟨[], false⟩ (fun i => i)) ml 14 e64 = true := by kernel_rfl
set_option maxHeartbeats 0 in
theorem r77 : entK Tryz.prog ⟨[], false⟩ 5000 60 fl (ol ⟨[], false⟩ (fun i => i)) ml 14 e77 = true := by kernel_rfl
set_option maxHeartbeats 0 in
theorem r81 : entK Tryz.prog ⟨[], false⟩ 5000 60 fl (ol ⟨[], false⟩ (fun i => i)) ml 14 e81 = true := by kernel_rfl
set_option maxHeartbeats 0 in
theorem r92 : entK Tryz.prog ⟨[], false⟩ 5000 60 fl (ol ⟨[], false⟩ (fun i => i)) ml 19 e92 = true := by kernel_rfl
set_option maxHeartbeats 0 in
theorem r97 : entK Tryz.prog ⟨[], false⟩ 5000 60 fl (ol ⟨[], false⟩ (fun i => i)) ml 14 e97 = true := by kernel_rfl
set_option maxHeartbeats 0 in
theorem r99 : entK Tryz.prog ⟨[], false⟩ 5000 60 fl (ol ⟨[], false⟩ (fun i => i)) ml 14 e99 = true := by kernel_rfl
set_option maxHeartbeats 0 in
theorem r108 : entK Tryz.prog ⟨[], false⟩ 5000 60 fl (ol ⟨[], false⟩ (fun i => i)) ml 14 e108 = true := by kernel_rfl
set_option maxHeartbeats 0 in
theorem r110 : entK Tryz.prog ⟨[], false⟩ 5000 60 fl (ol ⟨[], false⟩ (fun i => i)) ml 14 e110 = true := by kernel_rfl
set_option maxHeartbeats 0 in
theorem r120 : entK Tryz.prog ⟨[], false⟩ 5000 60 fl (ol ⟨[], false⟩ (fun i => i)) ml 14 e120 = true := by kernel_rfl
set_option maxHeartbeats 0 in
theorem r132 : entK Tryz.prog ⟨[], false⟩ 5000 60 fl (ol ⟨[], false⟩ (fun i => i)) ml 14 e132 = true := by kernel_rfl
set_option maxHeartbeats 0 in
theorem r134 : entK Tryz.prog ⟨[], false⟩ 5000 60 fl (ol ⟨[], false⟩ (fun i => i)) ml 14 e134 = true := by kernel_rfl
set_option maxHeartbeats 0 in
theorem r135 : entK Tryz.prog ⟨[], false⟩ 5000 60 fl (ol ⟨[], false⟩ (fun i => i)) ml 16 e135 = true := by kernel_rfl
set_option maxHeartbeats 0 in
theorem r138 : entK Tryz.prog ⟨[], false⟩ 5000 60 fl (ol ⟨[], false⟩ (fun i => i)) ml 19 e138 = true := by kernel_rfl
set_option maxHeartbeats 0 in
theorem r144 : entK Tryz.prog ⟨[], false⟩ 5000 60 fl (ol ⟨[], false⟩ (fun i => i)) ml 14 e144 = true := by kernel_rfl
set_option maxHeartbeats 0 in
theorem r149 : entK Tryz.prog ⟨[], false⟩ 5000 60 fl (ol ⟨[], false⟩ (fun i => i)) ml 14 e149 = true := by kernel_rfl
set_option maxHeartbeats 0 in
theorem r150 : entK Tryz.prog ⟨[], false⟩ 5000 60 fl (ol ⟨[], false⟩ (fun i => i)) ml 14 e150 = true := by kernel_rfl
end TopUndo
end Go.Proofs.YtfgmmabggjjhgaaGreatDoor.Ev
