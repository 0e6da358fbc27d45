/- Calls that the runs of TopUndo share: run by the evaluator in the kernel. -/
import Derived.Test.YtfgmmabggjjhgaaGreatDoorEvLTopUndo
import Derived.Test.YtfgmmabggjjhgaaGreatDoorEvLTopUndoD
namespace Go.Proofs.YtfgmmabggjjhgaaGreatDoor.Ev
open Go Go.Proofs
namespace TopUndo
set_option maxHeartbeats 0 in
theorem r2 : entK Tryz.prog ⟨[], false⟩ 5000 60 fl (ol ⟨[], false⟩ (fun i => i)) ml 14 e2 = true := by kernel_rfl
set_option maxHeartbeats 0 in
theorem r17 : entK Tryz.prog ⟨[], false⟩ 5000 60 fl (ol ⟨[], false⟩ (fun i => i)) ml 19 e17 = true := by kernel_rfl
set_option maxHeartbeats 0 in
theorem r36 : entK Tryz.prog ⟨[], false⟩ 5000 60 fl (ol ⟨[], false⟩ (fun i => i)) ml 14 e36 = true := by kernel_rfl
set_option maxHeartbeats 0 in
theorem r39 : entK Tryz.prog ⟨[], false⟩ 5000 60 fl (ol ⟨[], false⟩ (fun i => i)) ml 14 e39 = true := by kernel_rfl
set_option maxHeartbeats 0 in
theorem r41 : entK Tryz.prog ⟨[], false⟩ 5000 60 fl (ol ⟨[], false⟩ (fun i => i)) ml 19 e41 = true := by kernel_rfl
set_option maxHeartbeats 0 in
theorem r44 : entK Tryz.prog ⟨[], false⟩ 5000 60 fl (ol ⟨[], false⟩ (fun i => i)) ml 14 e44 = true := by kernel_rfl
set_option maxHeartbeats 0 in
theorem r51 : entK Tryz.prog ⟨[], false⟩ 5000 60 fl (ol ⟨[], false⟩ (fun i => i)) ml 14 e51 = true := by kernel_rfl
set_option maxHeartbeats 0 in
theorem r52 : entK Tryz.prog ⟨[], false⟩ 5000 60 fl (ol ⟨[], false⟩ (fun i => i)) ml 14 e52 = true := by kernel_rfl
set_option maxHeartbeats 0 in
theorem r57 : entK Tryz.prog ⟨[], false⟩ 5000 60 fl (ol ⟨[], false⟩ (fun i => i)) ml 14 e57 = true := by kernel_rfl
set_option maxHeartbeats 0 in
theorem r66 : entK Tryz.prog ⟨[], false⟩ 5000 60 fl (ol ⟨[], false⟩ (fun i => i)) ml 14 e66 = true := by kernel_rfl
set_option maxHeartbeats 0 in
theorem r70 : entK Tryz.prog ⟨[], false⟩ 5000 60 fl (ol ⟨[], false⟩ (fun i => i)) ml 14 e70 = true := by kernel_rfl
set_option maxHeartbeats 0 in
theorem r73 : entK Tryz.prog ⟨[], false⟩ 5000 60 fl (ol ⟨[], false⟩ (fun i => i)) ml 19 e73 = true := by kernel_rfl
set_option maxHeartbeats 0 in
theorem r82 : entK Tryz.prog ⟨[], false⟩ 5000 60 fl (ol ⟨[], false⟩ (fun i => i)) ml 14 e82 = true := by kernel_rfl
set_option maxHeartbeats 0 in
theorem r87 : entK Tryz.prog ⟨[], false⟩ 5000 60 fl (ol ⟨[], false⟩ (fun i => i)) ml 14 e87 = true := by kernel_rfl
set_option maxHeartbeats 0 in
theorem r91 : entK Tryz.prog ⟨[], false⟩ 5000 60 fl (ol ⟨[], false⟩ (fun i => i)) ml 16 e91 = true := by kernel_rfl
set_option maxHeartbeats 0 in
theorem r104 : entK Tryz.prog ⟨[], false⟩ 5000 60 fl (ol ⟨[], false⟩ (fun i => i)) ml 14 e104 = true := by kernel_rfl
set_option maxHeartbeats 0 in
theorem r107 : entK Tryz.prog ⟨[], false⟩ 5000 60 fl (ol ⟨[], false⟩ (fun i => i)) ml 14 e107 = true := by kernel_rfl
set_option maxHeartbeats 0 in
theorem r111 : entK Tryz.prog ⟨[], false⟩ 5000 60 fl (ol ⟨[], false⟩ (fun i => i)) ml 14 e111 = true := by kernel_rfl
set_option maxHeartbeats 0 in
theorem r115 : entK Tryz.prog ⟨[], false⟩ 5000 60 fl (ol ⟨[], false⟩ (fun i => i)) ml 19 e115 = true := by kernel_rfl
set_option maxHeartbeats 0 in
theorem r121 : entK Tryz.prog ⟨[], false⟩ 5000 60 fl (ol ⟨[], false⟩ (fun i => i)) ml 14 e121 = true := by kernel_rfl
set_option maxHeartbeats 0 in
theorem r126 : entK Tryz.prog ⟨[], false⟩ 5000 60 fl (ol ⟨[], false⟩ (fun i => i)) ml 14 e126 = true := by kernel_rfl
set_option maxHeartbeats 0 in
theorem r129 : entK Tryz.prog ⟨[], false⟩ 5000 60 fl (ol ⟨[], false⟩ (fun i => i)) ml 14 e129 = true := by kernel_rfl
set_option maxHeartbeats 0 in
theorem r133 : entK Tryz.prog ⟨[], false⟩ 5000 60 fl (ol ⟨[], false⟩ (fun i => i)) ml 14 e133 = true := by kernel_rfl
set_option maxHeartbeats 0 in
theorem r137 : entK Tryz.prog ⟨[], false⟩ 5000 60 fl (ol ⟨[], false⟩ (fun i => i)) ml 14 e137 = true := by kernel_rfl
set_option maxHeartbeats 0 in
theorem r141 : entK Tryz.prog ⟨[], false⟩ 5000 60 fl (ol ⟨[], false⟩ (fun i => i)) ml 14 e141 = true := by kernel_rfl
set_option maxHeartbeats 0 in
theorem r153 : entK Tryz.prog ⟨[], false⟩ 5000 60 fl (ol ⟨[], false⟩ (fun i => i)) ml 14 e153 = true := by kernel_rfl
set_option maxHeartbeats 0 in
theorem r154 : entK Tryz.prog ⟨[], false⟩ 5000 60 fl (ol ⟨[], false⟩ (fun i => i)) ml 14 e154 = true := by kernel_rfl
end TopUndo
end Go.Proofs.YtfgmmabggjjhgaaGreatDoor.Ev
