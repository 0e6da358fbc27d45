/- Calls that the runs of TopUndo share: run by the evaluator in the kernel. -/
import Derived.Test.YtfgmmabggjjhgaaGreatDoorEvLTopUndo
import Derived.Test.YtfgmmabggjjhgaaGreatDoorEvLTopUndoD
namespace Go.Proofs.YtfgmmabggjjhgaaGreatDoor.Ev
open Go Go.Proofs
namespace TopUndo
set_option maxHeartbeats 0 in
theorem r1 : entK Tryz.prog ⟨[], false⟩ 5000 60 fl (ol ⟨[], false⟩ (fun i => i)) ml 19 e1 = true := by kernel_rfl
set_option maxHeartbeats 0 in
theorem r10 : entK Tryz.prog ⟨[], false⟩ 5000 60 fl (ol ⟨[], false⟩ (fun i => i)) ml 19 e10 = true := by kernel_rfl
set_option maxHeartbeats 0 in
theorem r15 : entK Tryz.prog ⟨[], false⟩ 5000 60 fl (ol ⟨[], false⟩ (fun i => i)) ml 14 e15 = true := by kernel_rfl
set_option maxHeartbeats 0 in
theorem r21 : entK Tryz.prog ⟨[], false⟩ 5000 60 fl (ol ⟨[], false⟩ (fun i => i)) ml 14 e21 = true := by kernel_rfl
set_option maxHeartbeats 0 in
theorem r30 : entK Tryz.prog ⟨[], false⟩ 5000 60 fl (ol ⟨[], false⟩ (fun i => i)) ml 19 e30 = true := by kernel_rfl
set_option maxHeartbeats 0 in
theorem r31 : entK Tryz.prog ⟨[], false⟩ 5000 60 fl (ol ⟨[], false⟩ (fun i => i)) ml 14 e31 = true := by kernel_rfl
set_option maxHeartbeats 0 in
theorem r37 : entK Tryz.prog ⟨[], false⟩ 5000 60 fl (ol ⟨[], false⟩ (fun i => i)) ml 14 e37 = true := by kernel_rfl
set_option maxHeartbeats 0 in
theorem r46 : entK Tryz.prog ⟨[], false⟩ 5000 60 fl (ol ⟨[], false⟩ (fun i => i)) ml 14 e46 = true := by kernel_rfl
set_option maxHeartbeats 0 in
theorem r58 : entK Tryz.prog ⟨[], false⟩ 5000 60 fl (ol ⟨[], false⟩ (fun i => i)) ml 19 e58 = true := by kernel_rfl
set_option maxHeartbeats 0 in
theorem r65 : entK Tryz.prog ⟨[], false⟩ 5000 60 fl (ol ⟨[], false⟩ (fun i => i)) ml 14 e65 = true := by kernel_rfl
set_option maxHeartbeats 0 in
theorem r71 : entK Tryz.prog ⟨[], false⟩ 5000 60 fl (ol ⟨[], false⟩ (fun i => i)) ml 14 e71 = true := by kernel_rfl
set_option maxHeartbeats 0 in
theorem r72 : entK Tryz.prog ⟨[], false⟩ 5000 60 fl (ol ⟨[], false⟩ (fun i => i)) ml 16 e72 = true := by kernel_rfl
set_option maxHeartbeats 0 in
theorem r74 : entK Tryz.prog ⟨[], false⟩ 5000 60 fl (ol ⟨[], false⟩ (fun i => i)) ml 14 e74 = true := by kernel_rfl
set_option maxHeartbeats 0 in
theorem r83 : entK Tryz.prog ⟨[], false⟩ 5000 60 fl (ol ⟨[], false⟩ (fun i => i)) ml 14 e83 = true := by kernel_rfl
set_option maxHeartbeats 0 in
theorem r89 : entK Tryz.prog ⟨[], false⟩ 5000 60 fl (ol ⟨[], false⟩ (fun i => i)) ml 14 e89 = true := by kernel_rfl
set_option maxHeartbeats 0 in
theorem r90 : entK Tryz.prog ⟨[], false⟩ 5000 60 fl (ol ⟨[], false⟩ (fun i => i)) ml 14 e90 = true := by kernel_rfl
set_option maxHeartbeats 0 in
theorem r94 : entK Tryz.prog ⟨[], false⟩ 5000 60 fl (ol ⟨[], false⟩ (fun i => i)) ml 19 e94 = true := by kernel_rfl
set_option maxHeartbeats 0 in
theorem r95 : entK Tryz.prog ⟨[], false⟩ 5000 60 fl (ol ⟨[], false⟩ (fun i => i)) ml 14 e95 = true := by kernel_rfl
set_option maxHeartbeats 0 in
theorem r96 : entK Tryz.prog ⟨[], false⟩ 5000 60 fl (ol ⟨[], false⟩ (fun i => i)) ml 14 e96 = true := by kernel_rfl
set_option maxHeartbeats 0 in
theorem r98 : entK Tryz.prog ⟨[], false⟩ 5000 60 fl (ol ⟨[], false⟩ (fun i => i)) ml 14 e98 = true := by kernel_rfl
set_option maxHeartbeats 0 in
theorem r101 : entK Tryz.prog ⟨[], false⟩ 5000 60 fl (ol ⟨[], false⟩ (fun i => i)) ml 14 e101 = true := by kernel_rfl
set_option maxHeartbeats 0 in
theorem r112 : entK Tryz.prog ⟨[], false⟩ 5000 60 fl (ol ⟨[], false⟩ (fun i => i)) ml 16 e112 = true := by kernel_rfl
set_option maxHeartbeats 0 in
theorem r122 : entK Tryz.prog ⟨[], false⟩ 5000 60 fl (ol ⟨[], false⟩ (fun i => i)) ml 14 e122 = true := by kernel_rfl
set_option maxHeartbeats 0 in
theorem r125 : entK Tryz.prog ⟨[], false⟩ 5000 60 fl (ol ⟨[], false⟩ (fun i => i)) ml 14 e125 = true := by kernel_rfl
set_option maxHeartbeats 0 in
theorem r146 : entK Tryz.prog ⟨[], false⟩ 5000 60 fl (ol ⟨[], false⟩ (fun i => i)) ml 14 e146 = true := by kernel_rfl
set_option maxHeartbeats 0 in
theorem r151 : entK Tryz.prog ⟨[], false⟩ 5000 60 fl (ol ⟨[], false⟩ (fun i => i)) ml 14 e151 = true := by kernel_rfl
set_option maxHeartbeats 0 in
theorem r152 : entK Tryz.prog ⟨[], false⟩ 5000 60 fl (ol ⟨[], false⟩ (fun i => i)) ml 14 e152 = true := by kernel_rfl
set_option maxHeartbeats 0 in
theorem r159 : entK Tryz.prog ⟨[], false⟩ 5000 60 fl (ol ⟨[], false⟩ (fun i => i)) ml 14 e159 = true := by kernel_rfl
end TopUndo
end Go.Proofs.YtfgmmabggjjhgaaGreatDoor.Ev
