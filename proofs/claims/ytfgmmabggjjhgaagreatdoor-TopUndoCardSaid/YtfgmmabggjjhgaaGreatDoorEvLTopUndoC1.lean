/- TopUndo, some cases: run by the evaluator in the kernel. -/
import Derived.Test.YtfgmmabggjjhgaaGreatDoorEvLTopUndoM
namespace Go.Proofs.YtfgmmabggjjhgaaGreatDoor.Ev
open Go Go.Proofs
namespace TopUndo
set_option maxHeartbeats 0 in
theorem run5 : runMK Tryz.prog ⟨[(0, 10, 2), (1, 4, 0)], false⟩ 5000 60 fl (ol ⟨[(0, 10, 2), (1, 4, 0)], false⟩ (fun i => i)) ml2 6 [.opq .u8 0, .opq .u8 1] .l 0 isTrue = true := by kernel_rfl
set_option maxHeartbeats 0 in
theorem run7 : runMK Tryz.prog ⟨[(0, 10, 2), (1, 4, 2)], false⟩ 5000 60 fl (ol ⟨[(0, 10, 2), (1, 4, 2)], false⟩ (fun i => i)) ml2 6 [.opq .u8 0, .opq .u8 1] .l 0 isTrue = true := by kernel_rfl
set_option maxHeartbeats 0 in
theorem run13 : runMK Tryz.prog ⟨[(0, 10, 3), (1, 5, 4)], false⟩ 5000 60 fl (ol ⟨[(0, 10, 3), (1, 5, 4)], false⟩ (fun i => i)) ml2 6 [.opq .u8 0, .opq .u8 1] .l 0 isTrue = true := by kernel_rfl
set_option maxHeartbeats 0 in
theorem run14 : runMK Tryz.prog ⟨[(0, 10, 4), (1, 6, 0)], false⟩ 5000 60 fl (ol ⟨[(0, 10, 4), (1, 6, 0)], false⟩ (fun i => i)) ml2 6 [.opq .u8 0, .opq .u8 1] .l 0 isTrue = true := by kernel_rfl
set_option maxHeartbeats 0 in
theorem run15 : runMK Tryz.prog ⟨[(0, 10, 4), (1, 6, 1)], false⟩ 5000 60 fl (ol ⟨[(0, 10, 4), (1, 6, 1)], false⟩ (fun i => i)) ml2 6 [.opq .u8 0, .opq .u8 1] .l 0 isTrue = true := by kernel_rfl
set_option maxHeartbeats 0 in
theorem run30 : runMK Tryz.prog ⟨[(0, 10, 6), (1, 8, 3)], false⟩ 5000 60 fl (ol ⟨[(0, 10, 6), (1, 8, 3)], false⟩ (fun i => i)) ml2 6 [.opq .u8 0, .opq .u8 1] .l 0 isTrue = true := by kernel_rfl
set_option maxHeartbeats 0 in
theorem run34 : runMK Tryz.prog ⟨[(0, 10, 6), (1, 8, 7)], false⟩ 5000 60 fl (ol ⟨[(0, 10, 6), (1, 8, 7)], false⟩ (fun i => i)) ml2 6 [.opq .u8 0, .opq .u8 1] .l 0 isTrue = true := by kernel_rfl
set_option maxHeartbeats 0 in
theorem run41 : runMK Tryz.prog ⟨[(0, 10, 7), (1, 9, 6)], false⟩ 5000 60 fl (ol ⟨[(0, 10, 7), (1, 9, 6)], false⟩ (fun i => i)) ml2 6 [.opq .u8 0, .opq .u8 1] .l 0 isTrue = true := by kernel_rfl
set_option maxHeartbeats 0 in
theorem run44 : runMK Tryz.prog ⟨[(0, 10, 8), (1, 10, 0)], false⟩ 5000 60 fl (ol ⟨[(0, 10, 8), (1, 10, 0)], false⟩ (fun i => i)) ml2 6 [.opq .u8 0, .opq .u8 1] .l 0 isTrue = true := by kernel_rfl
set_option maxHeartbeats 0 in
theorem run47 : runMK Tryz.prog ⟨[(0, 10, 8), (1, 10, 3)], false⟩ 5000 60 fl (ol ⟨[(0, 10, 8), (1, 10, 3)], false⟩ (fun i => i)) ml2 6 [.opq .u8 0, .opq .u8 1] .l 0 isTrue = true := by kernel_rfl
set_option maxHeartbeats 0 in
theorem run54 : runMK Tryz.prog ⟨[(0, 10, 9), (1, 11, 0)], false⟩ 5000 60 fl (ol ⟨[(0, 10, 9), (1, 11, 0)], false⟩ (fun i => i)) ml2 6 [.opq .u8 0, .opq .u8 1] .l 0 isTrue = true := by kernel_rfl
set_option maxHeartbeats 0 in
theorem run55 : runMK Tryz.prog ⟨[(0, 10, 9), (1, 11, 1)], false⟩ 5000 60 fl (ol ⟨[(0, 10, 9), (1, 11, 1)], false⟩ (fun i => i)) ml2 6 [.opq .u8 0, .opq .u8 1] .l 0 isTrue = true := by kernel_rfl
set_option maxHeartbeats 0 in
theorem run57 : runMK Tryz.prog ⟨[(0, 10, 9), (1, 11, 3)], false⟩ 5000 60 fl (ol ⟨[(0, 10, 9), (1, 11, 3)], false⟩ (fun i => i)) ml2 6 [.opq .u8 0, .opq .u8 1] .l 0 isTrue = true := by kernel_rfl
set_option maxHeartbeats 0 in
theorem run58 : runMK Tryz.prog ⟨[(0, 10, 9), (1, 11, 4)], false⟩ 5000 60 fl (ol ⟨[(0, 10, 9), (1, 11, 4)], false⟩ (fun i => i)) ml2 6 [.opq .u8 0, .opq .u8 1] .l 0 isTrue = true := by kernel_rfl
set_option maxHeartbeats 0 in
theorem run61 : runMK Tryz.prog ⟨[(0, 10, 9), (1, 11, 7)], false⟩ 5000 60 fl (ol ⟨[(0, 10, 9), (1, 11, 7)], false⟩ (fun i => i)) ml2 6 [.opq .u8 0, .opq .u8 1] .l 0 isTrue = true := by kernel_rfl
set_option maxHeartbeats 0 in
theorem run63 : runMK Tryz.prog ⟨[(0, 10, 9), (1, 11, 9)], false⟩ 5000 60 fl (ol ⟨[(0, 10, 9), (1, 11, 9)], false⟩ (fun i => i)) ml2 6 [.opq .u8 0, .opq .u8 1] .l 0 isTrue = true := by kernel_rfl
end TopUndo
end Go.Proofs.YtfgmmabggjjhgaaGreatDoor.Ev
