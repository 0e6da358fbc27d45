/- TopUndo, some cases: run by the evaluator in the kernel. -/
import Derived.Test.YtfgmmabggjjhgaaGreatDoorEvLTopUndoM
namespace Go.Proofs.YtfgmmabggjjhgaaGreatDoor.Ev
open Go Go.Proofs
namespace TopUndo
set_option maxHeartbeats 0 in
theorem run1 : runMK Tryz.prog ⟨[(0, 10, 0), (1, 2, 1)], false⟩ 5000 60 fl (ol ⟨[(0, 10, 0), (1, 2, 1)], false⟩ (fun i => i)) ml2 6 [.opq .u8 0, .opq .u8 1] .l 0 isTrue = true := by kernel_rfl
set_option maxHeartbeats 0 in
theorem run6 : runMK Tryz.prog ⟨[(0, 10, 2), (1, 4, 1)], false⟩ 5000 60 fl (ol ⟨[(0, 10, 2), (1, 4, 1)], false⟩ (fun i => i)) ml2 6 [.opq .u8 0, .opq .u8 1] .l 0 isTrue = true := by kernel_rfl
set_option maxHeartbeats 0 in
theorem run10 : runMK Tryz.prog ⟨[(0, 10, 3), (1, 5, 1)], false⟩ 5000 60 fl (ol ⟨[(0, 10, 3), (1, 5, 1)], false⟩ (fun i => i)) ml2 6 [.opq .u8 0, .opq .u8 1] .l 0 isTrue = true := by kernel_rfl
set_option maxHeartbeats 0 in
theorem run18 : runMK Tryz.prog ⟨[(0, 10, 4), (1, 6, 4)], false⟩ 5000 60 fl (ol ⟨[(0, 10, 4), (1, 6, 4)], false⟩ (fun i => i)) ml2 6 [.opq .u8 0, .opq .u8 1] .l 0 isTrue = true := by kernel_rfl
set_option maxHeartbeats 0 in
theorem run28 : runMK Tryz.prog ⟨[(0, 10, 6), (1, 8, 1)], false⟩ 5000 60 fl (ol ⟨[(0, 10, 6), (1, 8, 1)], false⟩ (fun i => i)) ml2 6 [.opq .u8 0, .opq .u8 1] .l 0 isTrue = true := by kernel_rfl
set_option maxHeartbeats 0 in
theorem run31 : runMK Tryz.prog ⟨[(0, 10, 6), (1, 8, 4)], false⟩ 5000 60 fl (ol ⟨[(0, 10, 6), (1, 8, 4)], false⟩ (fun i => i)) ml2 6 [.opq .u8 0, .opq .u8 1] .l 0 isTrue = true := by kernel_rfl
set_option maxHeartbeats 0 in
theorem run35 : runMK Tryz.prog ⟨[(0, 10, 7), (1, 9, 0)], false⟩ 5000 60 fl (ol ⟨[(0, 10, 7), (1, 9, 0)], false⟩ (fun i => i)) ml2 6 [.opq .u8 0, .opq .u8 1] .l 0 isTrue = true := by kernel_rfl
set_option maxHeartbeats 0 in
theorem run36 : runMK Tryz.prog ⟨[(0, 10, 7), (1, 9, 1)], false⟩ 5000 60 fl (ol ⟨[(0, 10, 7), (1, 9, 1)], false⟩ (fun i => i)) ml2 6 [.opq .u8 0, .opq .u8 1] .l 0 isTrue = true := by kernel_rfl
set_option maxHeartbeats 0 in
theorem run39 : runMK Tryz.prog ⟨[(0, 10, 7), (1, 9, 4)], false⟩ 5000 60 fl (ol ⟨[(0, 10, 7), (1, 9, 4)], false⟩ (fun i => i)) ml2 6 [.opq .u8 0, .opq .u8 1] .l 0 isTrue = true := by kernel_rfl
set_option maxHeartbeats 0 in
theorem run40 : runMK Tryz.prog ⟨[(0, 10, 7), (1, 9, 5)], false⟩ 5000 60 fl (ol ⟨[(0, 10, 7), (1, 9, 5)], false⟩ (fun i => i)) ml2 6 [.opq .u8 0, .opq .u8 1] .l 0 isTrue = true := by kernel_rfl
set_option maxHeartbeats 0 in
theorem run45 : runMK Tryz.prog ⟨[(0, 10, 8), (1, 10, 1)], false⟩ 5000 60 fl (ol ⟨[(0, 10, 8), (1, 10, 1)], false⟩ (fun i => i)) ml2 6 [.opq .u8 0, .opq .u8 1] .l 0 isTrue = true := by kernel_rfl
set_option maxHeartbeats 0 in
theorem run46 : runMK Tryz.prog ⟨[(0, 10, 8), (1, 10, 2)], false⟩ 5000 60 fl (ol ⟨[(0, 10, 8), (1, 10, 2)], false⟩ (fun i => i)) ml2 6 [.opq .u8 0, .opq .u8 1] .l 0 isTrue = true := by kernel_rfl
set_option maxHeartbeats 0 in
theorem run49 : runMK Tryz.prog ⟨[(0, 10, 8), (1, 10, 5)], false⟩ 5000 60 fl (ol ⟨[(0, 10, 8), (1, 10, 5)], false⟩ (fun i => i)) ml2 6 [.opq .u8 0, .opq .u8 1] .l 0 isTrue = true := by kernel_rfl
set_option maxHeartbeats 0 in
theorem run50 : runMK Tryz.prog ⟨[(0, 10, 8), (1, 10, 6)], false⟩ 5000 60 fl (ol ⟨[(0, 10, 8), (1, 10, 6)], false⟩ (fun i => i)) ml2 6 [.opq .u8 0, .opq .u8 1] .l 0 isTrue = true := by kernel_rfl
set_option maxHeartbeats 0 in
theorem run51 : runMK Tryz.prog ⟨[(0, 10, 8), (1, 10, 7)], false⟩ 5000 60 fl (ol ⟨[(0, 10, 8), (1, 10, 7)], false⟩ (fun i => i)) ml2 6 [.opq .u8 0, .opq .u8 1] .l 0 isTrue = true := by kernel_rfl
set_option maxHeartbeats 0 in
theorem run64 : runMK Tryz.prog ⟨[(0, 10, 9), (1, 11, 10)], false⟩ 5000 60 fl (ol ⟨[(0, 10, 9), (1, 11, 10)], false⟩ (fun i => i)) ml2 6 [.opq .u8 0, .opq .u8 1] .l 0 isTrue = true := by kernel_rfl
end TopUndo
end Go.Proofs.YtfgmmabggjjhgaaGreatDoor.Ev
