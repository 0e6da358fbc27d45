/- TopUndo, some cases: run by the evaluator in the kernel. -/
import Derived.Test.YtfgmmabggjjhgaaGreatDoorEvLTopUndoM
namespace Go.Proofs.YtfgmmabggjjhgaaGreatDoor.Ev
open Go Go.Proofs
namespace TopUndo
set_option maxHeartbeats 0 in
theorem run3 : runMK Tryz.prog ⟨[(0, 10, 1), (1, 3, 1)], false⟩ 5000 60 fl (ol ⟨[(0, 10, 1), (1, 3, 1)], false⟩ (fun i => i)) ml2 6 [.opq .u8 0, .opq .u8 1] .l 0 isTrue = true := by kernel_rfl
set_option maxHeartbeats 0 in
theorem run8 : runMK Tryz.prog ⟨[(0, 10, 2), (1, 4, 3)], false⟩ 5000 60 fl (ol ⟨[(0, 10, 2), (1, 4, 3)], false⟩ (fun i => i)) ml2 6 [.opq .u8 0, .opq .u8 1] .l 0 isTrue = true := by kernel_rfl
set_option maxHeartbeats 0 in
theorem run9 : runMK Tryz.prog ⟨[(0, 10, 3), (1, 5, 0)], false⟩ 5000 60 fl (ol ⟨[(0, 10, 3), (1, 5, 0)], false⟩ (fun i => i)) ml2 6 [.opq .u8 0, .opq .u8 1] .l 0 isTrue = true := by kernel_rfl
set_option maxHeartbeats 0 in
theorem run11 : runMK Tryz.prog ⟨[(0, 10, 3), (1, 5, 2)], false⟩ 5000 60 fl (ol ⟨[(0, 10, 3), (1, 5, 2)], false⟩ (fun i => i)) ml2 6 [.opq .u8 0, .opq .u8 1] .l 0 isTrue = true := by kernel_rfl
set_option maxHeartbeats 0 in
theorem run12 : runMK Tryz.prog ⟨[(0, 10, 3), (1, 5, 3)], false⟩ 5000 60 fl (ol ⟨[(0, 10, 3), (1, 5, 3)], false⟩ (fun i => i)) ml2 6 [.opq .u8 0, .opq .u8 1] .l 0 isTrue = true := by kernel_rfl
set_option maxHeartbeats 0 in
theorem run17 : runMK Tryz.prog ⟨[(0, 10, 4), (1, 6, 3)], false⟩ 5000 60 fl (ol ⟨[(0, 10, 4), (1, 6, 3)], false⟩ (fun i => i)) ml2 6 [.opq .u8 0, .opq .u8 1] .l 0 isTrue = true := by kernel_rfl
set_option maxHeartbeats 0 in
theorem run23 : runMK Tryz.prog ⟨[(0, 10, 5), (1, 7, 3)], false⟩ 5000 60 fl (ol ⟨[(0, 10, 5), (1, 7, 3)], false⟩ (fun i => i)) ml2 6 [.opq .u8 0, .opq .u8 1] .l 0 isTrue = true := by kernel_rfl
set_option maxHeartbeats 0 in
theorem run24 : runMK Tryz.prog ⟨[(0, 10, 5), (1, 7, 4)], false⟩ 5000 60 fl (ol ⟨[(0, 10, 5), (1, 7, 4)], false⟩ (fun i => i)) ml2 6 [.opq .u8 0, .opq .u8 1] .l 0 isTrue = true := by kernel_rfl
set_option maxHeartbeats 0 in
theorem run27 : runMK Tryz.prog ⟨[(0, 10, 6), (1, 8, 0)], false⟩ 5000 60 fl (ol ⟨[(0, 10, 6), (1, 8, 0)], false⟩ (fun i => i)) ml2 6 [.opq .u8 0, .opq .u8 1] .l 0 isTrue = true := by kernel_rfl
set_option maxHeartbeats 0 in
theorem run32 : runMK Tryz.prog ⟨[(0, 10, 6), (1, 8, 5)], false⟩ 5000 60 fl (ol ⟨[(0, 10, 6), (1, 8, 5)], false⟩ (fun i => i)) ml2 6 [.opq .u8 0, .opq .u8 1] .l 0 isTrue = true := by kernel_rfl
set_option maxHeartbeats 0 in
theorem run38 : runMK Tryz.prog ⟨[(0, 10, 7), (1, 9, 3)], false⟩ 5000 60 fl (ol ⟨[(0, 10, 7), (1, 9, 3)], false⟩ (fun i => i)) ml2 6 [.opq .u8 0, .opq .u8 1] .l 0 isTrue = true := by kernel_rfl
set_option maxHeartbeats 0 in
theorem run42 : runMK Tryz.prog ⟨[(0, 10, 7), (1, 9, 7)], false⟩ 5000 60 fl (ol ⟨[(0, 10, 7), (1, 9, 7)], false⟩ (fun i => i)) ml2 6 [.opq .u8 0, .opq .u8 1] .l 0 isTrue = true := by kernel_rfl
set_option maxHeartbeats 0 in
theorem run43 : runMK Tryz.prog ⟨[(0, 10, 7), (1, 9, 8)], false⟩ 5000 60 fl (ol ⟨[(0, 10, 7), (1, 9, 8)], false⟩ (fun i => i)) ml2 6 [.opq .u8 0, .opq .u8 1] .l 0 isTrue = true := by kernel_rfl
set_option maxHeartbeats 0 in
theorem run48 : runMK Tryz.prog ⟨[(0, 10, 8), (1, 10, 4)], false⟩ 5000 60 fl (ol ⟨[(0, 10, 8), (1, 10, 4)], false⟩ (fun i => i)) ml2 6 [.opq .u8 0, .opq .u8 1] .l 0 isTrue = true := by kernel_rfl
set_option maxHeartbeats 0 in
theorem run53 : runMK Tryz.prog ⟨[(0, 10, 8), (1, 10, 9)], false⟩ 5000 60 fl (ol ⟨[(0, 10, 8), (1, 10, 9)], false⟩ (fun i => i)) ml2 6 [.opq .u8 0, .opq .u8 1] .l 0 isTrue = true := by kernel_rfl
set_option maxHeartbeats 0 in
theorem run59 : runMK Tryz.prog ⟨[(0, 10, 9), (1, 11, 5)], false⟩ 5000 60 fl (ol ⟨[(0, 10, 9), (1, 11, 5)], false⟩ (fun i => i)) ml2 6 [.opq .u8 0, .opq .u8 1] .l 0 isTrue = true := by kernel_rfl
end TopUndo
end Go.Proofs.YtfgmmabggjjhgaaGreatDoor.Ev
