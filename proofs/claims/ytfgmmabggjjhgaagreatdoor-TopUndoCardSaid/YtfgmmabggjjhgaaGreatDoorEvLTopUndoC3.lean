/- TopUndo, some cases: run by the evaluator in the kernel. -/
import Derived.Test.YtfgmmabggjjhgaaGreatDoorEvLTopUndoM
namespace Go.Proofs.YtfgmmabggjjhgaaGreatDoor.Ev
open Go Go.Proofs
namespace TopUndo
set_option maxHeartbeats 0 in
theorem run0 : runMK Tryz.prog ⟨[(0, 10, 0), (1, 2, 0)], false⟩ 5000 60 fl (ol ⟨[(0, 10, 0), (1, 2, 0)], false⟩ (fun i => i)) ml2 6 [.opq .u8 0, .opq .u8 1] .l 0 isTrue = true := by kernel_rfl
set_option maxHeartbeats 0 in
theorem run2 : runMK Tryz.prog ⟨[(0, 10, 1), (1, 3, 0)], false⟩ 5000 60 fl (ol ⟨[(0, 10, 1), (1, 3, 0)], false⟩ (fun i => i)) ml2 6 [.opq .u8 0, .opq .u8 1] .l 0 isTrue = true := by kernel_rfl
set_option maxHeartbeats 0 in
theorem run4 : runMK Tryz.prog ⟨[(0, 10, 1), (1, 3, 2)], false⟩ 5000 60 fl (ol ⟨[(0, 10, 1), (1, 3, 2)], false⟩ (fun i => i)) ml2 6 [.opq .u8 0, .opq .u8 1] .l 0 isTrue = true := by kernel_rfl
set_option maxHeartbeats 0 in
theorem run16 : runMK Tryz.prog ⟨[(0, 10, 4), (1, 6, 2)], false⟩ 5000 60 fl (ol ⟨[(0, 10, 4), (1, 6, 2)], false⟩ (fun i => i)) ml2 6 [.opq .u8 0, .opq .u8 1] .l 0 isTrue = true := by kernel_rfl
set_option maxHeartbeats 0 in
theorem run19 : runMK Tryz.prog ⟨[(0, 10, 4), (1, 6, 5)], false⟩ 5000 60 fl (ol ⟨[(0, 10, 4), (1, 6, 5)], false⟩ (fun i => i)) ml2 6 [.opq .u8 0, .opq .u8 1] .l 0 isTrue = true := by kernel_rfl
set_option maxHeartbeats 0 in
theorem run20 : runMK Tryz.prog ⟨[(0, 10, 5), (1, 7, 0)], false⟩ 5000 60 fl (ol ⟨[(0, 10, 5), (1, 7, 0)], false⟩ (fun i => i)) ml2 6 [.opq .u8 0, .opq .u8 1] .l 0 isTrue = true := by kernel_rfl
set_option maxHeartbeats 0 in
theorem run21 : runMK Tryz.prog ⟨[(0, 10, 5), (1, 7, 1)], false⟩ 5000 60 fl (ol ⟨[(0, 10, 5), (1, 7, 1)], false⟩ (fun i => i)) ml2 6 [.opq .u8 0, .opq .u8 1] .l 0 isTrue = true := by kernel_rfl
set_option maxHeartbeats 0 in
theorem run22 : runMK Tryz.prog ⟨[(0, 10, 5), (1, 7, 2)], false⟩ 5000 60 fl (ol ⟨[(0, 10, 5), (1, 7, 2)], false⟩ (fun i => i)) ml2 6 [.opq .u8 0, .opq .u8 1] .l 0 isTrue = true := by kernel_rfl
set_option maxHeartbeats 0 in
theorem run25 : runMK Tryz.prog ⟨[(0, 10, 5), (1, 7, 5)], false⟩ 5000 60 fl (ol ⟨[(0, 10, 5), (1, 7, 5)], false⟩ (fun i => i)) ml2 6 [.opq .u8 0, .opq .u8 1] .l 0 isTrue = true := by kernel_rfl
set_option maxHeartbeats 0 in
theorem run26 : runMK Tryz.prog ⟨[(0, 10, 5), (1, 7, 6)], false⟩ 5000 60 fl (ol ⟨[(0, 10, 5), (1, 7, 6)], false⟩ (fun i => i)) ml2 6 [.opq .u8 0, .opq .u8 1] .l 0 isTrue = true := by kernel_rfl
set_option maxHeartbeats 0 in
theorem run29 : runMK Tryz.prog ⟨[(0, 10, 6), (1, 8, 2)], false⟩ 5000 60 fl (ol ⟨[(0, 10, 6), (1, 8, 2)], false⟩ (fun i => i)) ml2 6 [.opq .u8 0, .opq .u8 1] .l 0 isTrue = true := by kernel_rfl
set_option maxHeartbeats 0 in
theorem run33 : runMK Tryz.prog ⟨[(0, 10, 6), (1, 8, 6)], false⟩ 5000 60 fl (ol ⟨[(0, 10, 6), (1, 8, 6)], false⟩ (fun i => i)) ml2 6 [.opq .u8 0, .opq .u8 1] .l 0 isTrue = true := by kernel_rfl
set_option maxHeartbeats 0 in
theorem run37 : runMK Tryz.prog ⟨[(0, 10, 7), (1, 9, 2)], false⟩ 5000 60 fl (ol ⟨[(0, 10, 7), (1, 9, 2)], false⟩ (fun i => i)) ml2 6 [.opq .u8 0, .opq .u8 1] .l 0 isTrue = true := by kernel_rfl
set_option maxHeartbeats 0 in
theorem run52 : runMK Tryz.prog ⟨[(0, 10, 8), (1, 10, 8)], false⟩ 5000 60 fl (ol ⟨[(0, 10, 8), (1, 10, 8)], false⟩ (fun i => i)) ml2 6 [.opq .u8 0, .opq .u8 1] .l 0 isTrue = true := by kernel_rfl
set_option maxHeartbeats 0 in
theorem run56 : runMK Tryz.prog ⟨[(0, 10, 9), (1, 11, 2)], false⟩ 5000 60 fl (ol ⟨[(0, 10, 9), (1, 11, 2)], false⟩ (fun i => i)) ml2 6 [.opq .u8 0, .opq .u8 1] .l 0 isTrue = true := by kernel_rfl
set_option maxHeartbeats 0 in
theorem run60 : runMK Tryz.prog ⟨[(0, 10, 9), (1, 11, 6)], false⟩ 5000 60 fl (ol ⟨[(0, 10, 9), (1, 11, 6)], false⟩ (fun i => i)) ml2 6 [.opq .u8 0, .opq .u8 1] .l 0 isTrue = true := by kernel_rfl
set_option maxHeartbeats 0 in
theorem run62 : runMK Tryz.prog ⟨[(0, 10, 9), (1, 11, 8)], false⟩ 5000 60 fl (ol ⟨[(0, 10, 9), (1, 11, 8)], false⟩ (fun i => i)) ml2 6 [.opq .u8 0, .opq .u8 1] .l 0 isTrue = true := by kernel_rfl
end TopUndo
end Go.Proofs.YtfgmmabggjjhgaaGreatDoor.Ev
