/- The plain laws of chapter 5: FilesRename. -/
import Derived.Test.YtaolmfepdmgohaaGreatDoorFpA
namespace Go.Proofs.YtaolmfepdmgohaaGreatDoor
open Go
def pA : ByteArray := ByteArray.mk #[97]
def pB : ByteArray := ByteArray.mk #[98]
def o1 : S_simfs_op := ⟨1, pA, E0, ⟨1, 0, 1, [120, 121]⟩⟩
def o2 : S_simfs_op := ⟨1, pB, E0, ⟨2, 0, 2, []⟩⟩
def F1 : S_simfs_FS := ⟨[], [(pA, ⟨1, 0, 1, [120, 121]⟩)], [o1], 0, 0, 1, 1, false, false, 0, []⟩
def F2 : S_simfs_FS := ⟨[], [(pA, ⟨1, 0, 1, [120, 121]⟩), (pB, ⟨2, 0, 2, []⟩)], [o1, o2], 0, 0, 2, 2, false, false, 0, []⟩
def F3 : S_simfs_FS := ⟨[], [(pA, ⟨1, 0, 1, [120, 121]⟩), (pB, ⟨2, 0, 2, []⟩)], [o1, o2], 0, 1, 2, 2, false, false, 0, []⟩
def F4 : S_simfs_FS := ⟨[(pA, ⟨1, 0, 1, [120, 121]⟩)], [(pA, ⟨1, 0, 1, [120, 121]⟩)], [], 0, 1, 2, 2, true, false, 0, []⟩
def F5 : S_simfs_FS := ⟨[(pA, ⟨1, 0, 1, [120, 121]⟩)], [(pA, ⟨1, 0, 1, [120, 121]⟩)], [], 0, 1, 2, 2, false, false, 0, []⟩
theorem eF1 : writeS (newF 0) pA 1 [120, 121] = (F1, 0) := by kernel_rfl
theorem eF2 : writeS F1 pB 2 [] = (F2, 0) := by kernel_rfl
theorem eF4 : cutF F3 [true] = F4 := by kernel_rfl
theorem ok1 : FOk 2 F1 := by
  have := writeS_ok (p := pA) (mode := 1) (b := [120, 121]) (newF_ok 0); rw [eF1] at this; exact this
theorem ok2 : FOk 6 F2 := by
  have := writeS_ok (p := pB) (mode := 2) (b := []) ok1; rw [eF2] at this; exact this
theorem tick_ok {K : Nat} {f : S_simfs_FS} (h : FOk K f) : FOk (K + 1) ⟨f.kept, f.files, f.pending, f.quota, f.now + 1, f.inodes, f.ops_, f.off, f.armed, f.left, f.keep⟩ := by
  have k := h.up (Nat.le_succ K)
  exact ⟨k.files, k.kept, k.pend, by have := h.now; show 0 ≤ f.now + 1 ∧ f.now + 1 ≤ _; omega, k.inodes, k.ops, k.keep⟩
theorem on_ok {K : Nat} {f : S_simfs_FS} (k : FOk K f) : FOk K ⟨f.kept, f.files, f.pending, f.quota, f.now, f.inodes, f.ops_, false, f.armed, f.left, f.keep⟩ := ⟨k.files, k.kept, k.pend, k.now, k.inodes, k.ops, k.keep⟩
theorem ok3 : FOk 7 F3 := tick_ok ok2
theorem ok4 : FOk 14 F4 := by
  have := cutF_ok (keep := [true]) ok3; rw [eF4] at this; exact this
theorem ok5 : FOk 14 F5 := on_ok ok4
theorem known5_p {Q : Bool → Prop} (h : Q true) : rectolaw5_known_p Q := by
  unfold rectolaw5_known_p simfs_New_p; intro _
  show simfs_FS_Write_p (newF 0) pA 1 [120, 121] _
  refine Write_p (newF_ok 0) (by omega) (fun hx => by cases hx) ?_
  rw [eF1]
  refine fun _ => Write_p ok1 (by omega) (fun hx => by cases hx) ?_
  show _ → _
  rw [show writeS F1 (ByteArray.mk #[98]) 2 [] = (F2, 0) from eF2]
  refine fun _ => Tick_p ok2 (by omega) (Pending_p fun _ => Cut_p ok3 (by omega) (by decide) ?_)
  show simfs_FS_Read_p (cutF F3 [true]) _ _
  rw [eF4]
  refine Read_p ok4 (fun _ _ => On_p (Read_p ok5 (fun _ _ => Read_p ok5 (fun _ _ => Stat_p (fun _ _ _ _ _ => List_p ok5 (by omega) (fun hx => by cases hx) (fun _ => ?_))))))
  intro _ _
  refine ⟨fun b => b = true, by rintro _ rfl; exact h, by decide +kernel, by decide +kernel, by decide +kernel, by decide +kernel, ?_, fun hx => absurd (by decide +kernel) hx⟩
  refine fun _ => ⟨fun _ => ⟨fun _ => ⟨fun _ => ⟨fun _ => ⟨fun _ => ⟨fun _ => ⟨fun _ => ⟨fun _ => Now_p fun _ => ⟨fun _ => Used_p ok5 (by omega) fun _ => ⟨fun _ => Ops_p fun _ => ?_, fun hx => absurd (by decide +kernel) hx⟩, fun hx => absurd (by decide +kernel) hx⟩, fun hx => absurd ?_ hx⟩, fun hx => absurd (by decide +kernel) hx⟩, fun hx => absurd (by decide +kernel) hx⟩, fun hx => absurd (by decide +kernel) hx⟩, fun hx => absurd (by decide +kernel) hx⟩, fun hx => absurd (by decide +kernel) hx⟩, fun hx => absurd (by decide +kernel) hx⟩, fun hx => absurd (by decide +kernel) hx⟩
  · exact decide_eq_true rfl
  · rw [keysB_len]; rfl
end Go.Proofs.YtaolmfepdmgohaaGreatDoor
