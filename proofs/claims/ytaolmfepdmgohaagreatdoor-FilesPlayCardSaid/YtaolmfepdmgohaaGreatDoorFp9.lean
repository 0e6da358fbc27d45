/- Walks of functions: what each asks and computes, as a plain predicate, and the contract from it. -/
import Derived.Test.YtaolmfepdmgohaaGreatDoorChecked
import Derived.Test.YtaolmfepdmgohaaGreatDoorFp8
namespace Go.Proofs.YtaolmfepdmgohaaGreatDoor
open Go
def rectolaw5_both_p (f_ : S_simfs_FS) (d : S_rectolaw5_Disk) (a : S_rectolaw5_Act) (Q : S_simfs_FS → S_rectolaw5_Disk → Bool → Prop) : Prop :=
 ((inR .i64 a.Op) → ((inR .i64 a.Mode) → ((inR .i64 a.N) → ((a.P_.size ≤ maxLen) → ((a.Q_.size ≤ maxLen) → ((a.B.length ≤ 9223372036854775807) → ((a.Keep.length ≤ 9223372036854775807) → (∃ z5 : S_simfs_FS → S_rectolaw5_Disk → Prop, (∀ (u1 : S_simfs_FS) (u2 : S_rectolaw5_Disk), z5 u1 u2 → Q u1 u2 true) ∧ (((a.Op = (1 : Int)) → (simfs_FS_Write_p f_ a.P_ a.Mode a.B (fun (s1 : S_simfs_FS) (u3 : Int) => ((inR .i64 u3) → (rectolaw5_Disk_cause_p d a.P_ a.Mode (a.B.length : Int) (fun (z4 : S_rectolaw5_Disk) (y1 : Int) => ((inR .i64 y1) → (∃ y2 : Int → S_rectolaw5_Disk → Prop, (∀ (y5 : Int) (u4 : S_rectolaw5_Disk), y2 y5 u4 → (inR .i64 y5) → Q s1 u4 (decide (u3 = y5))) ∧ (((y1 = (0 : Int)) → ((z4.kept.length ≤ 9223372036854775807) → ((z4.now.length ≤ 9223372036854775807) → ((z4.wait.length ≤ 9223372036854775807) → ((inR .i64 z4.quota) → ((inR .i64 z4.time) → ((inR .i64 z4.inode) → ((inR .i64 z4.left) → ((z4.keep.length ≤ 9223372036854775807) → ((inR .i64 z4.ops_) → (rectolaw5_Disk_file_p z4 a.P_ a.Mode (strOfNums a.B) (fun (r0 : S_rectolaw5_Disk) (z7 : S_rectolaw5_one) => ((z7.path.size ≤ maxLen) → ((z7.data.size ≤ maxLen) → ((inR .i64 z7.mode) → ((inR .i64 z7.time) → ((inR .i64 z7.inode) → (rectolaw5_Disk_do_p r0 (S_rectolaw5_op.mk (1 : Int) z7 (ByteArray.mk #[]) (ByteArray.mk #[])) (fun (z0 : S_rectolaw5_Disk) (y0 : Int) => ((inR .i64 y0) → (((¬ (y0 = (0 : Int))) → ((z0.kept.length ≤ 9223372036854775807) → ((z0.now.length ≤ 9223372036854775807) → ((z0.wait.length ≤ 9223372036854775807) → ((inR .i64 z0.quota) → ((inR .i64 z0.time) → ((inR .i64 z0.inode) → ((inR .i64 z0.left) → ((z0.keep.length ≤ 9223372036854775807) → ((inR .i64 z0.ops_) → (y2 y0 (S_rectolaw5_Disk.mk z0.kept z0.now z0.wait z0.quota z0.time z4.inode z0.off z0.armed z0.left z0.keep z0.ops_)))))))))))) ∧ ((y0 = (0 : Int)) → (y2 y0 z0))))))))))))))))))))))) ∧ ((¬ (y1 = (0 : Int))) → (y2 y1 z4))))))))))) ∧ ((¬ (a.Op = (1 : Int))) → (((a.Op = (2 : Int)) → (simfs_FS_Rename_p f_ a.P_ a.Q_ (fun (s2 : S_simfs_FS) (u5 : Int) => ((inR .i64 u5) → (∃ z6 : Int → S_rectolaw5_Disk → Prop, (∀ (y6 : Int) (u6 : S_rectolaw5_Disk), z6 y6 u6 → (inR .i64 y6) → Q s2 u6 (decide (u5 = y6))) ∧ ((d.kept.length ≤ 9223372036854775807) → ((d.now.length ≤ 9223372036854775807) → ((d.wait.length ≤ 9223372036854775807) → ((inR .i64 d.quota) → ((inR .i64 d.time) → ((inR .i64 d.inode) → ((inR .i64 d.left) → ((d.keep.length ≤ 9223372036854775807) → ((inR .i64 d.ops_) → (((d.off = true) → (z6 (13 : Int) d)) ∧ ((d.off = false) → (rectolaw5_get_p d.now a.P_ (fun (y8 : Int) => ((inR .i64 y8) → (((y8 < (0 : Int)) → (z6 (5 : Int) d)) ∧ ((¬ (y8 < (0 : Int))) → (rectoref1_Check_p a.Q_ (fun (y9 : Int) => ((inR .i64 y9) → (((¬ (y9 = (0 : Int))) → (rectoref1_Check_p a.Q_ (fun (u7 : Int) => ((inR .i64 u7) → (z6 u7 d))))) ∧ ((y9 = (0 : Int)) → (rectolaw5_clash_p d.now a.Q_ a.P_ (fun (u9 : Bool) => (((u9 = true) → (z6 (11 : Int) d)) ∧ ((u9 = false) → (((¬ ((a.P_ : ByteArray) = a.Q_)) → (rectolaw5_Disk_do_p d (S_rectolaw5_op.mk (2 : Int) (S_rectolaw5_one.mk (ByteArray.mk #[]) (ByteArray.mk #[]) (0 : Int) (0 : Int) (0 : Int)) a.P_ a.Q_) (fun (r1 : S_rectolaw5_Disk) (t0 : Int) => ((inR .i64 t0) → (z6 t0 r1))))) ∧ (((a.P_ : ByteArray) = a.Q_) → (z6 (0 : Int) d))))))))))))))))))))))))))))))))) ∧ ((¬ (a.Op = (2 : Int))) → (((a.Op = (3 : Int)) → (simfs_FS_Remove_p f_ a.P_ (fun (s3 : S_simfs_FS) (t1 : Int) => ((inR .i64 t1) → (∃ y3 : Int → S_rectolaw5_Disk → Prop, (∀ (y7 : Int) (t2 : S_rectolaw5_Disk), y3 y7 t2 → (inR .i64 y7) → Q s3 t2 (decide (t1 = y7))) ∧ ((d.kept.length ≤ 9223372036854775807) → ((d.now.length ≤ 9223372036854775807) → ((d.wait.length ≤ 9223372036854775807) → ((inR .i64 d.quota) → ((inR .i64 d.time) → ((inR .i64 d.inode) → ((inR .i64 d.left) → ((d.keep.length ≤ 9223372036854775807) → ((inR .i64 d.ops_) → (((d.off = true) → (y3 (13 : Int) d)) ∧ ((d.off = false) → (rectolaw5_get_p d.now a.P_ (fun (v0 : Int) => ((inR .i64 v0) → (((v0 < (0 : Int)) → (y3 (5 : Int) d)) ∧ ((¬ (v0 < (0 : Int))) → (rectolaw5_Disk_do_p d (S_rectolaw5_op.mk (3 : Int) (S_rectolaw5_one.mk (ByteArray.mk #[]) (ByteArray.mk #[]) (0 : Int) (0 : Int) (0 : Int)) a.P_ (ByteArray.mk #[])) (fun (r2 : S_rectolaw5_Disk) (t3 : Int) => ((inR .i64 t3) → (y3 t3 r2))))))))))))))))))))))))) ∧ ((¬ (a.Op = (3 : Int))) → (((a.Op = (4 : Int)) → (simfs_FS_Sync_p f_ (fun (v9 : S_simfs_FS) (v1 : Int) => ((inR .i64 v1) → ((d.kept.length ≤ 9223372036854775807) → ((d.now.length ≤ 9223372036854775807) → ((d.wait.length ≤ 9223372036854775807) → ((inR .i64 d.quota) → ((inR .i64 d.time) → ((inR .i64 d.inode) → ((inR .i64 d.left) → ((d.keep.length ≤ 9223372036854775807) → ((inR .i64 d.ops_) → (((d.off = true) → Q v9 d (decide (v1 = (13 : Int)))) ∧ ((d.off = false) → (rectolaw5_Disk_sync_p d (fun (r3 : S_rectolaw5_Disk) => Q v9 r3 (decide (v1 = (0 : Int)))))))))))))))))))) ∧ ((¬ (a.Op = (4 : Int))) → (((a.Op = (5 : Int)) → (simfs_FS_Arm_p f_ a.N a.Keep (fun (s4 : S_simfs_FS) => ((d.kept.length ≤ 9223372036854775807) → ((d.now.length ≤ 9223372036854775807) → ((d.wait.length ≤ 9223372036854775807) → ((inR .i64 d.quota) → ((inR .i64 d.time) → ((inR .i64 d.inode) → ((inR .i64 d.left) → ((d.keep.length ≤ 9223372036854775807) → ((inR .i64 d.ops_) → (∃ v2 : Int → Prop, (∀ (v3 : Int), v2 v3 → (inR .i64 v3) → (z5 s4 (S_rectolaw5_Disk.mk d.kept d.now d.wait d.quota d.time d.inode d.off true v3 a.Keep d.ops_))) ∧ (((a.N < (1 : Int)) → (v2 (1 : Int))) ∧ ((¬ (a.N < (1 : Int))) → (v2 a.N)))))))))))))))) ∧ ((¬ (a.Op = (5 : Int))) → (((a.Op = (6 : Int)) → (simfs_FS_Cut_p f_ a.Keep (fun (s5 : S_simfs_FS) => (rectolaw5_Disk_power_p d a.Keep (fun (r4 : S_rectolaw5_Disk) => (z5 s5 r4)))))) ∧ ((¬ (a.Op = (6 : Int))) → (((a.Op = (7 : Int)) → (simfs_FS_On_p f_ (fun (s6 : S_simfs_FS) => ((d.kept.length ≤ 9223372036854775807) → ((d.now.length ≤ 9223372036854775807) → ((d.wait.length ≤ 9223372036854775807) → ((inR .i64 d.quota) → ((inR .i64 d.time) → ((inR .i64 d.inode) → ((inR .i64 d.left) → ((d.keep.length ≤ 9223372036854775807) → ((inR .i64 d.ops_) → (z5 s6 (S_rectolaw5_Disk.mk d.kept d.now d.wait d.quota d.time d.inode false d.armed d.left d.keep d.ops_)))))))))))))) ∧ ((¬ (a.Op = (7 : Int))) → (((a.Op = (8 : Int)) → (simfs_FS_Edit_p f_ a.P_ a.Mode a.B (fun (s7 : S_simfs_FS) (t4 : Int) => ((inR .i64 t4) → (rectolaw5_Disk_cause_p d a.P_ a.Mode (a.B.length : Int) (fun (z3 : S_rectolaw5_Disk) (y4 : Int) => ((inR .i64 y4) → (∃ v4 : S_rectolaw5_Disk → Prop, (∀ (t5 : S_rectolaw5_Disk), v4 t5 → Q s7 t5 (decide (t4 = y4))) ∧ (((y4 = (0 : Int)) → (∀ v5 : S_rectolaw5_Disk → Prop, (∀ (t6 : S_rectolaw5_Disk), ((rectolaw5_Disk_sync_p t6 (fun (r5 : S_rectolaw5_Disk) => (v4 r5)))) → v5 t6) → ((z3.kept.length ≤ 9223372036854775807) → ((z3.now.length ≤ 9223372036854775807) → ((z3.wait.length ≤ 9223372036854775807) → ((inR .i64 z3.quota) → ((inR .i64 z3.time) → ((inR .i64 z3.inode) → ((inR .i64 z3.left) → ((z3.keep.length ≤ 9223372036854775807) → ((inR .i64 z3.ops_) → ((rectolaw5_Disk_file_p z3 a.P_ a.Mode (strOfNums a.B) (fun (z2 : S_rectolaw5_Disk) (z8 : S_rectolaw5_one) => ((z8.path.size ≤ maxLen) → ((z8.data.size ≤ maxLen) → ((inR .i64 z8.mode) → ((inR .i64 z8.time) → ((inR .i64 z8.inode) → (rectolaw5_put_p z3.now z8 (fun (t7 : (List S_rectolaw5_one)) => ((t7.length ≤ 9223372036854775807) → ((z2.kept.length ≤ 9223372036854775807) → ((z2.now.length ≤ 9223372036854775807) → ((z2.wait.length ≤ 9223372036854775807) → ((inR .i64 z2.quota) → ((inR .i64 z2.time) → ((inR .i64 z2.inode) → ((inR .i64 z2.left) → ((z2.keep.length ≤ 9223372036854775807) → ((inR .i64 z2.ops_) → (v5 (S_rectolaw5_Disk.mk z2.kept t7 z2.wait z2.quota z2.time z2.inode z2.off z2.armed z2.left z2.keep z2.ops_))))))))))))))))))))) ∧ (rectolaw5_Disk_file_p z3 a.P_ a.Mode (strOfNums a.B) (fun (z1 : S_rectolaw5_Disk) (z9 : S_rectolaw5_one) => ((z9.path.size ≤ maxLen) → ((z9.data.size ≤ maxLen) → ((inR .i64 z9.mode) → ((inR .i64 z9.time) → ((inR .i64 z9.inode) → (rectolaw5_put_p z1.now z9 (fun (t8 : (List S_rectolaw5_one)) => ((t8.length ≤ 9223372036854775807) → ((z1.kept.length ≤ 9223372036854775807) → ((z1.now.length ≤ 9223372036854775807) → ((z1.wait.length ≤ 9223372036854775807) → ((inR .i64 z1.quota) → ((inR .i64 z1.time) → ((inR .i64 z1.inode) → ((inR .i64 z1.left) → ((z1.keep.length ≤ 9223372036854775807) → ((inR .i64 z1.ops_) → (v5 (S_rectolaw5_Disk.mk z1.kept t8 z1.wait z1.quota z1.time z1.inode z1.off z1.armed z1.left z1.keep z1.ops_))))))))))))))))))))))))))))))))) ∧ ((¬ (y4 = (0 : Int))) → (v4 z3))))))))))) ∧ ((¬ (a.Op = (8 : Int))) → (((a.Op = (9 : Int)) → (simfs_FS_Unlink_p f_ a.P_ (fun (u0 : S_simfs_FS) (v6 : Int) => ((inR .i64 v6) → ((d.kept.length ≤ 9223372036854775807) → ((d.now.length ≤ 9223372036854775807) → ((d.wait.length ≤ 9223372036854775807) → ((inR .i64 d.quota) → ((inR .i64 d.time) → ((inR .i64 d.inode) → ((inR .i64 d.left) → ((d.keep.length ≤ 9223372036854775807) → ((inR .i64 d.ops_) → (((d.off = true) → Q u0 d (decide (v6 = (13 : Int)))) ∧ ((d.off = false) → (rectolaw5_get_p d.now a.P_ (fun (v7 : Int) => ((inR .i64 v7) → (∃ v8 : S_rectolaw5_Disk → Prop, (∀ (t9 : S_rectolaw5_Disk), v8 t9 → Q u0 t9 (decide (v6 = (0 : Int)))) ∧ (((v7 ≥ (0 : Int)) → (rectolaw5_cut_p d.now a.P_ (fun (s0 : (List S_rectolaw5_one)) => ((s0.length ≤ 9223372036854775807) → (rectolaw5_Disk_sync_p (S_rectolaw5_Disk.mk d.kept s0 d.wait d.quota d.time d.inode d.off d.armed d.left d.keep d.ops_) (fun (r6 : S_rectolaw5_Disk) => (v8 r6))))))) ∧ ((¬ (v7 ≥ (0 : Int))) → (v8 d)))))))))))))))))))))) ∧ ((¬ (a.Op = (9 : Int))) → (((a.Op = (10 : Int)) → (simfs_FS_Tick_p f_ (fun (s8 : S_simfs_FS) => ((d.kept.length ≤ 9223372036854775807) → ((d.now.length ≤ 9223372036854775807) → ((d.wait.length ≤ 9223372036854775807) → ((inR .i64 d.quota) → ((inR .i64 d.time) → ((inR .i64 d.inode) → ((inR .i64 d.left) → ((d.keep.length ≤ 9223372036854775807) → ((inR .i64 d.ops_) → ((inR .i64 (d.time + (1 : Int))) ∧ (z5 s8 (S_rectolaw5_Disk.mk d.kept d.now d.wait d.quota (d.time + (1 : Int)) d.inode d.off d.armed d.left d.keep d.ops_))))))))))))))) ∧ ((¬ (a.Op = (10 : Int))) → (((a.Op = (11 : Int)) → (simfs_FS_Quota_p f_ a.N (fun (s9 : S_simfs_FS) => ((d.kept.length ≤ 9223372036854775807) → ((d.now.length ≤ 9223372036854775807) → ((d.wait.length ≤ 9223372036854775807) → ((inR .i64 d.quota) → ((inR .i64 d.time) → ((inR .i64 d.inode) → ((inR .i64 d.left) → ((d.keep.length ≤ 9223372036854775807) → ((inR .i64 d.ops_) → (z5 s9 (S_rectolaw5_Disk.mk d.kept d.now d.wait a.N d.time d.inode d.off d.armed d.left d.keep d.ops_)))))))))))))) ∧ ((¬ (a.Op = (11 : Int))) → (z5 f_ d)))))))))))))))))))))))))))))))
set_option maxRecDepth 20000 in
set_option maxHeartbeats 4000000 in
theorem rectolaw5_both_w {X : List Nat} {w : World} {f_ : S_simfs_FS} {d : S_rectolaw5_Disk} {a : S_rectolaw5_Act} {z6 : Nat} {z7 : List Nat} {z0 : Nat} {y5 : List Nat} {v3 : Option Addr} {v4 : Nat} {y0 : Option Addr} {y1 : Nat} {Q : S_simfs_FS → S_rectolaw5_Disk → Bool → Prop} (j0i : Old X w) (s04 : MO o_simfs_FS 78 (z7 ++ y5) w.heap.size X w z7 z6 f_) (Y06 : MO o_rectolaw5_Disk 31 (z7 ++ y5) w.heap.size X w y5 z0 d) (A09 : inR .i64 a.Op) (t4 : inR .i64 a.Mode) (L9 : inR .i64 a.N) (y3 : a.P_.size ≤ maxLen) (g0 : a.Q_.size ≤ maxLen) (r04 : Sl (rInt .u8) X w v3 v4 a.B) (K0 : Sl rBool X w y0 y1 a.Keep) (hap : Ap z7 y5) (hp : rectolaw5_both_p f_ d a Q) :
  Calls Tryz.prog 12 #[(.pointer (some ⟨z6, 0, none⟩)), (.pointer (some ⟨z0, 0, none⟩)), (.agg #[(.int .i64 a.Op), (.int .i64 a.Mode), (.int .i64 a.N), (.string a.P_), (.string a.Q_), (.slice v3 a.B.length v4), (.slice y0 a.Keep.length y1)])] w (Ret fun v w' => ∃ (g0i : S_simfs_FS) (d0i : S_rectolaw5_Disk) (l0i : Bool), Q g0i d0i l0i ∧ ∃ (X' : List Nat) (H0h : List Nat) (G0h : List Nat), Step X w (z7 ++ y5) X' w' ∧ v = (.bool l0i) ∧ MO o_simfs_FS 78 (z7 ++ y5) w.heap.size X' w' H0h z6 g0i ∧ MO o_rectolaw5_Disk 31 (z7 ++ y5) w.heap.size X' w' G0h z0 d0i ∧ Ap H0h G0h) := by
 have hXo := j0i
 have E0 : Evo (z7 ++ y5) w w := RB.refl _ _ _
 have hS : Sub X X := Sub.refl _
 have hN : News X w X w := News.refl _ _
 have e7 : Sub (z7 ++ y5) X := Sub.app (MO.mem s04) (MO.mem Y06)
 unfold rectolaw5_both_p at hp
 refine enter_ Tryz.func12 rfl 309 [(0, (.pointer (some ⟨z6, 0, none⟩))), (1, (.pointer (some ⟨z0, 0, none⟩))), (2, (.agg #[(.int .i64 a.Op), (.int .i64 a.Mode), (.int .i64 a.N), (.string a.P_), (.string a.Q_), (.slice v3 a.B.length v4), (.slice y0 a.Keep.length y1)]))] (by kernel_rfl) (fun Qe hQ => ?_)
 replace hp := hp A09
 replace hp := hp t4
 replace hp := hp L9
 replace hp := hp y3
 replace hp := hp g0
 replace hp := hp (Sl.len r04)
 replace hp := hp (Sl.len K0)
 refine seq_ (fun _ m0i => ?_)
 refine reg_ ?_
 refine sq (o_newX [(.int .i64 a.Op), (.int .i64 a.Mode), (.int .i64 a.N), (.string a.P_), (.string a.Q_), (.slice v3 a.B.length v4), (.slice y0 a.Keep.length y1)] 34 (X := X) (B := w.heap.size) E0.size rfl (by kernel_rfl) ?_)
 intro z8 R0j m9 R8 v9 D0h
 have R9 := D0h _ (MO.old s04)
 have q04 := D0h _ (MO.old Y06)
 refine sq (o_pv (.bool false) rfl (by kernel_rfl) ?_)
 refine nil_ ?_
 refine then_normal (m0i _ _ _ _ ?_)
 refine seq_ (fun _ n0i => ?_)
 refine seq_ (fun _ o0i => ?_)
 refine reg_ ?_
 refine sq (o_pv (.pointer (some ⟨z8, 0, none⟩)) rfl (by kernel_rfl) ?_)
 refine sq (o_pv (.int .i64 a.Op) rfl (x_load1 (by kernel_rfl) Tryz.isAgg3 (v9.2.1.cell' 0 rfl)) ?_)
 refine nil_ ?_
 refine then_normal (o0i _ _ _ _ ?_)
 have s7 := (Sl.step r04 R8)
 have r5 := (Sl.step K0 R8)
 have z1 := (MO.step0 s04 R8)
 have z5 := (MO.step0 Y06 R8)
 have z2 := (Old.step hXo R8)
 have z9 := (Evo.then0 E0 (Step.evo R8))
 have y9 := (Sub.trans hS (Step.up R8))
 have v0 := (News.step hN R8)
 obtain ⟨W09, V06, hp⟩ := hp
 refine ground_ ?_
 refine join_ 1042962419883256876169444192465601618458351817556959360325703910069443225478828393565898670016 (fun lq n5 => ∃ (g3 : List Nat) (e8 : S_simfs_FS) (e9 : S_rectolaw5_Disk) (N6 : List Nat) (N7 : List Nat), (lq = []) ∧ (Evo (z7 ++ y5) w n5) ∧ (Old g3 n5) ∧ (Sub X g3) ∧ (News X w g3 n5) ∧ (MO o_simfs_FS 78 (z7 ++ y5) w.heap.size g3 n5 N6 z6 e8) ∧ (MO o_rectolaw5_Disk 31 (z7 ++ y5) w.heap.size g3 n5 N7 z0 e9) ∧ (Ap (N6) (N7)) ∧ (W09 e8 e9)) (fun c0i g1 => ?_) ?_
 ·
  refine wp_block ?_
  refine seq_ (fun _ z0a => ?_)
  refine reg_ ?_
  refine sq (o_pv (.bool (decide (a.Op = (1 : Int)))) rfl (by kernel_rfl) ?_)
  refine sq (o_pv (.bool (decide (a.Op = (1 : Int)))) rfl (by kernel_rfl) ?_)
  refine nil_ ?_
  refine then_normal (z0a _ _ _ _ ?_)
  refine cond_d (a.Op = (1 : Int)) (by kernel_rfl) (fun G4 => ?_) (fun G4 => ?_)
  ·
   replace hp := hp.1 G4
   refine seq_ (fun _ y0a => ?_)
   refine reg_ ?_
   refine sq (o_pv (.pointer (some ⟨z6, 0, none⟩)) rfl (by kernel_rfl) ?_)
   refine sq (o_pv (.pointer (some ⟨z8, 3, none⟩)) rfl (by kernel_rfl) ?_)
   refine sq (o_pv (.string a.P_) rfl (x_load1 (by kernel_rfl) Tryz.isAgg9 (v9.2.1.cell' 3 rfl)) ?_)
   refine sq (o_pv (.pointer (some ⟨z8, 1, none⟩)) rfl (by kernel_rfl) ?_)
   refine sq (o_pv (.int .i64 a.Mode) rfl (x_load1 (by kernel_rfl) Tryz.isAgg3 (v9.2.1.cell' 1 rfl)) ?_)
   refine sq (o_pv (.pointer (some ⟨z8, 5, none⟩)) rfl (by kernel_rfl) ?_)
   refine sq (o_pv (.slice v3 a.B.length v4) rfl (x_load1 (by kernel_rfl) Tryz.isAgg32 (v9.2.1.cell' 5 rfl)) ?_)
   refine sq (o_call 27 #[(.pointer (some ⟨z6, 0, none⟩)), (.string a.P_), (.int .i64 a.Mode), (.slice v3 a.B.length v4)] rfl (x_call Tryz.call27 (by kernel_rfl)) (simfs_FS_Write_w (X := m9) (f_ := f_) (p := a.P_) (mode := a.Mode) (b := a.B) z2 (MO.re z1 (Wr.self _ _ (Sub.refl _))) y3 t4 s7 hp) ?_)
   rintro _ V0i ⟨U02, n6, hp, v0a, G5, g4, rfl, G6, U06⟩
   have k04 := MO.re G6 (Wr.trans G6.wr z1.wr z9.size)
   have j04 := Ap.grow G6.wr (Ap.symm hap) (MO.old z5) (Nat.le_refl _)
   replace hp := hp U06
   refine sq (o_pv (.int .i64 n6) rfl (by kernel_rfl) ?_)
   refine nil_ ?_
   refine then_normal (y0a _ _ _ _ ?_)
   refine seq_ (fun _ u0a => ?_)
   refine reg_ ?_
   refine sq (o_pv (.pointer (some ⟨z0, 0, none⟩)) rfl (by kernel_rfl) ?_)
   refine sq (o_pv (.pointer (some ⟨z8, 3, none⟩)) rfl (by kernel_rfl) ?_)
   have N8 := (OB.step v9 g4 (Ap.symm R9))
   refine sq (o_pv (.string a.P_) rfl (x_load1 (by kernel_rfl) Tryz.isAgg9 (N8.2.1.cell' 3 rfl)) ?_)
   refine sq (o_pv (.pointer (some ⟨z8, 1, none⟩)) rfl (by kernel_rfl) ?_)
   refine sq (o_pv (.int .i64 a.Mode) rfl (x_load1 (by kernel_rfl) Tryz.isAgg3 (N8.2.1.cell' 1 rfl)) ?_)
   refine sq (o_pv (.pointer (some ⟨z8, 5, none⟩)) rfl (by kernel_rfl) ?_)
   refine sq (o_pv (.slice v3 a.B.length v4) rfl (x_load1 (by kernel_rfl) Tryz.isAgg32 (N8.2.1.cell' 5 rfl)) ?_)
   refine sq (o_pv (.int .i64 (a.B.length : Int)) rfl (by kernel_rfl) ?_)
   have E05 := (Sl.step s7 g4)
   have K1 := (MO.step z5 g4 (Ap.symm hap))
   have I5 := (Old.step z2 g4)
   have g04 := (Evo.thenW z9 (Step.evo g4) z1.wr)
   have T06 := (Sub.trans y9 (Step.up g4))
   have R06 := (News.step v0 g4)
   refine sq (o_call 39 #[(.pointer (some ⟨z0, 0, none⟩)), (.string a.P_), (.int .i64 a.Mode), (.int .i64 (a.B.length : Int))] rfl (x_call Tryz.call39 (by kernel_rfl)) (rectolaw5_Disk_cause_w (X := v0a) (d := d) (p := a.P_) (mode := a.Mode) (n_ := (a.B.length : Int)) I5 (MO.re K1 (Wr.self _ _ (Sub.refl _))) y3 t4 (inR_len (Sl.len s7)) hp) ?_)
   rintro _ U0i ⟨k4, n7, hp, d04, t0a, g5, rfl, G7, T02⟩
   have l04 := MO.re G7 (Wr.trans G7.wr K1.wr g04.size)
   have m04 := Ap.grow G7.wr (Ap.symm j04) (MO.old k04) (Nat.le_refl _)
   replace hp := hp T02
   refine sq (o_pv (.int .i64 n7) rfl (by kernel_rfl) ?_)
   refine nil_ ?_
   refine then_normal (u0a _ _ _ _ ?_)
   refine seq_ (fun _ s0a => ?_)
   refine seq_ (fun _ r0a => ?_)
   refine reg_ ?_
   refine sq (o_pv (.int .i64 n7) rfl (by kernel_rfl) ?_)
   refine sq (o_pv (.bool (decide (n7 = (0 : Int)))) rfl (by kernel_rfl) ?_)
   refine nil_ ?_
   refine then_normal (r0a _ _ _ _ ?_)
   have I6 := (Sl.step E05 g5)
   have R4 := (Old.step I5 g5)
   have G8 := (Evo.thenW g04 (Step.evo g5) K1.wr)
   have R02 := (Sub.trans T06 (Step.up g5))
   have P02 := (News.step R06 g5)
   have G9 := (OB.step N8 g5 (Ap.symm q04))
   have D0 := (MO.step k04 g5 (Ap.symm j04))
   obtain ⟨q0a, P06, hp⟩ := hp
   refine ground_ ?_
   refine join_ 9223369837831521024 (fun lq n8 => ∃ (g6 : List Nat) (u5 : Int) (i0 : S_rectolaw5_Disk) (N9 : List Nat), (lq = [(8, (.int .i64 u5))]) ∧ (Evo (z7 ++ y5) w n8) ∧ (Old g6 n8) ∧ (Sub X g6) ∧ (News X w g6 n8) ∧ (MO o_simfs_FS 78 (z7 ++ y5) w.heap.size g6 n8 G5 z6 U02) ∧ (MO o_rectolaw5_Disk 31 (z7 ++ y5) w.heap.size g6 n8 N9 z0 i0) ∧ (Ap (G5) (N9)) ∧ (inR .i64 u5) ∧ (q0a u5 i0)) (fun a0i K2 => ?_) ?_
   ·
    refine cond_d (n7 = (0 : Int)) (by kernel_rfl) (fun D1 => ?_) (fun D1 => ?_)
    ·
     replace hp := hp.1 D1
     refine seq_ (fun _ k0a => ?_)
     refine reg_ ?_
     refine sq (o_pv (.pointer (some ⟨z0, 0, none⟩)) rfl (by kernel_rfl) ?_)
     refine sq (o_pv (.pointer (some ⟨z0, 0, none⟩)) rfl (by kernel_rfl) ?_)
     obtain ⟨j0a, g0a, C0h, B0h, d0a, l0a, m0a, n0a, n04, i1, P0, i2, c9, i3, j7, i4, i5, i6, N06⟩ := o_rectolaw5_Disk_open l04
     have o0a := Ap.subr m04 N06
     replace hp := hp (Sl.len i1)
     replace hp := hp (Sl.len P0)
     replace hp := hp (Sl.len i2)
     replace hp := hp c9
     replace hp := hp i3
     replace hp := hp j7
     replace hp := hp i4
     replace hp := hp (Sl.len i5)
     replace hp := hp i6
     refine sq (o_pv (.pointer (some ⟨z0, 5, none⟩)) rfl (by kernel_rfl) ?_)
     refine sq (o_pv (.int .i64 k4.inode) rfl (x_load1 (by kernel_rfl) Tryz.isAgg3 (n04.2.1.cell' 5 rfl)) ?_)
     refine sq (o_pv (.int .i64 k4.inode) rfl (by kernel_rfl) ?_)
     refine nil_ ?_
     refine then_normal (k0a _ _ _ _ ?_)
     refine seq_ (fun _ c0a => ?_)
     refine reg_ ?_
     refine sq (o_pv (.pointer (some ⟨z0, 0, none⟩)) rfl (by kernel_rfl) ?_)
     refine sq (o_pv (.pointer (some ⟨z0, 0, none⟩)) rfl (by kernel_rfl) ?_)
     refine sq (o_pv (.pointer (some ⟨z8, 3, none⟩)) rfl (by kernel_rfl) ?_)
     refine sq (o_pv (.string a.P_) rfl (x_load1 (by kernel_rfl) Tryz.isAgg9 (G9.2.1.cell' 3 rfl)) ?_)
     refine sq (o_pv (.pointer (some ⟨z8, 1, none⟩)) rfl (by kernel_rfl) ?_)
     refine sq (o_pv (.int .i64 a.Mode) rfl (x_load1 (by kernel_rfl) Tryz.isAgg3 (G9.2.1.cell' 1 rfl)) ?_)
     refine sq (o_pv (.pointer (some ⟨z8, 5, none⟩)) rfl (by kernel_rfl) ?_)
     refine sq (o_pv (.slice v3 a.B.length v4) rfl (x_load1 (by kernel_rfl) Tryz.isAgg32 (G9.2.1.cell' 5 rfl)) ?_)
     have M06 := Sl.len I6
     refine sq (o_pv (.string (strOfNums a.B)) rfl (x_b2s_sl (a := v3) (len := a.B.length) (c := v4) a.B Tryz.underlying32 Tryz.underlying5 Tryz.underlying9 (by kernel_rfl) rfl I6) ?_)
     obtain ⟨T0i, D2, L06⟩ := MO.pack (o_rectolaw5_Disk_mk n04 i1 rfl P0 rfl i2 rfl c9 i3 j7 i4 i5 rfl i6)
     have o04 := L06 _ (Ap.cons o0a (Ap.app (Ap.nil_r _) (Ap.app (Ap.nil_r _) (Ap.app (Ap.nil_r _) (Ap.app (Ap.nil_r _) (Ap.app (Ap.nil_r _) (Ap.app (Ap.nil_r _) (Ap.app (Ap.nil_r _) (Ap.app (Ap.nil_r _) (Ap.app (Ap.nil_r _) (Ap.app (Ap.nil_r _) (Ap.nil_r _))))))))))))
     refine sq (o_call 41 #[(.pointer (some ⟨z0, 0, none⟩)), (.string a.P_), (.int .i64 a.Mode), (.string (strOfNums a.B))] rfl (x_call Tryz.call41 (by kernel_rfl)) (rectolaw5_Disk_file_w (X := d04) (d := k4) (p := a.P_) (mode := a.Mode) (b := strOfNums a.B) R4 (MO.re D2 (Wr.self _ _ (Sub.refl _))) y3 t4 (strOfNums_le M06) hp) ?_)
     rintro _ R0i ⟨a0a, t7, hp, e0a, P0i, i7, rfl, D3, i9, h0, h1, h2, a0⟩
     have M0 := MO.re D3 (Wr.trans D3.wr D2.wr G8.size)
     have D4 := Ap.grow D3.wr o04 (MO.old D0) (Nat.le_refl _)
     replace hp := hp i9
     replace hp := hp h0
     replace hp := hp h1
     replace hp := hp h2
     replace hp := hp a0
     refine sq (o_pv (.agg #[(.int .i64 (1 : Int)), (.string t7.path), (.string t7.data), (.int .i64 t7.mode), (.int .i64 t7.time), (.int .i64 t7.inode), (.string (ByteArray.mk #[])), (.string (ByteArray.mk #[]))]) rfl (by kernel_rfl) ?_)
     have R5 := (Old.step R4 i7)
     have D5 := (Evo.thenW G8 (Step.evo i7) D2.wr)
     have N02 := (Sub.trans R02 (Step.up i7))
     have M02 := (News.step P02 i7)
     have D6 := (MO.step D0 i7 o04)
     refine sq (o_call 40 #[(.pointer (some ⟨z0, 0, none⟩)), (.agg #[(.int .i64 (1 : Int)), (.string t7.path), (.string t7.data), (.int .i64 t7.mode), (.int .i64 t7.time), (.int .i64 t7.inode), (.string (ByteArray.mk #[])), (.string (ByteArray.mk #[]))])] rfl (x_call Tryz.call40 (by kernel_rfl)) (rectolaw5_Disk_do_w (X := e0a) (d := a0a) (o := (S_rectolaw5_op.mk (1 : Int) t7 (ByteArray.mk #[]) (ByteArray.mk #[]))) R5 (MO.re M0 (Wr.self _ _ (Sub.refl _))) (by decide : inR .i64 (1 : Int)) i9 h0 h1 h2 a0 (by decide : (ByteArray.mk #[]).size ≤ maxLen) (by decide : (ByteArray.mk #[]).size ≤ maxLen) hp) ?_)
     rintro _ N0i ⟨y4, k5, hp, c04, i0a, s8, rfl, D7, K3⟩
     have a04 := MO.re D7 (Wr.trans D7.wr M0.wr D5.size)
     have e04 := Ap.grow D7.wr D4 (MO.old D6) (Nat.le_refl _)
     replace hp := hp K3
     refine sq (o_pv (.int .i64 k5) rfl (by kernel_rfl) ?_)
     refine nil_ ?_
     refine then_normal (c0a _ _ _ _ ?_)
     refine seq_ (fun _ h0a => ?_)
     refine reg_ ?_
     refine sq (o_pv (.int .i64 k5) rfl (by kernel_rfl) ?_)
     refine sq (o_pv (.bool (!decide (k5 = (0 : Int)))) rfl (by kernel_rfl) ?_)
     refine nil_ ?_
     refine then_normal (h0a _ _ _ _ ?_)
     refine cond_nd (k5 = (0 : Int)) (by kernel_rfl) (fun D8 => ?_) (fun D8 => ?_)
     ·
      replace hp := hp.1 D8
      refine reg_ ?_
      refine sq (o_pv (.pointer (some ⟨z0, 0, none⟩)) rfl (by kernel_rfl) ?_)
      refine sq (o_pv (.int .i64 k4.inode) rfl (by kernel_rfl) ?_)
      refine sq (o_pv (.pointer (some ⟨z0, 0, none⟩)) rfl (by kernel_rfl) ?_)
      obtain ⟨D9, C0, L02, K02, C1, C2, C3, C4, i04, h3, P1, h4, a1, h5, I3, h6, h7, h8, K06⟩ := o_rectolaw5_Disk_open a04
      have h04 := Ap.subr e04 K06
      replace hp := hp (Sl.len h3)
      replace hp := hp (Sl.len P1)
      replace hp := hp (Sl.len h4)
      replace hp := hp a1
      replace hp := hp h5
      replace hp := hp I3
      replace hp := hp h6
      replace hp := hp (Sl.len h7)
      replace hp := hp h8
      refine sq (o_pv (.pointer (some ⟨z0, 5, none⟩)) rfl (by kernel_rfl) ?_)
      have b0a := (MO.step D6 s8 D4)
      have f0a := (Evo.thenW D5 (Step.evo s8) M0.wr)
      refine sq (o_stB (o := 5) (v := (.int .i64 k4.inode)) [(.slice D9 y4.kept.length C0), (.slice L02 y4.now.length K02), (.slice C1 y4.wait.length C2), (.int .i64 y4.quota), (.int .i64 y4.time), (.int .i64 k4.inode), (.bool y4.off), (.bool y4.armed), (.int .i64 y4.left), (.slice C3 y4.keep.length C4), (.int .i64 y4.ops_)] rfl i04 (by kernel_rfl) (by kernel_rfl) Tryz.sizeOf3 rfl rfl rfl ?_)
      intro M0i r6 p0a
      refine nil_ ?_
      have F05 := (Old.step (Old.step R5 s8) r6)
      have Z0a := (Evo.thenW f0a (Step.evo r6) i04.2.2)
      have J06 := (Sub.trans (Sub.trans N02 (Step.up s8)) (Step.up r6))
      have I06 := (News.step (News.step M02 s8) r6)
      have Y0a := (MO.step b0a r6 h04)
      have C5 := (Sl.step h3 r6)
      have J02 := (Sl.step P1 r6)
      have C6 := (Sl.step h4 r6)
      have C7 := (Sl.step h7 r6)
      obtain ⟨V0a, U0a, H06⟩ := MO.pack (o_rectolaw5_Disk_mk p0a C5 rfl J02 rfl C6 rfl a1 h5 j7 h6 C7 rfl h8)
      have T0a := H06 _ (Ap.cons h04 (Ap.app (Ap.nil_r _) (Ap.app (Ap.nil_r _) (Ap.app (Ap.nil_r _) (Ap.app (Ap.nil_r _) (Ap.app (Ap.nil_r _) (Ap.app (Ap.nil_r _) (Ap.app (Ap.nil_r _) (Ap.app (Ap.nil_r _) (Ap.app (Ap.nil_r _) (Ap.app (Ap.nil_r _) (Ap.nil_r _))))))))))))
      refine then_normal (K2 _ _ _ ⟨[(8, (.int .i64 k5))], fit_mk (fun _ _ => rfl) (by kernel_rfl) (vs_cons (by kernel_rfl) vs_nil), ?_⟩)
      exact ⟨c04, k5, (S_rectolaw5_Disk.mk y4.kept y4.now y4.wait y4.quota y4.time k4.inode y4.off y4.armed y4.left y4.keep y4.ops_), V0a, rfl, Z0a, F05, J06, I06, Y0a, U0a, T0a, K3, hp⟩
     ·
      replace hp := hp.2 D8
      refine wp_skip ?_
      have R0a := (Evo.thenW D5 (Step.evo s8) M0.wr)
      have O05 := (Old.step R5 s8)
      have G06 := (Sub.trans N02 (Step.up s8))
      have D06 := (News.step M02 s8)
      have P0a := (MO.step D6 s8 D4)
      refine then_normal (K2 _ _ _ ⟨[(8, (.int .i64 k5))], fit_mk (fun _ _ => rfl) (by kernel_rfl) (vs_cons (by kernel_rfl) vs_nil), ?_⟩)
      exact ⟨c04, k5, y4, i0a, rfl, R0a, O05, G06, D06, P0a, a04, e04, K3, hp⟩
    ·
     replace hp := hp.2 D1
     refine wp_skip ?_
     refine then_normal (K2 _ _ _ ⟨[(8, (.int .i64 n7))], fit_mk (fun _ _ => rfl) (by kernel_rfl) (vs_cons (by kernel_rfl) vs_nil), ?_⟩)
     exact ⟨d04, n7, k4, t0a, rfl, G8, R4, R02, P02, D0, l04, m04, T02, hp⟩
   ·
    rintro _ n8 L0i ⟨g6, u5, i0, N9, rfl, N0a, v0i, C06, B06, M0a, L0a, K0a, S05, E06⟩
    replace hp := P06 u5 i0 E06 S05
    refine then_normal (s0a _ _ _ _ ?_)
    refine seq_ (fun _ J0a => ?_)
    refine reg_ ?_
    refine sq (o_pv (.int .i64 n6) rfl (by kernel_rfl) ?_)
    refine sq (o_pv (.int .i64 u5) rfl (by kernel_rfl) ?_)
    refine sq (o_pv (.bool (decide (n6 = u5))) rfl (by kernel_rfl) ?_)
    refine sq (o_pv (.bool (decide (n6 = u5))) rfl (by kernel_rfl) ?_)
    refine nil_ ?_
    refine then_normal (J0a _ _ _ _ ?_)
    refine wp_ret ?_
    refine blk_ret ?_
    refine then_ret ?_
    refine then_ret ?_
    refine end_ret hQ (.bool (decide (n6 = u5))) (by kernel_rfl) ?_
    exact ⟨U02, i0, (decide (n6 = u5)), hp, g6, G5, N9, step_of N0a e7 C06 B06, rfl, M0a, L0a, K0a⟩
  ·
   replace hp := hp.2 G4
   refine seq_ (fun _ I0a => ?_)
   refine reg_ ?_
   refine sq (o_pv (.bool (decide (a.Op = (2 : Int)))) rfl (by kernel_rfl) ?_)
   refine sq (o_pv (.bool (decide (a.Op = (2 : Int)))) rfl (by kernel_rfl) ?_)
   refine nil_ ?_
   refine then_normal (I0a _ _ _ _ ?_)
   refine cond_d (a.Op = (2 : Int)) (by kernel_rfl) (fun C8 => ?_) (fun C8 => ?_)
   ·
    replace hp := hp.1 C8
    refine seq_ (fun _ H0a => ?_)
    refine reg_ ?_
    refine sq (o_pv (.pointer (some ⟨z6, 0, none⟩)) rfl (by kernel_rfl) ?_)
    refine sq (o_pv (.pointer (some ⟨z8, 3, none⟩)) rfl (by kernel_rfl) ?_)
    refine sq (o_pv (.string a.P_) rfl (x_load1 (by kernel_rfl) Tryz.isAgg9 (v9.2.1.cell' 3 rfl)) ?_)
    refine sq (o_pv (.pointer (some ⟨z8, 4, none⟩)) rfl (by kernel_rfl) ?_)
    refine sq (o_pv (.string a.Q_) rfl (x_load1 (by kernel_rfl) Tryz.isAgg9 (v9.2.1.cell' 4 rfl)) ?_)
    refine sq (o_call 42 #[(.pointer (some ⟨z6, 0, none⟩)), (.string a.P_), (.string a.Q_)] rfl (x_call Tryz.call42 (by kernel_rfl)) (simfs_FS_Rename_w (X := m9) (f_ := f_) (from_ := a.P_) (to_ := a.Q_) z2 (MO.re z1 (Wr.self _ _ (Sub.refl _))) y3 g0 hp) ?_)
    rintro _ C9 ⟨I02, n9, hp, t0, B0, o0, rfl, B1, F06⟩
    have b04 := MO.re B1 (Wr.trans B1.wr z1.wr z9.size)
    have G0a := Ap.grow B1.wr (Ap.symm hap) (MO.old z5) (Nat.le_refl _)
    replace hp := hp F06
    refine sq (o_pv (.int .i64 n9) rfl (by kernel_rfl) ?_)
    refine nil_ ?_
    refine then_normal (H0a _ _ _ _ ?_)
    refine seq_ (fun _ D0a => ?_)
    refine reg_ ?_
    refine sq (o_pv (.int .i64 (0 : Int)) rfl (by kernel_rfl) ?_)
    refine nil_ ?_
    refine then_normal (D0a _ _ _ _ ?_)
    refine seq_ (fun _ C0a => ?_)
    have O06 := (MO.step z5 o0 (Ap.symm hap))
    have I7 := (Old.step z2 o0)
    have f04 := (Evo.thenW z9 (Step.evo o0) z1.wr)
    have H02 := (Sub.trans y9 (Step.up o0))
    have G02 := (News.step v0 o0)
    have B0a := (OB.step v9 o0 (Ap.symm R9))
    obtain ⟨E0a, S06, hp⟩ := hp
    refine ground_ ?_
    refine join_ 664613997892439046985972051559319552 (fun lq o3 => ∃ (g7 : List Nat) (u6 : Int) (h9 : S_rectolaw5_Disk) (M1 : List Nat), (lq = [(11, (.int .i64 u6))]) ∧ (Evo (z7 ++ y5) w o3) ∧ (Old g7 o3) ∧ (Sub X g7) ∧ (News X w g7 o3) ∧ (MO o_simfs_FS 78 (z7 ++ y5) w.heap.size g7 o3 B0 z6 I02) ∧ (MO o_rectolaw5_Disk 31 (z7 ++ y5) w.heap.size g7 o3 M1 z0 h9) ∧ (Ap (B0) (M1)) ∧ (inR .i64 u6) ∧ (E0a u6 h9)) (fun e0i g2 => ?_) ?_
    ·
     refine wp_block ?_
     refine seq_ (fun _ F0a => ?_)
     refine reg_ ?_
     refine sq (o_pv (.pointer (some ⟨z0, 0, none⟩)) rfl (by kernel_rfl) ?_)
     refine sq (o_pv (.pointer (some ⟨z0, 0, none⟩)) rfl (by kernel_rfl) ?_)
     obtain ⟨O0a, S0a, k6, k7, A0a, W0a, z0b, y0b, B2, g8, n0, g9, v1, v5, v2, v6, d0, v7, A06⟩ := o_rectolaw5_Disk_open O06
     have o4 := Ap.subr (Ap.symm G0a) A06
     replace hp := hp (Sl.len g8)
     replace hp := hp (Sl.len n0)
     replace hp := hp (Sl.len g9)
     replace hp := hp v1
     replace hp := hp v5
     replace hp := hp v2
     replace hp := hp v6
     replace hp := hp (Sl.len d0)
     replace hp := hp v7
     refine sq (o_pv (.pointer (some ⟨z0, 6, none⟩)) rfl (by kernel_rfl) ?_)
     refine sq (o_pv (.bool d.off) rfl (x_load1 (by kernel_rfl) Tryz.isAgg4 (B2.2.1.cell' 6 rfl)) ?_)
     refine sq (o_pv (.bool d.off) rfl (by kernel_rfl) ?_)
     refine nil_ ?_
     refine then_normal (F0a _ _ _ _ ?_)
     refine cond_b d.off (by kernel_rfl) (fun B3 => ?_) (fun B3 => ?_)
     ·
      replace hp := hp.1 B3
      refine reg_ ?_
      refine sq (o_pv (.int .i64 (13 : Int)) rfl (by kernel_rfl) ?_)
      refine nil_ ?_
      refine blk_normal ?_
      obtain ⟨v0b, u0b, W06⟩ := MO.pack (o_rectolaw5_Disk_mk B2 g8 rfl n0 rfl g9 rfl v1 v5 v2 v6 d0 rfl v7)
      have t0b := W06 _ (Ap.cons o4 (Ap.app (Ap.nil_r _) (Ap.app (Ap.nil_r _) (Ap.app (Ap.nil_r _) (Ap.app (Ap.nil_r _) (Ap.app (Ap.nil_r _) (Ap.app (Ap.nil_r _) (Ap.app (Ap.nil_r _) (Ap.app (Ap.nil_r _) (Ap.app (Ap.nil_r _) (Ap.app (Ap.nil_r _) (Ap.nil_r _))))))))))))
      refine then_normal (g2 _ _ _ ⟨[(11, (.int .i64 (13 : Int)))], fit_mk (fun _ _ => rfl) (by kernel_rfl) (vs_cons (by kernel_rfl) vs_nil), ?_⟩)
      exact ⟨t0, (13 : Int), d, v0b, rfl, f04, I7, H02, G02, b04, u0b, t0b, (by decide : inR .i64 (13 : Int)), hp⟩
     ·
      replace hp := hp.2 B3
      refine seq_ (fun _ s0b => ?_)
      refine reg_drawn (RB C9.heap.size []) 8 (by kernel_rfl) (fun p04 K4 => ?_)
      have r0b := Evo.of_drew K4
      have B4 : p04.heap.size = C9.heap.size := by rw [K4]
      clear K4
      have t8 := Step.of0 t0 r0b
      have K5 := RB.refl C9.heap.size [] p04
      have R6 := (Old.step I7 t8)
      have B5 := (Evo.then0 f04 (Step.evo t8))
      have K6 := (Sub.trans H02 (Step.up t8))
      have K7 := (News.step G02 t8)
      have B6 := (OB.step0 B0a t8)
      have B7 := (MO.step0 b04 t8)
      have b0 := (OB.step0 B2 t8)
      have d1 := (Sl.step g8 t8)
      have k8 := (Sl.step n0 t8)
      have d2 := (Sl.step g9 t8)
      have d3 := (Sl.step d0 t8)
      refine r_take 0 (.pointer (some ⟨z0, 0, none⟩)) (RB.pre _ _) rfl (by kernel_rfl) (fun _ _ _ h => hQ.panic _ _ _ _ _ h) (.inl ⟨rfl, fun wq hq => (by kernel_rfl)⟩) ?_
      refine r_take 1 (.pointer (some ⟨z0, 0, none⟩)) (RB.pre _ _) rfl (by kernel_rfl) (fun _ _ _ h => hQ.panic _ _ _ _ _ h) (.inl ⟨rfl, fun wq hq => (by kernel_rfl)⟩) ?_
      refine r_take 2 (.pointer (some ⟨z0, 1, none⟩)) (RB.pre _ _) rfl (by kernel_rfl) (fun _ _ _ h => hQ.panic _ _ _ _ _ h) (.inl ⟨rfl, fun wq hq => (by kernel_rfl)⟩) ?_
      refine r_take 3 (.slice k6 d.now.length k7) (RB.pre _ _) rfl (by kernel_rfl) (fun _ _ _ h => hQ.panic _ _ _ _ _ h) (.inl ⟨rfl, fun wq hq => (x_load1 (by kernel_rfl) Tryz.isAgg27 ((Blk.rb b0.2.1 (RB.trans K5 hq) (Nat.lt_of_lt_of_eq (Blk.lt b0.2.1) B4) (fun h => by cases h)).cell' 1 rfl))⟩) ?_
      refine r_take 4 (.pointer (some ⟨z8, 3, none⟩)) (RB.pre _ _) rfl (by kernel_rfl) (fun _ _ _ h => hQ.panic _ _ _ _ _ h) (.inl ⟨rfl, fun wq hq => (by kernel_rfl)⟩) ?_
      refine r_take 5 (.string a.P_) (RB.pre _ _) rfl (by kernel_rfl) (fun _ _ _ h => hQ.panic _ _ _ _ _ h) (.inl ⟨rfl, fun wq hq => (x_load1 (by kernel_rfl) Tryz.isAgg9 ((Blk.rb B6.2.1 (RB.trans K5 hq) (Nat.lt_of_lt_of_eq (Blk.lt B6.2.1) B4) (fun h => by cases h)).cell' 3 rfl))⟩) ?_
      refine r_ready [6] (by kernel_rfl) rfl (all_cons ⟨_, _, _, _, _, _, rfl, ?_⟩ all_nil)
      refine o_call 43 #[(.slice k6 d.now.length k7), (.string a.P_)] rfl (x_call Tryz.call43 (by kernel_rfl)) (rectolaw5_get_w (X := []) (l := d.now) (p := a.P_) (Old.nil _) (Sl.less k8 (Sub.nil _)) y3 hp) ?_
      rintro _ K0i ⟨B8, hp, b1, rfl, z07⟩
      have rm := RB.mono (F' := []) b1 (Nat.le_trans (Nat.le_of_eq B4.symm) (RB.size K5)) (fun _ h => by cases h)
      refine ⟨fun _ => rm, ?_⟩
      have z3 := Step.of0 t0 b1
      replace hp := hp z07
      refine r_take 7 (.bool (decide (B8 < (0 : Int)))) (RB.pre _ _) rfl (by kernel_rfl) (fun _ _ _ h => hQ.panic _ _ _ _ _ h) (.inl ⟨rfl, fun wq hq => (by kernel_rfl)⟩) ?_
      refine r_ready [8] (by kernel_rfl) rfl (all_cons ⟨_, _, _, _, _, _, rfl, ?_⟩ all_nil)
      refine o_pv (.bool (decide (B8 < (0 : Int)))) rfl (by kernel_rfl) ?_
      refine ⟨fun h => absurd h (by decide), ?_⟩
      refine r_done (by kernel_rfl) ?_
      refine then_normal (s0b _ _ _ _ ?_)
      refine cond_d (B8 < (0 : Int)) (by kernel_rfl) (fun B9 => ?_) (fun B9 => ?_)
      ·
       replace hp := hp.1 B9
       refine reg_ ?_
       refine sq (o_pv (.int .i64 (5 : Int)) rfl (by kernel_rfl) ?_)
       refine nil_ ?_
       refine blk_normal ?_
       have A05 := (Old.step R6 z3)
       have q0b := (Evo.then0 B5 b1)
       have y07 := (Sub.trans K6 (Step.up z3))
       have v07 := (News.step K7 z3)
       have k0b := (MO.step0 B7 z3)
       have j0b := (OB.step0 b0 z3)
       have E1 := (Sl.step d1 z3)
       have D02 := (Sl.step k8 z3)
       have E2 := (Sl.step d2 z3)
       have E3 := (Sl.step d3 z3)
       obtain ⟨g0b, d0b, u07⟩ := MO.pack (o_rectolaw5_Disk_mk j0b E1 rfl D02 rfl E2 rfl v1 v5 v2 v6 E3 rfl v7)
       have l0b := u07 _ (Ap.cons o4 (Ap.app (Ap.nil_r _) (Ap.app (Ap.nil_r _) (Ap.app (Ap.nil_r _) (Ap.app (Ap.nil_r _) (Ap.app (Ap.nil_r _) (Ap.app (Ap.nil_r _) (Ap.app (Ap.nil_r _) (Ap.app (Ap.nil_r _) (Ap.app (Ap.nil_r _) (Ap.app (Ap.nil_r _) (Ap.nil_r _))))))))))))
       refine then_normal (g2 _ _ _ ⟨[(11, (.int .i64 (5 : Int)))], fit_mk (fun _ _ => rfl) (by kernel_rfl) (vs_cons (by kernel_rfl) vs_nil), ?_⟩)
       exact ⟨t0, (5 : Int), d, g0b, rfl, q0b, A05, y07, v07, k0b, d0b, l0b, (by decide : inR .i64 (5 : Int)), hp⟩
      ·
       replace hp := hp.2 B9
       refine seq_ (fun _ m0b => ?_)
       refine reg_ ?_
       refine sq (o_pv (.pointer (some ⟨z8, 4, none⟩)) rfl (by kernel_rfl) ?_)
       have E4 := (OB.step0 B6 z3)
       refine sq (o_pv (.string a.Q_) rfl (x_load1 (by kernel_rfl) Tryz.isAgg9 (E4.2.1.cell' 4 rfl)) ?_)
       refine sq (o_call 44 #[(.string a.Q_)] rfl (x_call Tryz.call44 (by kernel_rfl)) (rectoref1_Check_w (X := []) (p := a.Q_) (Old.nil _) g0 hp) ?_)
       rintro _ E5 ⟨E6, hp, E7, rfl, t07⟩
       have y6 := Step.of0 t0 E7
       replace hp := hp t07
       refine sq (o_pv (.bool (!decide (E6 = (0 : Int)))) rfl (by kernel_rfl) ?_)
       refine sq (o_pv (.bool (!decide (E6 = (0 : Int)))) rfl (by kernel_rfl) ?_)
       refine nil_ ?_
       refine then_normal (m0b _ _ _ _ ?_)
       refine cond_nd (E6 = (0 : Int)) (by kernel_rfl) (fun E8 => ?_) (fun E8 => ?_)
       ·
        replace hp := hp.1 E8
        refine reg_ ?_
        refine sq (o_pv (.pointer (some ⟨z8, 4, none⟩)) rfl (by kernel_rfl) ?_)
        have n0b := (OB.step0 E4 y6)
        refine sq (o_pv (.string a.Q_) rfl (x_load1 (by kernel_rfl) Tryz.isAgg9 (n0b.2.1.cell' 4 rfl)) ?_)
        refine sq (o_call 44 #[(.string a.Q_)] rfl (x_call Tryz.call44 (by kernel_rfl)) (rectoref1_Check_w (X := []) (p := a.Q_) (Old.nil _) g0 hp) ?_)
        rintro _ J0i ⟨E9, hp, Z04, rfl, C02⟩
        have r7 := Step.of0 t0 Z04
        replace hp := hp C02
        refine sq (o_pv (.int .i64 E9) rfl (by kernel_rfl) ?_)
        refine nil_ ?_
        refine blk_normal ?_
        have W05 := (Old.step (Old.step (Old.step R6 z3) y6) r7)
        have o0b := (Evo.then0 (Evo.then0 (Evo.then0 B5 b1) E7) Z04)
        have s07 := (Sub.trans (Sub.trans (Sub.trans K6 (Step.up z3)) (Step.up y6)) (Step.up r7))
        have r07 := (News.step (News.step (News.step K7 z3) y6) r7)
        have c0b := (MO.step0 (MO.step0 (MO.step0 B7 z3) y6) r7)
        have a0b := (OB.step0 (OB.step0 (OB.step0 b0 z3) y6) r7)
        have F0 := (Sl.step (Sl.step (Sl.step d1 z3) y6) r7)
        have B02 := (Sl.step (Sl.step (Sl.step k8 z3) y6) r7)
        have F6 := (Sl.step (Sl.step (Sl.step d2 z3) y6) r7)
        have F7 := (Sl.step (Sl.step (Sl.step d3 z3) y6) r7)
        obtain ⟨e0b, i0b, q07⟩ := MO.pack (o_rectolaw5_Disk_mk a0b F0 rfl B02 rfl F6 rfl v1 v5 v2 v6 F7 rfl v7)
        have h0b := q07 _ (Ap.cons o4 (Ap.app (Ap.nil_r _) (Ap.app (Ap.nil_r _) (Ap.app (Ap.nil_r _) (Ap.app (Ap.nil_r _) (Ap.app (Ap.nil_r _) (Ap.app (Ap.nil_r _) (Ap.app (Ap.nil_r _) (Ap.app (Ap.nil_r _) (Ap.app (Ap.nil_r _) (Ap.app (Ap.nil_r _) (Ap.nil_r _))))))))))))
        refine then_normal (g2 _ _ _ ⟨[(11, (.int .i64 E9))], fit_mk (fun _ _ => rfl) (by kernel_rfl) (vs_cons (by kernel_rfl) vs_nil), ?_⟩)
        exact ⟨t0, E9, d, e0b, rfl, o0b, W05, s07, r07, c0b, i0b, h0b, C02, hp⟩
       ·
        replace hp := hp.2 E8
        refine seq_ (fun _ b0b => ?_)
        have z06 := (Old.step (Old.step R6 z3) y6)
        have f0b := (Evo.then0 (Evo.then0 B5 b1) E7)
        have k07 := (Sub.trans (Sub.trans K6 (Step.up z3)) (Step.up y6))
        have j07 := (News.step (News.step K7 z3) y6)
        have p0b := (OB.step0 E4 y6)
        have Z0b := (MO.step0 (MO.step0 B7 z3) y6)
        have Y0b := (OB.step0 (OB.step0 b0 z3) y6)
        have F8 := (Sl.step (Sl.step d1 z3) y6)
        have E02 := (Sl.step (Sl.step k8 z3) y6)
        have F9 := (Sl.step (Sl.step d2 z3) y6)
        have O0 := (Sl.step (Sl.step d3 z3) y6)
        refine reg_drawn (RB E5.heap.size []) 9 (by kernel_rfl) (fun Y04 K8 => ?_)
        have V0b := Evo.of_drew K8
        have M2 : Y04.heap.size = E5.heap.size := by rw [K8]
        clear K8
        have t9 := Step.of0 t0 V0b
        have b2 := RB.refl E5.heap.size [] Y04
        have R7 := (Old.step z06 t9)
        have O1 := (Evo.then0 f0b (Step.evo t9))
        have K9 := (Sub.trans k07 (Step.up t9))
        have J0 := (News.step j07 t9)
        have b3 := (OB.step0 p0b t9)
        have O2 := (MO.step0 Z0b t9)
        have b4 := (OB.step0 Y0b t9)
        have d4 := (Sl.step F8 t9)
        have k9 := (Sl.step E02 t9)
        have d5 := (Sl.step F9 t9)
        have d6 := (Sl.step O0 t9)
        refine r_take 0 (.pointer (some ⟨z0, 0, none⟩)) (RB.pre _ _) rfl (by kernel_rfl) (fun _ _ _ h => hQ.panic _ _ _ _ _ h) (.inl ⟨rfl, fun wq hq => (by kernel_rfl)⟩) ?_
        refine r_take 1 (.pointer (some ⟨z0, 0, none⟩)) (RB.pre _ _) rfl (by kernel_rfl) (fun _ _ _ h => hQ.panic _ _ _ _ _ h) (.inl ⟨rfl, fun wq hq => (by kernel_rfl)⟩) ?_
        refine r_take 2 (.pointer (some ⟨z0, 1, none⟩)) (RB.pre _ _) rfl (by kernel_rfl) (fun _ _ _ h => hQ.panic _ _ _ _ _ h) (.inl ⟨rfl, fun wq hq => (by kernel_rfl)⟩) ?_
        refine r_take 3 (.slice k6 d.now.length k7) (RB.pre _ _) rfl (by kernel_rfl) (fun _ _ _ h => hQ.panic _ _ _ _ _ h) (.inl ⟨rfl, fun wq hq => (x_load1 (by kernel_rfl) Tryz.isAgg27 ((Blk.rb b4.2.1 (RB.trans b2 hq) (Nat.lt_of_lt_of_eq (Blk.lt b4.2.1) M2) (fun h => by cases h)).cell' 1 rfl))⟩) ?_
        refine r_take 4 (.pointer (some ⟨z8, 4, none⟩)) (RB.pre _ _) rfl (by kernel_rfl) (fun _ _ _ h => hQ.panic _ _ _ _ _ h) (.inl ⟨rfl, fun wq hq => (by kernel_rfl)⟩) ?_
        refine r_take 5 (.string a.Q_) (RB.pre _ _) rfl (by kernel_rfl) (fun _ _ _ h => hQ.panic _ _ _ _ _ h) (.inl ⟨rfl, fun wq hq => (x_load1 (by kernel_rfl) Tryz.isAgg9 ((Blk.rb b3.2.1 (RB.trans b2 hq) (Nat.lt_of_lt_of_eq (Blk.lt b3.2.1) M2) (fun h => by cases h)).cell' 4 rfl))⟩) ?_
        refine r_take 6 (.pointer (some ⟨z8, 3, none⟩)) (RB.pre _ _) rfl (by kernel_rfl) (fun _ _ _ h => hQ.panic _ _ _ _ _ h) (.inl ⟨rfl, fun wq hq => (by kernel_rfl)⟩) ?_
        refine r_take 7 (.string a.P_) (RB.pre _ _) rfl (by kernel_rfl) (fun _ _ _ h => hQ.panic _ _ _ _ _ h) (.inl ⟨rfl, fun wq hq => (x_load1 (by kernel_rfl) Tryz.isAgg9 ((Blk.rb b3.2.1 (RB.trans b2 hq) (Nat.lt_of_lt_of_eq (Blk.lt b3.2.1) M2) (fun h => by cases h)).cell' 3 rfl))⟩) ?_
        refine r_ready [8] (by kernel_rfl) rfl (all_cons ⟨_, _, _, _, _, _, rfl, ?_⟩ all_nil)
        refine o_call 45 #[(.slice k6 d.now.length k7), (.string a.Q_), (.string a.P_)] rfl (x_call Tryz.call45 (by kernel_rfl)) (rectolaw5_clash_w (X := []) (l := d.now) (p := a.Q_) (but := a.P_) (Old.nil _) (Sl.less k9 (Sub.nil _)) g0 y3 hp) ?_
        rintro _ I0i ⟨V04, hp, b5, rfl⟩
        have rm := RB.mono (F' := []) b5 (Nat.le_trans (Nat.le_of_eq M2.symm) (RB.size b2)) (fun _ h => by cases h)
        refine ⟨fun _ => rm, ?_⟩
        have z4 := Step.of0 t0 b5
        refine r_ready [9] (by kernel_rfl) rfl (all_cons ⟨_, _, _, _, _, _, rfl, ?_⟩ all_nil)
        refine o_pv (.bool V04) rfl (by kernel_rfl) ?_
        refine ⟨fun h => absurd h (by decide), ?_⟩
        refine r_done (by kernel_rfl) ?_
        refine then_normal (b0b _ _ _ _ ?_)
        refine cond_b V04 (by kernel_rfl) (fun O3 => ?_) (fun O3 => ?_)
        ·
         replace hp := hp.1 O3
         refine reg_ ?_
         refine sq (o_pv (.int .i64 (11 : Int)) rfl (by kernel_rfl) ?_)
         refine nil_ ?_
         refine blk_normal ?_
         have y06 := (Old.step R7 z4)
         have U0b := (Evo.then0 O1 b5)
         have g07 := (Sub.trans K9 (Step.up z4))
         have d07 := (News.step J0 z4)
         have T0b := (MO.step0 O2 z4)
         have R0b := (OB.step0 b4 z4)
         have O4 := (Sl.step d4 z4)
         have F02 := (Sl.step k9 z4)
         have O5 := (Sl.step d5 z4)
         have O6 := (Sl.step d6 z4)
         obtain ⟨P0b, N0b, l07⟩ := MO.pack (o_rectolaw5_Disk_mk R0b O4 rfl F02 rfl O5 rfl v1 v5 v2 v6 O6 rfl v7)
         have M0b := l07 _ (Ap.cons o4 (Ap.app (Ap.nil_r _) (Ap.app (Ap.nil_r _) (Ap.app (Ap.nil_r _) (Ap.app (Ap.nil_r _) (Ap.app (Ap.nil_r _) (Ap.app (Ap.nil_r _) (Ap.app (Ap.nil_r _) (Ap.app (Ap.nil_r _) (Ap.app (Ap.nil_r _) (Ap.app (Ap.nil_r _) (Ap.nil_r _))))))))))))
         refine then_normal (g2 _ _ _ ⟨[(11, (.int .i64 (11 : Int)))], fit_mk (fun _ _ => rfl) (by kernel_rfl) (vs_cons (by kernel_rfl) vs_nil), ?_⟩)
         exact ⟨t0, (11 : Int), d, P0b, rfl, U0b, y06, g07, d07, T0b, N0b, M0b, (by decide : inR .i64 (11 : Int)), hp⟩
        ·
         replace hp := hp.2 O3
         refine seq_ (fun _ L0b => ?_)
         refine reg_ ?_
         refine sq (o_pv (.pointer (some ⟨z8, 3, none⟩)) rfl (by kernel_rfl) ?_)
         have M3 := (OB.step0 b3 z4)
         refine sq (o_pv (.string a.P_) rfl (x_load1 (by kernel_rfl) Tryz.isAgg9 (M3.2.1.cell' 3 rfl)) ?_)
         refine sq (o_pv (.pointer (some ⟨z8, 4, none⟩)) rfl (by kernel_rfl) ?_)
         refine sq (o_pv (.string a.Q_) rfl (x_load1 (by kernel_rfl) Tryz.isAgg9 (M3.2.1.cell' 4 rfl)) ?_)
         refine sq (o_pv (.bool (!decide ((a.P_ : ByteArray) = a.Q_))) rfl (x_strne (by kernel_rfl) (by kernel_rfl)) ?_)
         refine sq (o_pv (.bool (!decide ((a.P_ : ByteArray) = a.Q_))) rfl (by kernel_rfl) ?_)
         refine nil_ ?_
         refine then_normal (L0b _ _ _ _ ?_)
         refine cond_nd ((a.P_ : ByteArray) = a.Q_) (by kernel_rfl) (fun O7 => ?_) (fun O7 => ?_)
         ·
          replace hp := hp.1 O7
          refine reg_ ?_
          refine sq (o_pv (.pointer (some ⟨z0, 0, none⟩)) rfl (by kernel_rfl) ?_)
          refine sq (o_pv (.pointer (some ⟨z8, 3, none⟩)) rfl (by kernel_rfl) ?_)
          refine sq (o_pv (.string a.P_) rfl (x_load1 (by kernel_rfl) Tryz.isAgg9 (M3.2.1.cell' 3 rfl)) ?_)
          refine sq (o_pv (.pointer (some ⟨z8, 4, none⟩)) rfl (by kernel_rfl) ?_)
          refine sq (o_pv (.string a.Q_) rfl (x_load1 (by kernel_rfl) Tryz.isAgg9 (M3.2.1.cell' 4 rfl)) ?_)
          refine sq (o_pv (.agg #[(.int .i64 (2 : Int)), (.string (ByteArray.mk #[])), (.string (ByteArray.mk #[])), (.int .i64 (0 : Int)), (.int .i64 (0 : Int)), (.int .i64 (0 : Int)), (.string a.P_), (.string a.Q_)]) rfl (by kernel_rfl) ?_)
          have I8 := (Old.step R7 z4)
          have U04 := (Evo.then0 O1 b5)
          have m07 := (Sub.trans K9 (Step.up z4))
          have n07 := (News.step J0 z4)
          have T04 := (MO.step0 O2 z4)
          have K0b := (OB.step0 b4 z4)
          have O8 := (Sl.step d4 z4)
          have O02 := (Sl.step k9 z4)
          have O9 := (Sl.step d5 z4)
          have S0 := (Sl.step d6 z4)
          obtain ⟨H0i, S2, o07⟩ := MO.pack (o_rectolaw5_Disk_mk K0b O8 rfl O02 rfl O9 rfl v1 v5 v2 v6 S0 rfl v7)
          have R04 := o07 _ (Ap.cons o4 (Ap.app (Ap.nil_r _) (Ap.app (Ap.nil_r _) (Ap.app (Ap.nil_r _) (Ap.app (Ap.nil_r _) (Ap.app (Ap.nil_r _) (Ap.app (Ap.nil_r _) (Ap.app (Ap.nil_r _) (Ap.app (Ap.nil_r _) (Ap.app (Ap.nil_r _) (Ap.app (Ap.nil_r _) (Ap.nil_r _))))))))))))
          refine sq (o_call 40 #[(.pointer (some ⟨z0, 0, none⟩)), (.agg #[(.int .i64 (2 : Int)), (.string (ByteArray.mk #[])), (.string (ByteArray.mk #[])), (.int .i64 (0 : Int)), (.int .i64 (0 : Int)), (.int .i64 (0 : Int)), (.string a.P_), (.string a.Q_)])] rfl (x_call Tryz.call40 (by kernel_rfl)) (rectolaw5_Disk_do_w (X := t0) (d := d) (o := (S_rectolaw5_op.mk (2 : Int) (S_rectolaw5_one.mk (ByteArray.mk #[]) (ByteArray.mk #[]) (0 : Int) (0 : Int) (0 : Int)) a.P_ a.Q_)) I8 (MO.re S2 (Wr.self _ _ (Sub.refl _))) (by decide : inR .i64 (2 : Int)) (by decide : (ByteArray.mk #[]).size ≤ maxLen) (by decide : (ByteArray.mk #[]).size ≤ maxLen) (by decide : inR .i64 (0 : Int)) (by decide : inR .i64 (0 : Int)) (by decide : inR .i64 (0 : Int)) y3 g0 hp) ?_)
          rintro _ G0i ⟨J0b, S3, hp, I0b, H0b, b6, rfl, S4, S02⟩
          have G0b := MO.re S4 (Wr.trans S4.wr S2.wr U04.size)
          have D0b := Ap.grow S4.wr R04 (MO.old T04) (Nat.le_refl _)
          replace hp := hp S02
          refine sq (o_pv (.int .i64 S3) rfl (by kernel_rfl) ?_)
          refine nil_ ?_
          refine blk_normal ?_
          have C0b := (Evo.thenW U04 (Step.evo b6) S2.wr)
          have v06 := (Old.step I8 b6)
          have c07 := (Sub.trans m07 (Step.up b6))
          have a07 := (News.step n07 b6)
          have B0b := (MO.step T04 b6 R04)
          refine then_normal (g2 _ _ _ ⟨[(11, (.int .i64 S3))], fit_mk (fun _ _ => rfl) (by kernel_rfl) (vs_cons (by kernel_rfl) vs_nil), ?_⟩)
          exact ⟨I0b, S3, J0b, H0b, rfl, C0b, v06, c07, a07, B0b, G0b, D0b, S02, hp⟩
         ·
          replace hp := hp.2 O7
          refine wp_skip ?_
          refine blk_normal ?_
          have u06 := (Old.step R7 z4)
          have E0b := (Evo.then0 O1 b5)
          have e07 := (Sub.trans K9 (Step.up z4))
          have i07 := (News.step J0 z4)
          have F0b := (MO.step0 O2 z4)
          have O0b := (OB.step0 b4 z4)
          have S5 := (Sl.step d4 z4)
          have A02 := (Sl.step k9 z4)
          have S6 := (Sl.step d5 z4)
          have S7 := (Sl.step d6 z4)
          obtain ⟨S0b, A0b, h07⟩ := MO.pack (o_rectolaw5_Disk_mk O0b S5 rfl A02 rfl S6 rfl v1 v5 v2 v6 S7 rfl v7)
          have W0b := h07 _ (Ap.cons o4 (Ap.app (Ap.nil_r _) (Ap.app (Ap.nil_r _) (Ap.app (Ap.nil_r _) (Ap.app (Ap.nil_r _) (Ap.app (Ap.nil_r _) (Ap.app (Ap.nil_r _) (Ap.app (Ap.nil_r _) (Ap.app (Ap.nil_r _) (Ap.app (Ap.nil_r _) (Ap.app (Ap.nil_r _) (Ap.nil_r _))))))))))))
          refine then_normal (g2 _ _ _ ⟨[(11, (.int .i64 (0 : Int)))], fit_mk (fun _ _ => rfl) (by kernel_rfl) (vs_cons (by kernel_rfl) vs_nil), ?_⟩)
          exact ⟨t0, (0 : Int), d, S0b, rfl, E0b, u06, e07, i07, F0b, A0b, W0b, (by decide : inR .i64 (0 : Int)), hp⟩
    ·
     rintro _ o3 D0i ⟨g7, u6, h9, M1, rfl, z0c, u0i, b07, f07, y0c, v0c, u0c, t06, p07⟩
     replace hp := S06 u6 h9 p07 t06
     refine then_normal (C0a _ _ _ _ ?_)
     refine seq_ (fun _ t0c => ?_)
     refine reg_ ?_
     refine sq (o_pv (.int .i64 n9) rfl (by kernel_rfl) ?_)
     refine sq (o_pv (.int .i64 u6) rfl (by kernel_rfl) ?_)
     refine sq (o_pv (.bool (decide (n9 = u6))) rfl (by kernel_rfl) ?_)
     refine sq (o_pv (.bool (decide (n9 = u6))) rfl (by kernel_rfl) ?_)
     refine nil_ ?_
     refine then_normal (t0c _ _ _ _ ?_)
     refine wp_ret ?_
     refine blk_ret ?_
     refine then_ret ?_
     refine then_ret ?_
     refine end_ret hQ (.bool (decide (n9 = u6))) (by kernel_rfl) ?_
     exact ⟨I02, h9, (decide (n9 = u6)), hp, g7, B0, M1, step_of z0c e7 b07 f07, rfl, y0c, v0c, u0c⟩
   ·
    replace hp := hp.2 C8
    refine seq_ (fun _ s0c => ?_)
    refine reg_ ?_
    refine sq (o_pv (.bool (decide (a.Op = (3 : Int)))) rfl (by kernel_rfl) ?_)
    refine sq (o_pv (.bool (decide (a.Op = (3 : Int)))) rfl (by kernel_rfl) ?_)
    refine nil_ ?_
    refine then_normal (s0c _ _ _ _ ?_)
    refine cond_d (a.Op = (3 : Int)) (by kernel_rfl) (fun S8 => ?_) (fun S8 => ?_)
    ·
     replace hp := hp.1 S8
     refine seq_ (fun _ r0c => ?_)
     refine reg_ ?_
     refine sq (o_pv (.pointer (some ⟨z6, 0, none⟩)) rfl (by kernel_rfl) ?_)
     refine sq (o_pv (.pointer (some ⟨z8, 3, none⟩)) rfl (by kernel_rfl) ?_)
     refine sq (o_pv (.string a.P_) rfl (x_load1 (by kernel_rfl) Tryz.isAgg9 (v9.2.1.cell' 3 rfl)) ?_)
     refine sq (o_call 46 #[(.pointer (some ⟨z6, 0, none⟩)), (.string a.P_)] rfl (x_call Tryz.call46 (by kernel_rfl)) (simfs_FS_Remove_w (X := m9) (f_ := f_) (p := a.P_) z2 (MO.re z1 (Wr.self _ _ (Sub.refl _))) y3 hp) ?_)
     rintro _ S9 ⟨W02, o5, hp, b7, A0, o6, rfl, A1, Z07⟩
     have P04 := MO.re A1 (Wr.trans A1.wr z1.wr z9.size)
     have q0c := Ap.grow A1.wr (Ap.symm hap) (MO.old z5) (Nat.le_refl _)
     replace hp := hp Z07
     refine sq (o_pv (.int .i64 o5) rfl (by kernel_rfl) ?_)
     refine nil_ ?_
     refine then_normal (r0c _ _ _ _ ?_)
     refine seq_ (fun _ k0c => ?_)
     refine reg_ ?_
     refine sq (o_pv (.int .i64 (0 : Int)) rfl (by kernel_rfl) ?_)
     refine nil_ ?_
     refine then_normal (k0c _ _ _ _ ?_)
     refine seq_ (fun _ j0c => ?_)
     have Y07 := (MO.step z5 o6 (Ap.symm hap))
     have I9 := (Old.step z2 o6)
     have N04 := (Evo.thenW z9 (Step.evo o6) z1.wr)
     have z03 := (Sub.trans y9 (Step.up o6))
     have y03 := (News.step v0 o6)
     have g0c := (OB.step v9 o6 (Ap.symm R9))
     obtain ⟨d0c, V07, hp⟩ := hp
     refine ground_ ?_
     refine join_ 178405621305878064193822282806579460279640064 (fun lq o7 => ∃ (d7 : List Nat) (u7 : Int) (b8 : S_rectolaw5_Disk) (M4 : List Nat), (lq = [(13, (.int .i64 u7))]) ∧ (Evo (z7 ++ y5) w o7) ∧ (Old d7 o7) ∧ (Sub X d7) ∧ (News X w d7 o7) ∧ (MO o_simfs_FS 78 (z7 ++ y5) w.heap.size d7 o7 A0 z6 W02) ∧ (MO o_rectolaw5_Disk 31 (z7 ++ y5) w.heap.size d7 o7 M4 z0 b8) ∧ (Ap (A0) (M4)) ∧ (inR .i64 u7) ∧ (d0c u7 b8)) (fun i0i J1 => ?_) ?_
     ·
      refine wp_block ?_
      refine seq_ (fun _ l0c => ?_)
      refine reg_ ?_
      refine sq (o_pv (.pointer (some ⟨z0, 0, none⟩)) rfl (by kernel_rfl) ?_)
      refine sq (o_pv (.pointer (some ⟨z0, 0, none⟩)) rfl (by kernel_rfl) ?_)
      obtain ⟨m0c, n0c, P2, P3, o0c, c0c, a0c, e0c, A2, d8, n1, d9, s9, r8, r0, r9, l0, q0, U07⟩ := o_rectolaw5_Disk_open Y07
      have A3 := Ap.subr (Ap.symm q0c) U07
      replace hp := hp (Sl.len d8)
      replace hp := hp (Sl.len n1)
      replace hp := hp (Sl.len d9)
      replace hp := hp s9
      replace hp := hp r8
      replace hp := hp r0
      replace hp := hp r9
      replace hp := hp (Sl.len l0)
      replace hp := hp q0
      refine sq (o_pv (.pointer (some ⟨z0, 6, none⟩)) rfl (by kernel_rfl) ?_)
      refine sq (o_pv (.bool d.off) rfl (x_load1 (by kernel_rfl) Tryz.isAgg4 (A2.2.1.cell' 6 rfl)) ?_)
      refine sq (o_pv (.bool d.off) rfl (by kernel_rfl) ?_)
      refine nil_ ?_
      refine then_normal (l0c _ _ _ _ ?_)
      refine cond_b d.off (by kernel_rfl) (fun A4 => ?_) (fun A4 => ?_)
      ·
       replace hp := hp.1 A4
       refine reg_ ?_
       refine sq (o_pv (.int .i64 (13 : Int)) rfl (by kernel_rfl) ?_)
       refine nil_ ?_
       refine blk_normal ?_
       obtain ⟨i0c, h0c, T07⟩ := MO.pack (o_rectolaw5_Disk_mk A2 d8 rfl n1 rfl d9 rfl s9 r8 r0 r9 l0 rfl q0)
       have b0c := T07 _ (Ap.cons A3 (Ap.app (Ap.nil_r _) (Ap.app (Ap.nil_r _) (Ap.app (Ap.nil_r _) (Ap.app (Ap.nil_r _) (Ap.app (Ap.nil_r _) (Ap.app (Ap.nil_r _) (Ap.app (Ap.nil_r _) (Ap.app (Ap.nil_r _) (Ap.app (Ap.nil_r _) (Ap.app (Ap.nil_r _) (Ap.nil_r _))))))))))))
       refine then_normal (J1 _ _ _ ⟨[(13, (.int .i64 (13 : Int)))], fit_mk (fun _ _ => rfl) (by kernel_rfl) (vs_cons (by kernel_rfl) vs_nil), ?_⟩)
       exact ⟨b7, (13 : Int), d, i0c, rfl, N04, I9, z03, y03, P04, h0c, b0c, (by decide : inR .i64 (13 : Int)), hp⟩
      ·
       replace hp := hp.2 A4
       refine seq_ (fun _ f0c => ?_)
       refine reg_drawn (RB S9.heap.size []) 8 (by kernel_rfl) (fun M04 J2 => ?_)
       have p0c := Evo.of_drew J2
       have A5 : M04.heap.size = S9.heap.size := by rw [J2]
       clear J2
       have s0 := Step.of0 b7 p0c
       have J3 := RB.refl S9.heap.size [] M04
       have H0 := (Old.step I9 s0)
       have L04 := (Evo.then0 N04 (Step.evo s0))
       have v03 := (Sub.trans z03 (Step.up s0))
       have u03 := (News.step y03 s0)
       have A6 := (OB.step0 g0c s0)
       have K04 := (MO.step0 P04 s0)
       have M5 := (OB.step0 A2 s0)
       have b9 := (Sl.step d8 s0)
       have n2 := (Sl.step n1 s0)
       have f0 := (Sl.step d9 s0)
       have f1 := (Sl.step l0 s0)
       refine r_take 0 (.pointer (some ⟨z0, 0, none⟩)) (RB.pre _ _) rfl (by kernel_rfl) (fun _ _ _ h => hQ.panic _ _ _ _ _ h) (.inl ⟨rfl, fun wq hq => (by kernel_rfl)⟩) ?_
       refine r_take 1 (.pointer (some ⟨z0, 0, none⟩)) (RB.pre _ _) rfl (by kernel_rfl) (fun _ _ _ h => hQ.panic _ _ _ _ _ h) (.inl ⟨rfl, fun wq hq => (by kernel_rfl)⟩) ?_
       refine r_take 2 (.pointer (some ⟨z0, 1, none⟩)) (RB.pre _ _) rfl (by kernel_rfl) (fun _ _ _ h => hQ.panic _ _ _ _ _ h) (.inl ⟨rfl, fun wq hq => (by kernel_rfl)⟩) ?_
       refine r_take 3 (.slice P2 d.now.length P3) (RB.pre _ _) rfl (by kernel_rfl) (fun _ _ _ h => hQ.panic _ _ _ _ _ h) (.inl ⟨rfl, fun wq hq => (x_load1 (by kernel_rfl) Tryz.isAgg27 ((Blk.rb M5.2.1 (RB.trans J3 hq) (Nat.lt_of_lt_of_eq (Blk.lt M5.2.1) A5) (fun h => by cases h)).cell' 1 rfl))⟩) ?_
       refine r_take 4 (.pointer (some ⟨z8, 3, none⟩)) (RB.pre _ _) rfl (by kernel_rfl) (fun _ _ _ h => hQ.panic _ _ _ _ _ h) (.inl ⟨rfl, fun wq hq => (by kernel_rfl)⟩) ?_
       refine r_take 5 (.string a.P_) (RB.pre _ _) rfl (by kernel_rfl) (fun _ _ _ h => hQ.panic _ _ _ _ _ h) (.inl ⟨rfl, fun wq hq => (x_load1 (by kernel_rfl) Tryz.isAgg9 ((Blk.rb A6.2.1 (RB.trans J3 hq) (Nat.lt_of_lt_of_eq (Blk.lt A6.2.1) A5) (fun h => by cases h)).cell' 3 rfl))⟩) ?_
       refine r_ready [6] (by kernel_rfl) rfl (all_cons ⟨_, _, _, _, _, _, rfl, ?_⟩ all_nil)
       refine o_call 43 #[(.slice P2 d.now.length P3), (.string a.P_)] rfl (x_call Tryz.call43 (by kernel_rfl)) (rectolaw5_get_w (X := []) (l := d.now) (p := a.P_) (Old.nil _) (Sl.less n2 (Sub.nil _)) y3 hp) ?_
       rintro _ C0i ⟨A7, hp, M6, rfl, R07⟩
       have rm := RB.mono (F' := []) M6 (Nat.le_trans (Nat.le_of_eq A5.symm) (RB.size J3)) (fun _ h => by cases h)
       refine ⟨fun _ => rm, ?_⟩
       have y8 := Step.of0 b7 M6
       replace hp := hp R07
       refine r_take 7 (.bool (decide (A7 < (0 : Int)))) (RB.pre _ _) rfl (by kernel_rfl) (fun _ _ _ h => hQ.panic _ _ _ _ _ h) (.inl ⟨rfl, fun wq hq => (by kernel_rfl)⟩) ?_
       refine r_ready [8] (by kernel_rfl) rfl (all_cons ⟨_, _, _, _, _, _, rfl, ?_⟩ all_nil)
       refine o_pv (.bool (decide (A7 < (0 : Int)))) rfl (by kernel_rfl) ?_
       refine ⟨fun h => absurd h (by decide), ?_⟩
       refine r_done (by kernel_rfl) ?_
       refine then_normal (f0c _ _ _ _ ?_)
       refine cond_d (A7 < (0 : Int)) (by kernel_rfl) (fun A8 => ?_) (fun A8 => ?_)
       ·
        replace hp := hp.1 A8
        refine reg_ ?_
        refine sq (o_pv (.int .i64 (5 : Int)) rfl (by kernel_rfl) ?_)
        refine nil_ ?_
        refine blk_normal ?_
        have s06 := (Old.step H0 y8)
        have Z0c := (Evo.then0 L04 M6)
        have P07 := (Sub.trans v03 (Step.up y8))
        have N07 := (News.step u03 y8)
        have Y0c := (MO.step0 K04 y8)
        have V0c := (OB.step0 M5 y8)
        have A9 := (Sl.step b9 y8)
        have t03 := (Sl.step n2 y8)
        have W0 := (Sl.step f0 y8)
        have W1 := (Sl.step f1 y8)
        obtain ⟨U0c, T0c, M07⟩ := MO.pack (o_rectolaw5_Disk_mk V0c A9 rfl t03 rfl W0 rfl s9 r8 r0 r9 W1 rfl q0)
        have R0c := M07 _ (Ap.cons A3 (Ap.app (Ap.nil_r _) (Ap.app (Ap.nil_r _) (Ap.app (Ap.nil_r _) (Ap.app (Ap.nil_r _) (Ap.app (Ap.nil_r _) (Ap.app (Ap.nil_r _) (Ap.app (Ap.nil_r _) (Ap.app (Ap.nil_r _) (Ap.app (Ap.nil_r _) (Ap.app (Ap.nil_r _) (Ap.nil_r _))))))))))))
        refine then_normal (J1 _ _ _ ⟨[(13, (.int .i64 (5 : Int)))], fit_mk (fun _ _ => rfl) (by kernel_rfl) (vs_cons (by kernel_rfl) vs_nil), ?_⟩)
        exact ⟨b7, (5 : Int), d, U0c, rfl, Z0c, s06, P07, N07, Y0c, T0c, R0c, (by decide : inR .i64 (5 : Int)), hp⟩
       ·
        replace hp := hp.2 A8
        refine reg_ ?_
        refine sq (o_pv (.pointer (some ⟨z0, 0, none⟩)) rfl (by kernel_rfl) ?_)
        refine sq (o_pv (.pointer (some ⟨z8, 3, none⟩)) rfl (by kernel_rfl) ?_)
        have P0c := (OB.step0 A6 y8)
        refine sq (o_pv (.string a.P_) rfl (x_load1 (by kernel_rfl) Tryz.isAgg9 (P0c.2.1.cell' 3 rfl)) ?_)
        refine sq (o_pv (.agg #[(.int .i64 (3 : Int)), (.string (ByteArray.mk #[])), (.string (ByteArray.mk #[])), (.int .i64 (0 : Int)), (.int .i64 (0 : Int)), (.int .i64 (0 : Int)), (.string a.P_), (.string (ByteArray.mk #[]))]) rfl (by kernel_rfl) ?_)
        have H1 := (Old.step H0 y8)
        have J04 := (Evo.then0 L04 M6)
        have L07 := (Sub.trans v03 (Step.up y8))
        have K07 := (News.step u03 y8)
        have I04 := (MO.step0 K04 y8)
        have N0c := (OB.step0 M5 y8)
        have W2 := (Sl.step b9 y8)
        have s03 := (Sl.step n2 y8)
        have W3 := (Sl.step f0 y8)
        have W4 := (Sl.step f1 y8)
        obtain ⟨B0i, W5, J07⟩ := MO.pack (o_rectolaw5_Disk_mk N0c W2 rfl s03 rfl W3 rfl s9 r8 r0 r9 W4 rfl q0)
        have H04 := J07 _ (Ap.cons A3 (Ap.app (Ap.nil_r _) (Ap.app (Ap.nil_r _) (Ap.app (Ap.nil_r _) (Ap.app (Ap.nil_r _) (Ap.app (Ap.nil_r _) (Ap.app (Ap.nil_r _) (Ap.app (Ap.nil_r _) (Ap.app (Ap.nil_r _) (Ap.app (Ap.nil_r _) (Ap.app (Ap.nil_r _) (Ap.nil_r _))))))))))))
        refine sq (o_call 40 #[(.pointer (some ⟨z0, 0, none⟩)), (.agg #[(.int .i64 (3 : Int)), (.string (ByteArray.mk #[])), (.string (ByteArray.mk #[])), (.int .i64 (0 : Int)), (.int .i64 (0 : Int)), (.int .i64 (0 : Int)), (.string a.P_), (.string (ByteArray.mk #[]))])] rfl (x_call Tryz.call40 (by kernel_rfl)) (rectolaw5_Disk_do_w (X := b7) (d := d) (o := (S_rectolaw5_op.mk (3 : Int) (S_rectolaw5_one.mk (ByteArray.mk #[]) (ByteArray.mk #[]) (0 : Int) (0 : Int) (0 : Int)) a.P_ (ByteArray.mk #[]))) H1 (MO.re W5 (Wr.self _ _ (Sub.refl _))) (by decide : inR .i64 (3 : Int)) (by decide : (ByteArray.mk #[]).size ≤ maxLen) (by decide : (ByteArray.mk #[]).size ≤ maxLen) (by decide : inR .i64 (0 : Int)) (by decide : inR .i64 (0 : Int)) (by decide : inR .i64 (0 : Int)) y3 (by decide : (ByteArray.mk #[]).size ≤ maxLen) hp) ?_)
        rintro _ E0i ⟨M0c, W6, hp, L0c, K0c, f2, rfl, W7, r03⟩
        have J0c := MO.re W7 (Wr.trans W7.wr W5.wr J04.size)
        have I0c := Ap.grow W7.wr H04 (MO.old I04) (Nat.le_refl _)
        replace hp := hp r03
        refine sq (o_pv (.int .i64 W6) rfl (by kernel_rfl) ?_)
        refine nil_ ?_
        refine blk_normal ?_
        have H0c := (Evo.thenW J04 (Step.evo f2) W5.wr)
        have r06 := (Old.step H1 f2)
        have I07 := (Sub.trans L07 (Step.up f2))
        have H07 := (News.step K07 f2)
        have G0c := (MO.step I04 f2 H04)
        refine then_normal (J1 _ _ _ ⟨[(13, (.int .i64 W6))], fit_mk (fun _ _ => rfl) (by kernel_rfl) (vs_cons (by kernel_rfl) vs_nil), ?_⟩)
        exact ⟨L0c, W6, M0c, K0c, rfl, H0c, r06, I07, H07, G0c, J0c, I0c, r03, hp⟩
     ·
      rintro _ o7 F0i ⟨d7, u7, b8, M4, rfl, D0c, t0i, G07, D07, C0c, B0c, E0c, q06, C07⟩
      replace hp := V07 u7 b8 C07 q06
      refine then_normal (j0c _ _ _ _ ?_)
      refine seq_ (fun _ F0c => ?_)
      refine reg_ ?_
      refine sq (o_pv (.int .i64 o5) rfl (by kernel_rfl) ?_)
      refine sq (o_pv (.int .i64 u7) rfl (by kernel_rfl) ?_)
      refine sq (o_pv (.bool (decide (o5 = u7))) rfl (by kernel_rfl) ?_)
      refine sq (o_pv (.bool (decide (o5 = u7))) rfl (by kernel_rfl) ?_)
      refine nil_ ?_
      refine then_normal (F0c _ _ _ _ ?_)
      refine wp_ret ?_
      refine blk_ret ?_
      refine then_ret ?_
      refine then_ret ?_
      refine end_ret hQ (.bool (decide (o5 = u7))) (by kernel_rfl) ?_
      exact ⟨W02, b8, (decide (o5 = u7)), hp, d7, A0, M4, step_of D0c e7 G07 D07, rfl, C0c, B0c, E0c⟩
    ·
     replace hp := hp.2 S8
     refine seq_ (fun _ O0c => ?_)
     refine reg_ ?_
     refine sq (o_pv (.bool (decide (a.Op = (4 : Int)))) rfl (by kernel_rfl) ?_)
     refine sq (o_pv (.bool (decide (a.Op = (4 : Int)))) rfl (by kernel_rfl) ?_)
     refine nil_ ?_
     refine then_normal (O0c _ _ _ _ ?_)
     refine cond_d (a.Op = (4 : Int)) (by kernel_rfl) (fun W8 => ?_) (fun W8 => ?_)
     ·
      replace hp := hp.1 W8
      refine seq_ (fun _ S0c => ?_)
      refine reg_ ?_
      refine sq (o_pv (.pointer (some ⟨z6, 0, none⟩)) rfl (by kernel_rfl) ?_)
      refine sq (o_call 47 #[(.pointer (some ⟨z6, 0, none⟩))] rfl (x_call Tryz.call47 (by kernel_rfl)) (simfs_FS_Sync_w (X := m9) (f_ := f_) z2 (MO.re z1 (Wr.self _ _ (Sub.refl _))) hp) ?_)
      rintro _ O0i ⟨q03, s1, hp, G04, D04, j0, rfl, W9, B07⟩
      have z00 := MO.re W9 (Wr.trans W9.wr z1.wr z9.size)
      have A0c := Ap.grow W9.wr (Ap.symm hap) (MO.old z5) (Nat.le_refl _)
      replace hp := hp B07
      refine sq (o_pv (.int .i64 s1) rfl (by kernel_rfl) ?_)
      refine nil_ ?_
      refine then_normal (S0c _ _ _ _ ?_)
      refine seq_ (fun _ W0c => ?_)
      refine seq_ (fun _ z0d => ?_)
      refine reg_ ?_
      refine sq (o_pv (.pointer (some ⟨z0, 0, none⟩)) rfl (by kernel_rfl) ?_)
      refine sq (o_pv (.pointer (some ⟨z0, 0, none⟩)) rfl (by kernel_rfl) ?_)
      have E07 := (MO.step z5 j0 (Ap.symm hap))
      obtain ⟨y0d, v0d, E0h, F0h, u0d, t0d, s0d, r0d, y00, l1, n3, l2, j8, l3, j9, l4, l5, l6, F07⟩ := o_rectolaw5_Disk_open E07
      have C04 := Ap.subr (Ap.symm A0c) F07
      replace hp := hp (Sl.len l1)
      replace hp := hp (Sl.len n3)
      replace hp := hp (Sl.len l2)
      replace hp := hp j8
      replace hp := hp l3
      replace hp := hp j9
      replace hp := hp l4
      replace hp := hp (Sl.len l5)
      replace hp := hp l6
      refine sq (o_pv (.pointer (some ⟨z0, 6, none⟩)) rfl (by kernel_rfl) ?_)
      refine sq (o_pv (.bool d.off) rfl (x_load1 (by kernel_rfl) Tryz.isAgg4 (y00.2.1.cell' 6 rfl)) ?_)
      refine nil_ ?_
      refine then_normal (z0d _ _ _ _ ?_)
      refine cond_b d.off (by kernel_rfl) (fun v00 => ?_) (fun v00 => ?_)
      ·
       replace hp := hp.1 v00
       refine seq_ (fun _ q0d => ?_)
       refine reg_ ?_
       refine sq (o_pv (.int .i64 s1) rfl (by kernel_rfl) ?_)
       refine sq (o_pv (.bool (decide (s1 = (13 : Int)))) rfl (by kernel_rfl) ?_)
       refine sq (o_pv (.bool (decide (s1 = (13 : Int)))) rfl (by kernel_rfl) ?_)
       refine nil_ ?_
       refine then_normal (q0d _ _ _ _ ?_)
       refine wp_ret ?_
       refine then_ret ?_
       refine blk_ret ?_
       refine then_ret ?_
       refine then_ret ?_
       have k0d := (Evo.thenW z9 (Step.evo j0) z1.wr)
       have O07 := (Sub.trans y9 (Step.up j0))
       have S07 := (News.step v0 j0)
       obtain ⟨j0d, g0d, A07⟩ := MO.pack (o_rectolaw5_Disk_mk y00 l1 rfl n3 rfl l2 rfl j8 l3 j9 l4 l5 rfl l6)
       have d0d := A07 _ (Ap.cons C04 (Ap.app (Ap.nil_r _) (Ap.app (Ap.nil_r _) (Ap.app (Ap.nil_r _) (Ap.app (Ap.nil_r _) (Ap.app (Ap.nil_r _) (Ap.app (Ap.nil_r _) (Ap.app (Ap.nil_r _) (Ap.app (Ap.nil_r _) (Ap.app (Ap.nil_r _) (Ap.app (Ap.nil_r _) (Ap.nil_r _))))))))))))
       refine end_ret hQ (.bool (decide (s1 = (13 : Int)))) (by kernel_rfl) ?_
       exact ⟨q03, d, (decide (s1 = (13 : Int))), hp, G04, D04, j0d, step_of k0d e7 O07 S07, rfl, z00, g0d, d0d⟩
      ·
       replace hp := hp.2 v00
       refine wp_skip ?_
       refine then_normal (W0c _ _ _ _ ?_)
       refine seq_ (fun _ l0d => ?_)
       refine reg_ ?_
       refine sq (o_pv (.pointer (some ⟨z0, 0, none⟩)) rfl (by kernel_rfl) ?_)
       have k06 := (Old.step z2 j0)
       have B04 := (Evo.thenW z9 (Step.evo j0) z1.wr)
       have W07 := (Sub.trans y9 (Step.up j0))
       have z08 := (News.step v0 j0)
       obtain ⟨S0i, u00, y08⟩ := MO.pack (o_rectolaw5_Disk_mk y00 l1 rfl n3 rfl l2 rfl j8 l3 j9 l4 l5 rfl l6)
       have E04 := y08 _ (Ap.cons C04 (Ap.app (Ap.nil_r _) (Ap.app (Ap.nil_r _) (Ap.app (Ap.nil_r _) (Ap.app (Ap.nil_r _) (Ap.app (Ap.nil_r _) (Ap.app (Ap.nil_r _) (Ap.app (Ap.nil_r _) (Ap.app (Ap.nil_r _) (Ap.app (Ap.nil_r _) (Ap.app (Ap.nil_r _) (Ap.nil_r _))))))))))))
       refine sq (o_call 48 #[(.pointer (some ⟨z0, 0, none⟩))] rfl (x_call Tryz.call48 (by kernel_rfl)) (rectolaw5_Disk_sync_w (X := G04) (d := d) k06 (MO.re u00 (Wr.self _ _ (Sub.refl _))) hp) ?_)
       rintro _ A0i ⟨m0d, hp, n0d, o0d, M7, rfl, t00⟩
       have c0d := MO.re t00 (Wr.trans t00.wr u00.wr B04.size)
       have a0d := Ap.grow t00.wr E04 (MO.old z00) (Nat.le_refl _)
       refine nil_ ?_
       refine then_normal (l0d _ _ _ _ ?_)
       refine seq_ (fun _ e0d => ?_)
       refine reg_ ?_
       refine sq (o_pv (.int .i64 s1) rfl (by kernel_rfl) ?_)
       refine sq (o_pv (.bool (decide (s1 = (0 : Int)))) rfl (by kernel_rfl) ?_)
       refine sq (o_pv (.bool (decide (s1 = (0 : Int)))) rfl (by kernel_rfl) ?_)
       refine nil_ ?_
       refine then_normal (e0d _ _ _ _ ?_)
       refine wp_ret ?_
       refine blk_ret ?_
       refine then_ret ?_
       refine then_ret ?_
       have i0d := (Evo.thenW B04 (Step.evo M7) u00.wr)
       have v08 := (Sub.trans W07 (Step.up M7))
       have u08 := (News.step z08 M7)
       have h0d := (MO.step z00 M7 E04)
       refine end_ret hQ (.bool (decide (s1 = (0 : Int)))) (by kernel_rfl) ?_
       exact ⟨q03, m0d, (decide (s1 = (0 : Int))), hp, n0d, D04, o0d, step_of i0d e7 v08 u08, rfl, h0d, c0d, a0d⟩
     ·
      replace hp := hp.2 W8
      refine seq_ (fun _ b0d => ?_)
      refine reg_ ?_
      refine sq (o_pv (.bool (decide (a.Op = (5 : Int)))) rfl (by kernel_rfl) ?_)
      refine sq (o_pv (.bool (decide (a.Op = (5 : Int)))) rfl (by kernel_rfl) ?_)
      refine nil_ ?_
      refine then_normal (b0d _ _ _ _ ?_)
      refine cond_d (a.Op = (5 : Int)) (by kernel_rfl) (fun s00 => ?_) (fun s00 => ?_)
      ·
       replace hp := hp.1 s00
       refine seq_ (fun _ f0d => ?_)
       refine reg_ ?_
       refine sq (o_pv (.pointer (some ⟨z6, 0, none⟩)) rfl (by kernel_rfl) ?_)
       refine sq (o_pv (.pointer (some ⟨z8, 2, none⟩)) rfl (by kernel_rfl) ?_)
       refine sq (o_pv (.int .i64 a.N) rfl (x_load1 (by kernel_rfl) Tryz.isAgg3 (v9.2.1.cell' 2 rfl)) ?_)
       refine sq (o_pv (.pointer (some ⟨z8, 6, none⟩)) rfl (by kernel_rfl) ?_)
       refine sq (o_pv (.slice y0 a.Keep.length y1) rfl (x_load1 (by kernel_rfl) Tryz.isAgg29 (v9.2.1.cell' 6 rfl)) ?_)
       refine sq (o_call 21 #[(.pointer (some ⟨z6, 0, none⟩)), (.int .i64 a.N), (.slice y0 a.Keep.length y1)] rfl (x_call Tryz.call21 (by kernel_rfl)) (simfs_FS_Arm_w (X := m9) (f_ := f_) (n_ := a.N) (keep := a.Keep) z2 (MO.re z1 (Wr.self _ _ (Sub.refl _))) L9 r5 hp) ?_)
       rintro _ W0i ⟨k03, hp, F04, O04, j1, rfl, r00⟩
       have p0d := MO.re r00 (Wr.trans r00.wr z1.wr z9.size)
       have Z0d := Ap.grow r00.wr (Ap.symm hap) (MO.old z5) (Nat.le_refl _)
       refine nil_ ?_
       refine then_normal (f0d _ _ _ _ ?_)
       refine seq_ (fun _ Y0d => ?_)
       refine reg_ ?_
       refine sq (o_pv (.pointer (some ⟨z0, 0, none⟩)) rfl (by kernel_rfl) ?_)
       refine sq (o_pv (.pointer (some ⟨z0, 0, none⟩)) rfl (by kernel_rfl) ?_)
       have t08 := (MO.step z5 j1 (Ap.symm hap))
       obtain ⟨u0, u1, t5, t6, u2, u3, s2, s3, S04, f3, P4, f4, a2, f5, a3, q00, f6, f7, j03⟩ := o_rectolaw5_Disk_open t08
       have k00 := Ap.subr (Ap.symm q04) j03
       have f8 := Ap.subr (Ap.symm Z0d) j03
       replace hp := hp (Sl.len f3)
       replace hp := hp (Sl.len P4)
       replace hp := hp (Sl.len f4)
       replace hp := hp a2
       replace hp := hp f5
       replace hp := hp a3
       replace hp := hp q00
       replace hp := hp (Sl.len f6)
       replace hp := hp f7
       refine sq (o_pv (.pointer (some ⟨z0, 7, none⟩)) rfl (by kernel_rfl) ?_)
       have V0d := (OB.step v9 j1 (Ap.symm R9))
       have U0d := (Evo.thenW z9 (Step.evo j1) z1.wr)
       refine sq (o_stB (o := 7) (v := (.bool true)) [(.slice u0 d.kept.length u1), (.slice t5 d.now.length t6), (.slice u2 d.wait.length u3), (.int .i64 d.quota), (.int .i64 d.time), (.int .i64 d.inode), (.bool d.off), (.bool true), (.int .i64 d.left), (.slice s2 d.keep.length s3), (.int .i64 d.ops_)] rfl S04 (by kernel_rfl) (by kernel_rfl) Tryz.sizeOf4 rfl rfl rfl ?_)
       intro z0j t1 A04
       refine nil_ ?_
       refine then_normal (Y0d _ _ _ _ ?_)
       refine seq_ (fun _ T0d => ?_)
       refine reg_ ?_
       refine sq (o_pv (.pointer (some ⟨z0, 0, none⟩)) rfl (by kernel_rfl) ?_)
       refine sq (o_pv (.pointer (some ⟨z8, 2, none⟩)) rfl (by kernel_rfl) ?_)
       have W04 := (OB.step V0d t1 k00)
       refine sq (o_pv (.int .i64 a.N) rfl (x_load1 (by kernel_rfl) Tryz.isAgg3 (W04.2.1.cell' 2 rfl)) ?_)
       refine sq (o_pv (.pointer (some ⟨z0, 0, none⟩)) rfl (by kernel_rfl) ?_)
       refine sq (o_pv (.pointer (some ⟨z0, 8, none⟩)) rfl (by kernel_rfl) ?_)
       have R0d := (MO.step p0d t1 f8)
       have P0d := (Evo.thenW U0d (Step.evo t1) S04.2.2)
       refine sq (o_stB (o := 8) (v := (.int .i64 a.N)) [(.slice u0 d.kept.length u1), (.slice t5 d.now.length t6), (.slice u2 d.wait.length u3), (.int .i64 d.quota), (.int .i64 d.time), (.int .i64 d.inode), (.bool d.off), (.bool true), (.int .i64 a.N), (.slice s2 d.keep.length s3), (.int .i64 d.ops_)] rfl A04 (by kernel_rfl) (by kernel_rfl) Tryz.sizeOf3 rfl rfl rfl ?_)
       intro y0j t2 M8
       refine nil_ ?_
       refine then_normal (T0d _ _ _ _ ?_)
       refine seq_ (fun _ N0d => ?_)
       refine seq_ (fun _ M0d => ?_)
       refine reg_ ?_
       refine sq (o_pv (.pointer (some ⟨z0, 0, none⟩)) rfl (by kernel_rfl) ?_)
       refine sq (o_pv (.pointer (some ⟨z0, 0, none⟩)) rfl (by kernel_rfl) ?_)
       refine sq (o_pv (.pointer (some ⟨z0, 8, none⟩)) rfl (by kernel_rfl) ?_)
       refine sq (o_pv (.int .i64 a.N) rfl (x_load1 (by kernel_rfl) Tryz.isAgg3 (M8.2.1.cell' 8 rfl)) ?_)
       refine sq (o_pv (.bool (decide (a.N < (1 : Int)))) rfl (by kernel_rfl) ?_)
       refine nil_ ?_
       refine then_normal (M0d _ _ _ _ ?_)
       have H2 := (Sl.step (Sl.step (Sl.step s7 j1) t1) t2)
       have f9 := (Sl.step (Sl.step (Sl.step r5 j1) t1) t2)
       have H3 := (Old.step (Old.step (Old.step z2 j1) t1) t2)
       have z05 := (Evo.thenW P0d (Step.evo t2) A04.2.2)
       have g03 := (Sub.trans (Sub.trans (Sub.trans y9 (Step.up j1)) (Step.up t1)) (Step.up t2))
       have d03 := (News.step (News.step (News.step v0 j1) t1) t2)
       have y05 := (OB.step W04 t2 k00)
       have v05 := (MO.step R0d t2 f8)
       have p0 := (Sl.step (Sl.step f3 t1) t2)
       have P5 := (Sl.step (Sl.step P4 t1) t2)
       have p1 := (Sl.step (Sl.step f4 t1) t2)
       have p2 := (Sl.step (Sl.step f6 t1) t2)
       obtain ⟨L0d, s08, hp⟩ := hp
       refine ground_ ?_
       refine join_ 343279001153959104272269734081669257130597563369126887424 (fun lq u4 => ∃ (v8 : List Nat) (l7 : Int), (lq = []) ∧ (Evo (z7 ++ y5) w u4) ∧ (Old v8 u4) ∧ (Sub X v8) ∧ (News X w v8 u4) ∧ (Sl r_rectolaw5_one v8 u4 u0 u1 d.kept) ∧ (Sl r_rectolaw5_one v8 u4 t5 t6 d.now) ∧ (Sl r_rectolaw5_op v8 u4 u2 u3 d.wait) ∧ (Sl rBool v8 u4 s2 s3 d.keep) ∧ (Sl (rInt .u8) v8 u4 v3 v4 a.B) ∧ (Sl rBool v8 u4 y0 y1 a.Keep) ∧ (OB ([]) w.heap.size v8 u4 z8 [(.int .i64 a.Op), (.int .i64 a.Mode), (.int .i64 a.N), (.string a.P_), (.string a.Q_), (.slice v3 a.B.length v4), (.slice y0 a.Keep.length y1)] 34) ∧ (MO o_simfs_FS 78 (z7 ++ y5) w.heap.size v8 u4 O04 z6 k03) ∧ (OB (z7 ++ y5) w.heap.size v8 u4 z0 [(.slice u0 d.kept.length u1), (.slice t5 d.now.length t6), (.slice u2 d.wait.length u3), (.int .i64 d.quota), (.int .i64 d.time), (.int .i64 d.inode), (.bool d.off), (.bool true), (.int .i64 l7), (.slice s2 d.keep.length s3), (.int .i64 d.ops_)] 31) ∧ (inR .i64 l7) ∧ (L0d l7)) (fun h0i l03 => ?_) ?_
       ·
        refine cond_d (a.N < (1 : Int)) (by kernel_rfl) (fun j00 => ?_) (fun j00 => ?_)
        ·
         replace hp := hp.1 j00
         refine reg_ ?_
         refine sq (o_pv (.pointer (some ⟨z0, 0, none⟩)) rfl (by kernel_rfl) ?_)
         refine sq (o_pv (.pointer (some ⟨z0, 0, none⟩)) rfl (by kernel_rfl) ?_)
         refine sq (o_pv (.pointer (some ⟨z0, 8, none⟩)) rfl (by kernel_rfl) ?_)
         refine sq (o_stB (o := 8) (v := (.int .i64 (1 : Int))) [(.slice u0 d.kept.length u1), (.slice t5 d.now.length t6), (.slice u2 d.wait.length u3), (.int .i64 d.quota), (.int .i64 d.time), (.int .i64 d.inode), (.bool d.off), (.bool true), (.int .i64 (1 : Int)), (.slice s2 d.keep.length s3), (.int .i64 d.ops_)] rfl M8 (by kernel_rfl) (by kernel_rfl) Tryz.sizeOf3 rfl rfl rfl ?_)
         intro v0j t3 K0d
         refine nil_ ?_
         have J0d := (Evo.thenW z05 (Step.evo t3) M8.2.2)
         have j06 := (Old.step H3 t3)
         have r08 := (Sub.trans g03 (Step.up t3))
         have q08 := (News.step d03 t3)
         have g00 := (Sl.step p0 t3)
         have m03 := (Sl.step P5 t3)
         have d00 := (Sl.step p1 t3)
         have l00 := (Sl.step p2 t3)
         have g06 := (Sl.step H2 t3)
         have m00 := (Sl.step f9 t3)
         have I0d := (OB.step y05 t3 k00)
         have H0d := (MO.step v05 t3 f8)
         refine then_normal (l03 _ _ _ ⟨[], fit_mk (fun _ _ => rfl) (by kernel_rfl) vs_nil, ?_⟩)
         exact ⟨F04, (1 : Int), rfl, J0d, j06, r08, q08, g00, m03, d00, l00, g06, m00, I0d, H0d, K0d, (by decide : inR .i64 (1 : Int)), hp⟩
        ·
         replace hp := hp.2 j00
         refine wp_skip ?_
         refine then_normal (l03 _ _ _ ⟨[], fit_mk (fun _ _ => rfl) (by kernel_rfl) vs_nil, ?_⟩)
         exact ⟨F04, a.N, rfl, z05, H3, g03, d03, p0, P5, p1, p2, H2, f9, y05, v05, M8, L9, hp⟩
       ·
        rintro _ u4 u0j ⟨v8, l7, rfl, G0d, d06, k08, j08, n00, n03, o00, D0d, s0i, c00, C0d, B0d, u05, o03, g08⟩
        replace hp := s08 l7 g08 o03
        refine then_normal (N0d _ _ _ _ ?_)
        refine reg_ ?_
        refine sq (o_pv (.pointer (some ⟨z0, 0, none⟩)) rfl (by kernel_rfl) ?_)
        refine sq (o_pv (.pointer (some ⟨z8, 6, none⟩)) rfl (by kernel_rfl) ?_)
        refine sq (o_pv (.slice y0 a.Keep.length y1) rfl (x_load1 (by kernel_rfl) Tryz.isAgg29 (C0d.2.1.cell' 6 rfl)) ?_)
        refine sq (o_pv (.pointer (some ⟨z0, 0, none⟩)) rfl (by kernel_rfl) ?_)
        refine sq (o_pv (.pointer (some ⟨z0, 9, none⟩)) rfl (by kernel_rfl) ?_)
        refine sq (o_stB (o := 9) (v := (.slice y0 a.Keep.length y1)) [(.slice u0 d.kept.length u1), (.slice t5 d.now.length t6), (.slice u2 d.wait.length u3), (.int .i64 d.quota), (.int .i64 d.time), (.int .i64 d.inode), (.bool d.off), (.bool true), (.int .i64 l7), (.slice y0 a.Keep.length y1), (.int .i64 d.ops_)] rfl u05 (by kernel_rfl) (by kernel_rfl) Tryz.sizeOf29 rfl rfl rfl ?_)
        intro t0j q1 E0d
        refine nil_ ?_
        refine blk_normal ?_
        have F0d := (Evo.thenW G0d (Step.evo q1) u05.2.2)
        have l06 := (Old.step d06 q1)
        have d08 := (Sub.trans k08 (Step.up q1))
        have l08 := (News.step j08 q1)
        have a00 := (Sl.step n00 q1)
        have c03 := (Sl.step n03 q1)
        have e00 := (Sl.step o00 q1)
        have i00 := (Sl.step c00 q1)
        have O0d := (MO.step B0d q1 f8)
        obtain ⟨S0d, A0d, m08⟩ := MO.pack (o_rectolaw5_Disk_mk E0d a00 rfl c03 rfl e00 rfl a2 f5 a3 o03 i00 rfl f7)
        have W0d := m08 _ (Ap.cons f8 (Ap.app (Ap.nil_r _) (Ap.app (Ap.nil_r _) (Ap.app (Ap.nil_r _) (Ap.app (Ap.nil_r _) (Ap.app (Ap.nil_r _) (Ap.app (Ap.nil_r _) (Ap.app (Ap.nil_r _) (Ap.app (Ap.nil_r _) (Ap.app (Ap.nil_r _) (Ap.app (Ap.nil_r _) (Ap.nil_r _))))))))))))
        refine then_normal (g1 _ _ _ ⟨[], fit_mk (AgB.nest (AgB.look (fun _ _ => rfl) (by kernel_rfl)) (by kernel_rfl) (by kernel_rfl)) (by kernel_rfl) vs_nil, ?_⟩)
        exact ⟨v8, k03, (S_rectolaw5_Disk.mk d.kept d.now d.wait d.quota d.time d.inode d.off true l7 a.Keep d.ops_), O04, S0d, rfl, F0d, l06, d08, l08, O0d, A0d, W0d, hp⟩
      ·
       replace hp := hp.2 s00
       refine seq_ (fun _ z0e => ?_)
       refine reg_ ?_
       refine sq (o_pv (.bool (decide (a.Op = (6 : Int)))) rfl (by kernel_rfl) ?_)
       refine sq (o_pv (.bool (decide (a.Op = (6 : Int)))) rfl (by kernel_rfl) ?_)
       refine nil_ ?_
       refine then_normal (z0e _ _ _ _ ?_)
       refine cond_d (a.Op = (6 : Int)) (by kernel_rfl) (fun h00 => ?_) (fun h00 => ?_)
       ·
        replace hp := hp.1 h00
        refine seq_ (fun _ y0e => ?_)
        refine reg_ ?_
        refine sq (o_pv (.pointer (some ⟨z6, 0, none⟩)) rfl (by kernel_rfl) ?_)
        refine sq (o_pv (.pointer (some ⟨z8, 6, none⟩)) rfl (by kernel_rfl) ?_)
        refine sq (o_pv (.slice y0 a.Keep.length y1) rfl (x_load1 (by kernel_rfl) Tryz.isAgg29 (v9.2.1.cell' 6 rfl)) ?_)
        refine sq (o_call 11 #[(.pointer (some ⟨z6, 0, none⟩)), (.slice y0 a.Keep.length y1)] rfl (x_call Tryz.call11 (by kernel_rfl)) (simfs_FS_Cut_w (X := m9) (f_ := f_) (keep := a.Keep) z2 (MO.re z1 (Wr.self _ _ (Sub.refl _))) r5 hp) ?_)
        rintro _ s0j ⟨n08, hp, v0e, u0e, l8, rfl, b00⟩
        have t05 := MO.re b00 (Wr.trans b00.wr z1.wr z9.size)
        have s05 := Ap.grow b00.wr (Ap.symm hap) (MO.old z5) (Nat.le_refl _)
        refine nil_ ?_
        refine then_normal (y0e _ _ _ _ ?_)
        refine reg_ ?_
        refine sq (o_pv (.pointer (some ⟨z0, 0, none⟩)) rfl (by kernel_rfl) ?_)
        refine sq (o_pv (.pointer (some ⟨z8, 6, none⟩)) rfl (by kernel_rfl) ?_)
        have t0e := (OB.step v9 l8 (Ap.symm R9))
        refine sq (o_pv (.slice y0 a.Keep.length y1) rfl (x_load1 (by kernel_rfl) Tryz.isAgg29 (t0e.2.1.cell' 6 rfl)) ?_)
        have f00 := (Sl.step r5 l8)
        have J4 := (MO.step z5 l8 (Ap.symm hap))
        have H4 := (Old.step z2 l8)
        have r05 := (Evo.thenW z9 (Step.evo l8) z1.wr)
        have o08 := (Sub.trans y9 (Step.up l8))
        have c08 := (News.step v0 l8)
        refine sq (o_call 49 #[(.pointer (some ⟨z0, 0, none⟩)), (.slice y0 a.Keep.length y1)] rfl (x_call Tryz.call49 (by kernel_rfl)) (rectolaw5_Disk_power_w (X := v0e) (d := d) (keep := a.Keep) H4 (MO.re J4 (Wr.self _ _ (Sub.refl _))) f00 hp) ?_)
        rintro _ r0j ⟨s0e, hp, r0e, q0e, p3, rfl, p00⟩
        have k0e := MO.re p00 (Wr.trans p00.wr J4.wr r05.size)
        have j0e := Ap.grow p00.wr (Ap.symm s05) (MO.old t05) (Nat.le_refl _)
        refine nil_ ?_
        refine blk_normal ?_
        have g0e := (Evo.thenW r05 (Step.evo p3) J4.wr)
        have m06 := (Old.step H4 p3)
        have a08 := (Sub.trans o08 (Step.up p3))
        have e08 := (News.step c08 p3)
        have d0e := (MO.step t05 p3 (Ap.symm s05))
        refine then_normal (g1 _ _ _ ⟨[], fit_mk (fun _ _ => rfl) (by kernel_rfl) vs_nil, ?_⟩)
        exact ⟨r0e, n08, s0e, u0e, q0e, rfl, g0e, m06, a08, e08, d0e, k0e, j0e, hp⟩
       ·
        replace hp := hp.2 h00
        refine seq_ (fun _ l0e => ?_)
        refine reg_ ?_
        refine sq (o_pv (.bool (decide (a.Op = (7 : Int)))) rfl (by kernel_rfl) ?_)
        refine sq (o_pv (.bool (decide (a.Op = (7 : Int)))) rfl (by kernel_rfl) ?_)
        refine nil_ ?_
        refine then_normal (l0e _ _ _ _ ?_)
        refine cond_d (a.Op = (7 : Int)) (by kernel_rfl) (fun Z00 => ?_) (fun Z00 => ?_)
        ·
         replace hp := hp.1 Z00
         refine seq_ (fun _ m0e => ?_)
         refine reg_ ?_
         refine sq (o_pv (.pointer (some ⟨z6, 0, none⟩)) rfl (by kernel_rfl) ?_)
         refine sq (o_call 22 #[(.pointer (some ⟨z6, 0, none⟩))] rfl (x_call Tryz.call22 (by kernel_rfl)) (simfs_FS_On_w (X := m9) (f_ := f_) z2 (MO.re z1 (Wr.self _ _ (Sub.refl _))) hp) ?_)
         rintro _ q0j ⟨i08, hp, n0e, o0e, p4, rfl, Y00⟩
         have c0e := MO.re Y00 (Wr.trans Y00.wr z1.wr z9.size)
         have a0e := Ap.grow Y00.wr (Ap.symm hap) (MO.old z5) (Nat.le_refl _)
         refine nil_ ?_
         refine then_normal (m0e _ _ _ _ ?_)
         refine reg_ ?_
         refine sq (o_pv (.pointer (some ⟨z0, 0, none⟩)) rfl (by kernel_rfl) ?_)
         refine sq (o_pv (.pointer (some ⟨z0, 0, none⟩)) rfl (by kernel_rfl) ?_)
         have h08 := (MO.step z5 p4 (Ap.symm hap))
         obtain ⟨V00, U00, a03, e03, T00, R00, P00, N00, q05, p5, P6, p6, a4, p7, a5, p8, p9, Z0, b08⟩ := o_rectolaw5_Disk_open h08
         have k05 := Ap.subr (Ap.symm a0e) b08
         replace hp := hp (Sl.len p5)
         replace hp := hp (Sl.len P6)
         replace hp := hp (Sl.len p6)
         replace hp := hp a4
         replace hp := hp p7
         replace hp := hp a5
         replace hp := hp p8
         replace hp := hp (Sl.len p9)
         replace hp := hp Z0
         refine sq (o_pv (.pointer (some ⟨z0, 6, none⟩)) rfl (by kernel_rfl) ?_)
         have e0e := (Evo.thenW z9 (Step.evo p4) z1.wr)
         refine sq (o_stB (o := 6) (v := (.bool false)) [(.slice V00 d.kept.length U00), (.slice a03 d.now.length e03), (.slice T00 d.wait.length R00), (.int .i64 d.quota), (.int .i64 d.time), (.int .i64 d.inode), (.bool false), (.bool d.armed), (.int .i64 d.left), (.slice P00 d.keep.length N00), (.int .i64 d.ops_)] rfl q05 (by kernel_rfl) (by kernel_rfl) Tryz.sizeOf4 rfl rfl rfl ?_)
         intro k0j q2 i0e
         refine nil_ ?_
         refine blk_normal ?_
         have n06 := (Old.step (Old.step z2 p4) q2)
         have h0e := (Evo.thenW e0e (Step.evo q2) q05.2.2)
         have f08 := (Sub.trans (Sub.trans y9 (Step.up p4)) (Step.up q2))
         have p08 := (News.step (News.step v0 p4) q2)
         have b0e := (MO.step c0e q2 k05)
         have M00 := (Sl.step p5 q2)
         have i03 := (Sl.step P6 q2)
         have L00 := (Sl.step p6 q2)
         have K00 := (Sl.step p9 q2)
         obtain ⟨f0e, p0e, Z08⟩ := MO.pack (o_rectolaw5_Disk_mk i0e M00 rfl i03 rfl L00 rfl a4 p7 a5 p8 K00 rfl Z0)
         have Z0e := Z08 _ (Ap.cons k05 (Ap.app (Ap.nil_r _) (Ap.app (Ap.nil_r _) (Ap.app (Ap.nil_r _) (Ap.app (Ap.nil_r _) (Ap.app (Ap.nil_r _) (Ap.app (Ap.nil_r _) (Ap.app (Ap.nil_r _) (Ap.app (Ap.nil_r _) (Ap.app (Ap.nil_r _) (Ap.app (Ap.nil_r _) (Ap.nil_r _))))))))))))
         refine then_normal (g1 _ _ _ ⟨[], fit_mk (fun _ _ => rfl) (by kernel_rfl) vs_nil, ?_⟩)
         exact ⟨n0e, i08, (S_rectolaw5_Disk.mk d.kept d.now d.wait d.quota d.time d.inode false d.armed d.left d.keep d.ops_), o0e, f0e, rfl, h0e, n06, f08, p08, b0e, p0e, Z0e, hp⟩
        ·
         replace hp := hp.2 Z00
         refine seq_ (fun _ Y0e => ?_)
         refine reg_ ?_
         refine sq (o_pv (.bool (decide (a.Op = (8 : Int)))) rfl (by kernel_rfl) ?_)
         refine sq (o_pv (.bool (decide (a.Op = (8 : Int)))) rfl (by kernel_rfl) ?_)
         refine nil_ ?_
         refine then_normal (Y0e _ _ _ _ ?_)
         refine cond_d (a.Op = (8 : Int)) (by kernel_rfl) (fun J00 => ?_) (fun J00 => ?_)
         ·
          replace hp := hp.1 J00
          refine seq_ (fun _ V0e => ?_)
          refine reg_ ?_
          refine sq (o_pv (.pointer (some ⟨z6, 0, none⟩)) rfl (by kernel_rfl) ?_)
          refine sq (o_pv (.pointer (some ⟨z8, 3, none⟩)) rfl (by kernel_rfl) ?_)
          refine sq (o_pv (.string a.P_) rfl (x_load1 (by kernel_rfl) Tryz.isAgg9 (v9.2.1.cell' 3 rfl)) ?_)
          refine sq (o_pv (.pointer (some ⟨z8, 1, none⟩)) rfl (by kernel_rfl) ?_)
          refine sq (o_pv (.int .i64 a.Mode) rfl (x_load1 (by kernel_rfl) Tryz.isAgg3 (v9.2.1.cell' 1 rfl)) ?_)
          refine sq (o_pv (.pointer (some ⟨z8, 5, none⟩)) rfl (by kernel_rfl) ?_)
          refine sq (o_pv (.slice v3 a.B.length v4) rfl (x_load1 (by kernel_rfl) Tryz.isAgg32 (v9.2.1.cell' 5 rfl)) ?_)
          refine sq (o_call 50 #[(.pointer (some ⟨z6, 0, none⟩)), (.string a.P_), (.int .i64 a.Mode), (.slice v3 a.B.length v4)] rfl (x_call Tryz.call50 (by kernel_rfl)) (simfs_FS_Edit_w (X := m9) (f_ := f_) (p := a.P_) (mode := a.Mode) (b := a.B) z2 (MO.re z1 (Wr.self _ _ (Sub.refl _))) y3 t4 s7 hp) ?_)
          rintro _ j0j ⟨J5, o8, hp, U0e, Z1, l9, rfl, I00, Y08⟩
          have j05 := MO.re I00 (Wr.trans I00.wr z1.wr z9.size)
          have g05 := Ap.grow I00.wr (Ap.symm hap) (MO.old z5) (Nat.le_refl _)
          replace hp := hp Y08
          refine sq (o_pv (.int .i64 o8) rfl (by kernel_rfl) ?_)
          refine nil_ ?_
          refine then_normal (V0e _ _ _ _ ?_)
          refine seq_ (fun _ T0e => ?_)
          refine reg_ ?_
          refine sq (o_pv (.pointer (some ⟨z0, 0, none⟩)) rfl (by kernel_rfl) ?_)
          refine sq (o_pv (.pointer (some ⟨z8, 3, none⟩)) rfl (by kernel_rfl) ?_)
          have Z2 := (OB.step v9 l9 (Ap.symm R9))
          refine sq (o_pv (.string a.P_) rfl (x_load1 (by kernel_rfl) Tryz.isAgg9 (Z2.2.1.cell' 3 rfl)) ?_)
          refine sq (o_pv (.pointer (some ⟨z8, 1, none⟩)) rfl (by kernel_rfl) ?_)
          refine sq (o_pv (.int .i64 a.Mode) rfl (x_load1 (by kernel_rfl) Tryz.isAgg3 (Z2.2.1.cell' 1 rfl)) ?_)
          refine sq (o_pv (.pointer (some ⟨z8, 5, none⟩)) rfl (by kernel_rfl) ?_)
          refine sq (o_pv (.slice v3 a.B.length v4) rfl (x_load1 (by kernel_rfl) Tryz.isAgg32 (Z2.2.1.cell' 5 rfl)) ?_)
          refine sq (o_pv (.int .i64 (a.B.length : Int)) rfl (by kernel_rfl) ?_)
          have o06 := (Sl.step s7 l9)
          have J6 := (MO.step z5 l9 (Ap.symm hap))
          have H5 := (Old.step z2 l9)
          have d05 := (Evo.thenW z9 (Step.evo l9) z1.wr)
          have V08 := (Sub.trans y9 (Step.up l9))
          have U08 := (News.step v0 l9)
          refine sq (o_call 39 #[(.pointer (some ⟨z0, 0, none⟩)), (.string a.P_), (.int .i64 a.Mode), (.int .i64 (a.B.length : Int))] rfl (x_call Tryz.call39 (by kernel_rfl)) (rectolaw5_Disk_cause_w (X := U0e) (d := d) (p := a.P_) (mode := a.Mode) (n_ := (a.B.length : Int)) H5 (MO.re J6 (Wr.self _ _ (Sub.refl _))) y3 t4 (inR_len (Sl.len s7)) hp) ?_)
          rintro _ Z3 ⟨o9, q3, hp, Z4, R0e, m0, rfl, M9, T08⟩
          have l05 := MO.re M9 (Wr.trans M9.wr J6.wr d05.size)
          have P0e := Ap.grow M9.wr (Ap.symm q04) (OB.old Z2) (Nat.le_refl _)
          have m05 := Ap.grow M9.wr (Ap.symm g05) (MO.old j05) (Nat.le_refl _)
          replace hp := hp T08
          refine sq (o_pv (.int .i64 q3) rfl (by kernel_rfl) ?_)
          refine nil_ ?_
          refine then_normal (T0e _ _ _ _ ?_)
          refine seq_ (fun _ N0e => ?_)
          refine seq_ (fun _ M0e => ?_)
          refine reg_ ?_
          refine sq (o_pv (.int .i64 q3) rfl (by kernel_rfl) ?_)
          refine sq (o_pv (.bool (decide (q3 = (0 : Int)))) rfl (by kernel_rfl) ?_)
          refine nil_ ?_
          refine then_normal (M0e _ _ _ _ ?_)
          have c06 := (Sl.step o06 m0)
          have H6 := (Old.step H5 m0)
          have n05 := (Evo.thenW d05 (Step.evo m0) J6.wr)
          have h03 := (Sub.trans V08 (Step.up m0))
          have b03 := (News.step U08 m0)
          have L0e := (OB.step Z2 m0 (Ap.symm q04))
          have o05 := (MO.step j05 m0 (Ap.symm g05))
          obtain ⟨K0e, R08, hp⟩ := hp
          refine ground_ ?_
          refine join_ 1809247943459892158211402923382817421694617284846147727923247168861530750976 (fun lq c0 => ∃ (m1 : List Nat) (Z5 : S_rectolaw5_Disk) (L0 : List Nat), (lq = []) ∧ (Evo (z7 ++ y5) w c0) ∧ (Old m1 c0) ∧ (Sub X m1) ∧ (News X w m1 c0) ∧ (MO o_simfs_FS 78 (z7 ++ y5) w.heap.size m1 c0 Z1 z6 J5) ∧ (MO o_rectolaw5_Disk 31 (z7 ++ y5) w.heap.size m1 c0 L0 z0 Z5) ∧ (Ap (Z1) (L0)) ∧ (K0e Z5)) (fun b0i f03 => ?_) ?_
          ·
           refine cond_d (q3 = (0 : Int)) (by kernel_rfl) (fun H00 => ?_) (fun H00 => ?_)
           ·
            replace hp := hp.1 H00
            refine seq_ (fun _ J0e => ?_)
            obtain ⟨I0e, P08, hp⟩ := yon1 hp
            refine ground_ ?_
            refine join_ 452309397710092993091430442812256001539109652045672368085853606268798763008 (fun lq c1 => ∃ (m2 : List Nat) (Z6 : S_rectolaw5_Disk) (G00 : List Nat), (lq = []) ∧ (Evo (z7 ++ y5) w c1) ∧ (Old m2 c1) ∧ (Sub X m2) ∧ (News X w m2 c1) ∧ (MO o_simfs_FS 78 (z7 ++ y5) w.heap.size m2 c1 Z1 z6 J5) ∧ (MO o_rectolaw5_Disk 31 (z7 ++ y5) w.heap.size m2 c1 G00 z0 Z6) ∧ (Ap (Z1) (G00)) ∧ (I0e Z6)) (fun f0i p03 => ?_) ?_
            ·
             obtain ⟨H0e, G0e, O0h, S0h, D0e, C0e, B0e, E0e, F0e, Z7, P7, Z8, a6, Z9, a7, Y0, Y1, Y2, Z03⟩ := o_rectolaw5_Disk_open l05
             have O0e := Ap.subr P0e Z03
             have S0e := Ap.subr m05 Z03
             replace hp := hp (Sl.len Z7)
             replace hp := hp (Sl.len P7)
             replace hp := hp (Sl.len Z8)
             replace hp := hp a6
             replace hp := hp Z9
             replace hp := hp a7
             replace hp := hp Y0
             replace hp := hp (Sl.len Y1)
             replace hp := hp Y2
             obtain ⟨q4, c05, Y03⟩ := MO.pack (o_rectolaw5_Disk_mk F0e Z7 rfl P7 rfl Z8 rfl a6 Z9 a7 Y0 Y1 rfl Y2)
             have D00 := Y03 _ (Ap.cons O0e (Ap.app (Ap.nil_r _) (Ap.app (Ap.nil_r _) (Ap.app (Ap.nil_r _) (Ap.app (Ap.nil_r _) (Ap.app (Ap.nil_r _) (Ap.app (Ap.nil_r _) (Ap.app (Ap.nil_r _) (Ap.app (Ap.nil_r _) (Ap.app (Ap.nil_r _) (Ap.app (Ap.nil_r _) (Ap.nil_r _))))))))))))
             have L1 := Y03 _ (Ap.cons S0e (Ap.app (Ap.nil_r _) (Ap.app (Ap.nil_r _) (Ap.app (Ap.nil_r _) (Ap.app (Ap.nil_r _) (Ap.app (Ap.nil_r _) (Ap.app (Ap.nil_r _) (Ap.app (Ap.nil_r _) (Ap.app (Ap.nil_r _) (Ap.app (Ap.nil_r _) (Ap.app (Ap.nil_r _) (Ap.nil_r _))))))))))))
             have c2 : Sub q4 Z4 := (MO.mem c05)
             refine reg_drawn (RB Z3.heap.size q4) 17 (by kernel_rfl) (fun a05 J7 => ?_)
             have A0e := Evo.of_drew J7
             have r1 : a05.heap.size = Z3.heap.size := by rw [J7]
             clear J7
             have j2 := Step.of0 Z4 A0e
             have u9 := RB.refl Z3.heap.size q4 a05
             have H7 := (Sl.step c06 j2)
             have c3 := (Old.step H6 j2)
             have L2 := (Evo.then0 n05 (Step.evo j2))
             have V03 := (Sub.trans h03 (Step.up j2))
             have U03 := (News.step b03 j2)
             have C00 := (OB.step0 L0e j2)
             have L3 := (MO.step0 o05 j2)
             have m3 := (MO.step0 c05 j2)
             refine r_take 0 (.pointer (some ⟨z0, 0, none⟩)) (RB.pre _ _) rfl (by kernel_rfl) (fun _ _ _ h => hQ.panic _ _ _ _ _ h) (.inl ⟨rfl, fun wq hq => (by kernel_rfl)⟩) ?_
             refine r_take 1 (.pointer (some ⟨z0, 0, none⟩)) (RB.pre _ _) rfl (by kernel_rfl) (fun _ _ _ h => hQ.panic _ _ _ _ _ h) (.inl ⟨rfl, fun wq hq => (by kernel_rfl)⟩) ?_
             refine r_take 2 (.pointer (some ⟨z0, 0, none⟩)) (RB.pre _ _) rfl (by kernel_rfl) (fun _ _ _ h => hQ.panic _ _ _ _ _ h) (.inl ⟨rfl, fun wq hq => (by kernel_rfl)⟩) ?_
             refine r_take 3 (.pointer (some ⟨z0, 1, none⟩)) (RB.pre _ _) rfl (by kernel_rfl) (fun _ _ _ h => hQ.panic _ _ _ _ _ h) (.inl ⟨rfl, fun wq hq => (by kernel_rfl)⟩) ?_
             refine r_take 5 (.pointer (some ⟨z0, 0, none⟩)) (RB.pre _ _) rfl (by kernel_rfl) (fun _ _ _ h => hQ.panic _ _ _ _ _ h) (.inl ⟨rfl, fun wq hq => (by kernel_rfl)⟩) ?_
             refine r_take 6 (.pointer (some ⟨z8, 3, none⟩)) (RB.pre _ _) rfl (by kernel_rfl) (fun _ _ _ h => hQ.panic _ _ _ _ _ h) (.inl ⟨rfl, fun wq hq => (by kernel_rfl)⟩) ?_
             refine r_take 7 (.string a.P_) (RB.pre _ _) rfl (by kernel_rfl) (fun _ _ _ h => hQ.panic _ _ _ _ _ h) (.inl ⟨rfl, fun wq hq => (x_load1 (by kernel_rfl) Tryz.isAgg9 ((OB.step C00 (stepR (RB.trans u9 hq) r1 c2) D00).2.1.cell' 3 rfl))⟩) ?_
             refine r_take 8 (.pointer (some ⟨z8, 1, none⟩)) (RB.pre _ _) rfl (by kernel_rfl) (fun _ _ _ h => hQ.panic _ _ _ _ _ h) (.inl ⟨rfl, fun wq hq => (by kernel_rfl)⟩) ?_
             refine r_take 9 (.int .i64 a.Mode) (RB.pre _ _) rfl (by kernel_rfl) (fun _ _ _ h => hQ.panic _ _ _ _ _ h) (.inl ⟨rfl, fun wq hq => (x_load1 (by kernel_rfl) Tryz.isAgg3 ((OB.step C00 (stepR (RB.trans u9 hq) r1 c2) D00).2.1.cell' 1 rfl))⟩) ?_
             refine r_take 10 (.pointer (some ⟨z8, 5, none⟩)) (RB.pre _ _) rfl (by kernel_rfl) (fun _ _ _ h => hQ.panic _ _ _ _ _ h) (.inl ⟨rfl, fun wq hq => (by kernel_rfl)⟩) ?_
             refine r_take 11 (.slice v3 a.B.length v4) (RB.pre _ _) rfl (by kernel_rfl) (fun _ _ _ h => hQ.panic _ _ _ _ _ h) (.inl ⟨rfl, fun wq hq => (x_load1 (by kernel_rfl) Tryz.isAgg32 ((OB.step C00 (stepR (RB.trans u9 hq) r1 c2) D00).2.1.cell' 5 rfl))⟩) ?_
             have T03 := Sl.len H7
             refine r_take 12 (.string (strOfNums a.B)) (RB.pre _ _) rfl (by kernel_rfl) (fun _ _ _ h => hQ.panic _ _ _ _ _ h) (.inl ⟨rfl, fun wq hq => (x_b2s_sl (a := v3) (len := a.B.length) (c := v4) a.B Tryz.underlying32 Tryz.underlying5 Tryz.underlying9 (by kernel_rfl) rfl (Sl.step H7 (stepR (RB.trans u9 hq) r1 c2)))⟩) ?_
             refine r_ready [4, 13] (by kernel_rfl) rfl (all_cons ⟨_, _, _, _, _, _, rfl, ?_⟩ (all_cons ⟨_, _, _, _, _, _, rfl, ?_⟩ all_nil))
             ·
              replace hp := hp.1
              obtain ⟨W0e, z0f, P8, P9, y0f, v0f, u0f, t0f, s0f, r0f, R03, q0f, E09, k0f, F09, j0f, g0f, d0f, _⟩ := o_rectolaw5_Disk_open m3
              refine o_pv (.slice P8 o9.now.length P9) rfl (x_load1 (by kernel_rfl) Tryz.isAgg27 (s0f.2.1.cell' 1 rfl)) ?_
              refine ⟨fun _ => RB.refl _ _ _, ?_⟩
              refine r_ready [13] (by kernel_rfl) rfl (all_cons ⟨_, _, _, _, _, _, rfl, ?_⟩ all_nil)
              refine o_call 41 #[(.pointer (some ⟨z0, 0, none⟩)), (.string a.P_), (.int .i64 a.Mode), (.string (strOfNums a.B))] rfl (x_call Tryz.call41 (by kernel_rfl)) (rectolaw5_Disk_file_w (X := Z4) (d := o9) (p := a.P_) (mode := a.Mode) (b := strOfNums a.B) c3 (MO.re m3 (Wr.self _ _ (Sub.refl _))) y3 t4 (strOfNums_le T03) hp) ?_
              rintro _ g0j ⟨y7, c4, hp, B00, l0f, m4, rfl, L4, Y3, Y4, Y5, Y6, a8⟩
              have rm := RB.mono (F' := q4) (Step.evo m4) (Nat.le_trans (Nat.le_of_eq r1.symm) (RB.size u9)) (Wr.self _ _ (Sub.refl _))
              have N08 := RB.trans u9 rm
              refine ⟨fun _ => rm, ?_⟩
              have p0i : Wr q4 Z3.heap.size l0f := Wr.trans L4.wr (Wr.self _ _ (Sub.refl _)) (Nat.le_trans (Nat.le_of_eq r1.symm) (RB.size u9))
              have m0f := MO.re L4 (Wr.trans L4.wr m3.wr L2.size)
              have n0f := Ap.grow L4.wr L1 (MO.old L3) (Nat.le_refl _)
              replace hp := hp Y3
              replace hp := hp Y4
              replace hp := hp Y5
              replace hp := hp Y6
              replace hp := hp a8
              refine r_ready [14] (by kernel_rfl) rfl (all_cons ⟨_, _, _, _, _, _, rfl, ?_⟩ all_nil)
              have P03 := (Sl.step R03 m4)
              have H8 := (Old.step c3 m4)
              refine o_call 51 #[(.slice P8 o9.now.length P9), (.agg #[(.string c4.path), (.string c4.data), (.int .i64 c4.mode), (.int .i64 c4.time), (.int .i64 c4.inode)])] rfl (x_call Tryz.call51 (by kernel_rfl)) (rectolaw5_put_w (X := B00) (l := o9.now) (f_ := c4) H8 P03 Y3 Y4 Y5 Y6 a8 hp) ?_
              rintro _ d0j ⟨E00, hp, F00, N03, M03, rfl, L03⟩
              have rm := RB.mono (F' := q4) F00 (Nat.le_trans (Nat.le_of_eq r1.symm) (RB.size N08)) (fun _ h => by cases h)
              refine ⟨fun _ => rm, ?_⟩
              have Y7 := Step.of0 B00 F00
              replace hp := hp (Sl.len L03)
              refine r_take 15 (.pointer (some ⟨z0, 0, none⟩)) (RB.pre _ _) rfl (by kernel_rfl) (fun _ _ _ h => hQ.panic _ _ _ _ _ h) (.inl ⟨rfl, fun wq hq => (by kernel_rfl)⟩) ?_
              refine r_take 16 (.pointer (some ⟨z0, 1, none⟩)) (RB.pre _ _) rfl (by kernel_rfl) (fun _ _ _ h => hQ.panic _ _ _ _ _ h) (.inl ⟨rfl, fun wq hq => (by kernel_rfl)⟩) ?_
              refine r_ready [17] (by kernel_rfl) rfl (all_cons ⟨_, _, _, _, _, _, rfl, ?_⟩ all_nil)
              have o0f := (MO.step0 m0f Y7)
              obtain ⟨O00, S00, A0h, W0h, A00, W00, z01, y01, e05, Y8, K03, Y9, a9, V0, e0, V1, V2, V3, M08⟩ := o_rectolaw5_Disk_open o0f
              have i05 := Ap.subr n0f M08
              replace hp := hp (Sl.len Y8)
              replace hp := hp (Sl.len K03)
              replace hp := hp (Sl.len Y9)
              replace hp := hp a9
              replace hp := hp V0
              replace hp := hp e0
              replace hp := hp V1
              replace hp := hp (Sl.len V2)
              replace hp := hp V3
              have c0f := (MO.step0 (MO.step L3 m4 L1) Y7)
              have a0f := (Evo.then0 (Evo.thenW L2 (Step.evo m4) m3.wr) F00)
              refine o_stB (o := 1) (v := (.slice N03 E00.length M03)) [(.slice O00 y7.kept.length S00), (.slice N03 E00.length M03), (.slice A00 y7.wait.length W00), (.int .i64 y7.quota), (.int .i64 y7.time), (.int .i64 y7.inode), (.bool y7.off), (.bool y7.armed), (.int .i64 y7.left), (.slice z01 y7.keep.length y01), (.int .i64 y7.ops_)] rfl e05 (by kernel_rfl) (by kernel_rfl) Tryz.sizeOf27 rfl rfl rfl ?_
              intro l0j q5 e0f
              refine ⟨fun h => absurd h (by decide), ?_⟩
              refine r_done (by kernel_rfl) ?_
              have a06 := (Old.step (Old.step H8 Y7) q5)
              have i0f := (Evo.thenW a0f (Step.evo q5) e05.2.2)
              have L08 := (Sub.trans (Sub.trans (Sub.trans V03 (Step.up m4)) (Step.up Y7)) (Step.up q5))
              have K08 := (News.step (News.step (News.step U03 m4) Y7) q5)
              have h0f := (MO.step c0f q5 i05)
              have J08 := (Sl.step L03 q5)
              have v01 := (Sl.step Y8 q5)
              have u01 := (Sl.step Y9 q5)
              have t01 := (Sl.step V2 q5)
              obtain ⟨b0f, f0f, I08⟩ := MO.pack (o_rectolaw5_Disk_mk e0f v01 rfl J08 rfl u01 rfl a9 V0 e0 V1 t01 rfl V3)
              have p0f := I08 _ (Ap.cons i05 (Ap.app (Ap.nil_r _) (Ap.app (Ap.nil_r _) (Ap.app (Ap.nil_r _) (Ap.app (Ap.nil_r _) (Ap.app (Ap.nil_r _) (Ap.app (Ap.nil_r _) (Ap.app (Ap.nil_r _) (Ap.app (Ap.nil_r _) (Ap.app (Ap.nil_r _) (Ap.app (Ap.nil_r _) (Ap.nil_r _))))))))))))
              refine then_normal (p03 _ _ _ ⟨[], fit_mk (fun _ _ => rfl) (by kernel_rfl) vs_nil, ?_⟩)
              exact ⟨B00, (S_rectolaw5_Disk.mk y7.kept E00 y7.wait y7.quota y7.time y7.inode y7.off y7.armed y7.left y7.keep y7.ops_), b0f, rfl, i0f, a06, L08, K08, h0f, f0f, p0f, hp⟩
             ·
              replace hp := hp.2
              refine o_call 41 #[(.pointer (some ⟨z0, 0, none⟩)), (.string a.P_), (.int .i64 a.Mode), (.string (strOfNums a.B))] rfl (x_call Tryz.call41 (by kernel_rfl)) (rectolaw5_Disk_file_w (X := Z4) (d := o9) (p := a.P_) (mode := a.Mode) (b := strOfNums a.B) c3 (MO.re m3 (Wr.self _ _ (Sub.refl _))) y3 t4 (strOfNums_le T03) hp) ?_
              rintro _ m0j ⟨y2, c5, hp, s01, Z0f, c6, rfl, L5, V4, V5, V6, V7, e1⟩
              have rm := RB.mono (F' := q4) (Step.evo c6) (Nat.le_trans (Nat.le_of_eq r1.symm) (RB.size u9)) (Wr.self _ _ (Sub.refl _))
              have H08 := RB.trans u9 rm
              refine ⟨fun _ => rm, ?_⟩
              have Z0i : Wr q4 Z3.heap.size Z0f := Wr.trans L5.wr (Wr.self _ _ (Sub.refl _)) (Nat.le_trans (Nat.le_of_eq r1.symm) (RB.size u9))
              have h05 := MO.re L5 (Wr.trans L5.wr m3.wr L2.size)
              have Y0f := Ap.grow L5.wr L1 (MO.old L3) (Nat.le_refl _)
              replace hp := hp V4
              replace hp := hp V5
              replace hp := hp V6
              replace hp := hp V7
              replace hp := hp e1
              refine r_ready [4] (by kernel_rfl) rfl (all_cons ⟨_, _, _, _, _, _, rfl, ?_⟩ all_nil)
              obtain ⟨V0f, U0f, N0, N1, T0f, R0f, P0f, N0f, M0f, L0f, J03, K0f, O09, J0f, S09, I0f, H0f, G0f, _⟩ := o_rectolaw5_Disk_open h05
              refine o_pv (.slice N0 y2.now.length N1) rfl (x_load1 (by kernel_rfl) Tryz.isAgg27 (M0f.2.1.cell' 1 rfl)) ?_
              refine ⟨fun _ => RB.refl _ _ _, ?_⟩
              refine r_ready [14] (by kernel_rfl) rfl (all_cons ⟨_, _, _, _, _, _, rfl, ?_⟩ all_nil)
              have H9 := (Old.step c3 c6)
              refine o_call 51 #[(.slice N0 y2.now.length N1), (.agg #[(.string c5.path), (.string c5.data), (.int .i64 c5.mode), (.int .i64 c5.time), (.int .i64 c5.inode)])] rfl (x_call Tryz.call51 (by kernel_rfl)) (rectolaw5_put_w (X := s01) (l := y2.now) (f_ := c5) H9 J03 V4 V5 V6 V7 e1 hp) ?_
              rintro _ n0j ⟨r01, hp, q01, I03, H03, rfl, G03⟩
              have rm := RB.mono (F' := q4) q01 (Nat.le_trans (Nat.le_of_eq r1.symm) (RB.size H08)) (fun _ h => by cases h)
              refine ⟨fun _ => rm, ?_⟩
              have V8 := Step.of0 s01 q01
              replace hp := hp (Sl.len G03)
              refine r_take 15 (.pointer (some ⟨z0, 0, none⟩)) (RB.pre _ _) rfl (by kernel_rfl) (fun _ _ _ h => hQ.panic _ _ _ _ _ h) (.inl ⟨rfl, fun wq hq => (by kernel_rfl)⟩) ?_
              refine r_take 16 (.pointer (some ⟨z0, 1, none⟩)) (RB.pre _ _) rfl (by kernel_rfl) (fun _ _ _ h => hQ.panic _ _ _ _ _ h) (.inl ⟨rfl, fun wq hq => (by kernel_rfl)⟩) ?_
              refine r_ready [17] (by kernel_rfl) rfl (all_cons ⟨_, _, _, _, _, _, rfl, ?_⟩ all_nil)
              have D0f := (MO.step0 h05 V8)
              obtain ⟨k01, j01, z0i, y0i, g01, d01, l01, m01, b05, V9, D03, U0, e2, U1, e3, U2, U3, U4, G08⟩ := o_rectolaw5_Disk_open D0f
              have f05 := Ap.subr Y0f G08
              replace hp := hp (Sl.len V9)
              replace hp := hp (Sl.len D03)
              replace hp := hp (Sl.len U0)
              replace hp := hp e2
              replace hp := hp U1
              replace hp := hp e3
              replace hp := hp U2
              replace hp := hp (Sl.len U3)
              replace hp := hp U4
              have C0f := (MO.step0 (MO.step L3 c6 L1) V8)
              have B0f := (Evo.then0 (Evo.thenW L2 (Step.evo c6) m3.wr) q01)
              refine o_stB (o := 1) (v := (.slice I03 r01.length H03)) [(.slice k01 y2.kept.length j01), (.slice I03 r01.length H03), (.slice g01 y2.wait.length d01), (.int .i64 y2.quota), (.int .i64 y2.time), (.int .i64 y2.inode), (.bool y2.off), (.bool y2.armed), (.int .i64 y2.left), (.slice l01 y2.keep.length m01), (.int .i64 y2.ops_)] rfl b05 (by kernel_rfl) (by kernel_rfl) Tryz.sizeOf27 rfl rfl rfl ?_
              intro o0j q6 E0f
              refine ⟨fun h => absurd h (by decide), ?_⟩
              refine r_done (by kernel_rfl) ?_
              have e06 := (Old.step (Old.step H9 V8) q6)
              have F0f := (Evo.thenW B0f (Step.evo q6) b05.2.2)
              have D08 := (Sub.trans (Sub.trans (Sub.trans V03 (Step.up c6)) (Step.up V8)) (Step.up q6))
              have C08 := (News.step (News.step (News.step U03 c6) V8) q6)
              have O0f := (MO.step C0f q6 f05)
              have B08 := (Sl.step G03 q6)
              have n01 := (Sl.step V9 q6)
              have o01 := (Sl.step U0 q6)
              have c01 := (Sl.step U3 q6)
              obtain ⟨S0f, A0f, E08⟩ := MO.pack (o_rectolaw5_Disk_mk E0f n01 rfl B08 rfl o01 rfl e2 U1 e3 U2 c01 rfl U4)
              have W0f := E08 _ (Ap.cons f05 (Ap.app (Ap.nil_r _) (Ap.app (Ap.nil_r _) (Ap.app (Ap.nil_r _) (Ap.app (Ap.nil_r _) (Ap.app (Ap.nil_r _) (Ap.app (Ap.nil_r _) (Ap.app (Ap.nil_r _) (Ap.app (Ap.nil_r _) (Ap.app (Ap.nil_r _) (Ap.app (Ap.nil_r _) (Ap.nil_r _))))))))))))
              refine then_normal (p03 _ _ _ ⟨[], fit_mk (fun _ _ => rfl) (by kernel_rfl) vs_nil, ?_⟩)
              exact ⟨s01, (S_rectolaw5_Disk.mk y2.kept r01 y2.wait y2.quota y2.time y2.inode y2.off y2.armed y2.left y2.keep y2.ops_), S0f, rfl, F0f, e06, D08, C08, O0f, A0f, W0f, hp⟩
            ·
             rintro _ c1 c0j ⟨m2, Z6, G00, rfl, p05, G0, F08, O08, Z05, a01, Y05, S08⟩
             replace hp := P08 Z6 S08
             refine then_normal (J0e _ _ _ _ ?_)
             refine reg_ ?_
             refine sq (o_pv (.pointer (some ⟨z0, 0, none⟩)) rfl (by kernel_rfl) ?_)
             refine sq (o_call 48 #[(.pointer (some ⟨z0, 0, none⟩))] rfl (x_call Tryz.call48 (by kernel_rfl)) (rectolaw5_Disk_sync_w (X := m2) (d := Z6) G0 (MO.re a01 (Wr.self _ _ (Sub.refl _))) hp) ?_)
             rintro _ a0j ⟨z0g, hp, y0g, v0g, U5, rfl, e01⟩
             have u0g := MO.re e01 (Wr.trans e01.wr a01.wr p05.size)
             have t0g := Ap.grow e01.wr Y05 (MO.old Z05) (Nat.le_refl _)
             refine nil_ ?_
             have s0g := (Evo.thenW p05 (Step.evo U5) a01.wr)
             have i06 := (Old.step G0 U5)
             have A08 := (Sub.trans F08 (Step.up U5))
             have W08 := (News.step O08 U5)
             have r0g := (MO.step Z05 U5 Y05)
             refine then_normal (f03 _ _ _ ⟨[], fit_mk (AgB.nest (AgB.look (fun _ _ => rfl) (by kernel_rfl)) (by kernel_rfl) (by kernel_rfl)) (by kernel_rfl) vs_nil, ?_⟩)
             exact ⟨y0g, z0g, v0g, rfl, s0g, i06, A08, W08, r0g, u0g, t0g, hp⟩
           ·
            replace hp := hp.2 H00
            refine wp_skip ?_
            refine then_normal (f03 _ _ _ ⟨[], fit_mk (fun _ _ => rfl) (by kernel_rfl) vs_nil, ?_⟩)
            exact ⟨Z4, o9, R0e, rfl, n05, H6, h03, b03, o05, l05, m05, hp⟩
          ·
           rintro _ c0 e0j ⟨m1, Z5, L0, rfl, q0g, r0i, z09, y09, k0g, j0g, g0g, v09⟩
           replace hp := R08 Z5 v09
           refine then_normal (N0e _ _ _ _ ?_)
           refine seq_ (fun _ d0g => ?_)
           refine reg_ ?_
           refine sq (o_pv (.int .i64 o8) rfl (by kernel_rfl) ?_)
           refine sq (o_pv (.int .i64 q3) rfl (by kernel_rfl) ?_)
           refine sq (o_pv (.bool (decide (o8 = q3))) rfl (by kernel_rfl) ?_)
           refine sq (o_pv (.bool (decide (o8 = q3))) rfl (by kernel_rfl) ?_)
           refine nil_ ?_
           refine then_normal (d0g _ _ _ _ ?_)
           refine wp_ret ?_
           refine blk_ret ?_
           refine then_ret ?_
           refine then_ret ?_
           refine end_ret hQ (.bool (decide (o8 = q3))) (by kernel_rfl) ?_
           exact ⟨J5, Z5, (decide (o8 = q3)), hp, m1, Z1, L0, step_of q0g e7 z09 y09, rfl, k0g, j0g, g0g⟩
         ·
          replace hp := hp.2 J00
          refine seq_ (fun _ l0g => ?_)
          refine reg_ ?_
          refine sq (o_pv (.bool (decide (a.Op = (9 : Int)))) rfl (by kernel_rfl) ?_)
          refine sq (o_pv (.bool (decide (a.Op = (9 : Int)))) rfl (by kernel_rfl) ?_)
          refine nil_ ?_
          refine then_normal (l0g _ _ _ _ ?_)
          refine cond_d (a.Op = (9 : Int)) (by kernel_rfl) (fun i01 => ?_) (fun i01 => ?_)
          ·
           replace hp := hp.1 i01
           refine seq_ (fun _ m0g => ?_)
           refine reg_ ?_
           refine sq (o_pv (.pointer (some ⟨z6, 0, none⟩)) rfl (by kernel_rfl) ?_)
           refine sq (o_pv (.pointer (some ⟨z8, 3, none⟩)) rfl (by kernel_rfl) ?_)
           refine sq (o_pv (.string a.P_) rfl (x_load1 (by kernel_rfl) Tryz.isAgg9 (v9.2.1.cell' 3 rfl)) ?_)
           refine sq (o_call 52 #[(.pointer (some ⟨z6, 0, none⟩)), (.string a.P_)] rfl (x_call Tryz.call52 (by kernel_rfl)) (simfs_FS_Unlink_w (X := m9) (f_ := f_) (p := a.P_) z2 (MO.re z1 (Wr.self _ _ (Sub.refl _))) y3 hp) ?_)
           rintro _ h01 ⟨J8, s4, hp, j3, L6, q7, rfl, b01, u09⟩
           have V05 := MO.re b01 (Wr.trans b01.wr z1.wr z9.size)
           have n0g := Ap.grow b01.wr (Ap.symm hap) (MO.old z5) (Nat.le_refl _)
           replace hp := hp u09
           refine sq (o_pv (.int .i64 s4) rfl (by kernel_rfl) ?_)
           refine nil_ ?_
           refine then_normal (m0g _ _ _ _ ?_)
           refine seq_ (fun _ o0g => ?_)
           refine seq_ (fun _ c0g => ?_)
           refine reg_ ?_
           refine sq (o_pv (.pointer (some ⟨z0, 0, none⟩)) rfl (by kernel_rfl) ?_)
           refine sq (o_pv (.pointer (some ⟨z0, 0, none⟩)) rfl (by kernel_rfl) ?_)
           have t09 := (MO.step z5 q7 (Ap.symm hap))
           obtain ⟨f01, p01, j4, j5, Z01, Y01, V01, U01, T01, m5, n4, m6, r2, q8, r3, q9, m7, k0, s09⟩ := o_rectolaw5_Disk_open t09
           have L7 := Ap.subr (Ap.symm n0g) s09
           replace hp := hp (Sl.len m5)
           replace hp := hp (Sl.len n4)
           replace hp := hp (Sl.len m6)
           replace hp := hp r2
           replace hp := hp q8
           replace hp := hp r3
           replace hp := hp q9
           replace hp := hp (Sl.len m7)
           replace hp := hp k0
           refine sq (o_pv (.pointer (some ⟨z0, 6, none⟩)) rfl (by kernel_rfl) ?_)
           refine sq (o_pv (.bool d.off) rfl (x_load1 (by kernel_rfl) Tryz.isAgg4 (T01.2.1.cell' 6 rfl)) ?_)
           refine nil_ ?_
           refine then_normal (c0g _ _ _ _ ?_)
           refine cond_b d.off (by kernel_rfl) (fun R01 => ?_) (fun R01 => ?_)
           ·
            replace hp := hp.1 R01
            refine seq_ (fun _ a0g => ?_)
            refine reg_ ?_
            refine sq (o_pv (.int .i64 s4) rfl (by kernel_rfl) ?_)
            refine sq (o_pv (.bool (decide (s4 = (13 : Int)))) rfl (by kernel_rfl) ?_)
            refine sq (o_pv (.bool (decide (s4 = (13 : Int)))) rfl (by kernel_rfl) ?_)
            refine nil_ ?_
            refine then_normal (a0g _ _ _ _ ?_)
            refine wp_ret ?_
            refine then_ret ?_
            refine blk_ret ?_
            refine then_ret ?_
            refine then_ret ?_
            have e0g := (Evo.thenW z9 (Step.evo q7) z1.wr)
            have r09 := (Sub.trans y9 (Step.up q7))
            have q09 := (News.step v0 q7)
            obtain ⟨i0g, h0g, k09⟩ := MO.pack (o_rectolaw5_Disk_mk T01 m5 rfl n4 rfl m6 rfl r2 q8 r3 q9 m7 rfl k0)
            have b0g := k09 _ (Ap.cons L7 (Ap.app (Ap.nil_r _) (Ap.app (Ap.nil_r _) (Ap.app (Ap.nil_r _) (Ap.app (Ap.nil_r _) (Ap.app (Ap.nil_r _) (Ap.app (Ap.nil_r _) (Ap.app (Ap.nil_r _) (Ap.app (Ap.nil_r _) (Ap.app (Ap.nil_r _) (Ap.app (Ap.nil_r _) (Ap.nil_r _))))))))))))
            refine end_ret hQ (.bool (decide (s4 = (13 : Int)))) (by kernel_rfl) ?_
            exact ⟨J8, d, (decide (s4 = (13 : Int))), hp, j3, L6, i0g, step_of e0g e7 r09 q09, rfl, V05, h0g, b0g⟩
           ·
            replace hp := hp.2 R01
            refine wp_skip ?_
            refine then_normal (o0g _ _ _ _ ?_)
            refine seq_ (fun _ f0g => ?_)
            refine seq_ (fun _ p0g => ?_)
            have h06 := (Old.step z2 q7)
            have Z0g := (Evo.thenW z9 (Step.evo q7) z1.wr)
            have j09 := (Sub.trans y9 (Step.up q7))
            have g09 := (News.step v0 q7)
            have Y0g := (OB.step v9 q7 (Ap.symm R9))
            refine reg_drawn (RB h01.heap.size []) 8 (by kernel_rfl) (fun U05 J9 => ?_)
            have V0g := Evo.of_drew J9
            have P01 : U05.heap.size = h01.heap.size := by rw [J9]
            clear J9
            have s5 := Step.of0 j3 V0g
            have I0 := RB.refl h01.heap.size [] U05
            have b06 := (Old.step h06 s5)
            have U0g := (Evo.then0 Z0g (Step.evo s5))
            have d09 := (Sub.trans j09 (Step.up s5))
            have l09 := (News.step g09 s5)
            have N01 := (OB.step0 Y0g s5)
            have T0g := (MO.step0 V05 s5)
            have M01 := (OB.step0 T01 s5)
            have L01 := (Sl.step m5 s5)
            have N2 := (Sl.step n4 s5)
            have K01 := (Sl.step m6 s5)
            have J01 := (Sl.step m7 s5)
            refine r_take 0 (.pointer (some ⟨z0, 0, none⟩)) (RB.pre _ _) rfl (by kernel_rfl) (fun _ _ _ h => hQ.panic _ _ _ _ _ h) (.inl ⟨rfl, fun wq hq => (by kernel_rfl)⟩) ?_
            refine r_take 1 (.pointer (some ⟨z0, 0, none⟩)) (RB.pre _ _) rfl (by kernel_rfl) (fun _ _ _ h => hQ.panic _ _ _ _ _ h) (.inl ⟨rfl, fun wq hq => (by kernel_rfl)⟩) ?_
            refine r_take 2 (.pointer (some ⟨z0, 1, none⟩)) (RB.pre _ _) rfl (by kernel_rfl) (fun _ _ _ h => hQ.panic _ _ _ _ _ h) (.inl ⟨rfl, fun wq hq => (by kernel_rfl)⟩) ?_
            refine r_take 3 (.slice j4 d.now.length j5) (RB.pre _ _) rfl (by kernel_rfl) (fun _ _ _ h => hQ.panic _ _ _ _ _ h) (.inl ⟨rfl, fun wq hq => (x_load1 (by kernel_rfl) Tryz.isAgg27 ((Blk.rb M01.2.1 (RB.trans I0 hq) (Nat.lt_of_lt_of_eq (Blk.lt M01.2.1) P01) (fun h => by cases h)).cell' 1 rfl))⟩) ?_
            refine r_take 4 (.pointer (some ⟨z8, 3, none⟩)) (RB.pre _ _) rfl (by kernel_rfl) (fun _ _ _ h => hQ.panic _ _ _ _ _ h) (.inl ⟨rfl, fun wq hq => (by kernel_rfl)⟩) ?_
            refine r_take 5 (.string a.P_) (RB.pre _ _) rfl (by kernel_rfl) (fun _ _ _ h => hQ.panic _ _ _ _ _ h) (.inl ⟨rfl, fun wq hq => (x_load1 (by kernel_rfl) Tryz.isAgg9 ((Blk.rb N01.2.1 (RB.trans I0 hq) (Nat.lt_of_lt_of_eq (Blk.lt N01.2.1) P01) (fun h => by cases h)).cell' 3 rfl))⟩) ?_
            refine r_ready [6] (by kernel_rfl) rfl (all_cons ⟨_, _, _, _, _, _, rfl, ?_⟩ all_nil)
            refine o_call 43 #[(.slice j4 d.now.length j5), (.string a.P_)] rfl (x_call Tryz.call43 (by kernel_rfl)) (rectolaw5_get_w (X := []) (l := d.now) (p := a.P_) (Old.nil _) (Sl.less N2 (Sub.nil _)) y3 hp) ?_
            rintro _ I01 ⟨T05, hp, H01, rfl, m09⟩
            have rm := RB.mono (F' := []) H01 (Nat.le_trans (Nat.le_of_eq P01.symm) (RB.size I0)) (fun _ h => by cases h)
            refine ⟨fun _ => rm, ?_⟩
            have r4 := Step.of0 j3 H01
            replace hp := hp m09
            refine r_take 7 (.bool (decide (T05 ≥ (0 : Int)))) (RB.pre _ _) rfl (by kernel_rfl) (fun _ _ _ h => hQ.panic _ _ _ _ _ h) (.inl ⟨rfl, fun wq hq => (by kernel_rfl)⟩) ?_
            refine r_done (by kernel_rfl) ?_
            refine then_normal (p0g _ _ _ _ ?_)
            have G1 := (Old.step b06 r4)
            have R05 := (Evo.then0 U0g H01)
            have C03 := (Sub.trans d09 (Step.up r4))
            have B03 := (News.step l09 r4)
            have R0g := (OB.step0 N01 r4)
            have P05 := (MO.step0 T0g r4)
            have N05 := (OB.step0 M01 r4)
            have U6 := (Sl.step L01 r4)
            have N3 := (Sl.step N2 r4)
            have U7 := (Sl.step K01 r4)
            have U8 := (Sl.step J01 r4)
            obtain ⟨P0g, n09, hp⟩ := hp
            refine ground_ ?_
            refine join_ 62150227450502816761056222722205546271098875046238369840048217327193851936838506250240 (fun lq c7 => ∃ (m8 : List Nat) (U9 : S_rectolaw5_Disk) (L8 : List Nat), (lq = []) ∧ (Evo (z7 ++ y5) w c7) ∧ (Old m8 c7) ∧ (Sub X m8) ∧ (News X w m8 c7) ∧ (MO o_simfs_FS 78 (z7 ++ y5) w.heap.size m8 c7 L6 z6 J8) ∧ (MO o_rectolaw5_Disk 31 (z7 ++ y5) w.heap.size m8 c7 L8 z0 U9) ∧ (Ap (L6) (L8)) ∧ (P0g U9)) (fun Y0i E03 => ?_) ?_
            ·
             refine cond_d (T05 ≥ (0 : Int)) (by kernel_rfl) (fun G01 => ?_) (fun G01 => ?_)
             ·
              replace hp := hp.1 G01
              refine seq_ (fun _ N0g => ?_)
              refine reg_drawn (RB I01.heap.size []) 10 (by kernel_rfl) (fun M05 I1 => ?_)
              have M0g := Evo.of_drew I1
              have D01 : M05.heap.size = I01.heap.size := by rw [I1]
              clear I1
              have s6 := Step.of0 j3 M0g
              have I2 := RB.refl I01.heap.size [] M05
              have G2 := (Old.step G1 s6)
              have L0g := (Evo.then0 R05 (Step.evo s6))
              have o09 := (Sub.trans C03 (Step.up s6))
              have c09 := (News.step B03 s6)
              have L05 := (OB.step0 R0g s6)
              have K0g := (MO.step0 P05 s6)
              have C01 := (OB.step0 N05 s6)
              have B01 := (Sl.step U6 s6)
              have F03 := (Sl.step N3 s6)
              have E01 := (Sl.step U7 s6)
              have F01 := (Sl.step U8 s6)
              refine r_take 0 (.pointer (some ⟨z0, 0, none⟩)) (RB.pre _ _) rfl (by kernel_rfl) (fun _ _ _ h => hQ.panic _ _ _ _ _ h) (.inl ⟨rfl, fun wq hq => (by kernel_rfl)⟩) ?_
              refine r_take 1 (.pointer (some ⟨z0, 0, none⟩)) (RB.pre _ _) rfl (by kernel_rfl) (fun _ _ _ h => hQ.panic _ _ _ _ _ h) (.inl ⟨rfl, fun wq hq => (by kernel_rfl)⟩) ?_
              refine r_take 2 (.pointer (some ⟨z0, 0, none⟩)) (RB.pre _ _) rfl (by kernel_rfl) (fun _ _ _ h => hQ.panic _ _ _ _ _ h) (.inl ⟨rfl, fun wq hq => (by kernel_rfl)⟩) ?_
              refine r_take 3 (.pointer (some ⟨z0, 1, none⟩)) (RB.pre _ _) rfl (by kernel_rfl) (fun _ _ _ h => hQ.panic _ _ _ _ _ h) (.inl ⟨rfl, fun wq hq => (by kernel_rfl)⟩) ?_
              refine r_take 4 (.slice j4 d.now.length j5) (RB.pre _ _) rfl (by kernel_rfl) (fun _ _ _ h => hQ.panic _ _ _ _ _ h) (.inl ⟨rfl, fun wq hq => (x_load1 (by kernel_rfl) Tryz.isAgg27 ((Blk.rb C01.2.1 (RB.trans I2 hq) (Nat.lt_of_lt_of_eq (Blk.lt C01.2.1) D01) (fun h => by cases h)).cell' 1 rfl))⟩) ?_
              refine r_take 5 (.pointer (some ⟨z8, 3, none⟩)) (RB.pre _ _) rfl (by kernel_rfl) (fun _ _ _ h => hQ.panic _ _ _ _ _ h) (.inl ⟨rfl, fun wq hq => (by kernel_rfl)⟩) ?_
              refine r_take 6 (.string a.P_) (RB.pre _ _) rfl (by kernel_rfl) (fun _ _ _ h => hQ.panic _ _ _ _ _ h) (.inl ⟨rfl, fun wq hq => (x_load1 (by kernel_rfl) Tryz.isAgg9 ((Blk.rb L05.2.1 (RB.trans I2 hq) (Nat.lt_of_lt_of_eq (Blk.lt L05.2.1) D01) (fun h => by cases h)).cell' 3 rfl))⟩) ?_
              refine r_ready [7] (by kernel_rfl) rfl (all_cons ⟨_, _, _, _, _, _, rfl, ?_⟩ all_nil)
              refine o_call 53 #[(.slice j4 d.now.length j5), (.string a.P_)] rfl (x_call Tryz.call53 (by kernel_rfl)) (rectolaw5_cut_w (X := j3) (l := d.now) (p := a.P_) G2 F03 y3 hp) ?_
              rintro _ i0j ⟨O01, hp, S01, O03, S03, rfl, A03⟩
              have rm := RB.mono (F' := []) S01 (Nat.le_trans (Nat.le_of_eq D01.symm) (RB.size I2)) (fun _ h => by cases h)
              refine ⟨fun _ => rm, ?_⟩
              have j6 := Step.of0 j3 S01
              replace hp := hp (Sl.len A03)
              refine r_take 8 (.pointer (some ⟨z0, 0, none⟩)) (RB.pre _ _) rfl (by kernel_rfl) (fun _ _ _ h => hQ.panic _ _ _ _ _ h) (.inl ⟨rfl, fun wq hq => (by kernel_rfl)⟩) ?_
              refine r_take 9 (.pointer (some ⟨z0, 1, none⟩)) (RB.pre _ _) rfl (by kernel_rfl) (fun _ _ _ h => hQ.panic _ _ _ _ _ h) (.inl ⟨rfl, fun wq hq => (by kernel_rfl)⟩) ?_
              refine r_ready [10] (by kernel_rfl) rfl (all_cons ⟨_, _, _, _, _, _, rfl, ?_⟩ all_nil)
              have J0g := (MO.step0 K0g j6)
              have K05 := (OB.step0 C01 j6)
              have I0g := (Evo.then0 L0g S01)
              refine o_stB (o := 1) (v := (.slice O03 O01.length S03)) [(.slice f01 d.kept.length p01), (.slice O03 O01.length S03), (.slice Z01 d.wait.length Y01), (.int .i64 d.quota), (.int .i64 d.time), (.int .i64 d.inode), (.bool d.off), (.bool d.armed), (.int .i64 d.left), (.slice V01 d.keep.length U01), (.int .i64 d.ops_)] rfl K05 (by kernel_rfl) (by kernel_rfl) Tryz.sizeOf27 rfl rfl rfl ?_
              intro h0j k1 H0g
              refine ⟨fun h => absurd h (by decide), ?_⟩
              refine r_done (by kernel_rfl) ?_
              refine then_normal (N0g _ _ _ _ ?_)
              refine reg_ ?_
              refine sq (o_pv (.pointer (some ⟨z0, 0, none⟩)) rfl (by kernel_rfl) ?_)
              have G3 := (Old.step (Old.step G2 j6) k1)
              have J05 := (Evo.thenW I0g (Step.evo k1) K05.2.2)
              have a09 := (Sub.trans (Sub.trans o09 (Step.up j6)) (Step.up k1))
              have e09 := (News.step (News.step c09 j6) k1)
              have I05 := (MO.step J0g k1 L7)
              have A01 := (Sl.step (Sl.step B01 j6) k1)
              have W01 := (Sl.step (Sl.step E01 j6) k1)
              have z02 := (Sl.step (Sl.step F01 j6) k1)
              have i09 := (Sl.step A03 k1)
              obtain ⟨b0j, y02, h09⟩ := MO.pack (o_rectolaw5_Disk_mk H0g A01 rfl i09 rfl W01 rfl r2 q8 r3 q9 z02 rfl k0)
              have H05 := h09 _ (Ap.cons L7 (Ap.app (Ap.nil_r _) (Ap.app (Ap.nil_r _) (Ap.app (Ap.nil_r _) (Ap.app (Ap.nil_r _) (Ap.app (Ap.nil_r _) (Ap.app (Ap.nil_r _) (Ap.app (Ap.nil_r _) (Ap.app (Ap.nil_r _) (Ap.app (Ap.nil_r _) (Ap.app (Ap.nil_r _) (Ap.nil_r _))))))))))))
              refine sq (o_call 48 #[(.pointer (some ⟨z0, 0, none⟩))] rfl (x_call Tryz.call48 (by kernel_rfl)) (rectolaw5_Disk_sync_w (X := j3) (d := (S_rectolaw5_Disk.mk d.kept O01 d.wait d.quota d.time d.inode d.off d.armed d.left d.keep d.ops_)) G3 (MO.re y02 (Wr.self _ _ (Sub.refl _))) hp) ?_)
              rintro _ f0j ⟨G0g, hp, D0g, C0g, T0, rfl, v02⟩
              have B0g := MO.re v02 (Wr.trans v02.wr y02.wr J05.size)
              have E0g := Ap.grow v02.wr H05 (MO.old I05) (Nat.le_refl _)
              refine nil_ ?_
              have F0g := (Evo.thenW J05 (Step.evo T0) y02.wr)
              have f06 := (Old.step G3 T0)
              have b09 := (Sub.trans a09 (Step.up T0))
              have f09 := (News.step e09 T0)
              have O0g := (MO.step I05 T0 H05)
              refine then_normal (E03 _ _ _ ⟨[], fit_mk (fun _ _ => rfl) (by kernel_rfl) vs_nil, ?_⟩)
              exact ⟨D0g, G0g, C0g, rfl, F0g, f06, b09, f09, O0g, B0g, E0g, hp⟩
             ·
              replace hp := hp.2 G01
              refine wp_skip ?_
              obtain ⟨S0g, A0g, p09⟩ := MO.pack (o_rectolaw5_Disk_mk N05 U6 rfl N3 rfl U7 rfl r2 q8 r3 q9 U8 rfl k0)
              have W0g := p09 _ (Ap.cons L7 (Ap.app (Ap.nil_r _) (Ap.app (Ap.nil_r _) (Ap.app (Ap.nil_r _) (Ap.app (Ap.nil_r _) (Ap.app (Ap.nil_r _) (Ap.app (Ap.nil_r _) (Ap.app (Ap.nil_r _) (Ap.app (Ap.nil_r _) (Ap.app (Ap.nil_r _) (Ap.app (Ap.nil_r _) (Ap.nil_r _))))))))))))
              refine then_normal (E03 _ _ _ ⟨[], fit_mk (fun _ _ => rfl) (by kernel_rfl) vs_nil, ?_⟩)
              exact ⟨j3, d, S0g, rfl, R05, G1, C03, B03, P05, A0g, W0g, hp⟩
            ·
             rintro _ c7 p0j ⟨m8, U9, L8, rfl, z0h, q0i, Z09, Y09, y0h, v0h, u0h, V09⟩
             replace hp := n09 U9 V09
             refine then_normal (f0g _ _ _ _ ?_)
             refine seq_ (fun _ t0h => ?_)
             refine reg_ ?_
             refine sq (o_pv (.int .i64 s4) rfl (by kernel_rfl) ?_)
             refine sq (o_pv (.bool (decide (s4 = (0 : Int)))) rfl (by kernel_rfl) ?_)
             refine sq (o_pv (.bool (decide (s4 = (0 : Int)))) rfl (by kernel_rfl) ?_)
             refine nil_ ?_
             refine then_normal (t0h _ _ _ _ ?_)
             refine wp_ret ?_
             refine blk_ret ?_
             refine then_ret ?_
             refine then_ret ?_
             refine end_ret hQ (.bool (decide (s4 = (0 : Int)))) (by kernel_rfl) ?_
             exact ⟨J8, U9, (decide (s4 = (0 : Int))), hp, m8, L6, L8, step_of z0h e7 Z09 Y09, rfl, y0h, v0h, u0h⟩
          ·
           replace hp := hp.2 i01
           refine seq_ (fun _ s0h => ?_)
           refine reg_ ?_
           refine sq (o_pv (.bool (decide (a.Op = (10 : Int)))) rfl (by kernel_rfl) ?_)
           refine sq (o_pv (.bool (decide (a.Op = (10 : Int)))) rfl (by kernel_rfl) ?_)
           refine nil_ ?_
           refine then_normal (s0h _ _ _ _ ?_)
           refine cond_d (a.Op = (10 : Int)) (by kernel_rfl) (fun u02 => ?_) (fun u02 => ?_)
           ·
            replace hp := hp.1 u02
            refine seq_ (fun _ r0h => ?_)
            refine reg_ ?_
            refine sq (o_pv (.pointer (some ⟨z6, 0, none⟩)) rfl (by kernel_rfl) ?_)
            refine sq (o_call 28 #[(.pointer (some ⟨z6, 0, none⟩))] rfl (x_call Tryz.call28 (by kernel_rfl)) (simfs_FS_Tick_w (X := m9) (f_ := f_) z2 (MO.re z1 (Wr.self _ _ (Sub.refl _))) hp) ?_)
            rintro _ Z0j ⟨U09, hp, q0h, k0h, T1, rfl, t02⟩
            have j0h := MO.re t02 (Wr.trans t02.wr z1.wr z9.size)
            have g0h := Ap.grow t02.wr (Ap.symm hap) (MO.old z5) (Nat.le_refl _)
            refine nil_ ?_
            refine then_normal (r0h _ _ _ _ ?_)
            refine reg_ ?_
            refine sq (o_pv (.pointer (some ⟨z0, 0, none⟩)) rfl (by kernel_rfl) ?_)
            refine sq (o_pv (.pointer (some ⟨z0, 0, none⟩)) rfl (by kernel_rfl) ?_)
            have T09 := (MO.step z5 T1 (Ap.symm hap))
            obtain ⟨s02, r02, W03, z04, q02, k02, j02, g02, d02, T2, N4, T3, e4, l02, e5, T4, T5, T6, R09⟩ := o_rectolaw5_Disk_open T09
            have G05 := Ap.subr (Ap.symm g0h) R09
            replace hp := hp (Sl.len T2)
            replace hp := hp (Sl.len N4)
            replace hp := hp (Sl.len T3)
            replace hp := hp e4
            replace hp := hp l02
            replace hp := hp e5
            replace hp := hp T4
            replace hp := hp (Sl.len T5)
            replace hp := hp T6
            refine sq (o_pv (.pointer (some ⟨z0, 4, none⟩)) rfl (by kernel_rfl) ?_)
            refine sq (o_pv (.int .i64 d.time) rfl (x_load1 (by kernel_rfl) Tryz.isAgg3 (d02.2.1.cell' 4 rfl)) ?_)
            obtain ⟨D05, hp⟩ := hp
            refine sq (o_pv (.int .i64 (d.time + (1 : Int))) rfl (x_add2 (k := .i64) (a := d.time) (b := (1 : Int)) (d.time + (1 : Int)) (by kernel_rfl) (by kernel_rfl) (wrap_inR D05)) ?_)
            refine sq (o_pv (.pointer (some ⟨z0, 0, none⟩)) rfl (by kernel_rfl) ?_)
            refine sq (o_pv (.pointer (some ⟨z0, 4, none⟩)) rfl (by kernel_rfl) ?_)
            have d0h := (Evo.thenW z9 (Step.evo T1) z1.wr)
            refine sq (o_stB (o := 4) (v := (.int .i64 (d.time + (1 : Int)))) [(.slice s02 d.kept.length r02), (.slice W03 d.now.length z04), (.slice q02 d.wait.length k02), (.int .i64 d.quota), (.int .i64 (d.time + (1 : Int))), (.int .i64 d.inode), (.bool d.off), (.bool d.armed), (.int .i64 d.left), (.slice j02 d.keep.length g02), (.int .i64 d.ops_)] rfl d02 (by kernel_rfl) (by kernel_rfl) Tryz.sizeOf3 rfl rfl rfl ?_)
            intro Y0j k2 l0h
            refine nil_ ?_
            refine blk_normal ?_
            have p06 := (Old.step (Old.step z2 T1) k2)
            have m0h := (Evo.thenW d0h (Step.evo k2) d02.2.2)
            have P09 := (Sub.trans (Sub.trans y9 (Step.up T1)) (Step.up k2))
            have N09 := (News.step (News.step v0 T1) k2)
            have n0h := (MO.step j0h k2 G05)
            have m02 := (Sl.step T2 k2)
            have y04 := (Sl.step N4 k2)
            have n02 := (Sl.step T3 k2)
            have o02 := (Sl.step T5 k2)
            obtain ⟨o0h, c0h, M09⟩ := MO.pack (o_rectolaw5_Disk_mk l0h m02 rfl y04 rfl n02 rfl e4 D05 e5 T4 o02 rfl T6)
            have a0h := M09 _ (Ap.cons G05 (Ap.app (Ap.nil_r _) (Ap.app (Ap.nil_r _) (Ap.app (Ap.nil_r _) (Ap.app (Ap.nil_r _) (Ap.app (Ap.nil_r _) (Ap.app (Ap.nil_r _) (Ap.app (Ap.nil_r _) (Ap.app (Ap.nil_r _) (Ap.app (Ap.nil_r _) (Ap.app (Ap.nil_r _) (Ap.nil_r _))))))))))))
            refine then_normal (g1 _ _ _ ⟨[], fit_mk (fun _ _ => rfl) (by kernel_rfl) vs_nil, ?_⟩)
            exact ⟨q0h, U09, (S_rectolaw5_Disk.mk d.kept d.now d.wait d.quota (d.time + (1 : Int)) d.inode d.off d.armed d.left d.keep d.ops_), k0h, o0h, rfl, m0h, p06, P09, N09, n0h, c0h, a0h, hp⟩
           ·
            replace hp := hp.2 u02
            refine seq_ (fun _ e0h => ?_)
            refine reg_ ?_
            refine sq (o_pv (.bool (decide (a.Op = (11 : Int)))) rfl (by kernel_rfl) ?_)
            refine sq (o_pv (.bool (decide (a.Op = (11 : Int)))) rfl (by kernel_rfl) ?_)
            refine nil_ ?_
            refine then_normal (e0h _ _ _ _ ?_)
            refine cond_d (a.Op = (11 : Int)) (by kernel_rfl) (fun c02 => ?_) (fun c02 => ?_)
            ·
             replace hp := hp.1 c02
             refine seq_ (fun _ i0h => ?_)
             refine reg_ ?_
             refine sq (o_pv (.pointer (some ⟨z6, 0, none⟩)) rfl (by kernel_rfl) ?_)
             refine sq (o_pv (.pointer (some ⟨z8, 2, none⟩)) rfl (by kernel_rfl) ?_)
             refine sq (o_pv (.int .i64 a.N) rfl (x_load1 (by kernel_rfl) Tryz.isAgg3 (v9.2.1.cell' 2 rfl)) ?_)
             refine sq (o_call 54 #[(.pointer (some ⟨z6, 0, none⟩)), (.int .i64 a.N)] rfl (x_call Tryz.call54 (by kernel_rfl)) (simfs_FS_Quota_w (X := m9) (f_ := f_) (n_ := a.N) z2 (MO.re z1 (Wr.self _ _ (Sub.refl _))) L9 hp) ?_)
             rintro _ V0j ⟨L09, hp, h0h, b0h, c8, rfl, a02⟩
             have f0h := MO.re a02 (Wr.trans a02.wr z1.wr z9.size)
             have p0h := Ap.grow a02.wr (Ap.symm hap) (MO.old z5) (Nat.le_refl _)
             refine nil_ ?_
             refine then_normal (i0h _ _ _ _ ?_)
             refine reg_ ?_
             refine sq (o_pv (.pointer (some ⟨z0, 0, none⟩)) rfl (by kernel_rfl) ?_)
             refine sq (o_pv (.pointer (some ⟨z8, 2, none⟩)) rfl (by kernel_rfl) ?_)
             have Z0h := (OB.step v9 c8 (Ap.symm R9))
             refine sq (o_pv (.int .i64 a.N) rfl (x_load1 (by kernel_rfl) Tryz.isAgg3 (Z0h.2.1.cell' 2 rfl)) ?_)
             refine sq (o_pv (.pointer (some ⟨z0, 0, none⟩)) rfl (by kernel_rfl) ?_)
             have K09 := (MO.step z5 c8 (Ap.symm hap))
             obtain ⟨e02, i02, v04, u04, h02, b02, f02, p02, C05, T7, N5, T8, I4, T9, e6, R1, R2, R3, J09⟩ := o_rectolaw5_Disk_open K09
             have B05 := Ap.subr (Ap.symm p0h) J09
             replace hp := hp (Sl.len T7)
             replace hp := hp (Sl.len N5)
             replace hp := hp (Sl.len T8)
             replace hp := hp I4
             replace hp := hp T9
             replace hp := hp e6
             replace hp := hp R1
             replace hp := hp (Sl.len R2)
             replace hp := hp R3
             refine sq (o_pv (.pointer (some ⟨z0, 3, none⟩)) rfl (by kernel_rfl) ?_)
             have Y0h := (Evo.thenW z9 (Step.evo c8) z1.wr)
             refine sq (o_stB (o := 3) (v := (.int .i64 a.N)) [(.slice e02 d.kept.length i02), (.slice v04 d.now.length u04), (.slice h02 d.wait.length b02), (.int .i64 a.N), (.int .i64 d.time), (.int .i64 d.inode), (.bool d.off), (.bool d.armed), (.int .i64 d.left), (.slice f02 d.keep.length p02), (.int .i64 d.ops_)] rfl C05 (by kernel_rfl) (by kernel_rfl) Tryz.sizeOf3 rfl rfl rfl ?_)
             intro U0j k3 V0h
             refine nil_ ?_
             refine blk_normal ?_
             have Z06 := (Old.step (Old.step z2 c8) k3)
             have U0h := (Evo.thenW Y0h (Step.evo k3) C05.2.2)
             have I09 := (Sub.trans (Sub.trans y9 (Step.up c8)) (Step.up k3))
             have H09 := (News.step (News.step v0 c8) k3)
             have T0h := (MO.step f0h k3 B05)
             have Z02 := (Sl.step T7 k3)
             have t04 := (Sl.step N5 k3)
             have Y02 := (Sl.step T8 k3)
             have V02 := (Sl.step R2 k3)
             obtain ⟨R0h, P0h, G09⟩ := MO.pack (o_rectolaw5_Disk_mk V0h Z02 rfl t04 rfl Y02 rfl L9 T9 e6 R1 V02 rfl R3)
             have N0h := G09 _ (Ap.cons B05 (Ap.app (Ap.nil_r _) (Ap.app (Ap.nil_r _) (Ap.app (Ap.nil_r _) (Ap.app (Ap.nil_r _) (Ap.app (Ap.nil_r _) (Ap.app (Ap.nil_r _) (Ap.app (Ap.nil_r _) (Ap.app (Ap.nil_r _) (Ap.app (Ap.nil_r _) (Ap.app (Ap.nil_r _) (Ap.nil_r _))))))))))))
             refine then_normal (g1 _ _ _ ⟨[], fit_mk (fun _ _ => rfl) (by kernel_rfl) vs_nil, ?_⟩)
             exact ⟨h0h, L09, (S_rectolaw5_Disk.mk d.kept d.now d.wait a.N d.time d.inode d.off d.armed d.left d.keep d.ops_), b0h, R0h, rfl, U0h, Z06, I09, H09, T0h, P0h, N0h, hp⟩
            ·
             replace hp := hp.2 c02
             refine wp_skip ?_
             refine blk_normal ?_
             refine then_normal (g1 _ _ _ ⟨[], fit_mk (fun _ _ => rfl) (by kernel_rfl) vs_nil, ?_⟩)
             exact ⟨m9, f_, d, z7, y5, rfl, z9, z2, y9, v0, z1, z5, hap, hp⟩
 ·
  rintro _ n5 T0j ⟨g3, e8, e9, N6, N7, rfl, M0h, k0i, D09, C09, L0h, K0h, J0h, B09⟩
  replace hp := V06 e8 e9 B09
  refine then_normal (n0i _ _ _ _ ?_)
  refine seq_ (fun _ I0h => ?_)
  refine reg_ ?_
  refine sq (o_pv (.bool true) rfl (by kernel_rfl) ?_)
  refine nil_ ?_
  refine then_normal (I0h _ _ _ _ ?_)
  refine wp_ret ?_
  refine end_ret hQ (.bool true) (by kernel_rfl) ?_
  exact ⟨e8, e9, true, hp, g3, N6, N7, step_of M0h e7 D09 C09, rfl, L0h, K0h, J0h⟩
end Go.Proofs.YtaolmfepdmgohaaGreatDoor
