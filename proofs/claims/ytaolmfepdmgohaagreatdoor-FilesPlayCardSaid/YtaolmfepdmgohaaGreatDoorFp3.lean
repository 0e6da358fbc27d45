/- Walks of functions: what each asks and computes, as a plain predicate, and the contract from it. -/
import Derived.Test.YtaolmfepdmgohaaGreatDoorChecked
import Derived.Test.YtaolmfepdmgohaaGreatDoorFp2
import Derived.Test.YtaolmfepdmgohaaGreatDoorKeys
namespace Go.Proofs.YtaolmfepdmgohaaGreatDoor
open Go
theorem elT76 : ElemT Tryz.prog 76 84 7 88 := elemT_mk (i := Tryz.t84) (z := (.agg #[(.int .i64 0), (.string (ByteArray.mk #[])), (.string (ByteArray.mk #[])), (.int .i64 0), (.int .i64 0), (.int .i64 0), (.slice none 0 0)])) (by kernel_rfl) (by kernel_rfl) (by kernel_rfl) (by kernel_rfl) Tryz.underlying76 Tryz.sizeOf84 (by decide) (by decide)
def simfs_FS_do_p (f_ : S_simfs_FS) (o : S_simfs_op) (Q : S_simfs_FS → Prop) : Prop :=
 ((inR .i64 o.kind) → ((o.path.size ≤ maxLen) → ((o.to_.size ≤ maxLen) → ((inR .i64 o.file.mode) → ((inR .i64 o.file.time) → ((inR .i64 o.file.inode) → ((o.file.b.length ≤ 9223372036854775807) → ((f_.pending.length ≤ 9223372036854775807) → ((inR .i64 f_.quota) → ((inR .i64 f_.now) → ((inR .i64 f_.inodes) → ((inR .i64 f_.ops_) → ((inR .i64 f_.left) → ((f_.keep.length ≤ 9223372036854775807) → (simfs_apply_p f_.files o (fun (z0 : (List (ByteArray × S_simfs_file))) (z1 : Bool) => (((f_.pending.length + ([o]).length) * 88 ≤ 140737488355328) ∧ ((inR .i64 (f_.ops_ + (1 : Int))) ∧ Q (S_simfs_FS.mk f_.kept z0 (f_.pending ++ ([o])) f_.quota f_.now f_.inodes (f_.ops_ + (1 : Int)) f_.off f_.armed f_.left f_.keep)))))))))))))))))))
set_option maxRecDepth 20000 in
set_option maxHeartbeats 4000000 in
theorem simfs_FS_do_w {X : List Nat} {w : World} {f_ : S_simfs_FS} {o : S_simfs_op} {z3 : Nat} {y7 : List Nat} {z0 : Option Addr} {z1 : Nat} {Q : S_simfs_FS → Prop} (m5 : Old X w) (s2 : MO o_simfs_FS 78 y7 w.heap.size X w y7 z3 f_) (y8 : inR .i64 o.kind) (y9 : o.path.size ≤ maxLen) (v6 : o.to_.size ≤ maxLen) (z5 : inR .i64 o.file.mode) (z6 : inR .i64 o.file.time) (z4 : inR .i64 o.file.inode) (v1 : Sl (rInt .u8) X w z0 z1 o.file.b) (hp : simfs_FS_do_p f_ o Q) :
  Calls Tryz.prog 70 #[(.pointer (some ⟨z3, 0, none⟩)), (.agg #[(.int .i64 o.kind), (.string o.path), (.string o.to_), (.int .i64 o.file.mode), (.int .i64 o.file.time), (.int .i64 o.file.inode), (.slice z0 o.file.b.length z1)])] w (Ret fun v w' => ∃ (m6 : S_simfs_FS), Q m6 ∧ ∃ (X' : List Nat) (m7 : List Nat), Step X w y7 X' w' ∧ v = .tuple #[] ∧ MO o_simfs_FS 78 y7 w.heap.size X' w' m7 z3 m6) := by
 have hXo := m5
 have E0 : Evo y7 w w := RB.refl _ _ _
 have hS : Sub X X := Sub.refl _
 have hN : News X w X w := News.refl _ _
 have m8 : Sub y7 X := MO.mem s2
 unfold simfs_FS_do_p at hp
 refine enter_ Tryz.func70 rfl 27 [(0, (.pointer (some ⟨z3, 0, none⟩))), (1, (.agg #[(.int .i64 o.kind), (.string o.path), (.string o.to_), (.int .i64 o.file.mode), (.int .i64 o.file.time), (.int .i64 o.file.inode), (.slice z0 o.file.b.length z1)]))] (by kernel_rfl) (fun Qe hQ => ?_)
 replace hp := hp y8
 replace hp := hp y9
 replace hp := hp v6
 replace hp := hp z5
 replace hp := hp z6
 replace hp := hp z4
 replace hp := hp (Sl.len v1)
 refine seq_ (fun _ m9 => ?_)
 refine reg_ ?_
 refine sq (o_newX [(.int .i64 o.kind), (.string o.path), (.string o.to_), (.int .i64 o.file.mode), (.int .i64 o.file.time), (.int .i64 o.file.inode), (.slice z0 o.file.b.length z1)] 84 (X := X) (B := w.heap.size) E0.size rfl (by kernel_rfl) ?_)
 intro c8 r3 r8 u5 n0 n1
 have j7 := n1 _ (MO.old s2)
 refine nil_ ?_
 refine then_normal (m9 _ _ _ _ ?_)
 refine seq_ (fun _ n2 => ?_)
 have k8 := (MO.step0 s2 u5)
 obtain ⟨v7, z2, v0, g4, g5, v8, v9, n3, s3, v2, r9, v3, u6, y5, s4, u0, u1, c0, c1, g6, g7, q0, j8, q1, n4, j9, q2⟩ := o_simfs_FS_open k8
 have g0 := Ap.subr (Ap.symm j7) g6
 have n5 := Ap.subr (Ap.symm j7) g7
 replace hp := hp (OS.len r9)
 replace hp := hp v3
 replace hp := hp u6
 replace hp := hp y5
 replace hp := hp s4
 replace hp := hp u0
 replace hp := hp (Sl.len u1)
 have t2 := (Sl.step v1 u5)
 have k9 := (Old.step hXo u5)
 have n6 := (Evo.then0 E0 (Step.evo u5))
 have g8 := (Sub.trans hS (Step.up u5))
 have g9 := (News.step hN u5)
 have r4 : Sub [z2] r8 := (OM.mem v2)
 refine reg_drawn (RB r3.heap.size [z2]) 6 (by kernel_rfl) (fun g1 s5 => ?_)
 have n7 := Evo.of_drew s5
 have r5 : g1.heap.size = r3.heap.size := by rw [s5]
 clear s5
 have z9 := Step.of0 r8 n7
 have u7 := RB.refl r3.heap.size [z2] g1
 have v4 := (Sl.step t2 z9)
 have j0 := (Old.step k9 z9)
 have g2 := (Evo.then0 n6 (Step.evo z9))
 have d0 := (Sub.trans g8 (Step.up z9))
 have d1 := (News.step g9 z9)
 have q3 := (OB.step0 n0 z9)
 have q4 := (OB.step0 n3 z9)
 have u2 := (OM.step0 s3 z9)
 have y0 := (OM.step0 v2 z9)
 have q5 := (OS.step0 r9 z9)
 have s6 := (Sl.step u1 z9)
 refine r_take 0 (.pointer (some ⟨z3, 0, none⟩)) (RB.pre _ _) rfl (by kernel_rfl) (fun _ _ _ h => hQ.panic _ _ _ _ _ h) (.inl ⟨rfl, fun wq hq => (by kernel_rfl)⟩) ?_
 refine r_take 1 (.pointer (some ⟨z3, 0, none⟩)) (RB.pre _ _) rfl (by kernel_rfl) (fun _ _ _ h => hQ.panic _ _ _ _ _ h) (.inl ⟨rfl, fun wq hq => (by kernel_rfl)⟩) ?_
 refine r_take 2 (.pointer (some ⟨z3, 1, none⟩)) (RB.pre _ _) rfl (by kernel_rfl) (fun _ _ _ h => hQ.panic _ _ _ _ _ h) (.inl ⟨rfl, fun wq hq => (by kernel_rfl)⟩) ?_
 refine r_take 3 (.map (some z2)) (RB.pre _ _) rfl (by kernel_rfl) (fun _ _ _ h => hQ.panic _ _ _ _ _ h) (.inl ⟨rfl, fun wq hq => (x_load1 (by kernel_rfl) Tryz.isAgg75 ((OB.step q4 (stepR (RB.trans u7 hq) r5 r4) j8).2.1.cell' 1 rfl))⟩) ?_
 refine r_take 4 (.agg #[(.int .i64 o.kind), (.string o.path), (.string o.to_), (.int .i64 o.file.mode), (.int .i64 o.file.time), (.int .i64 o.file.inode), (.slice z0 o.file.b.length z1)]) (RB.pre _ _) rfl (by kernel_rfl) (fun _ _ _ h => hQ.panic _ _ _ _ _ h) (.inl ⟨rfl, fun wq hq => (x_loadN [(.int .i64 o.kind), (.string o.path), (.string o.to_), (.int .i64 o.file.mode), (.int .i64 o.file.time), (.int .i64 o.file.inode), (.slice z0 o.file.b.length z1)] (by kernel_rfl) Tryz.isAgg84 Tryz.sizeOf84 ((OB.step q3 (stepR (RB.trans u7 hq) r5 r4) g0).2.1.cells' 0 rfl))⟩) ?_
 refine r_ready [5] (by kernel_rfl) rfl (all_cons ⟨_, _, _, _, _, _, rfl, ?_⟩ all_nil)
 refine o_call 38 #[(.map (some z2)), (.agg #[(.int .i64 o.kind), (.string o.path), (.string o.to_), (.int .i64 o.file.mode), (.int .i64 o.file.time), (.int .i64 o.file.inode), (.slice z0 o.file.b.length z1)])] rfl (x_call Tryz.call38 (by kernel_rfl)) (simfs_apply_w (X := r8) (l := f_.files) (o := o) j0 (OM.re y0 (Wr.self _ _ (Sub.refl _))) y8 y9 v6 z5 z6 z4 v4 hp) ?_
 rintro _ q6 ⟨n8, c9, hp, q7, y2, rfl, u3⟩
 have rm := RB.mono (F' := [z2]) (Step.evo y2) (Nat.le_trans (Nat.le_of_eq r5.symm) (RB.size u7)) (Wr.self _ _ (Sub.refl _))
 refine ⟨fun _ => rm, ?_⟩
 have c2 : Wr [z2] r3.heap.size [z2] := Wr.trans u3.wr (Wr.self _ _ (Sub.refl _)) (Nat.le_trans (Nat.le_of_eq r5.symm) (RB.size u7))
 have n9 := OM.re u3 (Wr.trans u3.wr y0.wr g2.size)
 have o0 := Ap.grow u3.wr g0 (OB.old q3) (Nat.le_refl _)
 have r6 := Ap.grow u3.wr j8 (OB.old q4) (Nat.le_refl _)
 have g3 := Ap.grow u3.wr n4 (OM.old u2) (Nat.le_refl _)
 have o3 := Ap.grow u3.wr (Ap.symm q2) (OS.old q5) (Nat.le_refl _)
 refine r_done (by kernel_rfl) ?_
 refine then_normal (n2 _ _ _ _ ?_)
 refine seq_ (fun _ o4 => ?_)
 have t3 := (Sl.step v4 y2)
 have o5 := (Evo.thenW g2 (Step.evo y2) y0.wr)
 have d2 := (Sub.trans d0 (Step.up y2))
 have d3 := (News.step d1 y2)
 have o6 := (OB.step q3 y2 o0)
 have o7 := (OB.step q4 y2 r6)
 have s7 := (OM.step u2 y2 g3)
 have q8 := (OS.step q5 y2 o3)
 have t4 := (Sl.step s6 y2)
 have t5 : Sub (blkL v0) q7 := (OS.mem q8)
 refine reg_drawn (RB q6.heap.size (blkL v0)) 10 (by kernel_rfl) (fun q9 u9 => ?_)
 have d4 := Evo.of_drew u9
 have u4 : q9.heap.size = q6.heap.size := by rw [u9]
 clear u9
 have z7 := Step.of0 q7 d4
 have y6 := RB.refl q6.heap.size (blkL v0) q9
 have t0 := (Sl.step t3 z7)
 have k0 := (Evo.then0 o5 (Step.evo z7))
 have j1 := (Sub.trans d2 (Step.up z7))
 have j2 := (News.step d3 z7)
 have d5 := (OB.step0 o6 z7)
 have k1 := (OB.step0 o7 z7)
 have t6 := (OM.step0 s7 z7)
 have j3 := (OS.step0 q8 z7)
 have t7 := (Sl.step t4 z7)
 have d6 := (OM.step0 n9 z7)
 refine r_take 0 (.pointer (some ⟨z3, 0, none⟩)) (RB.pre _ _) rfl (by kernel_rfl) (fun _ _ _ h => hQ.panic _ _ _ _ _ h) (.inl ⟨rfl, fun wq hq => (by kernel_rfl)⟩) ?_
 refine r_take 1 (.pointer (some ⟨z3, 0, none⟩)) (RB.pre _ _) rfl (by kernel_rfl) (fun _ _ _ h => hQ.panic _ _ _ _ _ h) (.inl ⟨rfl, fun wq hq => (by kernel_rfl)⟩) ?_
 refine r_take 2 (.pointer (some ⟨z3, 0, none⟩)) (RB.pre _ _) rfl (by kernel_rfl) (fun _ _ _ h => hQ.panic _ _ _ _ _ h) (.inl ⟨rfl, fun wq hq => (by kernel_rfl)⟩) ?_
 refine r_take 3 (.pointer (some ⟨z3, 2, none⟩)) (RB.pre _ _) rfl (by kernel_rfl) (fun _ _ _ h => hQ.panic _ _ _ _ _ h) (.inl ⟨rfl, fun wq hq => (by kernel_rfl)⟩) ?_
 refine r_take 4 (.slice v0 g4 g5) (RB.pre _ _) rfl (by kernel_rfl) (fun _ _ _ h => hQ.panic _ _ _ _ _ h) (.inl ⟨rfl, fun wq hq => (x_load1 (by kernel_rfl) Tryz.isAgg76 ((OB.step k1 (stepR (RB.trans y6 hq) u4 t5) q1).2.1.cell' 2 rfl))⟩) ?_
 refine r_take 5 (.agg #[(.int .i64 o.kind), (.string o.path), (.string o.to_), (.int .i64 o.file.mode), (.int .i64 o.file.time), (.int .i64 o.file.inode), (.slice z0 o.file.b.length z1)]) (RB.pre _ _) rfl (by kernel_rfl) (fun _ _ _ h => hQ.panic _ _ _ _ _ h) (.inl ⟨rfl, fun wq hq => (x_loadN [(.int .i64 o.kind), (.string o.path), (.string o.to_), (.int .i64 o.file.mode), (.int .i64 o.file.time), (.int .i64 o.file.inode), (.slice z0 o.file.b.length z1)] (by kernel_rfl) Tryz.isAgg84 Tryz.sizeOf84 ((OB.step d5 (stepR (RB.trans y6 hq) u4 t5) n5).2.1.cells' 0 rfl))⟩) ?_
 refine r_ready [6] (by kernel_rfl) rfl (all_cons ⟨_, _, _, _, _, _, rfl, ?_⟩ all_nil)
 refine o_rowX (R := r_simfs_op) [(.int .i64 o.kind), (.string o.path), (.string o.to_), (.int .i64 o.file.mode), (.int .i64 o.file.time), (.int .i64 o.file.inode), (.slice z0 o.file.b.length z1)] [o] 84 1 (X := q7) (B := w.heap.size) k0.size rfl (by kernel_rfl) (Flat.cons (cs := [(.int .i64 o.kind), (.string o.path), (.string o.to_), (.int .i64 o.file.mode), (.int .i64 o.file.time), (.int .i64 o.file.inode), (.slice z0 o.file.b.length z1)]) (r_simfs_op_mk y8 y9 v6 z5 z6 z4 t0 rfl) Flat.nil) rfl (by decide) ?_
 intro c3 c4 d7 z8 k2 d8
 have o8 := new_of (Nat.le_trans (Nat.le_of_eq u4.symm) (RB.size y6)) d8
 have rm := RB.mono (F' := (blkL v0)) (Step.evo z8) (Nat.le_trans (Nat.le_of_eq u4.symm) (RB.size y6)) (fun _ h => by cases h)
 have j4 := RB.trans y6 rm
 refine ⟨fun _ => rm, ?_⟩
 refine r_ready [7] (by kernel_rfl) rfl (all_cons ⟨_, _, _, _, _, _, rfl, ?_⟩ all_nil)
 obtain ⟨d9, hp⟩ := hp
 have r7 := (OS.step0 j3 z8)
 have k3 := (OB.step0 k1 z8)
 have v5 := (OM.step0 t6 z8)
 have k4 := (OM.step0 d6 z8)
 have k5 := (Evo.then0 k0 (Step.evo z8))
 refine o_appX (R := r_simfs_op) (X := d7) (B := w.heap.size) (L := f_.pending) (M := [o]) rfl elT76 rfl k5.size r7 (OS.src k2) k2.1 (by kernel_rfl) (by kernel_rfl) d9 ?_
 intro s8 s9 r0 c5 l0 y1 l1 t1
 have rm := RB.mono (F' := (blkL v0)) (Step.evo y1) (Nat.le_trans (Nat.le_of_eq u4.symm) (RB.size j4)) (Wr.self _ _ (Sub.refl _))
 refine ⟨fun _ => rm, ?_⟩
 have r1 := t1 _ q1 (OB.old k3)
 have l2 := t1 _ j9 (OM.old v5)
 have l3 := t1 _ q2 (OM.old k4)
 refine r_take 8 (.pointer (some ⟨z3, 0, none⟩)) (RB.pre _ _) rfl (by kernel_rfl) (fun _ _ _ h => hQ.panic _ _ _ _ _ h) (.inl ⟨rfl, fun wq hq => (by kernel_rfl)⟩) ?_
 refine r_take 9 (.pointer (some ⟨z3, 2, none⟩)) (RB.pre _ _) rfl (by kernel_rfl) (fun _ _ _ h => hQ.panic _ _ _ _ _ h) (.inl ⟨rfl, fun wq hq => (by kernel_rfl)⟩) ?_
 refine r_ready [10] (by kernel_rfl) rfl (all_cons ⟨_, _, _, _, _, _, rfl, ?_⟩ all_nil)
 have k6 := (OB.step k3 y1 q1)
 have t8 := (OM.step v5 y1 j9)
 have l4 := (OM.step k4 y1 q2)
 have l5 := (Evo.thenW k5 (Step.evo y1) r7.2.2)
 refine o_stB (o := 2) (v := (.slice s8 s9 r0)) [(.map (some v7)), (.map (some z2)), (.slice s8 s9 r0), (.int .i64 f_.quota), (.int .i64 f_.now), (.int .i64 f_.inodes), (.int .i64 f_.ops_), (.bool f_.off), (.bool f_.armed), (.int .i64 f_.left), (.slice v8 f_.keep.length v9)] rfl k6 (by kernel_rfl) (by kernel_rfl) Tryz.sizeOf76 rfl rfl rfl ?_
 intro c6 y3 r2
 refine ⟨fun h => absurd h (by decide), ?_⟩
 refine r_done (by kernel_rfl) ?_
 refine then_normal (o4 _ _ _ _ ?_)
 refine reg_ ?_
 refine sq (o_pv (.pointer (some ⟨z3, 0, none⟩)) rfl (by kernel_rfl) ?_)
 refine sq (o_pv (.pointer (some ⟨z3, 0, none⟩)) rfl (by kernel_rfl) ?_)
 refine sq (o_pv (.pointer (some ⟨z3, 6, none⟩)) rfl (by kernel_rfl) ?_)
 refine sq (o_pv (.int .i64 f_.ops_) rfl (x_load1 (by kernel_rfl) Tryz.isAgg3 (r2.2.1.cell' 6 rfl)) ?_)
 obtain ⟨k7, hp⟩ := hp
 refine sq (o_pv (.int .i64 (f_.ops_ + (1 : Int))) rfl (x_add2 (k := .i64) (a := f_.ops_) (b := (1 : Int)) (f_.ops_ + (1 : Int)) (by kernel_rfl) (by kernel_rfl) (wrap_inR k7)) ?_)
 refine sq (o_pv (.pointer (some ⟨z3, 0, none⟩)) rfl (by kernel_rfl) ?_)
 refine sq (o_pv (.pointer (some ⟨z3, 6, none⟩)) rfl (by kernel_rfl) ?_)
 have t9 := (OM.step t8 y3 (Ap.symm q0))
 have l6 := (OM.step l4 y3 (Ap.symm r6))
 have l7 := (OS.step l1 y3 (Ap.symm r1))
 have l8 := (Evo.thenW l5 (Step.evo y3) k6.2.2)
 refine sq (o_stB (o := 6) (v := (.int .i64 (f_.ops_ + (1 : Int)))) [(.map (some v7)), (.map (some z2)), (.slice s8 s9 r0), (.int .i64 f_.quota), (.int .i64 f_.now), (.int .i64 f_.inodes), (.int .i64 (f_.ops_ + (1 : Int))), (.bool f_.off), (.bool f_.armed), (.int .i64 f_.left), (.slice v8 f_.keep.length v9)] rfl r2 (by kernel_rfl) (by kernel_rfl) Tryz.sizeOf3 rfl rfl rfl ?_)
 intro c7 y4 l9
 refine nil_ ?_
 have m0 := (Evo.thenW l8 (Step.evo y4) r2.2.2)
 have j5 := (Sub.trans (Sub.trans (Sub.trans (Sub.trans j1 (Step.up z8)) (Step.up y1)) (Step.up y3)) (Step.up y4))
 have j6 := (News.step (News.step (News.step (News.step j2 z8) y1) y3) y4)
 have s0 := (OM.step t9 y4 (Ap.symm q0))
 have s1 := (Sl.step (Sl.step (Sl.step (Sl.step t7 z8) y1) y3) y4)
 have m1 := (OM.step l6 y4 (Ap.symm r6))
 have m2 := (OS.step l7 y4 (Ap.symm r1))
 obtain ⟨m3, m4, o9⟩ := MO.pack (o_simfs_FS_mk l9 s0 m1 m2 v3 u6 y5 k7 u0 s1 rfl q0 r6 r1 g3 l2 l3)
 refine end_normal hQ (.tuple #[]) (by kernel_rfl) ?_
 exact ⟨(S_simfs_FS.mk f_.kept n8 (f_.pending ++ ([o])) f_.quota f_.now f_.inodes (f_.ops_ + (1 : Int)) f_.off f_.armed f_.left f_.keep), hp, l0, m3, step_of m0 m8 j5 j6, rfl, m4⟩
def simfs_FS_Write_p (f_ : S_simfs_FS) (p : ByteArray) (mode : Int) (b : (List Int)) (Q : S_simfs_FS → Int → Prop) : Prop :=
 ((p.size ≤ maxLen) → ((inR .i64 mode) → ((b.length ≤ 9223372036854775807) → (simfs_FS_may_p f_ p mode b (fun (z2 : S_simfs_FS) (z1 : Int) => ((inR .i64 z1) → (((¬ (z1 = (0 : Int))) → Q z2 z1) ∧ ((z1 = (0 : Int)) → (simfs_FS_trips_p z2 (fun (z3 : S_simfs_FS) (z4 : Bool) => (((z4 = true) → Q z3 (13 : Int)) ∧ ((z4 = false) → (simfs_FS_put_p z3 p mode b (fun (z5 : S_simfs_FS) (z0 : S_simfs_op) => ((inR .i64 z0.kind) → ((z0.path.size ≤ maxLen) → ((z0.to_.size ≤ maxLen) → ((inR .i64 z0.file.mode) → ((inR .i64 z0.file.time) → ((inR .i64 z0.file.inode) → ((z0.file.b.length ≤ 9223372036854775807) → (simfs_FS_do_p z5 z0 (fun (z6 : S_simfs_FS) => Q z6 (0 : Int))))))))))))))))))))))))
set_option maxRecDepth 20000 in
set_option maxHeartbeats 4000000 in
theorem simfs_FS_Write_w {X : List Nat} {w : World} {f_ : S_simfs_FS} {p : ByteArray} {mode : Int} {b : (List Int)} {z0 : Nat} {z4 : List Nat} {y0 : Option Addr} {y1 : Nat} {Q : S_simfs_FS → Int → Prop} (r2 : Old X w) (y2 : MO o_simfs_FS 78 z4 w.heap.size X w z4 z0 f_) (v4 : p.size ≤ maxLen) (y3 : inR .i64 mode) (v5 : Sl (rInt .u8) X w y0 y1 b) (hp : simfs_FS_Write_p f_ p mode b Q) :
  Calls Tryz.prog 27 #[(.pointer (some ⟨z0, 0, none⟩)), (.string p), (.int .i64 mode), (.slice y0 b.length y1)] w (Ret fun v w' => ∃ (r3 : S_simfs_FS) (t7 : Int), Q r3 t7 ∧ ∃ (X' : List Nat) (r4 : List Nat), Step X w z4 X' w' ∧ v = (.int .i64 t7) ∧ MO o_simfs_FS 78 z4 w.heap.size X' w' r4 z0 r3 ∧ inR .i64 t7) := by
 have hXo := r2
 have E0 : Evo z4 w w := RB.refl _ _ _
 have hS : Sub X X := Sub.refl _
 have hN : News X w X w := News.refl _ _
 have v6 : Sub z4 X := MO.mem y2
 unfold simfs_FS_Write_p at hp
 refine enter_ Tryz.func27 rfl 27 [(0, (.pointer (some ⟨z0, 0, none⟩))), (1, (.string p)), (2, (.int .i64 mode)), (3, (.slice y0 b.length y1))] (by kernel_rfl) (fun Qe hQ => ?_)
 replace hp := hp v4
 replace hp := hp y3
 replace hp := hp (Sl.len v5)
 refine seq_ (fun _ k5 => ?_)
 refine reg_ ?_
 refine sq (o_pv (.int .i64 (0 : Int)) rfl (by kernel_rfl) ?_)
 refine nil_ ?_
 refine then_normal (k5 _ _ _ _ ?_)
 refine seq_ (fun _ r5 => ?_)
 refine seq_ (fun _ r6 => ?_)
 refine reg_ ?_
 refine sq (o_pv (.pointer (some ⟨z0, 0, none⟩)) rfl (by kernel_rfl) ?_)
 refine sq (o_pv (.string p) rfl (by kernel_rfl) ?_)
 refine sq (o_pv (.int .i64 mode) rfl (by kernel_rfl) ?_)
 refine sq (o_pv (.slice y0 b.length y1) rfl (by kernel_rfl) ?_)
 refine sq (o_call 68 #[(.pointer (some ⟨z0, 0, none⟩)), (.string p), (.int .i64 mode), (.slice y0 b.length y1)] rfl (x_call Tryz.call68 (by kernel_rfl)) (simfs_FS_may_w (X := X) (f_ := f_) (p := p) (mode := mode) (b := b) hXo (MO.re y2 (Wr.self _ _ (Sub.refl _))) v4 y3 v5 hp) ?_)
 rintro _ k6 ⟨v7, z5, hp, u9, r7, z6, rfl, t0, v8⟩
 have y7 := MO.re t0 (Wr.trans t0.wr y2.wr E0.size)
 replace hp := hp v8
 refine sq (o_pv (.int .i64 z5) rfl (by kernel_rfl) ?_)
 refine nil_ ?_
 refine then_normal (r6 _ _ _ _ ?_)
 refine seq_ (fun _ r8 => ?_)
 refine reg_ ?_
 refine sq (o_pv (.int .i64 z5) rfl (by kernel_rfl) ?_)
 refine sq (o_pv (.bool (!decide (z5 = (0 : Int)))) rfl (by kernel_rfl) ?_)
 refine nil_ ?_
 refine then_normal (r8 _ _ _ _ ?_)
 refine cond_nd (z5 = (0 : Int)) (by kernel_rfl) (fun v9 => ?_) (fun v9 => ?_)
 ·
  replace hp := hp.1 v9
  refine seq_ (fun _ r9 => ?_)
  refine reg_ ?_
  refine sq (o_pv (.int .i64 z5) rfl (by kernel_rfl) ?_)
  refine sq (o_pv (.int .i64 z5) rfl (by kernel_rfl) ?_)
  refine nil_ ?_
  refine then_normal (r9 _ _ _ _ ?_)
  refine wp_ret ?_
  refine then_ret ?_
  have q0 := (Evo.thenW E0 (Step.evo z6) y2.wr)
  have t8 := (Sub.trans hS (Step.up z6))
  have t9 := (News.step hN z6)
  refine end_ret hQ (.int .i64 z5) (by kernel_rfl) ?_
  exact ⟨v7, z5, hp, u9, r7, step_of q0 v6 t8 t9, rfl, y7, v8⟩
 ·
  replace hp := hp.2 v9
  refine wp_skip ?_
  refine then_normal (r5 _ _ _ _ ?_)
  refine seq_ (fun _ q1 => ?_)
  refine seq_ (fun _ q2 => ?_)
  refine reg_ ?_
  refine sq (o_pv (.pointer (some ⟨z0, 0, none⟩)) rfl (by kernel_rfl) ?_)
  have s0 := (Sl.step v5 z6)
  have v0 := (Old.step hXo z6)
  have u0 := (Evo.thenW E0 (Step.evo z6) y2.wr)
  have u1 := (Sub.trans hS (Step.up z6))
  have u2 := (News.step hN z6)
  refine sq (o_call 69 #[(.pointer (some ⟨z0, 0, none⟩))] rfl (x_call Tryz.call69 (by kernel_rfl)) (simfs_FS_trips_w (X := u9) (f_ := v7) v0 (MO.re y7 (Wr.self _ _ (Sub.refl _))) hp) ?_)
  rintro _ k7 ⟨u3, q3, hp, t1, q4, z7, rfl, t2⟩
  have v1 := MO.re t2 (Wr.trans t2.wr y7.wr u0.size)
  refine nil_ ?_
  refine then_normal (q2 _ _ _ _ ?_)
  refine cond_b q3 (by kernel_rfl) (fun u4 => ?_) (fun u4 => ?_)
  ·
   replace hp := hp.1 u4
   refine seq_ (fun _ q5 => ?_)
   refine reg_ ?_
   refine sq (o_pv (.int .i64 (13 : Int)) rfl (by kernel_rfl) ?_)
   refine nil_ ?_
   refine then_normal (q5 _ _ _ _ ?_)
   refine wp_ret ?_
   refine then_ret ?_
   have q6 := (Evo.thenW u0 (Step.evo z7) y7.wr)
   have s1 := (Sub.trans u1 (Step.up z7))
   have s2 := (News.step u2 z7)
   refine end_ret hQ (.int .i64 (13 : Int)) (by kernel_rfl) ?_
   exact ⟨u3, (13 : Int), hp, t1, q4, step_of q6 v6 s1 s2, rfl, v1, (by decide : inR .i64 (13 : Int))⟩
  ·
   replace hp := hp.2 u4
   refine wp_skip ?_
   refine then_normal (q1 _ _ _ _ ?_)
   refine seq_ (fun _ q7 => ?_)
   refine reg_ ?_
   refine sq (o_pv (.pointer (some ⟨z0, 0, none⟩)) rfl (by kernel_rfl) ?_)
   refine sq (o_pv (.pointer (some ⟨z0, 0, none⟩)) rfl (by kernel_rfl) ?_)
   refine sq (o_pv (.string p) rfl (by kernel_rfl) ?_)
   refine sq (o_pv (.int .i64 mode) rfl (by kernel_rfl) ?_)
   refine sq (o_pv (.slice y0 b.length y1) rfl (by kernel_rfl) ?_)
   have s3 := (Sl.step s0 z7)
   have v2 := (Old.step v0 z7)
   have t3 := (Evo.thenW u0 (Step.evo z7) y7.wr)
   have s4 := (Sub.trans u1 (Step.up z7))
   have s5 := (News.step u2 z7)
   refine sq (o_call 71 #[(.pointer (some ⟨z0, 0, none⟩)), (.string p), (.int .i64 mode), (.slice y0 b.length y1)] rfl (x_call Tryz.call71 (by kernel_rfl)) (simfs_FS_put_w (X := t1) (f_ := u3) (p := p) (mode := mode) (b := b) v2 (MO.re v1 (Wr.self _ _ (Sub.refl _))) v4 y3 s3 hp) ?_)
   rintro _ k8 ⟨s6, z8, hp, q8, k9, y8, y9, v3, rfl, t4, y4, y5, y6, z2, z3, z1, z9, k4⟩
   have u5 := MO.re t4 (Wr.trans t4.wr v1.wr t3.size)
   replace hp := hp y4
   replace hp := hp y5
   replace hp := hp y6
   replace hp := hp z2
   replace hp := hp z3
   replace hp := hp z1
   replace hp := hp (Sl.len z9)
   have u7 := (Old.step v2 v3)
   have t5 := (Evo.thenW t3 (Step.evo v3) v1.wr)
   have s7 := (Sub.trans s4 (Step.up v3))
   have s8 := (News.step s5 v3)
   refine sq (o_call 70 #[(.pointer (some ⟨z0, 0, none⟩)), (.agg #[(.int .i64 z8.kind), (.string z8.path), (.string z8.to_), (.int .i64 z8.file.mode), (.int .i64 z8.file.time), (.int .i64 z8.file.inode), (.slice y8 z8.file.b.length y9)])] rfl (x_call Tryz.call70 (by kernel_rfl)) (simfs_FS_do_w (X := q8) (f_ := s6) (o := z8) u7 (MO.re u5 (Wr.self _ _ (Sub.refl _))) y4 y5 y6 z2 z3 z1 z9 hp) ?_)
   rintro _ j0 ⟨s9, hp, q9, k0, u6, rfl, t6⟩
   have k1 := MO.re t6 (Wr.trans t6.wr u5.wr t5.size)
   refine nil_ ?_
   refine then_normal (q7 _ _ _ _ ?_)
   refine seq_ (fun _ k2 => ?_)
   refine reg_ ?_
   refine sq (o_pv (.int .i64 (0 : Int)) rfl (by kernel_rfl) ?_)
   refine nil_ ?_
   refine then_normal (k2 _ _ _ _ ?_)
   refine wp_ret ?_
   have k3 := (Evo.thenW t5 (Step.evo u6) u5.wr)
   have r0 := (Sub.trans s7 (Step.up u6))
   have r1 := (News.step s8 u6)
   refine end_ret hQ (.int .i64 (0 : Int)) (by kernel_rfl) ?_
   exact ⟨s9, (0 : Int), hp, q9, k0, step_of k3 v6 r0 r1, rfl, k1, (by decide : inR .i64 (0 : Int))⟩
def simfs_FS_Tick_p (f_ : S_simfs_FS) (Q : S_simfs_FS → Prop) : Prop :=
 ((f_.pending.length ≤ 9223372036854775807) → ((inR .i64 f_.quota) → ((inR .i64 f_.now) → ((inR .i64 f_.inodes) → ((inR .i64 f_.ops_) → ((inR .i64 f_.left) → ((f_.keep.length ≤ 9223372036854775807) → ((inR .i64 (f_.now + (1 : Int))) ∧ Q (S_simfs_FS.mk f_.kept f_.files f_.pending f_.quota (f_.now + (1 : Int)) f_.inodes f_.ops_ f_.off f_.armed f_.left f_.keep)))))))))
set_option maxRecDepth 20000 in
set_option maxHeartbeats 4000000 in
theorem simfs_FS_Tick_w {X : List Nat} {w : World} {f_ : S_simfs_FS} {z0 : Nat} {z2 : List Nat} {Q : S_simfs_FS → Prop} (v9 : Old X w) (y8 : MO o_simfs_FS 78 z2 w.heap.size X w z2 z0 f_) (hp : simfs_FS_Tick_p f_ Q) :
  Calls Tryz.prog 28 #[(.pointer (some ⟨z0, 0, none⟩))] w (Ret fun v w' => ∃ (u0 : S_simfs_FS), Q u0 ∧ ∃ (X' : List Nat) (u1 : List Nat), Step X w z2 X' w' ∧ v = .tuple #[] ∧ MO o_simfs_FS 78 z2 w.heap.size X' w' u1 z0 u0) := by
 have hXo := v9
 have E0 : Evo z2 w w := RB.refl _ _ _
 have hS : Sub X X := Sub.refl _
 have hN : News X w X w := News.refl _ _
 have u2 : Sub z2 X := MO.mem y8
 unfold simfs_FS_Tick_p at hp
 refine enter_ Tryz.func28 rfl 9 [(0, (.pointer (some ⟨z0, 0, none⟩)))] (by kernel_rfl) (fun Qe hQ => ?_)
 refine reg_ ?_
 refine sq (o_pv (.pointer (some ⟨z0, 0, none⟩)) rfl (by kernel_rfl) ?_)
 refine sq (o_pv (.pointer (some ⟨z0, 0, none⟩)) rfl (by kernel_rfl) ?_)
 obtain ⟨y5, z9, u3, u4, v5, y0, y1, y9, y6, y2, v0, z3, y7, z1, z4, z5, z6, t3, t4, t5, t6, v1, v2, v3, u5, u6, u7⟩ := o_simfs_FS_open y8
 replace hp := hp (OS.len v0)
 replace hp := hp z3
 replace hp := hp y7
 replace hp := hp z1
 replace hp := hp z4
 replace hp := hp z5
 replace hp := hp (Sl.len z6)
 refine sq (o_pv (.pointer (some ⟨z0, 4, none⟩)) rfl (by kernel_rfl) ?_)
 refine sq (o_pv (.int .i64 f_.now) rfl (x_load1 (by kernel_rfl) Tryz.isAgg3 (y9.2.1.cell' 4 rfl)) ?_)
 obtain ⟨v4, hp⟩ := hp
 refine sq (o_pv (.int .i64 (f_.now + (1 : Int))) rfl (x_add2 (k := .i64) (a := f_.now) (b := (1 : Int)) (f_.now + (1 : Int)) (by kernel_rfl) (by kernel_rfl) (wrap_inR v4)) ?_)
 refine sq (o_pv (.pointer (some ⟨z0, 0, none⟩)) rfl (by kernel_rfl) ?_)
 refine sq (o_pv (.pointer (some ⟨z0, 4, none⟩)) rfl (by kernel_rfl) ?_)
 refine sq (o_stB (o := 4) (v := (.int .i64 (f_.now + (1 : Int)))) [(.map (some y5)), (.map (some z9)), (.slice u3 u4 v5), (.int .i64 f_.quota), (.int .i64 (f_.now + (1 : Int))), (.int .i64 f_.inodes), (.int .i64 f_.ops_), (.bool f_.off), (.bool f_.armed), (.int .i64 f_.left), (.slice y0 f_.keep.length y1)] rfl y9 (by kernel_rfl) (by kernel_rfl) Tryz.sizeOf3 rfl rfl rfl ?_)
 intro t8 z7 u9
 refine nil_ ?_
 have t0 := (Evo.thenW E0 (Step.evo z7) y9.2.2)
 have v6 := (Sub.trans hS (Step.up z7))
 have v7 := (News.step hN z7)
 have y3 := (OM.step y6 z7 (Ap.symm v1))
 have z8 := (OM.step y2 z7 (Ap.symm v2))
 have v8 := (OS.step v0 z7 (Ap.symm v3))
 have y4 := (Sl.step z6 z7)
 obtain ⟨t1, t2, t7⟩ := MO.pack (o_simfs_FS_mk u9 y3 z8 v8 z3 v4 z1 z4 z5 y4 rfl v1 v2 v3 u5 u6 u7)
 refine end_normal hQ (.tuple #[]) (by kernel_rfl) ?_
 exact ⟨(S_simfs_FS.mk f_.kept f_.files f_.pending f_.quota (f_.now + (1 : Int)) f_.inodes f_.ops_ f_.off f_.armed f_.left f_.keep), hp, X, t1, step_of t0 u2 v6 v7, rfl, t2⟩
def simfs_FS_Pending_p (f_ : S_simfs_FS) (Q : S_simfs_FS → Int → Prop) : Prop :=
 ((f_.pending.length ≤ 9223372036854775807) → ((inR .i64 f_.quota) → ((inR .i64 f_.now) → ((inR .i64 f_.inodes) → ((inR .i64 f_.ops_) → ((inR .i64 f_.left) → ((f_.keep.length ≤ 9223372036854775807) → Q f_ (f_.pending.length : Int))))))))
set_option maxRecDepth 20000 in
set_option maxHeartbeats 4000000 in
theorem simfs_FS_Pending_w {X : List Nat} {w : World} {f_ : S_simfs_FS} {z0 : Nat} {z2 : List Nat} {Q : S_simfs_FS → Int → Prop} (v1 : Old X w) (y1 : MO o_simfs_FS 78 z2 w.heap.size X w z2 z0 f_) (hp : simfs_FS_Pending_p f_ Q) :
  Calls Tryz.prog 29 #[(.pointer (some ⟨z0, 0, none⟩))] w (Ret fun v w' => ∃ (v2 : S_simfs_FS) (y4 : Int), Q v2 y4 ∧ ∃ (X' : List Nat) (v3 : List Nat), Step X w z2 X' w' ∧ v = (.int .i64 y4) ∧ MO o_simfs_FS 78 z2 w.heap.size X' w' v3 z0 v2 ∧ inR .i64 y4) := by
 have hXo := v1
 have E0 : Evo z2 w w := RB.refl _ _ _
 have hS : Sub X X := Sub.refl _
 have hN : News X w X w := News.refl _ _
 have v4 : Sub z2 X := MO.mem y1
 unfold simfs_FS_Pending_p at hp
 refine enter_ Tryz.func29 rfl 8 [(0, (.pointer (some ⟨z0, 0, none⟩)))] (by kernel_rfl) (fun Qe hQ => ?_)
 refine seq_ (fun _ u3 => ?_)
 refine reg_ ?_
 refine sq (o_pv (.int .i64 (0 : Int)) rfl (by kernel_rfl) ?_)
 refine nil_ ?_
 refine then_normal (u3 _ _ _ _ ?_)
 refine seq_ (fun _ u4 => ?_)
 refine reg_ ?_
 refine sq (o_pv (.pointer (some ⟨z0, 0, none⟩)) rfl (by kernel_rfl) ?_)
 refine sq (o_pv (.pointer (some ⟨z0, 0, none⟩)) rfl (by kernel_rfl) ?_)
 obtain ⟨v0, y5, y6, y2, y7, y8, y9, y3, y0, z9, z8, z3, z7, z1, z4, z5, z6, u5, u6, u7, u9, v5, v6, v7, v8, v9, u0⟩ := o_simfs_FS_open y1
 replace hp := hp (OS.len z8)
 replace hp := hp z3
 replace hp := hp z7
 replace hp := hp z1
 replace hp := hp z4
 replace hp := hp z5
 replace hp := hp (Sl.len z6)
 refine sq (o_pv (.pointer (some ⟨z0, 2, none⟩)) rfl (by kernel_rfl) ?_)
 refine sq (o_pv (.slice y6 y2 y7) rfl (x_load1 (by kernel_rfl) Tryz.isAgg76 (y3.2.1.cell' 2 rfl)) ?_)
 refine sq (o_pv (.int .i64 (f_.pending.length : Int)) rfl (by rw [← show y2 = f_.pending.length from z8.1]; kernel_rfl) ?_)
 refine sq (o_pv (.int .i64 (f_.pending.length : Int)) rfl (by kernel_rfl) ?_)
 refine nil_ ?_
 refine then_normal (u4 _ _ _ _ ?_)
 refine wp_ret ?_
 obtain ⟨u1, u2, t0⟩ := MO.pack (o_simfs_FS_mk y3 y0 z9 z8 z3 z7 z1 z4 z5 z6 rfl v5 v6 v7 v8 v9 u0)
 refine end_ret hQ (.int .i64 (f_.pending.length : Int)) (by kernel_rfl) ?_
 exact ⟨f_, (f_.pending.length : Int), hp, X, u1, step_of E0 v4 hS hN, rfl, u2, (inR_len (OS.len z8))⟩
def simfs_FS_find_p (f_ : S_simfs_FS) (p : ByteArray) (Q : S_simfs_FS → S_simfs_file → Int → Prop) : Prop :=
 ((p.size ≤ maxLen) → ((f_.pending.length ≤ 9223372036854775807) → ((inR .i64 f_.quota) → ((inR .i64 f_.now) → ((inR .i64 f_.inodes) → ((inR .i64 f_.ops_) → ((inR .i64 f_.left) → ((f_.keep.length ≤ 9223372036854775807) → ((inR .i64 ((mgetD f_.files p).mode)) → ((inR .i64 ((mgetD f_.files p).time)) → ((inR .i64 ((mgetD f_.files p).inode)) → ((((mgetD f_.files p).b).length ≤ 9223372036854775807) → (((f_.off = true) → Q f_ (S_simfs_file.mk (0 : Int) (0 : Int) (0 : Int) ([] : List Int)) (13 : Int)) ∧ ((f_.off = false) → ((((!(mhas f_.files p)) = true) → Q f_ (S_simfs_file.mk (0 : Int) (0 : Int) (0 : Int) ([] : List Int)) (5 : Int)) ∧ (((!(mhas f_.files p)) = false) → Q f_ (mgetD f_.files p) (0 : Int)))))))))))))))))
set_option maxRecDepth 20000 in
set_option maxHeartbeats 4000000 in
theorem simfs_FS_find_w {X : List Nat} {w : World} {f_ : S_simfs_FS} {p : ByteArray} {z6 : Nat} {y6 : List Nat} {Q : S_simfs_FS → S_simfs_file → Int → Prop} (d6 : Old X w) (u9 : MO o_simfs_FS 78 y6 w.heap.size X w y6 z6 f_) (d7 : p.size ≤ maxLen) (hp : simfs_FS_find_p f_ p Q) :
  Calls Tryz.prog 72 #[(.pointer (some ⟨z6, 0, none⟩)), (.string p)] w (Ret fun v w' => ∃ (d8 : S_simfs_FS) (v2 : S_simfs_file) (k5 : Int), Q d8 v2 k5 ∧ ∃ (X' : List Nat) (d9 : List Nat) (aq0b4 : Option Addr) (cq0b5 : Nat), Step X w y6 X' w' ∧ v = .tuple #[(.agg #[(.int .i64 v2.mode), (.int .i64 v2.time), (.int .i64 v2.inode), (.slice aq0b4 v2.b.length cq0b5)]), (.int .i64 k5)] ∧ MO o_simfs_FS 78 y6 w.heap.size X' w' d9 z6 d8 ∧ inR .i64 v2.mode ∧ inR .i64 v2.time ∧ inR .i64 v2.inode ∧ Sl (rInt .u8) X' w' aq0b4 cq0b5 v2.b ∧ inR .i64 k5) := by
 have hXo := d6
 have E0 : Evo y6 w w := RB.refl _ _ _
 have hS : Sub X X := Sub.refl _
 have hN : News X w X w := News.refl _ _
 have s0 : Sub y6 X := MO.mem u9
 unfold simfs_FS_find_p at hp
 refine enter_ Tryz.func72 rfl 28 [(0, (.pointer (some ⟨z6, 0, none⟩))), (1, (.string p))] (by kernel_rfl) (fun Qe hQ => ?_)
 replace hp := hp d7
 refine seq_ (fun _ m5 => ?_)
 refine reg_ ?_
 refine sq (o_newX [(.int .i64 (0 : Int)), (.int .i64 (0 : Int)), (.int .i64 (0 : Int)), (.slice none 0 0)] 81 (X := X) (B := w.heap.size) E0.size rfl (by kernel_rfl) ?_)
 intro n8 m6 m7 v7 k2 l0
 have t6 := l0 _ (MO.old u9)
 refine sq (o_pv (.int .i64 (0 : Int)) rfl (by kernel_rfl) ?_)
 refine nil_ ?_
 refine then_normal (m5 _ _ _ _ ?_)
 refine seq_ (fun _ l1 => ?_)
 refine reg_ ?_
 refine sq (o_pv (.pointer (some ⟨z6, 0, none⟩)) rfl (by kernel_rfl) ?_)
 refine sq (o_pv (.pointer (some ⟨z6, 0, none⟩)) rfl (by kernel_rfl) ?_)
 have q3 := (MO.step0 u9 v7)
 obtain ⟨k6, v8, m8, m9, n0, k7, k8, s1, y9, y1, t0, z5, y4, z4, z7, z8, z9, k9, j0, j1, j2, s2, s3, s4, s5, s6, s7⟩ := o_simfs_FS_open q3
 have s8 := Ap.subr (Ap.symm t6) k9
 have s9 := Ap.subr (Ap.symm t6) j0
 have r0 := Ap.subr (Ap.symm t6) j1
 have r1 := Ap.subr (Ap.symm t6) j2
 replace hp := hp (OS.len t0)
 replace hp := hp z5
 replace hp := hp y4
 replace hp := hp z4
 replace hp := hp z7
 replace hp := hp z8
 replace hp := hp (Sl.len z9)
 refine sq (o_pv (.pointer (some ⟨z6, 1, none⟩)) rfl (by kernel_rfl) ?_)
 refine sq (o_pv (.map (some v8)) rfl (x_load1 (by kernel_rfl) Tryz.isAgg75 (s1.2.1.cell' 1 rfl)) ?_)
 refine sq (o_pv (.string p) rfl (by kernel_rfl) ?_)
 obtain ⟨n1, j3, j4⟩ := MapAt.look y1.2.1 p [(.int .i64 (0 : Int)), (.int .i64 (0 : Int)), (.int .i64 (0 : Int)), (.slice none 0 0)] (fun _ _ => (r_simfs_file_mk (by decide : inR .i64 (0 : Int)) (by decide : inR .i64 (0 : Int)) (by decide : inR .i64 (0 : Int)) (Sl.nil) rfl))
 obtain ⟨z1, z2, rfl, v0, v1, y7, t7⟩ := r_simfs_file_open j3
 replace hp := hp v0
 replace hp := hp v1
 replace hp := hp y7
 replace hp := hp (Sl.len t7)
 refine sq (o_pv (.tuple #[(.agg #[(.int .i64 ((mgetD f_.files p).mode)), (.int .i64 ((mgetD f_.files p).time)), (.int .i64 ((mgetD f_.files p).inode)), (.slice z1 (((mgetD f_.files p).b).length) z2)]), (.bool (mhas f_.files p))]) rfl (x_lookup2 (w0 := m6) (k := p) (v := (.agg #[(.int .i64 ((mgetD f_.files p).mode)), (.int .i64 ((mgetD f_.files p).time)), (.int .i64 ((mgetD f_.files p).inode)), (.slice z1 (((mgetD f_.files p).b).length) z2)])) (z := (.agg #[(.int .i64 (0 : Int)), (.int .i64 (0 : Int)), (.int .i64 (0 : Int)), (.slice none 0 0)])) (b := mhas f_.files p) (s := 4) (bts := 48) (by kernel_rfl) (by kernel_rfl) j4 rfl Tryz.underlying75 Tryz.underlying9 (by kernel_rfl)) ?_)
 refine sq (o_pv (.tuple #[(.agg #[(.int .i64 ((mgetD f_.files p).mode)), (.int .i64 ((mgetD f_.files p).time)), (.int .i64 ((mgetD f_.files p).inode)), (.slice z1 (((mgetD f_.files p).b).length) z2)]), (.bool (mhas f_.files p))]) rfl (by kernel_rfl) ?_)
 refine sq (o_pv (.agg #[(.int .i64 ((mgetD f_.files p).mode)), (.int .i64 ((mgetD f_.files p).time)), (.int .i64 ((mgetD f_.files p).inode)), (.slice z1 (((mgetD f_.files p).b).length) z2)]) rfl (by kernel_rfl) ?_)
 refine sq (o_pv (.bool (mhas f_.files p)) rfl (by kernel_rfl) ?_)
 have k3 := (Evo.then0 E0 (Step.evo v7))
 refine sq (o_newX [(.int .i64 (0 : Int)), (.int .i64 (0 : Int)), (.int .i64 (0 : Int)), (.slice none 0 0)] 81 (X := m7) (B := w.heap.size) k3.size rfl (by kernel_rfl) ?_)
 intro n4 n5 r2 z3 t8 v9
 have r3 := v9 _ (OB.old k2)
 have l2 := v9 _ (OB.old s1)
 have r4 := v9 _ (OM.old y9)
 have r5 := v9 _ (OM.old y1)
 have r6 := v9 _ (OS.old t0)
 have r7 := (OB.step0 k2 z3)
 have l3 := (OB.step0 s1 z3)
 have y5 := (OM.step0 y9 z3)
 have y2 := (OM.step0 y1 z3)
 have t1 := (OS.step0 t0 z3)
 have r8 := (Evo.then0 k3 (Step.evo z3))
 refine sq (o_stB (o := 0) (v := (.agg #[(.int .i64 ((mgetD f_.files p).mode)), (.int .i64 ((mgetD f_.files p).time)), (.int .i64 ((mgetD f_.files p).inode)), (.slice z1 (((mgetD f_.files p).b).length) z2)])) [(.int .i64 ((mgetD f_.files p).mode)), (.int .i64 ((mgetD f_.files p).time)), (.int .i64 ((mgetD f_.files p).inode)), (.slice z1 (((mgetD f_.files p).b).length) z2)] rfl t8 (by kernel_rfl) (by kernel_rfl) Tryz.sizeOf81 rfl rfl rfl ?_)
 intro n6 z0 l4
 refine sq (o_pv (.bool (mhas f_.files p)) rfl (by kernel_rfl) ?_)
 refine nil_ ?_
 refine then_normal (l1 _ _ _ _ ?_)
 refine seq_ (fun _ l5 => ?_)
 refine wp_block ?_
 refine seq_ (fun _ l6 => ?_)
 refine reg_ ?_
 refine sq (o_pv (.pointer (some ⟨z6, 0, none⟩)) rfl (by kernel_rfl) ?_)
 refine sq (o_pv (.pointer (some ⟨z6, 0, none⟩)) rfl (by kernel_rfl) ?_)
 refine sq (o_pv (.pointer (some ⟨z6, 7, none⟩)) rfl (by kernel_rfl) ?_)
 have t9 := (OB.step l3 z0 l2)
 refine sq (o_pv (.bool f_.off) rfl (x_load1 (by kernel_rfl) Tryz.isAgg4 (t9.2.1.cell' 7 rfl)) ?_)
 refine sq (o_pv (.bool f_.off) rfl (by kernel_rfl) ?_)
 refine nil_ ?_
 refine then_normal (l6 _ _ _ _ ?_)
 refine cond_b f_.off (by kernel_rfl) (fun r9 => ?_) (fun r9 => ?_)
 ·
  replace hp := hp.1 r9
  refine seq_ (fun _ l7 => ?_)
  refine reg_ ?_
  refine sq (o_pv (.agg #[(.int .i64 (0 : Int)), (.int .i64 (0 : Int)), (.int .i64 (0 : Int)), (.slice none 0 0)]) rfl (by kernel_rfl) ?_)
  have k4 := (OB.step r7 z0 r3)
  have t2 := (OM.step y5 z0 r4)
  have u0 := (OM.step y2 z0 r5)
  have j5 := (OS.step t1 z0 r6)
  have l8 := (Evo.thenW r8 (Step.evo z0) (Wr.of t8.2.2))
  refine sq (o_stB (o := 0) (v := (.agg #[(.int .i64 (0 : Int)), (.int .i64 (0 : Int)), (.int .i64 (0 : Int)), (.slice none 0 0)])) [(.int .i64 (0 : Int)), (.int .i64 (0 : Int)), (.int .i64 (0 : Int)), (.slice none 0 0)] rfl k4 (by kernel_rfl) (by kernel_rfl) Tryz.sizeOf81 rfl rfl rfl ?_)
  intro n7 y8 l9
  refine sq (o_pv (.int .i64 (13 : Int)) rfl (by kernel_rfl) ?_)
  refine nil_ ?_
  refine then_normal (l7 _ _ _ _ ?_)
  refine wp_ret ?_
  refine blk_ret ?_
  refine then_ret ?_
  have m0 := (Evo.thenW l8 (Step.evo y8) (Wr.of k4.2.2))
  have j6 := (Sub.trans (Sub.trans (Sub.trans (Sub.trans hS (Step.up v7)) (Step.up z3)) (Step.up z0)) (Step.up y8))
  have j7 := (News.step (News.step (News.step (News.step hN v7) z3) z0) y8)
  have m1 := (OB.step t9 y8 (Ap.symm s8))
  have t3 := (OM.step t2 y8 (Ap.symm s9))
  have u1 := (OM.step u0 y8 (Ap.symm r0))
  have j8 := (OS.step j5 y8 (Ap.symm r1))
  have t4 := (Sl.step (Sl.step (Sl.step z9 z3) z0) y8)
  obtain ⟨j9, g0, m2⟩ := MO.pack (o_simfs_FS_mk m1 t3 u1 j8 z5 y4 z4 z7 z8 t4 rfl s2 s3 s4 s5 s6 s7)
  refine end_ret hQ (.tuple #[(.agg #[(.int .i64 (0 : Int)), (.int .i64 (0 : Int)), (.int .i64 (0 : Int)), (.slice none 0 0)]), (.int .i64 (13 : Int))]) (rs2 Tryz.results72 (rs_agg [(.int .i64 (0 : Int)), (.int .i64 (0 : Int)), (.int .i64 (0 : Int)), (.slice none 0 0)] (by kernel_rfl) Tryz.isAgg81 Tryz.sizeOf81 (l9.2.1.cells' 0 rfl)) (rs_tmp (by kernel_rfl))) ?_
  exact ⟨f_, (S_simfs_file.mk (0 : Int) (0 : Int) (0 : Int) ([] : List Int)), (13 : Int), hp, r2, j9, none, 0, step_of m0 s0 j6 j7, rfl, g0, (by decide : inR .i64 (0 : Int)), (by decide : inR .i64 (0 : Int)), (by decide : inR .i64 (0 : Int)), Sl.nil, (by decide : inR .i64 (13 : Int))⟩
 ·
  replace hp := hp.2 r9
  refine seq_ (fun _ g1 => ?_)
  refine reg_ ?_
  refine sq (o_pv (.bool (mhas f_.files p)) rfl (by kernel_rfl) ?_)
  refine sq (o_pv (.bool (!(mhas f_.files p))) rfl (by kernel_rfl) ?_)
  refine sq (o_pv (.bool (!(mhas f_.files p))) rfl (by kernel_rfl) ?_)
  refine nil_ ?_
  refine then_normal (g1 _ _ _ _ ?_)
  refine cond_b (!(mhas f_.files p)) (by kernel_rfl) (fun t5 => ?_) (fun t5 => ?_)
  ·
   replace hp := hp.1 t5
   refine seq_ (fun _ g2 => ?_)
   refine reg_ ?_
   refine sq (o_pv (.agg #[(.int .i64 (0 : Int)), (.int .i64 (0 : Int)), (.int .i64 (0 : Int)), (.slice none 0 0)]) rfl (by kernel_rfl) ?_)
   have q0 := (OB.step r7 z0 r3)
   have u2 := (OM.step y5 z0 r4)
   have v3 := (OM.step y2 z0 r5)
   have q4 := (OS.step t1 z0 r6)
   have g3 := (Evo.thenW r8 (Step.evo z0) (Wr.of t8.2.2))
   refine sq (o_stB (o := 0) (v := (.agg #[(.int .i64 (0 : Int)), (.int .i64 (0 : Int)), (.int .i64 (0 : Int)), (.slice none 0 0)])) [(.int .i64 (0 : Int)), (.int .i64 (0 : Int)), (.int .i64 (0 : Int)), (.slice none 0 0)] rfl q0 (by kernel_rfl) (by kernel_rfl) Tryz.sizeOf81 rfl rfl rfl ?_)
   intro n2 y3 g4
   refine sq (o_pv (.int .i64 (5 : Int)) rfl (by kernel_rfl) ?_)
   refine nil_ ?_
   refine then_normal (g2 _ _ _ _ ?_)
   refine wp_ret ?_
   refine blk_ret ?_
   refine then_ret ?_
   have g5 := (Evo.thenW g3 (Step.evo y3) (Wr.of q0.2.2))
   have q5 := (Sub.trans (Sub.trans (Sub.trans (Sub.trans hS (Step.up v7)) (Step.up z3)) (Step.up z0)) (Step.up y3))
   have q6 := (News.step (News.step (News.step (News.step hN v7) z3) z0) y3)
   have g6 := (OB.step t9 y3 (Ap.symm s8))
   have u3 := (OM.step u2 y3 (Ap.symm s9))
   have v4 := (OM.step v3 y3 (Ap.symm r0))
   have q7 := (OS.step q4 y3 (Ap.symm r1))
   have u4 := (Sl.step (Sl.step (Sl.step z9 z3) z0) y3)
   obtain ⟨g7, g8, m3⟩ := MO.pack (o_simfs_FS_mk g6 u3 v4 q7 z5 y4 z4 z7 z8 u4 rfl s2 s3 s4 s5 s6 s7)
   refine end_ret hQ (.tuple #[(.agg #[(.int .i64 (0 : Int)), (.int .i64 (0 : Int)), (.int .i64 (0 : Int)), (.slice none 0 0)]), (.int .i64 (5 : Int))]) (rs2 Tryz.results72 (rs_agg [(.int .i64 (0 : Int)), (.int .i64 (0 : Int)), (.int .i64 (0 : Int)), (.slice none 0 0)] (by kernel_rfl) Tryz.isAgg81 Tryz.sizeOf81 (g4.2.1.cells' 0 rfl)) (rs_tmp (by kernel_rfl))) ?_
   exact ⟨f_, (S_simfs_file.mk (0 : Int) (0 : Int) (0 : Int) ([] : List Int)), (5 : Int), hp, r2, g7, none, 0, step_of g5 s0 q5 q6, rfl, g8, (by decide : inR .i64 (0 : Int)), (by decide : inR .i64 (0 : Int)), (by decide : inR .i64 (0 : Int)), Sl.nil, (by decide : inR .i64 (5 : Int))⟩
  ·
   replace hp := hp.2 t5
   refine wp_skip ?_
   refine blk_normal ?_
   refine then_normal (l5 _ _ _ _ ?_)
   refine seq_ (fun _ g9 => ?_)
   refine reg_ ?_
   refine sq (o_pv (.agg #[(.int .i64 ((mgetD f_.files p).mode)), (.int .i64 ((mgetD f_.files p).time)), (.int .i64 ((mgetD f_.files p).inode)), (.slice z1 (((mgetD f_.files p).b).length) z2)]) rfl (x_loadN [(.int .i64 ((mgetD f_.files p).mode)), (.int .i64 ((mgetD f_.files p).time)), (.int .i64 ((mgetD f_.files p).inode)), (.slice z1 (((mgetD f_.files p).b).length) z2)] (by kernel_rfl) Tryz.isAgg81 Tryz.sizeOf81 (l4.2.1.cells' 0 rfl)) ?_)
   have q1 := (OB.step r7 z0 r3)
   have u5 := (OM.step y5 z0 r4)
   have v5 := (OM.step y2 z0 r5)
   have q8 := (OS.step t1 z0 r6)
   have d0 := (Evo.thenW r8 (Step.evo z0) (Wr.of t8.2.2))
   refine sq (o_stB (o := 0) (v := (.agg #[(.int .i64 ((mgetD f_.files p).mode)), (.int .i64 ((mgetD f_.files p).time)), (.int .i64 ((mgetD f_.files p).inode)), (.slice z1 (((mgetD f_.files p).b).length) z2)])) [(.int .i64 ((mgetD f_.files p).mode)), (.int .i64 ((mgetD f_.files p).time)), (.int .i64 ((mgetD f_.files p).inode)), (.slice z1 (((mgetD f_.files p).b).length) z2)] rfl q1 (by kernel_rfl) (by kernel_rfl) Tryz.sizeOf81 rfl rfl rfl ?_)
   intro n3 y0 d1
   refine sq (o_pv (.int .i64 (0 : Int)) rfl (by kernel_rfl) ?_)
   refine nil_ ?_
   refine then_normal (g9 _ _ _ _ ?_)
   refine wp_ret ?_
   have d2 := (Evo.thenW d0 (Step.evo y0) (Wr.of q1.2.2))
   have q9 := (Sub.trans (Sub.trans (Sub.trans (Sub.trans hS (Step.up v7)) (Step.up z3)) (Step.up z0)) (Step.up y0))
   have k0 := (News.step (News.step (News.step (News.step hN v7) z3) z0) y0)
   have d3 := (OB.step t9 y0 (Ap.symm s8))
   have u6 := (OM.step u5 y0 (Ap.symm s9))
   have v6 := (OM.step v5 y0 (Ap.symm r0))
   have k1 := (OS.step q8 y0 (Ap.symm r1))
   have u7 := (Sl.step (Sl.step (Sl.step z9 z3) z0) y0)
   have q2 := (Sl.step (Sl.step (Sl.step t7 z3) z0) y0)
   obtain ⟨d4, d5, m4⟩ := MO.pack (o_simfs_FS_mk d3 u6 v6 k1 z5 y4 z4 z7 z8 u7 rfl s2 s3 s4 s5 s6 s7)
   refine end_ret hQ (.tuple #[(.agg #[(.int .i64 ((mgetD f_.files p).mode)), (.int .i64 ((mgetD f_.files p).time)), (.int .i64 ((mgetD f_.files p).inode)), (.slice z1 (((mgetD f_.files p).b).length) z2)]), (.int .i64 (0 : Int))]) (rs2 Tryz.results72 (rs_agg [(.int .i64 ((mgetD f_.files p).mode)), (.int .i64 ((mgetD f_.files p).time)), (.int .i64 ((mgetD f_.files p).inode)), (.slice z1 (((mgetD f_.files p).b).length) z2)] (by kernel_rfl) Tryz.isAgg81 Tryz.sizeOf81 (d1.2.1.cells' 0 rfl)) (rs_tmp (by kernel_rfl))) ?_
   exact ⟨f_, (mgetD f_.files p), (0 : Int), hp, r2, d4, z1, z2, step_of d2 s0 q9 k0, rfl, d5, v0, v1, y7, q2, (by decide : inR .i64 (0 : Int))⟩
def slices_Clip_byte_byte_p (s : (List Int)) (Q : (List Int) → Prop) : Prop :=
 ((s.length ≤ 9223372036854775807) → ((0 ≤ (s.length : Int) ∧ (s.length : Int) ≤ (s.length : Int)) ∧ Q s))
set_option maxRecDepth 20000 in
set_option maxHeartbeats 4000000 in
theorem slices_Clip_byte_byte_w {X : List Nat} {w : World} {s : (List Int)} {z0 : Option Addr} {z1 : Nat} {Q : (List Int) → Prop} (z6 : Old X w) (z4 : Sl (rInt .u8) X w z0 z1 s) (hp : slices_Clip_byte_byte_p s Q) :
  Calls Tryz.prog 73 #[(.slice z0 s.length z1)] w (Ret fun v w' => ∃ (z2 : (List Int)), Q z2 ∧ Evo [] w w' ∧ ∃ (z3 : Option Addr), v = (.slice z3 z2.length z2.length) ∧ Sl (rInt .u8) X w' z3 z2.length z2) := by
 have hXo := z6
 have E0 : Evo [] w w := RB.refl _ _ _
 have hS : Sub X X := Sub.refl _
 unfold slices_Clip_byte_byte_p at hp
 refine enter_ Tryz.func73 rfl 9 [(0, (.slice z0 s.length z1))] (by kernel_rfl) (fun Qe hQ => ?_)
 replace hp := hp (Sl.len z4)
 refine seq_ (fun _ z8 => ?_)
 refine reg_ ?_
 refine sq (o_pv (.slice none 0 0) rfl (by kernel_rfl) ?_)
 refine nil_ ?_
 refine then_normal (z8 _ _ _ _ ?_)
 refine seq_ (fun _ z9 => ?_)
 refine reg_ ?_
 refine sq (o_pv (.slice z0 s.length z1) rfl (by kernel_rfl) ?_)
 refine sq (o_pv (.slice z0 s.length z1) rfl (by kernel_rfl) ?_)
 refine sq (o_pv (.int .i64 (s.length : Int)) rfl (by kernel_rfl) ?_)
 refine sq (o_pv (.slice z0 s.length z1) rfl (by kernel_rfl) ?_)
 refine sq (o_pv (.int .i64 (s.length : Int)) rfl (by kernel_rfl) ?_)
 obtain ⟨y0, hp⟩ := hp
 refine sq (o_slice3F (R := (rInt .u8)) (k := .i64) (k' := .i64) (X := X) (L := s) (s.length : Int) Tryz.underlying32 Tryz.sizeOf5 z4 (by kernel_rfl) rfl rfl (by kernel_rfl) (by kernel_rfl) y0 ?_)
 intro z5 z7
 rw [take_len] at z7
 rw [take_len]
 refine sq (o_pv (.slice z5 s.length s.length) rfl (by kernel_rfl) ?_)
 refine nil_ ?_
 refine then_normal (z9 _ _ _ _ ?_)
 refine wp_ret ?_
 refine end_ret hQ (.slice z5 s.length s.length) (by kernel_rfl) ?_
 exact ⟨s, hp, E0, z5, rfl, (Sl.less z7 hS)⟩
def simfs_FS_Read_p (f_ : S_simfs_FS) (p : ByteArray) (Q : S_simfs_FS → (List Int) → Int → Prop) : Prop :=
 ((p.size ≤ maxLen) → (simfs_FS_find_p f_ p (fun (z2 : S_simfs_FS) (z0 : S_simfs_file) (z1 : Int) => ((inR .i64 z0.mode) → ((inR .i64 z0.time) → ((inR .i64 z0.inode) → ((z0.b.length ≤ 9223372036854775807) → ((inR .i64 z1) → (((¬ (z1 = (0 : Int))) → Q z2 ([] : List Int) z1) ∧ ((z1 = (0 : Int)) → (slices_Clone_byte_byte_p z0.b (fun (z3 : (List Int)) => ((z3.length ≤ 9223372036854775807) → (slices_Clip_byte_byte_p z3 (fun (z4 : (List Int)) => ((z4.length ≤ 9223372036854775807) → Q z2 z4 (0 : Int)))))))))))))))))
set_option maxRecDepth 20000 in
set_option maxHeartbeats 4000000 in
theorem simfs_FS_Read_w {X : List Nat} {w : World} {f_ : S_simfs_FS} {p : ByteArray} {z4 : Nat} {z5 : List Nat} {Q : S_simfs_FS → (List Int) → Int → Prop} (u2 : Old X w) (y0 : MO o_simfs_FS 78 z5 w.heap.size X w z5 z4 f_) (u3 : p.size ≤ maxLen) (hp : simfs_FS_Read_p f_ p Q) :
  Calls Tryz.prog 30 #[(.pointer (some ⟨z4, 0, none⟩)), (.string p)] w (Ret fun v w' => ∃ (s9 : S_simfs_FS) (s0 : (List Int)) (s1 : Int), Q s9 s0 s1 ∧ ∃ (X' : List Nat) (r0 : List Nat) (y8 : Option Addr) (y9 : Nat), Step X w z5 X' w' ∧ v = .tuple #[(.slice y8 s0.length y9), (.int .i64 s1)] ∧ MO o_simfs_FS 78 z5 w.heap.size X' w' r0 z4 s9 ∧ Sl (rInt .u8) X' w' y8 y9 s0 ∧ inR .i64 s1) := by
 have hXo := u2
 have E0 : Evo z5 w w := RB.refl _ _ _
 have hS : Sub X X := Sub.refl _
 have hN : News X w X w := News.refl _ _
 have u4 : Sub z5 X := MO.mem y0
 unfold simfs_FS_Read_p at hp
 refine enter_ Tryz.func30 rfl 21 [(0, (.pointer (some ⟨z4, 0, none⟩))), (1, (.string p))] (by kernel_rfl) (fun Qe hQ => ?_)
 replace hp := hp u3
 refine seq_ (fun _ k1 => ?_)
 refine reg_ ?_
 refine sq (o_pv (.slice none 0 0) rfl (by kernel_rfl) ?_)
 refine sq (o_pv (.int .i64 (0 : Int)) rfl (by kernel_rfl) ?_)
 refine nil_ ?_
 refine then_normal (k1 _ _ _ _ ?_)
 refine seq_ (fun _ k2 => ?_)
 refine reg_ ?_
 refine sq (o_pv (.pointer (some ⟨z4, 0, none⟩)) rfl (by kernel_rfl) ?_)
 refine sq (o_pv (.string p) rfl (by kernel_rfl) ?_)
 refine sq (o_call 72 #[(.pointer (some ⟨z4, 0, none⟩)), (.string p)] rfl (x_call Tryz.call72 (by kernel_rfl)) (simfs_FS_find_w (X := X) (f_ := f_) (p := p) hXo (MO.re y0 (Wr.self _ _ (Sub.refl _))) u3 hp) ?_)
 rintro _ k3 ⟨u5, z0, z7, hp, r1, u6, z1, z2, z8, rfl, u7, y3, y4, y1, y6, v0⟩
 have u9 := MO.re u7 (Wr.trans u7.wr y0.wr E0.size)
 replace hp := hp y3
 replace hp := hp y4
 replace hp := hp y1
 replace hp := hp (Sl.len y6)
 replace hp := hp v0
 refine sq (o_pv (.tuple #[(.agg #[(.int .i64 z0.mode), (.int .i64 z0.time), (.int .i64 z0.inode), (.slice z1 z0.b.length z2)]), (.int .i64 z7)]) rfl (by kernel_rfl) ?_)
 refine sq (o_pv (.agg #[(.int .i64 z0.mode), (.int .i64 z0.time), (.int .i64 z0.inode), (.slice z1 z0.b.length z2)]) rfl (by kernel_rfl) ?_)
 refine sq (o_pv (.int .i64 z7) rfl (by kernel_rfl) ?_)
 have t0 := (Evo.thenW E0 (Step.evo z8) y0.wr)
 refine sq (o_newX [(.int .i64 (0 : Int)), (.int .i64 (0 : Int)), (.int .i64 (0 : Int)), (.slice none 0 0)] 81 (X := r1) (B := w.heap.size) t0.size rfl (by kernel_rfl) ?_)
 intro r2 k4 t1 z6 v1 r3
 have t2 := r3 _ (MO.old u9)
 have t3 := (MO.step0 u9 z6)
 have t4 := (Evo.then0 t0 (Step.evo z6))
 refine sq (o_stB (o := 0) (v := (.agg #[(.int .i64 z0.mode), (.int .i64 z0.time), (.int .i64 z0.inode), (.slice z1 z0.b.length z2)])) [(.int .i64 z0.mode), (.int .i64 z0.time), (.int .i64 z0.inode), (.slice z1 z0.b.length z2)] rfl v1 (by kernel_rfl) (by kernel_rfl) Tryz.sizeOf81 rfl rfl rfl ?_)
 intro k5 z3 r4
 refine sq (o_pv (.int .i64 z7) rfl (by kernel_rfl) ?_)
 refine nil_ ?_
 refine then_normal (k2 _ _ _ _ ?_)
 refine seq_ (fun _ r5 => ?_)
 refine seq_ (fun _ r6 => ?_)
 refine reg_ ?_
 refine sq (o_pv (.int .i64 z7) rfl (by kernel_rfl) ?_)
 refine sq (o_pv (.bool (!decide (z7 = (0 : Int)))) rfl (by kernel_rfl) ?_)
 refine nil_ ?_
 refine then_normal (r6 _ _ _ _ ?_)
 refine cond_nd (z7 = (0 : Int)) (by kernel_rfl) (fun v2 => ?_) (fun v2 => ?_)
 ·
  replace hp := hp.1 v2
  refine seq_ (fun _ r7 => ?_)
  refine reg_ ?_
  refine sq (o_pv (.int .i64 z7) rfl (by kernel_rfl) ?_)
  refine sq (o_pv (.slice none 0 0) rfl (by kernel_rfl) ?_)
  refine sq (o_pv (.int .i64 z7) rfl (by kernel_rfl) ?_)
  refine nil_ ?_
  refine then_normal (r7 _ _ _ _ ?_)
  refine wp_ret ?_
  refine then_ret ?_
  have r8 := (Evo.thenW t4 (Step.evo z3) (Wr.of v1.2.2))
  have s2 := (Sub.trans (Sub.trans (Sub.trans hS (Step.up z8)) (Step.up z6)) (Step.up z3))
  have s3 := (News.step (News.step (News.step hN z8) z6) z3)
  have r9 := (MO.step t3 z3 t2)
  refine end_ret hQ (.tuple #[(.slice none 0 0), (.int .i64 z7)]) (by kernel_rfl) ?_
  exact ⟨u5, ([] : List Int), z7, hp, t1, u6, none, 0, step_of r8 u4 s2 s3, rfl, r9, Sl.nil, v0⟩
 ·
  replace hp := hp.2 v2
  refine wp_skip ?_
  refine then_normal (r5 _ _ _ _ ?_)
  refine seq_ (fun _ q0 => ?_)
  refine reg_ ?_
  refine sq (o_pv (.pointer (some ⟨r2, 3, none⟩)) rfl (by kernel_rfl) ?_)
  refine sq (o_pv (.slice z1 z0.b.length z2) rfl (x_load1 (by kernel_rfl) Tryz.isAgg32 (r4.2.1.cell' 3 rfl)) ?_)
  have v9 := (Sl.step (Sl.step y6 z6) z3)
  have y7 := (Old.step (Old.step (Old.step hXo z8) z6) z3)
  have t5 := (MO.step t3 z3 t2)
  refine sq (o_call 74 #[(.slice z1 z0.b.length z2)] rfl (x_call Tryz.call74 (by kernel_rfl)) (slices_Clone_byte_byte_w (X := t1) (s := z0.b) y7 (Sl.sq v9) hp) ?_)
  rintro _ k6 ⟨t6, hp, q1, q2, q3, rfl, q4⟩
  have t7 := (Evo.thenW t4 (Step.evo z3) (Wr.of v1.2.2))
  obtain ⟨k7, y2, v3, q5⟩ := OS.own_in q4 q1 t7.size
  have q6 := q5 _ (MO.old t5)
  replace hp := hp (OS.len v3)
  have s4 := (Sub.trans (Sub.trans (Sub.trans (Sub.trans hS (Step.up z8)) (Step.up z6)) (Step.up z3)) (Step.up y2))
  have u0 := (Old.step y7 y2)
  have q7 := (Evo.then0 t7 (Step.evo y2))
  have s5 := (News.step (News.step (News.step (News.step hN z8) z6) z3) y2)
  have t8 := (MO.step0 t5 y2)
  have s6 := OS.apold v3 u2
  obtain ⟨v4, v5, q8, v6⟩ := OS.release v3
  have u1 := (Old.less u0 v5)
  refine sq (o_call 73 #[(.slice q2 t6.length q3)] rfl (x_call Tryz.call73 (by kernel_rfl)) (slices_Clip_byte_byte_w (X := v4) (s := t6) u1 q8 hp) ?_)
  rintro _ k8 ⟨z9, hp, t9, y5, rfl, v7⟩
  have v8 := Step.of0 v4 t9
  replace hp := hp (Sl.len v7)
  refine sq (o_pv (.slice y5 z9.length z9.length) rfl (by kernel_rfl) ?_)
  refine sq (o_pv (.int .i64 (0 : Int)) rfl (by kernel_rfl) ?_)
  refine nil_ ?_
  refine then_normal (q0 _ _ _ _ ?_)
  refine wp_ret ?_
  have q9 := (Evo.then0 q7 t9)
  have s7 := (Sub.trans (v6 _ s6 s4) (Step.up v8))
  have s8 := (News.step (News.less s5 v5) v8)
  have k0 := (MO.step0 (MO.less t8 v5 (v6 _ q6 (MO.mem t8))) v8)
  refine end_ret hQ (.tuple #[(.slice y5 z9.length z9.length), (.int .i64 (0 : Int))]) (by kernel_rfl) ?_
  exact ⟨u5, z9, (0 : Int), hp, v4, u6, y5, z9.length, step_of q9 u4 s7 s8, rfl, k0, v7, (by decide : inR .i64 (0 : Int))⟩
def simfs_FS_On_p (f_ : S_simfs_FS) (Q : S_simfs_FS → Prop) : Prop :=
 ((f_.pending.length ≤ 9223372036854775807) → ((inR .i64 f_.quota) → ((inR .i64 f_.now) → ((inR .i64 f_.inodes) → ((inR .i64 f_.ops_) → ((inR .i64 f_.left) → ((f_.keep.length ≤ 9223372036854775807) → Q (S_simfs_FS.mk f_.kept f_.files f_.pending f_.quota f_.now f_.inodes f_.ops_ false f_.armed f_.left f_.keep))))))))
set_option maxRecDepth 20000 in
set_option maxHeartbeats 4000000 in
theorem simfs_FS_On_w {X : List Nat} {w : World} {f_ : S_simfs_FS} {z0 : Nat} {z2 : List Nat} {Q : S_simfs_FS → Prop} (v8 : Old X w) (y8 : MO o_simfs_FS 78 z2 w.heap.size X w z2 z0 f_) (hp : simfs_FS_On_p f_ Q) :
  Calls Tryz.prog 22 #[(.pointer (some ⟨z0, 0, none⟩))] w (Ret fun v w' => ∃ (v9 : S_simfs_FS), Q v9 ∧ ∃ (X' : List Nat) (u0 : List Nat), Step X w z2 X' w' ∧ v = .tuple #[] ∧ MO o_simfs_FS 78 z2 w.heap.size X' w' u0 z0 v9) := by
 have hXo := v8
 have E0 : Evo z2 w w := RB.refl _ _ _
 have hS : Sub X X := Sub.refl _
 have hN : News X w X w := News.refl _ _
 have u1 : Sub z2 X := MO.mem y8
 unfold simfs_FS_On_p at hp
 refine enter_ Tryz.func22 rfl 5 [(0, (.pointer (some ⟨z0, 0, none⟩)))] (by kernel_rfl) (fun Qe hQ => ?_)
 refine reg_ ?_
 refine sq (o_pv (.pointer (some ⟨z0, 0, none⟩)) rfl (by kernel_rfl) ?_)
 refine sq (o_pv (.pointer (some ⟨z0, 0, none⟩)) rfl (by kernel_rfl) ?_)
 obtain ⟨y6, y0, u2, u3, v4, y1, y2, v0, y7, y3, y9, z3, z8, z1, z4, z5, z6, t2, t3, t4, t5, v1, v2, v3, u4, u5, u6⟩ := o_simfs_FS_open y8
 replace hp := hp (OS.len y9)
 replace hp := hp z3
 replace hp := hp z8
 replace hp := hp z1
 replace hp := hp z4
 replace hp := hp z5
 replace hp := hp (Sl.len z6)
 refine sq (o_pv (.pointer (some ⟨z0, 7, none⟩)) rfl (by kernel_rfl) ?_)
 refine sq (o_stB (o := 7) (v := (.bool false)) [(.map (some y6)), (.map (some y0)), (.slice u2 u3 v4), (.int .i64 f_.quota), (.int .i64 f_.now), (.int .i64 f_.inodes), (.int .i64 f_.ops_), (.bool false), (.bool f_.armed), (.int .i64 f_.left), (.slice y1 f_.keep.length y2)] rfl v0 (by kernel_rfl) (by kernel_rfl) Tryz.sizeOf4 rfl rfl rfl ?_)
 intro t7 z7 u7
 refine nil_ ?_
 have u9 := (Evo.thenW E0 (Step.evo z7) v0.2.2)
 have v5 := (Sub.trans hS (Step.up z7))
 have v6 := (News.step hN z7)
 have y4 := (OM.step y7 z7 (Ap.symm v1))
 have z9 := (OM.step y3 z7 (Ap.symm v2))
 have v7 := (OS.step y9 z7 (Ap.symm v3))
 have y5 := (Sl.step z6 z7)
 obtain ⟨t0, t1, t6⟩ := MO.pack (o_simfs_FS_mk u7 y4 z9 v7 z3 z8 z1 z4 z5 y5 rfl v1 v2 v3 u4 u5 u6)
 refine end_normal hQ (.tuple #[]) (by kernel_rfl) ?_
 exact ⟨(S_simfs_FS.mk f_.kept f_.files f_.pending f_.quota f_.now f_.inodes f_.ops_ false f_.armed f_.left f_.keep), hp, X, t0, step_of u9 u1 v5 v6, rfl, t1⟩
def simfs_FS_Stat_p (f_ : S_simfs_FS) (p : ByteArray) (Q : S_simfs_FS → S_simfs_Stat → Int → Prop) : Prop :=
 ((p.size ≤ maxLen) → (simfs_FS_find_p f_ p (fun (z2 : S_simfs_FS) (z0 : S_simfs_file) (z1 : Int) => ((inR .i64 z0.mode) → ((inR .i64 z0.time) → ((inR .i64 z0.inode) → ((z0.b.length ≤ 9223372036854775807) → ((inR .i64 z1) → (((¬ (z1 = (0 : Int))) → Q z2 (S_simfs_Stat.mk (0 : Int) (0 : Int) (0 : Int) (0 : Int)) z1) ∧ ((z1 = (0 : Int)) → Q z2 (S_simfs_Stat.mk (z0.b.length : Int) z0.time z0.inode z0.mode) (0 : Int)))))))))))
set_option maxRecDepth 20000 in
set_option maxHeartbeats 4000000 in
theorem simfs_FS_Stat_w {X : List Nat} {w : World} {f_ : S_simfs_FS} {p : ByteArray} {z5 : Nat} {z6 : List Nat} {Q : S_simfs_FS → S_simfs_Stat → Int → Prop} (s4 : Old X w) (y4 : MO o_simfs_FS 78 z6 w.heap.size X w z6 z5 f_) (v9 : p.size ≤ maxLen) (hp : simfs_FS_Stat_p f_ p Q) :
  Calls Tryz.prog 31 #[(.pointer (some ⟨z5, 0, none⟩)), (.string p)] w (Ret fun v w' => ∃ (s5 : S_simfs_FS) (y2 : S_simfs_Stat) (t9 : Int), Q s5 y2 t9 ∧ ∃ (X' : List Nat) (s6 : List Nat), Step X w z6 X' w' ∧ v = .tuple #[(.agg #[(.int .i64 y2.Size), (.int .i64 y2.Time), (.int .i64 y2.Inode), (.int .i64 y2.Mode)]), (.int .i64 t9)] ∧ MO o_simfs_FS 78 z6 w.heap.size X' w' s6 z5 s5 ∧ inR .i64 y2.Size ∧ inR .i64 y2.Time ∧ inR .i64 y2.Inode ∧ inR .i64 y2.Mode ∧ inR .i64 t9) := by
 have hXo := s4
 have E0 : Evo z6 w w := RB.refl _ _ _
 have hS : Sub X X := Sub.refl _
 have hN : News X w X w := News.refl _ _
 have u0 : Sub z6 X := MO.mem y4
 unfold simfs_FS_Stat_p at hp
 refine enter_ Tryz.func31 rfl 28 [(0, (.pointer (some ⟨z5, 0, none⟩))), (1, (.string p))] (by kernel_rfl) (fun Qe hQ => ?_)
 replace hp := hp v9
 refine seq_ (fun _ q4 => ?_)
 refine reg_ ?_
 refine sq (o_newX [(.int .i64 (0 : Int)), (.int .i64 (0 : Int)), (.int .i64 (0 : Int)), (.int .i64 (0 : Int))] 69 (X := X) (B := w.heap.size) E0.size rfl (by kernel_rfl) ?_)
 intro k1 k2 q5 v0 u1 s7
 have u2 := s7 _ (MO.old y4)
 refine sq (o_pv (.int .i64 (0 : Int)) rfl (by kernel_rfl) ?_)
 refine nil_ ?_
 refine then_normal (q4 _ _ _ _ ?_)
 refine seq_ (fun _ s8 => ?_)
 refine reg_ ?_
 refine sq (o_pv (.pointer (some ⟨z5, 0, none⟩)) rfl (by kernel_rfl) ?_)
 refine sq (o_pv (.string p) rfl (by kernel_rfl) ?_)
 have y3 := (MO.step0 y4 v0)
 have v8 := (Old.step hXo v0)
 have u3 := (Evo.then0 E0 (Step.evo v0))
 have v1 := (Sub.trans hS (Step.up v0))
 have v2 := (News.step hN v0)
 refine sq (o_call 72 #[(.pointer (some ⟨z5, 0, none⟩)), (.string p)] rfl (x_call Tryz.call72 (by kernel_rfl)) (simfs_FS_find_w (X := q5) (f_ := f_) (p := p) v8 (MO.re y3 (Wr.self _ _ (Sub.refl _))) v9 hp) ?_)
 rintro _ q6 ⟨v3, z0, z1, hp, s9, u4, z3, z4, y1, rfl, v4, z8, z9, z7, y5, v5⟩
 have u5 := MO.re v4 (Wr.trans v4.wr y3.wr u3.size)
 have u6 := Ap.grow v4.wr (Ap.symm u2) (OB.old u1) (Nat.le_refl _)
 replace hp := hp z8
 replace hp := hp z9
 replace hp := hp z7
 replace hp := hp (Sl.len y5)
 replace hp := hp v5
 refine sq (o_pv (.tuple #[(.agg #[(.int .i64 z0.mode), (.int .i64 z0.time), (.int .i64 z0.inode), (.slice z3 z0.b.length z4)]), (.int .i64 z1)]) rfl (by kernel_rfl) ?_)
 refine sq (o_pv (.agg #[(.int .i64 z0.mode), (.int .i64 z0.time), (.int .i64 z0.inode), (.slice z3 z0.b.length z4)]) rfl (by kernel_rfl) ?_)
 refine sq (o_pv (.int .i64 z1) rfl (by kernel_rfl) ?_)
 have u7 := (OB.step u1 y1 (Ap.symm u2))
 have u9 := (Evo.thenW u3 (Step.evo y1) y3.wr)
 refine sq (o_newX [(.int .i64 (0 : Int)), (.int .i64 (0 : Int)), (.int .i64 (0 : Int)), (.slice none 0 0)] 81 (X := s9) (B := w.heap.size) u9.size rfl (by kernel_rfl) ?_)
 intro y6 q7 t0 y0 v6 t1
 have t2 := t1 _ (OB.old u7)
 have t3 := t1 _ (MO.old u5)
 have t4 := (OB.step0 u7 y0)
 have t5 := (MO.step0 u5 y0)
 have t6 := (Evo.then0 u9 (Step.evo y0))
 refine sq (o_stB (o := 0) (v := (.agg #[(.int .i64 z0.mode), (.int .i64 z0.time), (.int .i64 z0.inode), (.slice z3 z0.b.length z4)])) [(.int .i64 z0.mode), (.int .i64 z0.time), (.int .i64 z0.inode), (.slice z3 z0.b.length z4)] rfl v6 (by kernel_rfl) (by kernel_rfl) Tryz.sizeOf81 rfl rfl rfl ?_)
 intro q8 z2 y7
 refine sq (o_pv (.int .i64 z1) rfl (by kernel_rfl) ?_)
 refine nil_ ?_
 refine then_normal (s8 _ _ _ _ ?_)
 refine seq_ (fun _ r0 => ?_)
 refine seq_ (fun _ r1 => ?_)
 refine reg_ ?_
 refine sq (o_pv (.int .i64 z1) rfl (by kernel_rfl) ?_)
 refine sq (o_pv (.bool (!decide (z1 = (0 : Int)))) rfl (by kernel_rfl) ?_)
 refine nil_ ?_
 refine then_normal (r1 _ _ _ _ ?_)
 refine cond_nd (z1 = (0 : Int)) (by kernel_rfl) (fun v7 => ?_) (fun v7 => ?_)
 ·
  replace hp := hp.1 v7
  refine seq_ (fun _ r2 => ?_)
  refine reg_ ?_
  refine sq (o_pv (.agg #[(.int .i64 (0 : Int)), (.int .i64 (0 : Int)), (.int .i64 (0 : Int)), (.int .i64 (0 : Int))]) rfl (by kernel_rfl) ?_)
  refine sq (o_pv (.int .i64 z1) rfl (by kernel_rfl) ?_)
  have t7 := (OB.step t4 z2 t2)
  have r3 := (MO.step t5 z2 t3)
  have r4 := (Evo.thenW t6 (Step.evo z2) (Wr.of v6.2.2))
  refine sq (o_stB (o := 0) (v := (.agg #[(.int .i64 (0 : Int)), (.int .i64 (0 : Int)), (.int .i64 (0 : Int)), (.int .i64 (0 : Int))])) [(.int .i64 (0 : Int)), (.int .i64 (0 : Int)), (.int .i64 (0 : Int)), (.int .i64 (0 : Int))] rfl t7 (by kernel_rfl) (by kernel_rfl) Tryz.sizeOf69 rfl rfl rfl ?_)
  intro q9 y8 r5
  refine sq (o_pv (.int .i64 z1) rfl (by kernel_rfl) ?_)
  refine nil_ ?_
  refine then_normal (r2 _ _ _ _ ?_)
  refine wp_ret ?_
  refine then_ret ?_
  have r6 := (Evo.thenW r4 (Step.evo y8) (Wr.of t7.2.2))
  have s0 := (Sub.trans (Sub.trans (Sub.trans (Sub.trans v1 (Step.up y1)) (Step.up y0)) (Step.up z2)) (Step.up y8))
  have s1 := (News.step (News.step (News.step (News.step v2 y1) y0) z2) y8)
  have r7 := (MO.step r3 y8 (Ap.symm u6))
  refine end_ret hQ (.tuple #[(.agg #[(.int .i64 (0 : Int)), (.int .i64 (0 : Int)), (.int .i64 (0 : Int)), (.int .i64 (0 : Int))]), (.int .i64 z1)]) (rs2 Tryz.results31 (rs_agg [(.int .i64 (0 : Int)), (.int .i64 (0 : Int)), (.int .i64 (0 : Int)), (.int .i64 (0 : Int))] (by kernel_rfl) Tryz.isAgg69 Tryz.sizeOf69 (r5.2.1.cells' 0 rfl)) (rs_tmp (by kernel_rfl))) ?_
  exact ⟨v3, (S_simfs_Stat.mk (0 : Int) (0 : Int) (0 : Int) (0 : Int)), z1, hp, t0, u4, step_of r6 u0 s0 s1, rfl, r7, (by decide : inR .i64 (0 : Int)), (by decide : inR .i64 (0 : Int)), (by decide : inR .i64 (0 : Int)), (by decide : inR .i64 (0 : Int)), v5⟩
 ·
  replace hp := hp.2 v7
  refine wp_skip ?_
  refine then_normal (r0 _ _ _ _ ?_)
  refine seq_ (fun _ r8 => ?_)
  refine reg_ ?_
  refine sq (o_pv (.pointer (some ⟨y6, 3, none⟩)) rfl (by kernel_rfl) ?_)
  refine sq (o_pv (.slice z3 z0.b.length z4) rfl (x_load1 (by kernel_rfl) Tryz.isAgg32 (y7.2.1.cell' 3 rfl)) ?_)
  refine sq (o_pv (.int .i64 (z0.b.length : Int)) rfl (by kernel_rfl) ?_)
  refine sq (o_pv (.pointer (some ⟨y6, 1, none⟩)) rfl (by kernel_rfl) ?_)
  refine sq (o_pv (.int .i64 z0.time) rfl (x_load1 (by kernel_rfl) Tryz.isAgg3 (y7.2.1.cell' 1 rfl)) ?_)
  refine sq (o_pv (.pointer (some ⟨y6, 2, none⟩)) rfl (by kernel_rfl) ?_)
  refine sq (o_pv (.int .i64 z0.inode) rfl (x_load1 (by kernel_rfl) Tryz.isAgg3 (y7.2.1.cell' 2 rfl)) ?_)
  refine sq (o_pv (.pointer (some ⟨y6, 0, none⟩)) rfl (by kernel_rfl) ?_)
  refine sq (o_pv (.int .i64 z0.mode) rfl (x_load1 (by kernel_rfl) Tryz.isAgg3 (y7.2.1.cell' 0 rfl)) ?_)
  refine sq (o_pv (.agg #[(.int .i64 (z0.b.length : Int)), (.int .i64 z0.time), (.int .i64 z0.inode), (.int .i64 z0.mode)]) rfl (by kernel_rfl) ?_)
  have t8 := (OB.step t4 z2 t2)
  have r9 := (MO.step t5 z2 t3)
  have q0 := (Evo.thenW t6 (Step.evo z2) (Wr.of v6.2.2))
  refine sq (o_stB (o := 0) (v := (.agg #[(.int .i64 (z0.b.length : Int)), (.int .i64 z0.time), (.int .i64 z0.inode), (.int .i64 z0.mode)])) [(.int .i64 (z0.b.length : Int)), (.int .i64 z0.time), (.int .i64 z0.inode), (.int .i64 z0.mode)] rfl t8 (by kernel_rfl) (by kernel_rfl) Tryz.sizeOf69 rfl rfl rfl ?_)
  intro k0 y9 q1
  refine sq (o_pv (.int .i64 (0 : Int)) rfl (by kernel_rfl) ?_)
  refine nil_ ?_
  refine then_normal (r8 _ _ _ _ ?_)
  refine wp_ret ?_
  have q2 := (Evo.thenW q0 (Step.evo y9) (Wr.of t8.2.2))
  have s2 := (Sub.trans (Sub.trans (Sub.trans (Sub.trans v1 (Step.up y1)) (Step.up y0)) (Step.up z2)) (Step.up y9))
  have s3 := (News.step (News.step (News.step (News.step v2 y1) y0) z2) y9)
  have q3 := (MO.step r9 y9 (Ap.symm u6))
  refine end_ret hQ (.tuple #[(.agg #[(.int .i64 (z0.b.length : Int)), (.int .i64 z0.time), (.int .i64 z0.inode), (.int .i64 z0.mode)]), (.int .i64 (0 : Int))]) (rs2 Tryz.results31 (rs_agg [(.int .i64 (z0.b.length : Int)), (.int .i64 z0.time), (.int .i64 z0.inode), (.int .i64 z0.mode)] (by kernel_rfl) Tryz.isAgg69 Tryz.sizeOf69 (q1.2.1.cells' 0 rfl)) (rs_tmp (by kernel_rfl))) ?_
  exact ⟨v3, (S_simfs_Stat.mk (z0.b.length : Int) z0.time z0.inode z0.mode), (0 : Int), hp, t0, u4, step_of q2 u0 s2 s3, rfl, q3, (inR_len (Sl.len y5)), z9, z7, z8, (by decide : inR .i64 (0 : Int))⟩
def slices_Clip_string_string_p (s : (List ByteArray)) (Q : (List ByteArray) → Prop) : Prop :=
 ((s.length ≤ 9223372036854775807) → ((0 ≤ (s.length : Int) ∧ (s.length : Int) ≤ (s.length : Int)) ∧ Q s))
set_option maxRecDepth 20000 in
set_option maxHeartbeats 4000000 in
theorem slices_Clip_string_string_w {X : List Nat} {w : World} {s : (List ByteArray)} {z0 : Option Addr} {z1 : Nat} {Q : (List ByteArray) → Prop} (z6 : Old X w) (z4 : Sl rStr X w z0 z1 s) (hp : slices_Clip_string_string_p s Q) :
  Calls Tryz.prog 75 #[(.slice z0 s.length z1)] w (Ret fun v w' => ∃ (z2 : (List ByteArray)), Q z2 ∧ Evo [] w w' ∧ ∃ (z3 : Option Addr), v = (.slice z3 z2.length z2.length) ∧ Sl rStr X w' z3 z2.length z2) := by
 have hXo := z6
 have E0 : Evo [] w w := RB.refl _ _ _
 have hS : Sub X X := Sub.refl _
 unfold slices_Clip_string_string_p at hp
 refine enter_ Tryz.func75 rfl 9 [(0, (.slice z0 s.length z1))] (by kernel_rfl) (fun Qe hQ => ?_)
 replace hp := hp (Sl.len z4)
 refine seq_ (fun _ z8 => ?_)
 refine reg_ ?_
 refine sq (o_pv (.slice none 0 0) rfl (by kernel_rfl) ?_)
 refine nil_ ?_
 refine then_normal (z8 _ _ _ _ ?_)
 refine seq_ (fun _ z9 => ?_)
 refine reg_ ?_
 refine sq (o_pv (.slice z0 s.length z1) rfl (by kernel_rfl) ?_)
 refine sq (o_pv (.slice z0 s.length z1) rfl (by kernel_rfl) ?_)
 refine sq (o_pv (.int .i64 (s.length : Int)) rfl (by kernel_rfl) ?_)
 refine sq (o_pv (.slice z0 s.length z1) rfl (by kernel_rfl) ?_)
 refine sq (o_pv (.int .i64 (s.length : Int)) rfl (by kernel_rfl) ?_)
 obtain ⟨y0, hp⟩ := hp
 refine sq (o_slice3F (R := rStr) (k := .i64) (k' := .i64) (X := X) (L := s) (s.length : Int) Tryz.underlying72 Tryz.sizeOf9 z4 (by kernel_rfl) rfl rfl (by kernel_rfl) (by kernel_rfl) y0 ?_)
 intro z5 z7
 rw [take_len] at z7
 rw [take_len]
 refine sq (o_pv (.slice z5 s.length s.length) rfl (by kernel_rfl) ?_)
 refine nil_ ?_
 refine then_normal (z9 _ _ _ _ ?_)
 refine wp_ret ?_
 refine end_ret hQ (.slice z5 s.length s.length) (by kernel_rfl) ?_
 exact ⟨s, hp, E0, z5, rfl, (Sl.less z7 hS)⟩
def simfs_FS_List_p (f_ : S_simfs_FS) (Q : S_simfs_FS → (List ByteArray) → Int → Prop) : Prop :=
 ((f_.pending.length ≤ 9223372036854775807) → ((inR .i64 f_.quota) → ((inR .i64 f_.now) → ((inR .i64 f_.inodes) → ((inR .i64 f_.ops_) → ((inR .i64 f_.left) → ((f_.keep.length ≤ 9223372036854775807) → (((f_.off = true) → Q f_ ([] : List ByteArray) (13 : Int)) ∧ ((f_.off = false) → (((f_.files.map (·.1)).Nodup ∧ f_.files.length ≤ 8796093022208) ∧ (slices_Clip_string_string_p (keysB f_.files) (fun (z0 : (List ByteArray)) => ((z0.length ≤ 9223372036854775807) → Q f_ z0 (0 : Int))))))))))))))
set_option maxRecDepth 20000 in
set_option maxHeartbeats 4000000 in
theorem simfs_FS_List_w {X : List Nat} {w : World} {f_ : S_simfs_FS} {z0 : Nat} {z9 : List Nat} {Q : S_simfs_FS → (List ByteArray) → Int → Prop} (t0 : Old X w) (v9 : MO o_simfs_FS 78 z9 w.heap.size X w z9 z0 f_) (hp : simfs_FS_List_p f_ Q) :
  Calls Tryz.prog 32 #[(.pointer (some ⟨z0, 0, none⟩))] w (Ret fun v w' => ∃ (r7 : S_simfs_FS) (s3 : (List ByteArray)) (s4 : Int), Q r7 s3 s4 ∧ ∃ (X' : List Nat) (r8 : List Nat) (u0 : Option Addr) (u1 : Nat), Step X w z9 X' w' ∧ v = .tuple #[(.slice u0 s3.length u1), (.int .i64 s4)] ∧ MO o_simfs_FS 78 z9 w.heap.size X' w' r8 z0 r7 ∧ Sl rStr X' w' u0 u1 s3 ∧ inR .i64 s4) := by
 have hXo := t0
 have E0 : Evo z9 w w := RB.refl _ _ _
 have hS : Sub X X := Sub.refl _
 have hN : News X w X w := News.refl _ _
 have t1 : Sub z9 X := MO.mem v9
 unfold simfs_FS_List_p at hp
 refine enter_ Tryz.func32 rfl 15 [(0, (.pointer (some ⟨z0, 0, none⟩)))] (by kernel_rfl) (fun Qe hQ => ?_)
 refine seq_ (fun _ k7 => ?_)
 refine reg_ ?_
 refine sq (o_pv (.slice none 0 0) rfl (by kernel_rfl) ?_)
 refine sq (o_pv (.int .i64 (0 : Int)) rfl (by kernel_rfl) ?_)
 refine nil_ ?_
 refine then_normal (k7 _ _ _ _ ?_)
 refine seq_ (fun _ k8 => ?_)
 refine seq_ (fun _ k9 => ?_)
 refine reg_ ?_
 refine sq (o_pv (.pointer (some ⟨z0, 0, none⟩)) rfl (by kernel_rfl) ?_)
 refine sq (o_pv (.pointer (some ⟨z0, 0, none⟩)) rfl (by kernel_rfl) ?_)
 obtain ⟨r6, y3, j0, j1, j2, s5, s6, v7, y8, y1, v2, z2, y0, z1, z4, z5, z6, j3, j4, j5, j6, t2, t3, t4, t5, t6, t7⟩ := o_simfs_FS_open v9
 replace hp := hp (OS.len v2)
 replace hp := hp z2
 replace hp := hp y0
 replace hp := hp z1
 replace hp := hp z4
 replace hp := hp z5
 replace hp := hp (Sl.len z6)
 refine sq (o_pv (.pointer (some ⟨z0, 7, none⟩)) rfl (by kernel_rfl) ?_)
 refine sq (o_pv (.bool f_.off) rfl (x_load1 (by kernel_rfl) Tryz.isAgg4 (v7.2.1.cell' 7 rfl)) ?_)
 refine nil_ ?_
 refine then_normal (k9 _ _ _ _ ?_)
 refine cond_b f_.off (by kernel_rfl) (fun u2 => ?_) (fun u2 => ?_)
 ·
  replace hp := hp.1 u2
  refine seq_ (fun _ r9 => ?_)
  refine reg_ ?_
  refine sq (o_pv (.slice none 0 0) rfl (by kernel_rfl) ?_)
  refine sq (o_pv (.int .i64 (13 : Int)) rfl (by kernel_rfl) ?_)
  refine nil_ ?_
  refine then_normal (r9 _ _ _ _ ?_)
  refine wp_ret ?_
  refine then_ret ?_
  obtain ⟨q0, q1, j7⟩ := MO.pack (o_simfs_FS_mk v7 y8 y1 v2 z2 y0 z1 z4 z5 z6 rfl t2 t3 t4 t5 t6 t7)
  refine end_ret hQ (.tuple #[(.slice none 0 0), (.int .i64 (13 : Int))]) (by kernel_rfl) ?_
  exact ⟨f_, ([] : List ByteArray), (13 : Int), hp, X, q0, none, 0, step_of E0 t1 hS hN, rfl, q1, Sl.nil, (by decide : inR .i64 (13 : Int))⟩
 ·
  replace hp := hp.2 u2
  refine wp_skip ?_
  refine then_normal (k8 _ _ _ _ ?_)
  refine seq_ (fun _ q2 => ?_)
  refine reg_ ?_
  refine sq (o_pv (.pointer (some ⟨z0, 0, none⟩)) rfl (by kernel_rfl) ?_)
  refine sq (o_pv (.pointer (some ⟨z0, 0, none⟩)) rfl (by kernel_rfl) ?_)
  refine sq (o_pv (.pointer (some ⟨z0, 1, none⟩)) rfl (by kernel_rfl) ?_)
  refine sq (o_pv (.map (some y3)) rfl (x_load1 (by kernel_rfl) Tryz.isAgg75 (v7.2.1.cell' 1 rfl)) ?_)
  refine sq (o_call 77 #[(.map (some y3))] rfl (x_call Tryz.call77 (by kernel_rfl)) (mkeys_w (X := X) (B := w.heap.size) E0.size) ?_)
  rintro _ j8 ⟨s7, q3, rfl, z7, q4, j9⟩
  have z3 := (OM.step0 y1 z7)
  obtain ⟨q5, hp⟩ := hp
  have t8 := (OB.step0 v7 z7)
  have y4 := (OM.step0 y8 z7)
  have u3 := (OS.step0 v2 z7)
  have t9 := (Evo.then0 E0 (Step.evo z7))
  refine sq (o_call 76 #[(.func (.func 106) #[] #[(.pointer (some ⟨s7, 0, none⟩))])] rfl (x_call Tryz.call76 (by kernel_rfl)) (mkeys_sorted_w (X := q3) (B := w.heap.size) t9.size q4.2.1 z3.2.1 q5) ?_)
  rintro _ g0 ⟨q6, q7, g1, rfl, z8, s0, v8⟩
  have q8 := v8 _ (OB.old t8)
  have q9 := v8 _ (OM.old y4)
  have k0 := v8 _ (OM.old z3)
  have k1 := v8 _ (OS.old u3)
  have s8 := (Sub.trans (Sub.trans hS (Step.up z7)) (Step.up z8))
  have u7 := (Old.step (Old.step hXo z7) z8)
  have k2 := (Evo.then0 t9 (Step.evo z8))
  have s9 := (News.step (News.step hN z7) z8)
  have s1 := (OB.step0 t8 z8)
  have y5 := (OM.step0 y4 z8)
  have y2 := (OM.step0 z3 z8)
  have u4 := (OS.step0 u3 z8)
  have v3 := (Sl.step (Sl.step z6 z7) z8)
  have r0 := OS.apold s0 t0
  obtain ⟨u5, y9, k3, y6⟩ := OS.release s0
  have u9 := (Old.less u7 y9)
  refine sq (o_call 75 #[(.slice q6 (keysB f_.files).length q7)] rfl (x_call Tryz.call75 (by rw []; kernel_rfl)) (slices_Clip_string_string_w (X := u5) (s := keysB f_.files) u9 k3 hp) ?_)
  rintro _ g2 ⟨v0, hp, s2, v4, rfl, u6⟩
  have y7 := Step.of0 u5 s2
  replace hp := hp (Sl.len u6)
  refine sq (o_pv (.slice v4 v0.length v0.length) rfl (by kernel_rfl) ?_)
  refine sq (o_pv (.int .i64 (0 : Int)) rfl (by kernel_rfl) ?_)
  refine nil_ ?_
  refine then_normal (q2 _ _ _ _ ?_)
  refine wp_ret ?_
  have k4 := (Evo.then0 k2 s2)
  have r1 := (Sub.trans (y6 _ r0 s8) (Step.up y7))
  have r2 := (News.step (News.less s9 y9) y7)
  have k5 := (OB.step0 (OB.less s1 (y6 _ q8 (OB.mem s1))) y7)
  have v5 := (OM.step0 (OM.less y5 y9 (y6 _ q9 (OM.mem y5))) y7)
  have v1 := (OM.step0 (OM.less y2 y9 (y6 _ k0 (OM.mem y2))) y7)
  have r3 := (OS.step0 (OS.less u4 y9 (y6 _ k1 (OS.mem u4))) y7)
  have v6 := (Sl.step (Sl.less v3 y9) y7)
  obtain ⟨r4, r5, k6⟩ := MO.pack (o_simfs_FS_mk k5 v5 v1 r3 z2 y0 z1 z4 z5 v6 rfl t2 t3 t4 t5 t6 t7)
  refine end_ret hQ (.tuple #[(.slice v4 v0.length v0.length), (.int .i64 (0 : Int))]) (by kernel_rfl) ?_
  exact ⟨f_, v0, (0 : Int), hp, u5, r4, v4, v0.length, step_of k4 t1 r1 r2, rfl, r5, u6, (by decide : inR .i64 (0 : Int))⟩
def simfs_FS_Now_p (f_ : S_simfs_FS) (Q : S_simfs_FS → Int → Prop) : Prop :=
 ((f_.pending.length ≤ 9223372036854775807) → ((inR .i64 f_.quota) → ((inR .i64 f_.now) → ((inR .i64 f_.inodes) → ((inR .i64 f_.ops_) → ((inR .i64 f_.left) → ((f_.keep.length ≤ 9223372036854775807) → Q f_ f_.now)))))))
set_option maxRecDepth 20000 in
set_option maxHeartbeats 4000000 in
theorem simfs_FS_Now_w {X : List Nat} {w : World} {f_ : S_simfs_FS} {z0 : Nat} {z2 : List Nat} {Q : S_simfs_FS → Int → Prop} (y8 : Old X w) (y0 : MO o_simfs_FS 78 z2 w.heap.size X w z2 z0 f_) (hp : simfs_FS_Now_p f_ Q) :
  Calls Tryz.prog 33 #[(.pointer (some ⟨z0, 0, none⟩))] w (Ret fun v w' => ∃ (y9 : S_simfs_FS) (y3 : Int), Q y9 y3 ∧ ∃ (X' : List Nat) (v0 : List Nat), Step X w z2 X' w' ∧ v = (.int .i64 y3) ∧ MO o_simfs_FS 78 z2 w.heap.size X' w' v0 z0 y9 ∧ inR .i64 y3) := by
 have hXo := y8
 have E0 : Evo z2 w w := RB.refl _ _ _
 have hS : Sub X X := Sub.refl _
 have hN : News X w X w := News.refl _ _
 have v1 : Sub z2 X := MO.mem y0
 unfold simfs_FS_Now_p at hp
 refine enter_ Tryz.func33 rfl 7 [(0, (.pointer (some ⟨z0, 0, none⟩)))] (by kernel_rfl) (fun Qe hQ => ?_)
 refine seq_ (fun _ u0 => ?_)
 refine reg_ ?_
 refine sq (o_pv (.int .i64 (0 : Int)) rfl (by kernel_rfl) ?_)
 refine nil_ ?_
 refine then_normal (u0 _ _ _ _ ?_)
 refine seq_ (fun _ u1 => ?_)
 refine reg_ ?_
 refine sq (o_pv (.pointer (some ⟨z0, 0, none⟩)) rfl (by kernel_rfl) ?_)
 refine sq (o_pv (.pointer (some ⟨z0, 0, none⟩)) rfl (by kernel_rfl) ?_)
 obtain ⟨y7, y4, u2, u3, u4, y5, y6, y2, z9, z8, y1, z4, z3, z1, z5, z6, z7, u5, u6, u7, u9, v2, v3, v4, v5, v6, v7⟩ := o_simfs_FS_open y0
 replace hp := hp (OS.len y1)
 replace hp := hp z4
 replace hp := hp z3
 replace hp := hp z1
 replace hp := hp z5
 replace hp := hp z6
 replace hp := hp (Sl.len z7)
 refine sq (o_pv (.pointer (some ⟨z0, 4, none⟩)) rfl (by kernel_rfl) ?_)
 refine sq (o_pv (.int .i64 f_.now) rfl (x_load1 (by kernel_rfl) Tryz.isAgg3 (y2.2.1.cell' 4 rfl)) ?_)
 refine sq (o_pv (.int .i64 f_.now) rfl (by kernel_rfl) ?_)
 refine nil_ ?_
 refine then_normal (u1 _ _ _ _ ?_)
 refine wp_ret ?_
 obtain ⟨v8, v9, t0⟩ := MO.pack (o_simfs_FS_mk y2 z9 z8 y1 z4 z3 z1 z5 z6 z7 rfl v2 v3 v4 v5 v6 v7)
 refine end_ret hQ (.int .i64 f_.now) (by kernel_rfl) ?_
 exact ⟨f_, f_.now, hp, X, v8, step_of E0 v1 hS hN, rfl, v9, z3⟩
def simfs_FS_Used_p (f_ : S_simfs_FS) (Q : S_simfs_FS → Int → Prop) : Prop :=
 ((f_.pending.length ≤ 9223372036854775807) → ((inR .i64 f_.quota) → ((inR .i64 f_.now) → ((inR .i64 f_.inodes) → ((inR .i64 f_.ops_) → ((inR .i64 f_.left) → ((f_.keep.length ≤ 9223372036854775807) → (simfs_sum_p f_.files (fun (z0 : Int) => ((inR .i64 z0) → Q f_ z0))))))))))
set_option maxRecDepth 20000 in
set_option maxHeartbeats 4000000 in
theorem simfs_FS_Used_w {X : List Nat} {w : World} {f_ : S_simfs_FS} {z0 : Nat} {z2 : List Nat} {Q : S_simfs_FS → Int → Prop} (v8 : Old X w) (y5 : MO o_simfs_FS 78 z2 w.heap.size X w z2 z0 f_) (hp : simfs_FS_Used_p f_ Q) :
  Calls Tryz.prog 34 #[(.pointer (some ⟨z0, 0, none⟩))] w (Ret fun v w' => ∃ (v9 : S_simfs_FS) (v1 : Int), Q v9 v1 ∧ ∃ (X' : List Nat) (u0 : List Nat), Step X w z2 X' w' ∧ v = (.int .i64 v1) ∧ MO o_simfs_FS 78 z2 w.heap.size X' w' u0 z0 v9 ∧ inR .i64 v1) := by
 have hXo := v8
 have E0 : Evo z2 w w := RB.refl _ _ _
 have hS : Sub X X := Sub.refl _
 have hN : News X w X w := News.refl _ _
 have u1 : Sub z2 X := MO.mem y5
 unfold simfs_FS_Used_p at hp
 refine enter_ Tryz.func34 rfl 8 [(0, (.pointer (some ⟨z0, 0, none⟩)))] (by kernel_rfl) (fun Qe hQ => ?_)
 refine seq_ (fun _ t3 => ?_)
 refine reg_ ?_
 refine sq (o_pv (.int .i64 (0 : Int)) rfl (by kernel_rfl) ?_)
 refine nil_ ?_
 refine then_normal (t3 _ _ _ _ ?_)
 refine seq_ (fun _ t4 => ?_)
 refine reg_ ?_
 refine sq (o_pv (.pointer (some ⟨z0, 0, none⟩)) rfl (by kernel_rfl) ?_)
 refine sq (o_pv (.pointer (some ⟨z0, 0, none⟩)) rfl (by kernel_rfl) ?_)
 obtain ⟨v7, z4, t5, t6, t7, v2, v3, y9, y4, z5, y6, z3, y0, z1, z6, z7, z8, t8, t9, s0, s1, u2, u3, u4, u5, u6, u7⟩ := o_simfs_FS_open y5
 replace hp := hp (OS.len y6)
 replace hp := hp z3
 replace hp := hp y0
 replace hp := hp z1
 replace hp := hp z6
 replace hp := hp z7
 replace hp := hp (Sl.len z8)
 refine sq (o_pv (.pointer (some ⟨z0, 1, none⟩)) rfl (by kernel_rfl) ?_)
 refine sq (o_pv (.map (some z4)) rfl (x_load1 (by kernel_rfl) Tryz.isAgg75 (y9.2.1.cell' 1 rfl)) ?_)
 refine sq (o_call 78 #[(.map (some z4))] rfl (x_call Tryz.call78 (by kernel_rfl)) (simfs_sum_w (X := []) (l := f_.files) (Old.nil _) (OM.rm z5) hp) ?_)
 rintro _ s3 ⟨y7, hp, v0, rfl, y8⟩
 have z9 := Step.of0 X v0
 replace hp := hp y8
 refine sq (o_pv (.int .i64 y7) rfl (by kernel_rfl) ?_)
 refine nil_ ?_
 refine then_normal (t4 _ _ _ _ ?_)
 refine wp_ret ?_
 have u9 := (Evo.then0 E0 v0)
 have v4 := (Sub.trans hS (Step.up z9))
 have v5 := (News.step hN z9)
 have t0 := (OB.step0 y9 z9)
 have y2 := (OM.step0 y4 z9)
 have y1 := (OM.step0 z5 z9)
 have v6 := (OS.step0 y6 z9)
 have y3 := (Sl.step z8 z9)
 obtain ⟨t1, t2, s2⟩ := MO.pack (o_simfs_FS_mk t0 y2 y1 v6 z3 y0 z1 z6 z7 y3 rfl u2 u3 u4 u5 u6 u7)
 refine end_ret hQ (.int .i64 y7) (by kernel_rfl) ?_
 exact ⟨f_, y7, hp, X, t1, step_of u9 u1 v4 v5, rfl, t2, y8⟩
def simfs_FS_Ops_p (f_ : S_simfs_FS) (Q : S_simfs_FS → Int → Prop) : Prop :=
 ((f_.pending.length ≤ 9223372036854775807) → ((inR .i64 f_.quota) → ((inR .i64 f_.now) → ((inR .i64 f_.inodes) → ((inR .i64 f_.ops_) → ((inR .i64 f_.left) → ((f_.keep.length ≤ 9223372036854775807) → Q f_ f_.ops_)))))))
set_option maxRecDepth 20000 in
set_option maxHeartbeats 4000000 in
theorem simfs_FS_Ops_w {X : List Nat} {w : World} {f_ : S_simfs_FS} {z0 : Nat} {z3 : List Nat} {Q : S_simfs_FS → Int → Prop} (y8 : Old X w) (y0 : MO o_simfs_FS 78 z3 w.heap.size X w z3 z0 f_) (hp : simfs_FS_Ops_p f_ Q) :
  Calls Tryz.prog 26 #[(.pointer (some ⟨z0, 0, none⟩))] w (Ret fun v w' => ∃ (y9 : S_simfs_FS) (y3 : Int), Q y9 y3 ∧ ∃ (X' : List Nat) (v0 : List Nat), Step X w z3 X' w' ∧ v = (.int .i64 y3) ∧ MO o_simfs_FS 78 z3 w.heap.size X' w' v0 z0 y9 ∧ inR .i64 y3) := by
 have hXo := y8
 have E0 : Evo z3 w w := RB.refl _ _ _
 have hS : Sub X X := Sub.refl _
 have hN : News X w X w := News.refl _ _
 have v1 : Sub z3 X := MO.mem y0
 unfold simfs_FS_Ops_p at hp
 refine enter_ Tryz.func26 rfl 7 [(0, (.pointer (some ⟨z0, 0, none⟩)))] (by kernel_rfl) (fun Qe hQ => ?_)
 refine seq_ (fun _ u0 => ?_)
 refine reg_ ?_
 refine sq (o_pv (.int .i64 (0 : Int)) rfl (by kernel_rfl) ?_)
 refine nil_ ?_
 refine then_normal (u0 _ _ _ _ ?_)
 refine seq_ (fun _ u1 => ?_)
 refine reg_ ?_
 refine sq (o_pv (.pointer (some ⟨z0, 0, none⟩)) rfl (by kernel_rfl) ?_)
 refine sq (o_pv (.pointer (some ⟨z0, 0, none⟩)) rfl (by kernel_rfl) ?_)
 obtain ⟨y7, y4, u2, u3, u4, y5, y6, y2, z9, z8, y1, z4, z7, z2, z1, z5, z6, u5, u6, u7, u9, v2, v3, v4, v5, v6, v7⟩ := o_simfs_FS_open y0
 replace hp := hp (OS.len y1)
 replace hp := hp z4
 replace hp := hp z7
 replace hp := hp z2
 replace hp := hp z1
 replace hp := hp z5
 replace hp := hp (Sl.len z6)
 refine sq (o_pv (.pointer (some ⟨z0, 6, none⟩)) rfl (by kernel_rfl) ?_)
 refine sq (o_pv (.int .i64 f_.ops_) rfl (x_load1 (by kernel_rfl) Tryz.isAgg3 (y2.2.1.cell' 6 rfl)) ?_)
 refine sq (o_pv (.int .i64 f_.ops_) rfl (by kernel_rfl) ?_)
 refine nil_ ?_
 refine then_normal (u1 _ _ _ _ ?_)
 refine wp_ret ?_
 obtain ⟨v8, v9, t0⟩ := MO.pack (o_simfs_FS_mk y2 z9 z8 y1 z4 z7 z2 z1 z5 z6 rfl v2 v3 v4 v5 v6 v7)
 refine end_ret hQ (.int .i64 f_.ops_) (by kernel_rfl) ?_
 exact ⟨f_, f_.ops_, hp, X, v8, step_of E0 v1 hS hN, rfl, v9, z1⟩
end Go.Proofs.YtaolmfepdmgohaaGreatDoor
