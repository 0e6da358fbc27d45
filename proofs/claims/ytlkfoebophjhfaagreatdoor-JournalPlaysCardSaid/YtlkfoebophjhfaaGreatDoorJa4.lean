/- Walks of functions: what each asks and computes, as a plain predicate, and the contract from it. -/
import Derived.Test.YtlkfoebophjhfaaGreatDoorChecked
import Derived.Test.YtlkfoebophjhfaaGreatDoorPk
import Derived.Test.YtlkfoebophjhfaaGreatDoorJa3
import Derived.Test.YtlkfoebophjhfaaGreatDoorLib
import Derived.Test.YtlkfoebophjhfaaGreatDoorShelf
namespace Go.Proofs.YtlkfoebophjhfaaGreatDoor
open Go
theorem elT60 : ElemT Tryz.prog 60 76 7 88 := elemT_mk (i := Tryz.t76) (z := (.agg #[(.int .i64 0), (.string (ByteArray.mk #[])), (.string (ByteArray.mk #[])), (.int .i64 0), (.int .i64 0), (.int .i64 0), (.slice none 0 0)])) (by kernel_rfl) (by kernel_rfl) (by kernel_rfl) (by kernel_rfl) Tryz.underlying60 Tryz.sizeOf76 (by decide) (by decide)
def simfs_FS_do_p (f_ : S_simfs_FS) (o : S_simfs_op) (Q : S_simfs_FS → Prop) : Prop :=
 ((inR .i64 o.kind) → ((o.path.size ≤ maxLen) → ((o.to_.size ≤ maxLen) → ((inR .i64 o.file.mode) → ((inR .i64 o.file.time) → ((inR .i64 o.file.inode) → ((o.file.b.length ≤ 9223372036854775807) → ((f_.pending.length ≤ 9223372036854775807) → ((inR .i64 f_.quota) → ((inR .i64 f_.now) → ((inR .i64 f_.inodes) → ((inR .i64 f_.ops_) → ((inR .i64 f_.left) → ((f_.keep.length ≤ 9223372036854775807) → (simfs_apply_p f_.files o (fun (z0 : (List (ByteArray × S_simfs_file))) (z1 : Bool) => (((f_.pending.length + ([o]).length) * 88 ≤ 140737488355328) ∧ ((inR .i64 (f_.ops_ + (1 : Int))) ∧ Q (S_simfs_FS.mk f_.kept z0 (f_.pending ++ ([o])) f_.quota f_.now f_.inodes (f_.ops_ + (1 : Int)) f_.off f_.armed f_.left f_.keep)))))))))))))))))))
set_option maxRecDepth 20000 in
set_option maxHeartbeats 4000000 in
theorem simfs_FS_do_w {X : List Nat} {w : World} {f_ : S_simfs_FS} {o : S_simfs_op} {z3 : Nat} {y7 : List Nat} {z0 : Option Addr} {z1 : Nat} {Q : S_simfs_FS → Prop} (m6 : Old X w) (s3 : MO o_simfs_FS 62 y7 w.heap.size X w y7 z3 f_) (y8 : inR .i64 o.kind) (y9 : o.path.size ≤ maxLen) (v6 : o.to_.size ≤ maxLen) (z5 : inR .i64 o.file.mode) (z6 : inR .i64 o.file.time) (z4 : inR .i64 o.file.inode) (v1 : Sl (rInt .u8) X w z0 z1 o.file.b) (hp : simfs_FS_do_p f_ o Q) :
  Calls Tryz.prog 77 #[(.pointer (some ⟨z3, 0, none⟩)), (.agg #[(.int .i64 o.kind), (.string o.path), (.string o.to_), (.int .i64 o.file.mode), (.int .i64 o.file.time), (.int .i64 o.file.inode), (.slice z0 o.file.b.length z1)])] w (Ret fun v w' => ∃ (m7 : S_simfs_FS), Q m7 ∧ ∃ (X' : List Nat) (m8 : List Nat), Step X w y7 X' w' ∧ v = .tuple #[] ∧ MO o_simfs_FS 62 y7 w.heap.size X' w' m8 z3 m7) := by
 have hXo := m6
 have E0 : Evo y7 w w := RB.refl _ _ _
 have hS : Sub X X := Sub.refl _
 have hN : News X w X w := News.refl _ _
 have m9 : Sub y7 X := MO.mem s3
 unfold simfs_FS_do_p at hp
 refine enter_ Tryz.func77 rfl 27 [(0, (.pointer (some ⟨z3, 0, none⟩))), (1, (.agg #[(.int .i64 o.kind), (.string o.path), (.string o.to_), (.int .i64 o.file.mode), (.int .i64 o.file.time), (.int .i64 o.file.inode), (.slice z0 o.file.b.length z1)]))] (by kernel_rfl) (fun Qe hQ => ?_)
 replace hp := hp y8 y9 v6 z5 z6 z4 (Sl.len v1)
 refine sr (fun _ n0 => ?_)
 refine sq (o_newX [(.int .i64 o.kind), (.string o.path), (.string o.to_), (.int .i64 o.file.mode), (.int .i64 o.file.time), (.int .i64 o.file.inode), (.slice z0 o.file.b.length z1)] 76 (X := X) (B := w.heap.size) E0.size rfl (by kernel_rfl) ?_)
 intro c7 r4 r9 u6 n1 n2
 have j8 := n2 _ (MO.old s3)
 refine nt n0 (seq_ (fun _ n3 => ?_))
 have k9 := MO.step0 s3 u6
 obtain ⟨v7, z2, v0, g5, g6, v8, v9, n4, s4, v2, q0, v3, u7, y5, s5, u1, u2, o9, c0, g7, g8, q1, j9, q2, n5, g0, q3⟩ := o_simfs_FS_open k9
 have g1 := Ap.subr (Ap.symm j8) g7
 have n6 := Ap.subr (Ap.symm j8) g8
 replace hp := hp (OS.len q0) v3 u7 y5 s5 u1 (Sl.len u2)
 have t3 := Sl.step v1 u6
 have j0 := Old.step hXo u6
 have n7 := Evo.then0 E0 (Step.evo u6)
 have g9 := Sub.trans hS (Step.up u6)
 have d0 := News.step hN u6
 have r5 : Sub [z2] r9 := (OM.mem v2)
 refine reg_drawn (RB r4.heap.size [z2]) 6 (by kernel_rfl) (fun g2 s6 => ?_)
 have n8 := Evo.of_drew s6
 have r6 : g2.heap.size = r4.heap.size := by rw [s6]
 clear s6
 have z9 := Step.of0 r9 n8
 have u9 := RB.refl r4.heap.size [z2] g2
 have v4 := Sl.step t3 z9
 have j1 := Old.step j0 z9
 have g3 := Evo.then0 n7 (Step.evo z9)
 have d1 := Sub.trans g9 (Step.up z9)
 have d2 := News.step d0 z9
 have q4 := OB.step0 n1 z9
 have q5 := OB.step0 n4 z9
 have u3 := OM.step0 s4 z9
 have y0 := OM.step0 v2 z9
 have q6 := OS.step0 q0 z9
 have s7 := Sl.step u2 z9
 refine r_take 0 (.pointer (some ⟨z3, 0, none⟩)) (RB.pre _ _) rfl (by kernel_rfl) (fun _ _ _ h => hQ.panic _ _ _ _ _ h) (.inl ⟨rfl, fun wq hq => (by kernel_rfl)⟩) ?_
 refine r_take 1 (.pointer (some ⟨z3, 0, none⟩)) (RB.pre _ _) rfl (by kernel_rfl) (fun _ _ _ h => hQ.panic _ _ _ _ _ h) (.inl ⟨rfl, fun wq hq => (by kernel_rfl)⟩) ?_
 refine r_take 2 (.pointer (some ⟨z3, 1, none⟩)) (RB.pre _ _) rfl (by kernel_rfl) (fun _ _ _ h => hQ.panic _ _ _ _ _ h) (.inl ⟨rfl, fun wq hq => (by kernel_rfl)⟩) ?_
 refine r_take 3 (.map (some z2)) (RB.pre _ _) rfl (by kernel_rfl) (fun _ _ _ h => hQ.panic _ _ _ _ _ h) (.inl ⟨rfl, fun wq hq => (x_load1 (by kernel_rfl) Tryz.isAgg59 ((OB.step q5 (stepR (RB.trans u9 hq) r6 r5) j9).2.1.cell' 1 rfl))⟩) ?_
 refine r_take 4 (.agg #[(.int .i64 o.kind), (.string o.path), (.string o.to_), (.int .i64 o.file.mode), (.int .i64 o.file.time), (.int .i64 o.file.inode), (.slice z0 o.file.b.length z1)]) (RB.pre _ _) rfl (by kernel_rfl) (fun _ _ _ h => hQ.panic _ _ _ _ _ h) (.inl ⟨rfl, fun wq hq => (x_loadN [(.int .i64 o.kind), (.string o.path), (.string o.to_), (.int .i64 o.file.mode), (.int .i64 o.file.time), (.int .i64 o.file.inode), (.slice z0 o.file.b.length z1)] (by kernel_rfl) Tryz.isAgg76 Tryz.sizeOf76 ((OB.step q4 (stepR (RB.trans u9 hq) r6 r5) g1).2.1.cells' 0 rfl))⟩) ?_
 refine r_ready [5] (by kernel_rfl) rfl (all_cons ⟨_, _, _, _, _, _, rfl, ?_⟩ all_nil)
 refine o_call 35 #[(.map (some z2)), (.agg #[(.int .i64 o.kind), (.string o.path), (.string o.to_), (.int .i64 o.file.mode), (.int .i64 o.file.time), (.int .i64 o.file.inode), (.slice z0 o.file.b.length z1)])] rfl (x_call Tryz.call35 (by kernel_rfl)) (simfs_apply_w (X := r9) (l := f_.files) (o := o) j1 (OM.re y0 (Wr.self _ _ (Sub.refl _))) y8 y9 v6 z5 z6 z4 v4 hp) ?_
 rintro _ q7 ⟨n9, c8, hp, q8, y2, rfl, u4⟩
 have rm := RB.mono (F' := [z2]) (Step.evo y2) (Nat.le_trans (Nat.le_of_eq r6.symm) (RB.size u9)) (Wr.self _ _ (Sub.refl _))
 refine ⟨fun _ => rm, ?_⟩
 have c1 : Wr [z2] r4.heap.size [z2] := Wr.trans u4.wr (Wr.self _ _ (Sub.refl _)) (Nat.le_trans (Nat.le_of_eq r6.symm) (RB.size u9))
 have o0 := OM.re u4 (Wr.trans u4.wr y0.wr g3.size)
 have o1 := Ap.grow u4.wr g1 (OB.old q4) (Nat.le_refl _)
 have r7 := Ap.grow u4.wr j9 (OB.old q5) (Nat.le_refl _)
 have g4 := Ap.grow u4.wr n5 (OM.old u3) (Nat.le_refl _)
 have o2 := Ap.grow u4.wr (Ap.symm q3) (OS.old q6) (Nat.le_refl _)
 refine r_done (by kernel_rfl) ?_
 refine then_normal (n3 _ _ _ _ (seq_ (fun _ o3 => ?_)))
 have t4 := Sl.step v4 y2
 have o4 := Evo.thenW g3 (Step.evo y2) y0.wr
 have d3 := Sub.trans d1 (Step.up y2)
 have d4 := News.step d2 y2
 have o5 := OB.step q4 y2 o1
 have o6 := OB.step q5 y2 r7
 have s8 := OM.step u3 y2 g4
 have q9 := OS.step q6 y2 o2
 have t5 := Sl.step s7 y2
 have t6 : Sub (blkL v0) q8 := (OS.mem q9)
 refine reg_drawn (RB q7.heap.size (blkL v0)) 10 (by kernel_rfl) (fun k0 t0 => ?_)
 have d5 := Evo.of_drew t0
 have u5 : k0.heap.size = q7.heap.size := by rw [t0]
 clear t0
 have z7 := Step.of0 q8 d5
 have y6 := RB.refl q7.heap.size (blkL v0) k0
 have t1 := Sl.step t4 z7
 have k1 := Evo.then0 o4 (Step.evo z7)
 have j2 := Sub.trans d3 (Step.up z7)
 have j3 := News.step d4 z7
 have d6 := OB.step0 o5 z7
 have k2 := OB.step0 o6 z7
 have t7 := OM.step0 s8 z7
 have j4 := OS.step0 q9 z7
 have t8 := Sl.step t5 z7
 have d7 := OM.step0 o0 z7
 refine r_take 0 (.pointer (some ⟨z3, 0, none⟩)) (RB.pre _ _) rfl (by kernel_rfl) (fun _ _ _ h => hQ.panic _ _ _ _ _ h) (.inl ⟨rfl, fun wq hq => (by kernel_rfl)⟩) ?_
 refine r_take 1 (.pointer (some ⟨z3, 0, none⟩)) (RB.pre _ _) rfl (by kernel_rfl) (fun _ _ _ h => hQ.panic _ _ _ _ _ h) (.inl ⟨rfl, fun wq hq => (by kernel_rfl)⟩) ?_
 refine r_take 2 (.pointer (some ⟨z3, 0, none⟩)) (RB.pre _ _) rfl (by kernel_rfl) (fun _ _ _ h => hQ.panic _ _ _ _ _ h) (.inl ⟨rfl, fun wq hq => (by kernel_rfl)⟩) ?_
 refine r_take 3 (.pointer (some ⟨z3, 2, none⟩)) (RB.pre _ _) rfl (by kernel_rfl) (fun _ _ _ h => hQ.panic _ _ _ _ _ h) (.inl ⟨rfl, fun wq hq => (by kernel_rfl)⟩) ?_
 refine r_take 4 (.slice v0 g5 g6) (RB.pre _ _) rfl (by kernel_rfl) (fun _ _ _ h => hQ.panic _ _ _ _ _ h) (.inl ⟨rfl, fun wq hq => (x_load1 (by kernel_rfl) Tryz.isAgg60 ((OB.step k2 (stepR (RB.trans y6 hq) u5 t6) q2).2.1.cell' 2 rfl))⟩) ?_
 refine r_take 5 (.agg #[(.int .i64 o.kind), (.string o.path), (.string o.to_), (.int .i64 o.file.mode), (.int .i64 o.file.time), (.int .i64 o.file.inode), (.slice z0 o.file.b.length z1)]) (RB.pre _ _) rfl (by kernel_rfl) (fun _ _ _ h => hQ.panic _ _ _ _ _ h) (.inl ⟨rfl, fun wq hq => (x_loadN [(.int .i64 o.kind), (.string o.path), (.string o.to_), (.int .i64 o.file.mode), (.int .i64 o.file.time), (.int .i64 o.file.inode), (.slice z0 o.file.b.length z1)] (by kernel_rfl) Tryz.isAgg76 Tryz.sizeOf76 ((OB.step d6 (stepR (RB.trans y6 hq) u5 t6) n6).2.1.cells' 0 rfl))⟩) ?_
 refine r_ready [6] (by kernel_rfl) rfl (all_cons ⟨_, _, _, _, _, _, rfl, ?_⟩ all_nil)
 refine o_rowX (R := r_simfs_op) [(.int .i64 o.kind), (.string o.path), (.string o.to_), (.int .i64 o.file.mode), (.int .i64 o.file.time), (.int .i64 o.file.inode), (.slice z0 o.file.b.length z1)] [o] 76 1 (X := q8) (B := w.heap.size) k1.size rfl (by kernel_rfl) (Flat.cons (cs := [(.int .i64 o.kind), (.string o.path), (.string o.to_), (.int .i64 o.file.mode), (.int .i64 o.file.time), (.int .i64 o.file.inode), (.slice z0 o.file.b.length z1)]) (r_simfs_op_mk y8 y9 v6 z5 z6 z4 t1 rfl) Flat.nil) rfl (by decide) ?_
 intro c2 c3 d8 z8 k3 d9
 have o7 := new_of (Nat.le_trans (Nat.le_of_eq u5.symm) (RB.size y6)) d9
 have rm := RB.mono (F' := (blkL v0)) (Step.evo z8) (Nat.le_trans (Nat.le_of_eq u5.symm) (RB.size y6)) (fun _ h => by cases h)
 have j5 := RB.trans y6 rm
 refine ⟨fun _ => rm, ?_⟩
 refine r_ready [7] (by kernel_rfl) rfl (all_cons ⟨_, _, _, _, _, _, rfl, ?_⟩ all_nil)
 obtain ⟨l0, hp⟩ := hp
 have r8 := OS.step0 j4 z8
 have k4 := OB.step0 k2 z8
 have v5 := OM.step0 t7 z8
 have k5 := OM.step0 d7 z8
 have k6 := Evo.then0 k1 (Step.evo z8)
 refine o_appX (R := r_simfs_op) (X := d8) (B := w.heap.size) (L := f_.pending) (M := [o]) rfl elT60 rfl k6.size r8 (OS.src k3) k3.1 (by kernel_rfl) (by kernel_rfl) l0 ?_
 intro s9 r0 r1 c4 l1 y1 l2 t2
 have rm := RB.mono (F' := (blkL v0)) (Step.evo y1) (Nat.le_trans (Nat.le_of_eq u5.symm) (RB.size j5)) (Wr.self _ _ (Sub.refl _))
 refine ⟨fun _ => rm, ?_⟩
 have r2 := t2 _ q2 (OB.old k4)
 have l3 := t2 _ g0 (OM.old v5)
 have l4 := t2 _ q3 (OM.old k5)
 refine r_take 8 (.pointer (some ⟨z3, 0, none⟩)) (RB.pre _ _) rfl (by kernel_rfl) (fun _ _ _ h => hQ.panic _ _ _ _ _ h) (.inl ⟨rfl, fun wq hq => (by kernel_rfl)⟩) ?_
 refine r_take 9 (.pointer (some ⟨z3, 2, none⟩)) (RB.pre _ _) rfl (by kernel_rfl) (fun _ _ _ h => hQ.panic _ _ _ _ _ h) (.inl ⟨rfl, fun wq hq => (by kernel_rfl)⟩) ?_
 refine r_ready [10] (by kernel_rfl) rfl (all_cons ⟨_, _, _, _, _, _, rfl, ?_⟩ all_nil)
 have k7 := OB.step k4 y1 q2
 have t9 := OM.step v5 y1 g0
 have l5 := OM.step k5 y1 q3
 have l6 := Evo.thenW k6 (Step.evo y1) r8.2.2
 refine o_stB (o := 2) (v := (.slice s9 r0 r1)) [(.map (some v7)), (.map (some z2)), (.slice s9 r0 r1), (.int .i64 f_.quota), (.int .i64 f_.now), (.int .i64 f_.inodes), (.int .i64 f_.ops_), (.bool f_.off), (.bool f_.armed), (.int .i64 f_.left), (.slice v8 f_.keep.length v9)] rfl k7 (by kernel_rfl) (by kernel_rfl) Tryz.sizeOf60 rfl rfl rfl ?_
 intro c5 y3 r3
 refine ⟨fun h => absurd h (by decide), ?_⟩
 refine r_done (by kernel_rfl) ?_
 refine then_normal (o3 _ _ _ _ (reg_ (pv (.pointer (some ⟨z3, 0, none⟩)) ?_)))
 refine pv (.pointer (some ⟨z3, 0, none⟩)) ?_
 refine pv (.pointer (some ⟨z3, 6, none⟩)) ?_
 refine pw (.int .i64 f_.ops_) (x_load1 (by kernel_rfl) Tryz.isAgg3 (r3.2.1.cell' 6 rfl)) ?_
 obtain ⟨k8, hp⟩ := hp
 refine pw (.int .i64 (f_.ops_ + (1 : Int))) (x_add2 (k := .i64) (a := f_.ops_) (b := (1 : Int)) (f_.ops_ + (1 : Int)) (by kernel_rfl) (by kernel_rfl) (wrap_inR k8)) ?_
 refine pv (.pointer (some ⟨z3, 0, none⟩)) ?_
 refine pv (.pointer (some ⟨z3, 6, none⟩)) ?_
 have s0 := OM.step t9 y3 (Ap.symm q1)
 have l7 := OM.step l5 y3 (Ap.symm r7)
 have l8 := OS.step l2 y3 (Ap.symm r2)
 have l9 := Evo.thenW l6 (Step.evo y3) k7.2.2
 refine sq (o_stB (o := 6) (v := (.int .i64 (f_.ops_ + (1 : Int)))) [(.map (some v7)), (.map (some z2)), (.slice s9 r0 r1), (.int .i64 f_.quota), (.int .i64 f_.now), (.int .i64 f_.inodes), (.int .i64 (f_.ops_ + (1 : Int))), (.bool f_.off), (.bool f_.armed), (.int .i64 f_.left), (.slice v8 f_.keep.length v9)] rfl r3 (by kernel_rfl) (by kernel_rfl) Tryz.sizeOf3 rfl rfl rfl ?_)
 intro c6 y4 m0
 refine nil_ ?_
 have m1 := Evo.thenW l9 (Step.evo y4) r3.2.2
 have j6 := Sub.trans (Sub.trans (Sub.trans (Sub.trans j2 (Step.up z8)) (Step.up y1)) (Step.up y3)) (Step.up y4)
 have j7 := News.step (News.step (News.step (News.step j3 z8) y1) y3) y4
 have s1 := OM.step s0 y4 (Ap.symm q1)
 have s2 := Sl.step (Sl.step (Sl.step (Sl.step t8 z8) y1) y3) y4
 have m2 := OM.step l7 y4 (Ap.symm r7)
 have m3 := OS.step l8 y4 (Ap.symm r2)
 obtain ⟨m4, m5, o8⟩ := MO.pack (o_simfs_FS_mk m0 s1 m2 m3 v3 u7 y5 k8 u1 s2 rfl q1 r7 r2 g4 l3 l4)
 refine end_normal hQ (.tuple #[]) (by kernel_rfl) ?_
 exact ⟨(S_simfs_FS.mk f_.kept n9 (f_.pending ++ ([o])) f_.quota f_.now f_.inodes (f_.ops_ + (1 : Int)) f_.off f_.armed f_.left f_.keep), hp, l1, m4, step_of m1 m9 j6 j7, rfl, m5⟩
def simfs_FS_Remove_p (f_ : S_simfs_FS) (p : ByteArray) (Q : S_simfs_FS → Int → Prop) : Prop :=
 ((p.size ≤ maxLen) → ((f_.pending.length ≤ 9223372036854775807) → ((inR .i64 f_.quota) → ((inR .i64 f_.now) → ((inR .i64 f_.inodes) → ((inR .i64 f_.ops_) → ((inR .i64 f_.left) → ((f_.keep.length ≤ 9223372036854775807) → ((inR .i64 ((mgetD f_.files p).mode)) → ((inR .i64 ((mgetD f_.files p).time)) → ((inR .i64 ((mgetD f_.files p).inode)) → ((((mgetD f_.files p).b).length ≤ 9223372036854775807) → (((f_.off = true) → Q f_ (13 : Int)) ∧ ((f_.off = false) → ((((!(mhas f_.files p)) = true) → Q f_ (5 : Int)) ∧ (((!(mhas f_.files p)) = false) → (simfs_FS_trips_p f_ (fun (z0 : S_simfs_FS) (z1 : Bool) => (((z1 = true) → Q z0 (13 : Int)) ∧ ((z1 = false) → (simfs_FS_do_p z0 (S_simfs_op.mk (3 : Int) p (ByteArray.mk #[]) (S_simfs_file.mk (0 : Int) (0 : Int) (0 : Int) ([] : List Int))) (fun (z2 : S_simfs_FS) => Q z2 (0 : Int)))))))))))))))))))))))
set_option maxRecDepth 20000 in
set_option maxHeartbeats 4000000 in
theorem simfs_FS_Remove_w {X : List Nat} {w : World} {f_ : S_simfs_FS} {p : ByteArray} {z1 : Nat} {y5 : List Nat} {Q : S_simfs_FS → Int → Prop} (j9 : Old X w) (t4 : MO o_simfs_FS 62 y5 w.heap.size X w y5 z1 f_) (q7 : p.size ≤ maxLen) (hp : simfs_FS_Remove_p f_ p Q) :
  Calls Tryz.prog 57 #[(.pointer (some ⟨z1, 0, none⟩)), (.string p)] w (Ret fun v w' => ∃ (g0 : S_simfs_FS) (q8 : Int), Q g0 q8 ∧ ∃ (X' : List Nat) (g1 : List Nat), Step X w y5 X' w' ∧ v = (.int .i64 q8) ∧ MO o_simfs_FS 62 y5 w.heap.size X' w' g1 z1 g0 ∧ inR .i64 q8) := by
 have hXo := j9
 have E0 : Evo y5 w w := RB.refl _ _ _
 have hS : Sub X X := Sub.refl _
 have hN : News X w X w := News.refl _ _
 have u7 : Sub y5 X := MO.mem t4
 unfold simfs_FS_Remove_p at hp
 refine enter_ Tryz.func57 rfl 31 [(0, (.pointer (some ⟨z1, 0, none⟩))), (1, (.string p))] (by kernel_rfl) (fun Qe hQ => ?_)
 replace hp := hp q7
 refine sr (fun _ d7 => pv (.int .i64 (0 : Int)) ?_)
 refine nt d7 (sr (fun _ d8 => pv (.pointer (some ⟨z1, 0, none⟩)) ?_))
 refine pv (.pointer (some ⟨z1, 0, none⟩)) ?_
 obtain ⟨j8, v5, d9, l0, l1, q9, k0, t5, y6, z8, v6, z4, y0, z2, z5, z6, z7, l2, l3, l4, l5, t6, t7, t8, t9, s0, s1⟩ := o_simfs_FS_open t4
 replace hp := hp (OS.len v6) z4 y0 z2 z5 z6 (Sl.len z7)
 refine pv (.pointer (some ⟨z1, 1, none⟩)) ?_
 refine pw (.map (some v5)) (x_load1 (by kernel_rfl) Tryz.isAgg59 (t5.2.1.cell' 1 rfl)) ?_
 refine pv (.string p) ?_
 obtain ⟨l6, k1, k2⟩ := MapAt.look z8.2.1 p [(.int .i64 (0 : Int)), (.int .i64 (0 : Int)), (.int .i64 (0 : Int)), (.slice none 0 0)] (fun _ _ => (r_simfs_file_mk (by decide : inR .i64 (0 : Int)) (by decide : inR .i64 (0 : Int)) (by decide : inR .i64 (0 : Int)) (Sl.nil) rfl))
 obtain ⟨y1, y2, rfl, v7, v8, v0, r8⟩ := r_simfs_file_open k1
 replace hp := hp v7 v8 v0 (Sl.len r8)
 refine pw (.tuple #[(.agg #[(.int .i64 ((mgetD f_.files p).mode)), (.int .i64 ((mgetD f_.files p).time)), (.int .i64 ((mgetD f_.files p).inode)), (.slice y1 (((mgetD f_.files p).b).length) y2)]), (.bool (mhas f_.files p))]) (x_lookup2 (w0 := w) (k := p) (v := (.agg #[(.int .i64 ((mgetD f_.files p).mode)), (.int .i64 ((mgetD f_.files p).time)), (.int .i64 ((mgetD f_.files p).inode)), (.slice y1 (((mgetD f_.files p).b).length) y2)])) (z := (.agg #[(.int .i64 (0 : Int)), (.int .i64 (0 : Int)), (.int .i64 (0 : Int)), (.slice none 0 0)])) (b := mhas f_.files p) (s := 4) (bts := 48) (by kernel_rfl) (by kernel_rfl) k2 rfl Tryz.underlying59 Tryz.underlying9 (by kernel_rfl)) ?_
 refine pv (.tuple #[(.agg #[(.int .i64 ((mgetD f_.files p).mode)), (.int .i64 ((mgetD f_.files p).time)), (.int .i64 ((mgetD f_.files p).inode)), (.slice y1 (((mgetD f_.files p).b).length) y2)]), (.bool (mhas f_.files p))]) ?_
 refine pv (.agg #[(.int .i64 ((mgetD f_.files p).mode)), (.int .i64 ((mgetD f_.files p).time)), (.int .i64 ((mgetD f_.files p).inode)), (.slice y1 (((mgetD f_.files p).b).length) y2)]) ?_
 refine pv (.bool (mhas f_.files p)) ?_
 refine sq (o_newX [(.int .i64 (0 : Int)), (.int .i64 (0 : Int)), (.int .i64 (0 : Int)), (.slice none 0 0)] 74 (X := X) (B := w.heap.size) E0.size rfl (by kernel_rfl) ?_)
 intro m2 m3 s2 z3 u9 t0
 have g2 := t0 _ (OB.old t5)
 have s3 := t0 _ (OM.old y6)
 have s4 := t0 _ (OM.old z8)
 have s5 := t0 _ (OS.old v6)
 have g3 := OB.step0 t5 z3
 have y3 := OM.step0 y6 z3
 have z9 := OM.step0 z8 z3
 have v9 := OS.step0 v6 z3
 have s6 := Evo.then0 E0 (Step.evo z3)
 refine sq (o_stB (o := 0) (v := (.agg #[(.int .i64 ((mgetD f_.files p).mode)), (.int .i64 ((mgetD f_.files p).time)), (.int .i64 ((mgetD f_.files p).inode)), (.slice y1 (((mgetD f_.files p).b).length) y2)])) [(.int .i64 ((mgetD f_.files p).mode)), (.int .i64 ((mgetD f_.files p).time)), (.int .i64 ((mgetD f_.files p).inode)), (.slice y1 (((mgetD f_.files p).b).length) y2)] rfl u9 (by kernel_rfl) (by kernel_rfl) Tryz.sizeOf74 rfl rfl rfl ?_)
 intro m4 z0 m5
 refine pv (.bool (mhas f_.files p)) ?_
 refine nt d8 (seq_ (fun _ g4 => wp_block (sr (fun _ g5 => pv (.pointer (some ⟨z1, 0, none⟩)) ?_))))
 refine pv (.pointer (some ⟨z1, 0, none⟩)) ?_
 refine pv (.pointer (some ⟨z1, 7, none⟩)) ?_
 have t1 := OB.step g3 z0 g2
 refine pw (.bool f_.off) (x_load1 (by kernel_rfl) Tryz.isAgg4 (t1.2.1.cell' 7 rfl)) ?_
 refine pv (.bool f_.off) ?_
 refine nt g5 ?_
 refine cond_b f_.off (by kernel_rfl) (fun s7 => ?_) (fun s7 => ?_)
 ·
  replace hp := hp.1 s7
  refine sr (fun _ g6 => pv (.int .i64 (13 : Int)) ?_)
  refine nt g6 (wp_ret (blk_ret (then_ret ?_)))
  have g7 := Evo.thenW s6 (Step.evo z0) (Wr.of u9.2.2)
  have k3 := Sub.trans (Sub.trans hS (Step.up z3)) (Step.up z0)
  have k4 := News.step (News.step hN z3) z0
  have u1 := OM.step y3 z0 s3
  have v1 := OM.step z9 z0 s4
  have k5 := OS.step v9 z0 s5
  have u2 := Sl.step (Sl.step z7 z3) z0
  obtain ⟨g8, g9, l7⟩ := MO.pack (o_simfs_FS_mk t1 u1 v1 k5 z4 y0 z2 z5 z6 u2 rfl t6 t7 t8 t9 s0 s1)
  refine end_ret hQ (.int .i64 (13 : Int)) (by kernel_rfl) ?_
  exact ⟨f_, (13 : Int), hp, s2, g8, step_of g7 u7 k3 k4, rfl, g9, (by decide : inR .i64 (13 : Int))⟩
 ·
  replace hp := hp.2 s7
  refine sr (fun _ d0 => pv (.bool (mhas f_.files p)) ?_)
  refine pv (.bool (!(mhas f_.files p))) ?_
  refine pv (.bool (!(mhas f_.files p))) ?_
  refine nt d0 ?_
  refine cond_b (!(mhas f_.files p)) (by kernel_rfl) (fun s8 => ?_) (fun s8 => ?_)
  ·
   replace hp := hp.1 s8
   refine sr (fun _ d1 => pv (.int .i64 (5 : Int)) ?_)
   refine nt d1 (wp_ret (blk_ret (then_ret ?_)))
   have d2 := Evo.thenW s6 (Step.evo z0) (Wr.of u9.2.2)
   have k6 := Sub.trans (Sub.trans hS (Step.up z3)) (Step.up z0)
   have k7 := News.step (News.step hN z3) z0
   have u3 := OM.step y3 z0 s3
   have v2 := OM.step z9 z0 s4
   have k8 := OS.step v9 z0 s5
   have u4 := Sl.step (Sl.step z7 z3) z0
   obtain ⟨d3, d4, l8⟩ := MO.pack (o_simfs_FS_mk t1 u3 v2 k8 z4 y0 z2 z5 z6 u4 rfl t6 t7 t8 t9 s0 s1)
   refine end_ret hQ (.int .i64 (5 : Int)) (by kernel_rfl) ?_
   exact ⟨f_, (5 : Int), hp, s2, d3, step_of d2 u7 k6 k7, rfl, d4, (by decide : inR .i64 (5 : Int))⟩
  ·
   replace hp := hp.2 s8
   refine sr (fun _ d5 => pv (.pointer (some ⟨z1, 0, none⟩)) ?_)
   have t2 := Old.step (Old.step hXo z3) z0
   have s9 := Evo.thenW s6 (Step.evo z0) (Wr.of u9.2.2)
   have r0 := Sub.trans (Sub.trans hS (Step.up z3)) (Step.up z0)
   have r1 := News.step (News.step hN z3) z0
   have v3 := OM.step y3 z0 s3
   have y7 := OM.step z9 z0 s4
   have r9 := OS.step v9 z0 s5
   have v4 := Sl.step (Sl.step z7 z3) z0
   obtain ⟨l9, y8, d6⟩ := MO.pack (o_simfs_FS_mk t1 v3 y7 r9 z4 y0 z2 z5 z6 v4 rfl t6 t7 t8 t9 s0 s1)
   refine sq (o_call 76 #[(.pointer (some ⟨z1, 0, none⟩))] rfl (x_call Tryz.call76 (by kernel_rfl)) (simfs_FS_trips_w (X := s2) (f_ := f_) t2 (MO.re y8 (Wr.self _ _ (Sub.refl _))) hp) ?_)
   rintro _ m0 ⟨t3, r2, hp, r3, k9, y4, rfl, r4⟩
   have y9 := MO.re r4 (Wr.trans r4.wr y8.wr s9.size)
   refine pv (.bool r2) ?_
   refine nt d5 ?_
   refine cond_b r2 (by kernel_rfl) (fun u5 => ?_) (fun u5 => ?_)
   ·
    replace hp := hp.1 u5
    refine sr (fun _ j0 => pv (.int .i64 (13 : Int)) ?_)
    refine nt j0 (wp_ret (blk_ret (then_ret ?_)))
    have j1 := Evo.thenW s9 (Step.evo y4) y8.wr
    have q0 := Sub.trans r0 (Step.up y4)
    have q1 := News.step r1 y4
    refine end_ret hQ (.int .i64 (13 : Int)) (by kernel_rfl) ?_
    exact ⟨t3, (13 : Int), hp, r3, k9, step_of j1 u7 q0 q1, rfl, y9, (by decide : inR .i64 (13 : Int))⟩
   ·
    replace hp := hp.2 u5
    refine wp_skip (blk_normal (then_normal (g4 _ _ _ _ (sr (fun _ j2 => pv (.pointer (some ⟨z1, 0, none⟩)) ?_)))))
    refine pv (.string p) ?_
    refine pv (.agg #[(.int .i64 (3 : Int)), (.string p), (.string (ByteArray.mk #[])), (.int .i64 (0 : Int)), (.int .i64 (0 : Int)), (.int .i64 (0 : Int)), (.slice none 0 0)]) ?_
    have r5 := Old.step t2 y4
    have r6 := Evo.thenW s9 (Step.evo y4) y8.wr
    have q2 := Sub.trans r0 (Step.up y4)
    have q3 := News.step r1 y4
    refine sq (o_call 77 #[(.pointer (some ⟨z1, 0, none⟩)), (.agg #[(.int .i64 (3 : Int)), (.string p), (.string (ByteArray.mk #[])), (.int .i64 (0 : Int)), (.int .i64 (0 : Int)), (.int .i64 (0 : Int)), (.slice none (([] : List Int)).length 0)])] rfl (x_call Tryz.call77 (by rw []; kernel_rfl)) (simfs_FS_do_w (X := r3) (f_ := t3) (o := (S_simfs_op.mk (3 : Int) p (ByteArray.mk #[]) (S_simfs_file.mk (0 : Int) (0 : Int) (0 : Int) ([] : List Int)))) r5 (MO.re y9 (Wr.self _ _ (Sub.refl _))) (by decide : inR .i64 (3 : Int)) q7 (by decide : (ByteArray.mk #[]).size ≤ maxLen) (by decide : inR .i64 (0 : Int)) (by decide : inR .i64 (0 : Int)) (by decide : inR .i64 (0 : Int)) Sl.nil hp) ?_)
    rintro _ m1 ⟨q4, hp, j3, j4, u6, rfl, r7⟩
    have j5 := MO.re r7 (Wr.trans r7.wr y9.wr r6.size)
    refine nt j2 (sr (fun _ j6 => pv (.int .i64 (0 : Int)) ?_))
    refine nt j6 (wp_ret ?_)
    have j7 := Evo.thenW r6 (Step.evo u6) y9.wr
    have q5 := Sub.trans q2 (Step.up u6)
    have q6 := News.step q3 u6
    refine end_ret hQ (.int .i64 (0 : Int)) (by kernel_rfl) ?_
    exact ⟨q4, (0 : Int), hp, j3, j4, step_of j7 u7 q5 q6, rfl, j5, (by decide : inR .i64 (0 : Int))⟩
/-- strconv.Itoa of a number of one digit or two. -/
def strconv_Itoa_p (i : Int) (Q : ByteArray → Prop) : Prop := ∃ k : Nat, i = (k : Int) ∧ k < 100 ∧ Q ⟨(Lib.decDigits k).toArray⟩
theorem decDigits_small {k : Nat} (h : k < 100) : (Lib.decDigits k).length ≤ 2 := by
 rw [Lib.decDigits]
 split
 · simp
 · rw [Lib.decDigits, dif_pos (by omega)]; simp
theorem strconv_Itoa_w {X : List Nat} {w : World} {i : Int} {Q : ByteArray → Prop} (z1 : Old X w) (_hi : inR .i64 i) (hp : strconv_Itoa_p i Q) :
  Calls Tryz.prog 79 #[(.int .i64 i)] w (Ret fun v w' => ∃ z0 : ByteArray, Q z0 ∧ Evo [] w w' ∧ v = (.string z0) ∧ z0.size ≤ maxLen) := by
 obtain ⟨k, rfl, hk, hq⟩ := hp
 refine (Tryz.strconv_Itoa_small k hk w).mono ?_
 rintro e w' ⟨rfl, rfl⟩
 have hl := decDigits_small hk
 refine ⟨_, rfl, _, hq, RB.refl _ _ _, rfl, ?_⟩
 show (Lib.decDigits k).toArray.size ≤ _
 rw [List.size_toArray]
 exact Nat.le_trans hl (by decide)
def journal_name_p (dir : ByteArray) (i : Int) (Q : ByteArray → Prop) : Prop :=
 ((dir.size ≤ maxLen) → ((inR .i64 i) → (((dir ++ (ByteArray.mk #[47, 115])).size ≤ maxLen) ∧ (strconv_Itoa_p i (fun (z0 : ByteArray) => ((z0.size ≤ maxLen) → ((((dir ++ (ByteArray.mk #[47, 115])) ++ z0).size ≤ maxLen) ∧ Q ((dir ++ (ByteArray.mk #[47, 115])) ++ z0))))))))
set_option maxRecDepth 20000 in
set_option maxHeartbeats 4000000 in
theorem journal_name_w {X : List Nat} {w : World} {dir : ByteArray} {i : Int} {Q : ByteArray → Prop} (z6 : Old X w) (z0 : dir.size ≤ maxLen) (z2 : inR .i64 i) (hp : journal_name_p dir i Q) :
  Calls Tryz.prog 54 #[(.string dir), (.int .i64 i)] w (Ret fun v w' => ∃ (z4 : ByteArray), Q z4 ∧ Evo [] w w' ∧ v = (.string z4) ∧ z4.size ≤ maxLen) := by
 have hXo := z6
 have E0 : Evo [] w w := RB.refl _ _ _
 have hS : Sub X X := Sub.refl _
 unfold journal_name_p at hp
 refine enter_ Tryz.func54 rfl 10 [(0, (.string dir)), (1, (.int .i64 i))] (by kernel_rfl) (fun Qe hQ => ?_)
 replace hp := hp z0 z2
 refine sr (fun _ z8 => pv (.string (ByteArray.mk #[])) ?_)
 refine nt z8 (sr (fun _ z9 => pv (.string dir) ?_))
 obtain ⟨y0, hp⟩ := hp
 refine pw (.string (dir ++ (ByteArray.mk #[47, 115]))) (x_cat (by kernel_rfl) (by kernel_rfl) y0) ?_
 refine pv (.int .i64 i) ?_
 refine sq (o_call 79 #[(.int .i64 i)] rfl (x_call Tryz.call79 (by kernel_rfl)) (strconv_Itoa_w (X := []) (i := i) (Old.nil _) z2 hp) ?_)
 rintro _ y2 ⟨z1, hp, y1, rfl, z5⟩
 replace hp := hp z5
 obtain ⟨z3, hp⟩ := hp
 refine pw (.string ((dir ++ (ByteArray.mk #[47, 115])) ++ z1)) (x_cat (by kernel_rfl) (by kernel_rfl) z3) ?_
 refine pv (.string ((dir ++ (ByteArray.mk #[47, 115])) ++ z1)) ?_
 refine nt z9 (wp_ret ?_)
 have z7 := Evo.then0 E0 y1
 refine end_ret hQ (.string ((dir ++ (ByteArray.mk #[47, 115])) ++ z1)) (by kernel_rfl) ?_
 exact ⟨((dir ++ (ByteArray.mk #[47, 115])) ++ z1), hp, z7, rfl, z3⟩
def simfs_FS_Rename_p (f_ : S_simfs_FS) (from_ : ByteArray) (to_ : ByteArray) (Q : S_simfs_FS → Int → Prop) : Prop :=
 ((from_.size ≤ maxLen) → ((to_.size ≤ maxLen) → ((f_.pending.length ≤ 9223372036854775807) → ((inR .i64 f_.quota) → ((inR .i64 f_.now) → ((inR .i64 f_.inodes) → ((inR .i64 f_.ops_) → ((inR .i64 f_.left) → ((f_.keep.length ≤ 9223372036854775807) → (((f_.off = true) → Q f_ (13 : Int)) ∧ ((f_.off = false) → ((inR .i64 ((mgetD f_.files from_).mode)) → ((inR .i64 ((mgetD f_.files from_).time)) → ((inR .i64 ((mgetD f_.files from_).inode)) → ((((mgetD f_.files from_).b).length ≤ 9223372036854775807) → ((((!(mhas f_.files from_)) = true) → Q f_ (5 : Int)) ∧ (((!(mhas f_.files from_)) = false) → (path_Check_p to_ (fun (z0 : Int) => ((inR .i64 z0) → (((¬ (z0 = (0 : Int))) → Q f_ z0) ∧ ((z0 = (0 : Int)) → (simfs_clash_p f_.files to_ from_ (fun (z2 : Bool) => (((z2 = true) → Q f_ (11 : Int)) ∧ ((z2 = false) → ((((from_ : ByteArray) = to_) → Q f_ (0 : Int)) ∧ ((¬ ((from_ : ByteArray) = to_)) → (simfs_FS_trips_p f_ (fun (z1 : S_simfs_FS) (z3 : Bool) => (((z3 = true) → Q z1 (13 : Int)) ∧ ((z3 = false) → (simfs_FS_do_p z1 (S_simfs_op.mk (2 : Int) from_ to_ (S_simfs_file.mk (0 : Int) (0 : Int) (0 : Int) ([] : List Int))) (fun (z4 : S_simfs_FS) => Q z4 (0 : Int)))))))))))))))))))))))))))))))))))
set_option maxRecDepth 20000 in
set_option maxHeartbeats 4000000 in
theorem simfs_FS_Rename_w {X : List Nat} {w : World} {f_ : S_simfs_FS} {from_ : ByteArray} {to_ : ByteArray} {z4 : Nat} {v0 : List Nat} {Q : S_simfs_FS → Int → Prop} (n5 : Old X w) (q4 : MO o_simfs_FS 62 v0 w.heap.size X w v0 z4 f_) (v1 : from_.size ≤ maxLen) (v3 : to_.size ≤ maxLen) (hp : simfs_FS_Rename_p f_ from_ to_ Q) :
  Calls Tryz.prog 58 #[(.pointer (some ⟨z4, 0, none⟩)), (.string from_), (.string to_)] w (Ret fun v w' => ∃ (n6 : S_simfs_FS) (g4 : Int), Q n6 g4 ∧ ∃ (X' : List Nat) (n7 : List Nat), Step X w v0 X' w' ∧ v = (.int .i64 g4) ∧ MO o_simfs_FS 62 v0 w.heap.size X' w' n7 z4 n6 ∧ inR .i64 g4) := by
 have hXo := n5
 have E0 : Evo v0 w w := RB.refl _ _ _
 have hS : Sub X X := Sub.refl _
 have hN : News X w X w := News.refl _ _
 have v4 : Sub v0 X := MO.mem q4
 unfold simfs_FS_Rename_p at hp
 refine enter_ Tryz.func58 rfl 47 [(0, (.pointer (some ⟨z4, 0, none⟩))), (1, (.string from_)), (2, (.string to_))] (by kernel_rfl) (fun Qe hQ => ?_)
 replace hp := hp v1 v3
 refine sr (fun _ c8 => pv (.int .i64 (0 : Int)) ?_)
 refine nt c8 (seq_ (fun _ c9 => sr (fun _ a0 => pv (.pointer (some ⟨z4, 0, none⟩)) ?_)))
 refine pv (.pointer (some ⟨z4, 0, none⟩)) ?_
 obtain ⟨n4, y4, a1, a2, a3, g5, g6, t5, y8, y3, u5, z5, y0, z2, z7, z8, z9, a4, a5, a6, a7, v7, v8, v9, u1, u2, u3⟩ := o_simfs_FS_open q4
 replace hp := hp (OS.len u5) z5 y0 z2 z7 z8 (Sl.len z9)
 refine pv (.pointer (some ⟨z4, 7, none⟩)) ?_
 refine pw (.bool f_.off) (x_load1 (by kernel_rfl) Tryz.isAgg4 (t5.2.1.cell' 7 rfl)) ?_
 refine nt a0 ?_
 refine cond_b f_.off (by kernel_rfl) (fun q5 => ?_) (fun q5 => ?_)
 ·
  replace hp := hp.1 q5
  refine sr (fun _ n8 => pv (.int .i64 (13 : Int)) ?_)
  refine nt n8 (wp_ret (then_ret ?_))
  obtain ⟨n9, o0, a8⟩ := MO.pack (o_simfs_FS_mk t5 y8 y3 u5 z5 y0 z2 z7 z8 z9 rfl v7 v8 v9 u1 u2 u3)
  refine end_ret hQ (.int .i64 (13 : Int)) (by kernel_rfl) ?_
  exact ⟨f_, (13 : Int), hp, X, n9, step_of E0 v4 hS hN, rfl, o0, (by decide : inR .i64 (13 : Int))⟩
 ·
  replace hp := hp.2 q5
  refine wp_skip (then_normal (c9 _ _ _ _ (seq_ (fun _ o1 => sr (fun _ o2 => pv (.pointer (some ⟨z4, 0, none⟩)) ?_)))))
  refine pv (.pointer (some ⟨z4, 0, none⟩)) ?_
  refine pv (.pointer (some ⟨z4, 1, none⟩)) ?_
  refine pw (.map (some y4)) (x_load1 (by kernel_rfl) Tryz.isAgg59 (t5.2.1.cell' 1 rfl)) ?_
  refine pv (.string from_) ?_
  obtain ⟨a9, g7, g8⟩ := MapAt.look y3.2.1 from_ [(.int .i64 (0 : Int)), (.int .i64 (0 : Int)), (.int .i64 (0 : Int)), (.slice none 0 0)] (fun _ _ => (r_simfs_file_mk (by decide : inR .i64 (0 : Int)) (by decide : inR .i64 (0 : Int)) (by decide : inR .i64 (0 : Int)) (Sl.nil) rfl))
  obtain ⟨y6, y7, rfl, r1, r2, t6, k7⟩ := r_simfs_file_open g7
  replace hp := hp r1 r2 t6 (Sl.len k7)
  refine pw (.tuple #[(.agg #[(.int .i64 ((mgetD f_.files from_).mode)), (.int .i64 ((mgetD f_.files from_).time)), (.int .i64 ((mgetD f_.files from_).inode)), (.slice y6 (((mgetD f_.files from_).b).length) y7)]), (.bool (mhas f_.files from_))]) (x_lookup2 (w0 := w) (k := from_) (v := (.agg #[(.int .i64 ((mgetD f_.files from_).mode)), (.int .i64 ((mgetD f_.files from_).time)), (.int .i64 ((mgetD f_.files from_).inode)), (.slice y6 (((mgetD f_.files from_).b).length) y7)])) (z := (.agg #[(.int .i64 (0 : Int)), (.int .i64 (0 : Int)), (.int .i64 (0 : Int)), (.slice none 0 0)])) (b := mhas f_.files from_) (s := 4) (bts := 48) (by kernel_rfl) (by kernel_rfl) g8 rfl Tryz.underlying59 Tryz.underlying9 (by kernel_rfl)) ?_
  refine pv (.tuple #[(.agg #[(.int .i64 ((mgetD f_.files from_).mode)), (.int .i64 ((mgetD f_.files from_).time)), (.int .i64 ((mgetD f_.files from_).inode)), (.slice y6 (((mgetD f_.files from_).b).length) y7)]), (.bool (mhas f_.files from_))]) ?_
  refine pv (.agg #[(.int .i64 ((mgetD f_.files from_).mode)), (.int .i64 ((mgetD f_.files from_).time)), (.int .i64 ((mgetD f_.files from_).inode)), (.slice y6 (((mgetD f_.files from_).b).length) y7)]) ?_
  refine pv (.bool (mhas f_.files from_)) ?_
  refine sq (o_newX [(.int .i64 (0 : Int)), (.int .i64 (0 : Int)), (.int .i64 (0 : Int)), (.slice none 0 0)] 74 (X := X) (B := w.heap.size) E0.size rfl (by kernel_rfl) ?_)
  intro e5 e6 v5 z6 u4 q0
  have q6 := q0 _ (OB.old t5)
  have t7 := q0 _ (OM.old y8)
  have q7 := q0 _ (OM.old y3)
  have t8 := q0 _ (OS.old u5)
  have q8 := OB.step0 t5 z6
  have y2 := OM.step0 y8 z6
  have y5 := OM.step0 y3 z6
  have v6 := OS.step0 u5 z6
  have t9 := Evo.then0 E0 (Step.evo z6)
  refine sq (o_stB (o := 0) (v := (.agg #[(.int .i64 ((mgetD f_.files from_).mode)), (.int .i64 ((mgetD f_.files from_).time)), (.int .i64 ((mgetD f_.files from_).inode)), (.slice y6 (((mgetD f_.files from_).b).length) y7)])) [(.int .i64 ((mgetD f_.files from_).mode)), (.int .i64 ((mgetD f_.files from_).time)), (.int .i64 ((mgetD f_.files from_).inode)), (.slice y6 (((mgetD f_.files from_).b).length) y7)] rfl u4 (by kernel_rfl) (by kernel_rfl) Tryz.sizeOf74 rfl rfl rfl ?_)
  intro e7 z0 e8
  refine pv (.bool (mhas f_.files from_)) ?_
  refine nt o2 (sr (fun _ o3 => pv (.bool (mhas f_.files from_)) ?_))
  refine pv (.bool (!(mhas f_.files from_))) ?_
  refine nt o3 ?_
  refine cond_b (!(mhas f_.files from_)) (by kernel_rfl) (fun q9 => ?_) (fun q9 => ?_)
  ·
   replace hp := hp.1 q9
   refine sr (fun _ o4 => pv (.int .i64 (5 : Int)) ?_)
   refine nt o4 (wp_ret (then_ret ?_))
   have o5 := Evo.thenW t9 (Step.evo z0) (Wr.of u4.2.2)
   have g9 := Sub.trans (Sub.trans hS (Step.up z6)) (Step.up z0)
   have d0 := News.step (News.step hN z6) z0
   have o6 := OB.step q8 z0 q6
   have r3 := OM.step y2 z0 t7
   have s0 := OM.step y5 z0 q7
   have d1 := OS.step v6 z0 t8
   have r4 := Sl.step (Sl.step z9 z6) z0
   obtain ⟨o7, o8, e0⟩ := MO.pack (o_simfs_FS_mk o6 r3 s0 d1 z5 y0 z2 z7 z8 r4 rfl v7 v8 v9 u1 u2 u3)
   refine end_ret hQ (.int .i64 (5 : Int)) (by kernel_rfl) ?_
   exact ⟨f_, (5 : Int), hp, v5, o7, step_of o5 v4 g9 d0, rfl, o8, (by decide : inR .i64 (5 : Int))⟩
  ·
   replace hp := hp.2 q9
   refine wp_skip (then_normal (o1 _ _ _ _ (seq_ (fun _ o9 => sr (fun _ c0 => pv (.string to_) ?_)))))
   refine sq (o_call 70 #[(.string to_)] rfl (x_call Tryz.call70 (by kernel_rfl)) (path_Check_w (X := []) (p := to_) (Old.nil _) v3 hp) ?_)
   rintro _ e9 ⟨v2, hp, s1, rfl, k0⟩
   have z3 := Step.of0 v5 s1
   replace hp := hp k0
   refine pv (.int .i64 v2) ?_
   refine nt c0 (sr (fun _ c1 => pv (.int .i64 v2) ?_))
   refine pv (.bool (!decide (v2 = (0 : Int)))) ?_
   refine nt c1 ?_
   refine cond_nd (v2 = (0 : Int)) (by kernel_rfl) (fun k1 => ?_) (fun k1 => ?_)
   ·
    replace hp := hp.1 k1
    refine sr (fun _ c2 => pv (.int .i64 v2) ?_)
    refine pv (.int .i64 v2) ?_
    refine nt c2 (wp_ret (then_ret ?_))
    have c3 := Evo.then0 (Evo.thenW t9 (Step.evo z0) (Wr.of u4.2.2)) s1
    have d2 := Sub.trans (Sub.trans (Sub.trans hS (Step.up z6)) (Step.up z0)) (Step.up z3)
    have k8 := News.step (News.step (News.step hN z6) z0) z3
    have d3 := OB.step0 (OB.step q8 z0 q6) z3
    have s2 := OM.step0 (OM.step y2 z0 t7) z3
    have u6 := OM.step0 (OM.step y5 z0 q7) z3
    have k9 := OS.step0 (OS.step v6 z0 t8) z3
    have s3 := Sl.step (Sl.step (Sl.step z9 z6) z0) z3
    obtain ⟨d4, d5, c4⟩ := MO.pack (o_simfs_FS_mk d3 s2 u6 k9 z5 y0 z2 z7 z8 s3 rfl v7 v8 v9 u1 u2 u3)
    refine end_ret hQ (.int .i64 v2) (by kernel_rfl) ?_
    exact ⟨f_, v2, hp, v5, d4, step_of c3 v4 d2 k8, rfl, d5, k0⟩
   ·
    replace hp := hp.2 k1
    refine wp_skip (then_normal (o9 _ _ _ _ (seq_ (fun _ d6 => sr (fun _ d7 => pv (.pointer (some ⟨z4, 0, none⟩)) ?_)))))
    refine pv (.pointer (some ⟨z4, 0, none⟩)) ?_
    refine pv (.pointer (some ⟨z4, 1, none⟩)) ?_
    have u7 := OB.step0 (OB.step q8 z0 q6) z3
    refine pw (.map (some y4)) (x_load1 (by kernel_rfl) Tryz.isAgg59 (u7.2.1.cell' 1 rfl)) ?_
    refine pv (.string to_) ?_
    refine pv (.string from_) ?_
    have y1 := OM.step0 (OM.step y5 z0 q7) z3
    refine sq (o_call 62 #[(.map (some y4)), (.string to_), (.string from_)] rfl (x_call Tryz.call62 (by kernel_rfl)) (simfs_clash_w (X := []) (l := f_.files) (p := to_) (but := from_) (Old.nil _) (OM.rm y1) v3 v1 hp) ?_)
    rintro _ e1 ⟨d8, hp, u9, rfl⟩
    have z1 := Step.of0 v5 u9
    refine nt d7 ?_
    refine cond_b d8 (by kernel_rfl) (fun r5 => ?_) (fun r5 => ?_)
    ·
     replace hp := hp.1 r5
     refine sr (fun _ d9 => pv (.int .i64 (11 : Int)) ?_)
     refine nt d9 (wp_ret (then_ret ?_))
     have l0 := Evo.then0 (Evo.then0 (Evo.thenW t9 (Step.evo z0) (Wr.of u4.2.2)) s1) u9
     have j0 := Sub.trans (Sub.trans (Sub.trans (Sub.trans hS (Step.up z6)) (Step.up z0)) (Step.up z3)) (Step.up z1)
     have j1 := News.step (News.step (News.step (News.step hN z6) z0) z3) z1
     have l1 := OB.step0 u7 z1
     have s4 := OM.step0 (OM.step0 (OM.step y2 z0 t7) z3) z1
     have t0 := OM.step0 y1 z1
     have j2 := OS.step0 (OS.step0 (OS.step v6 z0 t8) z3) z1
     have s5 := Sl.step (Sl.step (Sl.step (Sl.step z9 z6) z0) z3) z1
     obtain ⟨l2, l3, c5⟩ := MO.pack (o_simfs_FS_mk l1 s4 t0 j2 z5 y0 z2 z7 z8 s5 rfl v7 v8 v9 u1 u2 u3)
     refine end_ret hQ (.int .i64 (11 : Int)) (by kernel_rfl) ?_
     exact ⟨f_, (11 : Int), hp, v5, l2, step_of l0 v4 j0 j1, rfl, l3, (by decide : inR .i64 (11 : Int))⟩
    ·
     replace hp := hp.2 r5
     refine wp_skip (then_normal (d6 _ _ _ _ (seq_ (fun _ l4 => sr (fun _ l5 => pv (.string from_) ?_)))))
     refine pv (.string to_) ?_
     refine pw (.bool (decide ((from_ : ByteArray) = to_))) (x_streq (by kernel_rfl) (by kernel_rfl)) ?_
     refine nt l5 ?_
     refine cond_d ((from_ : ByteArray) = to_) (by kernel_rfl) (fun r6 => ?_) (fun r6 => ?_)
     ·
      replace hp := hp.1 r6
      refine sr (fun _ l6 => pv (.int .i64 (0 : Int)) ?_)
      refine nt l6 (wp_ret (then_ret ?_))
      have l7 := Evo.then0 (Evo.then0 (Evo.thenW t9 (Step.evo z0) (Wr.of u4.2.2)) s1) u9
      have j3 := Sub.trans (Sub.trans (Sub.trans (Sub.trans hS (Step.up z6)) (Step.up z0)) (Step.up z3)) (Step.up z1)
      have j4 := News.step (News.step (News.step (News.step hN z6) z0) z3) z1
      have l8 := OB.step0 u7 z1
      have s6 := OM.step0 (OM.step0 (OM.step y2 z0 t7) z3) z1
      have t1 := OM.step0 y1 z1
      have j5 := OS.step0 (OS.step0 (OS.step v6 z0 t8) z3) z1
      have s7 := Sl.step (Sl.step (Sl.step (Sl.step z9 z6) z0) z3) z1
      obtain ⟨l9, m0, c6⟩ := MO.pack (o_simfs_FS_mk l8 s6 t1 j5 z5 y0 z2 z7 z8 s7 rfl v7 v8 v9 u1 u2 u3)
      refine end_ret hQ (.int .i64 (0 : Int)) (by kernel_rfl) ?_
      exact ⟨f_, (0 : Int), hp, v5, l9, step_of l7 v4 j3 j4, rfl, m0, (by decide : inR .i64 (0 : Int))⟩
     ·
      replace hp := hp.2 r6
      refine wp_skip (then_normal (l4 _ _ _ _ (seq_ (fun _ m1 => sr (fun _ m2 => pv (.pointer (some ⟨z4, 0, none⟩)) ?_)))))
      have s8 := Old.step (Old.step (Old.step (Old.step hXo z6) z0) z3) z1
      have r7 := Evo.then0 (Evo.then0 (Evo.thenW t9 (Step.evo z0) (Wr.of u4.2.2)) s1) u9
      have q1 := Sub.trans (Sub.trans (Sub.trans (Sub.trans hS (Step.up z6)) (Step.up z0)) (Step.up z3)) (Step.up z1)
      have q2 := News.step (News.step (News.step (News.step hN z6) z0) z3) z1
      have m3 := OB.step0 u7 z1
      have s9 := OM.step0 (OM.step0 (OM.step y2 z0 t7) z3) z1
      have t2 := OM.step0 y1 z1
      have j6 := OS.step0 (OS.step0 (OS.step v6 z0 t8) z3) z1
      have r0 := Sl.step (Sl.step (Sl.step (Sl.step z9 z6) z0) z3) z1
      obtain ⟨e2, t3, c7⟩ := MO.pack (o_simfs_FS_mk m3 s9 t2 j6 z5 y0 z2 z7 z8 r0 rfl v7 v8 v9 u1 u2 u3)
      refine sq (o_call 76 #[(.pointer (some ⟨z4, 0, none⟩))] rfl (x_call Tryz.call76 (by kernel_rfl)) (simfs_FS_trips_w (X := v5) (f_ := f_) s8 (MO.re t3 (Wr.self _ _ (Sub.refl _))) hp) ?_)
      rintro _ e3 ⟨q3, m4, hp, k2, m5, y9, rfl, k3⟩
      have t4 := MO.re k3 (Wr.trans k3.wr t3.wr r7.size)
      refine nt m2 ?_
      refine cond_b m4 (by kernel_rfl) (fun r8 => ?_) (fun r8 => ?_)
      ·
       replace hp := hp.1 r8
       refine sr (fun _ m6 => pv (.int .i64 (13 : Int)) ?_)
       refine nt m6 (wp_ret (then_ret ?_))
       have m7 := Evo.thenW r7 (Step.evo y9) t3.wr
       have j7 := Sub.trans q1 (Step.up y9)
       have j8 := News.step q2 y9
       refine end_ret hQ (.int .i64 (13 : Int)) (by kernel_rfl) ?_
       exact ⟨q3, (13 : Int), hp, k2, m5, step_of m7 v4 j7 j8, rfl, t4, (by decide : inR .i64 (13 : Int))⟩
      ·
       replace hp := hp.2 r8
       refine wp_skip (then_normal (m1 _ _ _ _ (sr (fun _ m8 => pv (.pointer (some ⟨z4, 0, none⟩)) ?_))))
       refine pv (.string from_) ?_
       refine pv (.string to_) ?_
       refine pv (.agg #[(.int .i64 (2 : Int)), (.string from_), (.string to_), (.int .i64 (0 : Int)), (.int .i64 (0 : Int)), (.int .i64 (0 : Int)), (.slice none 0 0)]) ?_
       have k4 := Old.step s8 y9
       have k5 := Evo.thenW r7 (Step.evo y9) t3.wr
       have j9 := Sub.trans q1 (Step.up y9)
       have g0 := News.step q2 y9
       refine sq (o_call 77 #[(.pointer (some ⟨z4, 0, none⟩)), (.agg #[(.int .i64 (2 : Int)), (.string from_), (.string to_), (.int .i64 (0 : Int)), (.int .i64 (0 : Int)), (.int .i64 (0 : Int)), (.slice none (([] : List Int)).length 0)])] rfl (x_call Tryz.call77 (by rw []; kernel_rfl)) (simfs_FS_do_w (X := k2) (f_ := q3) (o := (S_simfs_op.mk (2 : Int) from_ to_ (S_simfs_file.mk (0 : Int) (0 : Int) (0 : Int) ([] : List Int)))) k4 (MO.re t4 (Wr.self _ _ (Sub.refl _))) (by decide : inR .i64 (2 : Int)) v1 v3 (by decide : inR .i64 (0 : Int)) (by decide : inR .i64 (0 : Int)) (by decide : inR .i64 (0 : Int)) Sl.nil hp) ?_)
       rintro _ e4 ⟨g1, hp, m9, n0, r9, rfl, k6⟩
       have n1 := MO.re k6 (Wr.trans k6.wr t4.wr k5.size)
       refine nt m8 (sr (fun _ n2 => pv (.int .i64 (0 : Int)) ?_))
       refine nt n2 (wp_ret ?_)
       have n3 := Evo.thenW k5 (Step.evo r9) t4.wr
       have g2 := Sub.trans j9 (Step.up r9)
       have g3 := News.step g0 r9
       refine end_ret hQ (.int .i64 (0 : Int)) (by kernel_rfl) ?_
       exact ⟨g1, (0 : Int), hp, m9, n0, step_of n3 v4 g2 g3, rfl, n1, (by decide : inR .i64 (0 : Int))⟩
def simfs_FS_sync_p (f_ : S_simfs_FS) (Q : S_simfs_FS → Prop) : Prop :=
 ((f_.pending.length ≤ 9223372036854775807) → ((inR .i64 f_.quota) → ((inR .i64 f_.now) → ((inR .i64 f_.inodes) → ((inR .i64 f_.ops_) → ((inR .i64 f_.left) → ((f_.keep.length ≤ 9223372036854775807) → (maps_Clone_map_string_simfs_file_string_simfs_file_p f_.files (fun (z0 : (List (ByteArray × S_simfs_file))) (z1 : (List (ByteArray × S_simfs_file))) => Q (S_simfs_FS.mk z1 z0 ([] : List S_simfs_op) f_.quota f_.now f_.inodes f_.ops_ f_.off f_.armed f_.left f_.keep))))))))))
set_option maxRecDepth 20000 in
set_option maxHeartbeats 4000000 in
theorem simfs_FS_sync_w {X : List Nat} {w : World} {f_ : S_simfs_FS} {z0 : Nat} {z4 : List Nat} {Q : S_simfs_FS → Prop} (u3 : Old X w) (v0 : MO o_simfs_FS 62 z4 w.heap.size X w z4 z0 f_) (hp : simfs_FS_sync_p f_ Q) :
  Calls Tryz.prog 80 #[(.pointer (some ⟨z0, 0, none⟩))] w (Ret fun v w' => ∃ (u4 : S_simfs_FS), Q u4 ∧ ∃ (X' : List Nat) (u5 : List Nat), Step X w z4 X' w' ∧ v = .tuple #[] ∧ MO o_simfs_FS 62 z4 w.heap.size X' w' u5 z0 u4) := by
 have hXo := u3
 have E0 : Evo z4 w w := RB.refl _ _ _
 have hS : Sub X X := Sub.refl _
 have hN : News X w X w := News.refl _ _
 have u6 : Sub z4 X := MO.mem v0
 unfold simfs_FS_sync_p at hp
 refine enter_ Tryz.func80 rfl 13 [(0, (.pointer (some ⟨z0, 0, none⟩)))] (by kernel_rfl) (fun Qe hQ => ?_)
 refine reg_ (pv (.pointer (some ⟨z0, 0, none⟩)) ?_)
 refine pv (.pointer (some ⟨z0, 0, none⟩)) ?_
 refine pv (.pointer (some ⟨z0, 0, none⟩)) ?_
 refine pv (.pointer (some ⟨z0, 0, none⟩)) ?_
 obtain ⟨u1, z1, u7, u9, v6, z6, z7, y8, u2, z2, v7, z5, y1, z3, z8, z9, y0, s6, s7, s8, s9, r1, t0, r2, r3, r4, r5⟩ := o_simfs_FS_open v0
 replace hp := hp (OS.len v7) z5 y1 z3 z8 z9 (Sl.len y0)
 refine pv (.pointer (some ⟨z0, 1, none⟩)) ?_
 refine pw (.map (some z1)) (x_load1 (by kernel_rfl) Tryz.isAgg59 (y8.2.1.cell' 1 rfl)) ?_
 refine sq (o_call 36 #[(.map (some z1))] rfl (x_call Tryz.call36 (by kernel_rfl)) (maps_Clone_map_string_simfs_file_string_simfs_file_w (X := X) (m := f_.files) hXo (OM.re z2 (Wr.self _ _ (Sub.refl _))) hp) ?_)
 rintro _ r6 ⟨t1, t2, hp, t3, y5, y4, rfl, v1, y6, t4⟩
 have t5 := OM.re v1 (Wr.trans v1.wr z2.wr E0.size)
 have y9 := Ap.grow v1.wr t0 (OB.old y8) (Nat.le_refl _)
 have t6 := OM.re y6 (Wr.trans y6.wr (Wr.nil [] _) E0.size)
 have v2 := Ap.grow y6.wr (Ap.nil_r _) (OB.old y8) (Nat.le_refl _)
 refine pv (.pointer (some ⟨z0, 0, none⟩)) ?_
 refine pv (.pointer (some ⟨z0, 0, none⟩)) ?_
 have v3 := OB.step y8 y4 y9
 have t7 := Evo.thenW E0 (Step.evo y4) z2.wr
 refine sq (o_stB (o := 0) (v := (.map (some y5))) [(.map (some y5)), (.map (some z1)), (.slice u7 u9 v6), (.int .i64 f_.quota), (.int .i64 f_.now), (.int .i64 f_.inodes), (.int .i64 f_.ops_), (.bool f_.off), (.bool f_.armed), (.int .i64 f_.left), (.slice z6 f_.keep.length z7)] rfl v3 (by kernel_rfl) (by kernel_rfl) Tryz.sizeOf59 rfl rfl rfl ?_)
 intro r7 y2 v4
 refine pv (.pointer (some ⟨z0, 0, none⟩)) ?_
 refine pv (.pointer (some ⟨z0, 2, none⟩)) ?_
 have t8 := OM.step t5 y2 (Ap.symm y9)
 have t9 := OM.step t6 y2 (Ap.symm v2)
 have s0 := Evo.thenW t7 (Step.evo y2) v3.2.2
 refine sq (o_stB (o := 2) (v := (.slice none 0 0)) [(.map (some y5)), (.map (some z1)), (.slice none 0 0), (.int .i64 f_.quota), (.int .i64 f_.now), (.int .i64 f_.inodes), (.int .i64 f_.ops_), (.bool f_.off), (.bool f_.armed), (.int .i64 f_.left), (.slice z6 f_.keep.length z7)] rfl v4 (by kernel_rfl) (by kernel_rfl) Tryz.sizeOf60 rfl rfl rfl ?_)
 intro r8 y3 s1
 refine nil_ ?_
 have s2 := Evo.thenW s0 (Step.evo y3) v4.2.2
 have v8 := Sub.trans (Sub.trans (Sub.trans hS (Step.up y4)) (Step.up y2)) (Step.up y3)
 have v9 := News.step (News.step (News.step hN y4) y2) y3
 have y7 := Sl.step (Sl.step (Sl.step y0 y4) y2) y3
 have s3 := OM.step t8 y3 (Ap.symm y9)
 have v5 := OM.step t9 y3 (Ap.symm v2)
 obtain ⟨s4, s5, r0⟩ := MO.pack (o_simfs_FS_mk s1 (OM.re v5 (Wr.of v5.wr)) s3 (OS.nil2 _ _ _ _ _) z5 y1 z3 z8 z9 y7 rfl v2 y9 (Ap.nil_r _) (Ap.symm t4) (Ap.nil_r _) (Ap.nil_r _))
 refine end_normal hQ (.tuple #[]) (by kernel_rfl) ?_
 exact ⟨(S_simfs_FS.mk t2 t1 ([] : List S_simfs_op) f_.quota f_.now f_.inodes f_.ops_ f_.off f_.armed f_.left f_.keep), hp, t3, s4, step_of s2 u6 v8 v9, rfl, s5⟩
def simfs_FS_Sync_p (f_ : S_simfs_FS) (Q : S_simfs_FS → Int → Prop) : Prop :=
 ((f_.pending.length ≤ 9223372036854775807) → ((inR .i64 f_.quota) → ((inR .i64 f_.now) → ((inR .i64 f_.inodes) → ((inR .i64 f_.ops_) → ((inR .i64 f_.left) → ((f_.keep.length ≤ 9223372036854775807) → (((f_.off = true) → Q f_ (13 : Int)) ∧ ((f_.off = false) → (simfs_FS_sync_p f_ (fun (z0 : S_simfs_FS) => Q z0 (0 : Int))))))))))))
set_option maxRecDepth 20000 in
set_option maxHeartbeats 4000000 in
theorem simfs_FS_Sync_w {X : List Nat} {w : World} {f_ : S_simfs_FS} {z0 : Nat} {z6 : List Nat} {Q : S_simfs_FS → Int → Prop} (u3 : Old X w) (y1 : MO o_simfs_FS 62 z6 w.heap.size X w z6 z0 f_) (hp : simfs_FS_Sync_p f_ Q) :
  Calls Tryz.prog 55 #[(.pointer (some ⟨z0, 0, none⟩))] w (Ret fun v w' => ∃ (u4 : S_simfs_FS) (v4 : Int), Q u4 v4 ∧ ∃ (X' : List Nat) (u5 : List Nat), Step X w z6 X' w' ∧ v = (.int .i64 v4) ∧ MO o_simfs_FS 62 z6 w.heap.size X' w' u5 z0 u4 ∧ inR .i64 v4) := by
 have hXo := u3
 have E0 : Evo z6 w w := RB.refl _ _ _
 have hS : Sub X X := Sub.refl _
 have hN : News X w X w := News.refl _ _
 have y6 : Sub z6 X := MO.mem y1
 unfold simfs_FS_Sync_p at hp
 refine enter_ Tryz.func55 rfl 9 [(0, (.pointer (some ⟨z0, 0, none⟩)))] (by kernel_rfl) (fun Qe hQ => ?_)
 refine sr (fun _ t6 => pv (.int .i64 (0 : Int)) ?_)
 refine nt t6 (seq_ (fun _ t7 => sr (fun _ t8 => pv (.pointer (some ⟨z0, 0, none⟩)) ?_)))
 refine pv (.pointer (some ⟨z0, 0, none⟩)) ?_
 obtain ⟨u2, v5, t9, s0, s1, v6, v7, y2, z9, z8, y0, z2, z7, z1, z3, z4, z5, s2, s3, s4, s5, y7, y8, y9, v0, v1, v2⟩ := o_simfs_FS_open y1
 replace hp := hp (OS.len y0) z2 z7 z1 z3 z4 (Sl.len z5)
 refine pv (.pointer (some ⟨z0, 7, none⟩)) ?_
 refine pw (.bool f_.off) (x_load1 (by kernel_rfl) Tryz.isAgg4 (y2.2.1.cell' 7 rfl)) ?_
 refine nt t8 ?_
 refine cond_b f_.off (by kernel_rfl) (fun y3 => ?_) (fun y3 => ?_)
 ·
  replace hp := hp.1 y3
  refine sr (fun _ u6 => pv (.int .i64 (13 : Int)) ?_)
  refine nt u6 (wp_ret (then_ret ?_))
  obtain ⟨u7, u9, s6⟩ := MO.pack (o_simfs_FS_mk y2 z9 z8 y0 z2 z7 z1 z3 z4 z5 rfl y7 y8 y9 v0 v1 v2)
  refine end_ret hQ (.int .i64 (13 : Int)) (by kernel_rfl) ?_
  exact ⟨f_, (13 : Int), hp, X, u7, step_of E0 y6 hS hN, rfl, u9, (by decide : inR .i64 (13 : Int))⟩
 ·
  replace hp := hp.2 y3
  refine wp_skip (then_normal (t7 _ _ _ _ (sr (fun _ t0 => pv (.pointer (some ⟨z0, 0, none⟩)) ?_))))
  obtain ⟨s8, y4, s7⟩ := MO.pack (o_simfs_FS_mk y2 z9 z8 y0 z2 z7 z1 z3 z4 z5 rfl y7 y8 y9 v0 v1 v2)
  refine sq (o_call 80 #[(.pointer (some ⟨z0, 0, none⟩))] rfl (x_call Tryz.call80 (by kernel_rfl)) (simfs_FS_sync_w (X := X) (f_ := f_) hXo (MO.re y4 (Wr.self _ _ (Sub.refl _))) hp) ?_)
  rintro _ s9 ⟨v8, hp, t1, t2, y5, rfl, v3⟩
  have t3 := MO.re v3 (Wr.trans v3.wr y4.wr E0.size)
  refine nt t0 (sr (fun _ t4 => pv (.int .i64 (0 : Int)) ?_))
  refine nt t4 (wp_ret ?_)
  have t5 := Evo.thenW E0 (Step.evo y5) y4.wr
  have v9 := Sub.trans hS (Step.up y5)
  have u1 := News.step hN y5
  refine end_ret hQ (.int .i64 (0 : Int)) (by kernel_rfl) ?_
  exact ⟨v8, (0 : Int), hp, t1, t2, step_of t5 y6 v9 u1, rfl, t3, (by decide : inR .i64 (0 : Int))⟩
def journal_finish_p (f_ : S_simfs_FS) (dir : ByteArray) (l : (List S_journal_Change)) (Q : S_simfs_FS → Int → Prop) : Prop :=
 ((dir.size ≤ maxLen) → ((l.length ≤ 9223372036854775807) → (∃ (z6 : Int → S_simfs_FS → Prop) (y2 : Int → S_simfs_FS → Nat), (z6 (0 : Int) f_) ∧ (∀ (z1 : Int) (z2 : S_simfs_FS), (z6 z1 z2) → (inR .i64 z1) → (((z1 < (l.length : Int)) → ((inL l z1) ∧ ((((lget l z1).Path).size ≤ maxLen) → ((inR .i64 ((lget l z1).Mode)) → ((((lget l z1).Data).length ≤ 9223372036854775807) → (∃ z7 : Bool → S_simfs_FS → Prop, (∀ (z8 : Bool) (z4 : S_simfs_FS), z7 z8 z4 → (((z8 = true) → Q z4 (13 : Int)) ∧ ((z8 = false) → ((inR .i64 (z1 + (1 : Int))) ∧ ((z6 (z1 + (1 : Int)) z4) ∧ y2 (z1 + (1 : Int)) z4 < y2 z1 z2))))) ∧ (((((lget l z1).Gone) = true) → (simfs_FS_Remove_p z2 ((lget l z1).Path) (fun (y8 : S_simfs_FS) (y3 : Int) => ((inR .i64 y3) → (z7 (decide (y3 = (13 : Int))) y8))))) ∧ ((¬ (((lget l z1).Gone) = true)) → (z7 false z2))))))))) ∧ ((¬ (z1 < (l.length : Int))) → (∃ (z9 : Int → S_simfs_FS → Prop) (y4 : Int → S_simfs_FS → Nat), (z9 (0 : Int) z2) ∧ (∀ (z0 : Int) (z3 : S_simfs_FS), (z9 z0 z3) → (inR .i64 z0) → (((z0 < (l.length : Int)) → ((inL l z0) ∧ ((((lget l z0).Path).size ≤ maxLen) → ((inR .i64 ((lget l z0).Mode)) → ((((lget l z0).Data).length ≤ 9223372036854775807) → (∃ y0 : Bool → S_simfs_FS → Prop, (∀ (y1 : Bool) (z5 : S_simfs_FS), y0 y1 z5 → (((y1 = true) → Q z5 (13 : Int)) ∧ ((y1 = false) → ((inR .i64 (z0 + (1 : Int))) ∧ ((z9 (z0 + (1 : Int)) z5) ∧ y4 (z0 + (1 : Int)) z5 < y4 z0 z3))))) ∧ (((((lget l z0).Gone) = true) → (y0 false z3)) ∧ ((¬ (((lget l z0).Gone) = true)) → (journal_name_p dir z0 (fun (y5 : ByteArray) => ((y5.size ≤ maxLen) → (simfs_FS_Rename_p z3 y5 ((lget l z0).Path) (fun (y9 : S_simfs_FS) (y6 : Int) => ((inR .i64 y6) → (y0 (decide (y6 = (13 : Int))) y9))))))))))))))) ∧ ((¬ (z0 < (l.length : Int))) → (simfs_FS_Sync_p z3 (fun (v0 : S_simfs_FS) (y7 : Int) => ((inR .i64 y7) → Q v0 y7)))))))))))))
set_option maxRecDepth 20000 in
set_option maxHeartbeats 4000000 in
theorem journal_finish_w {X : List Nat} {w : World} {f_ : S_simfs_FS} {dir : ByteArray} {l : (List S_journal_Change)} {z3 : Nat} {z2 : List Nat} {y7 : Option Addr} {y0 : Nat} {Q : S_simfs_FS → Int → Prop} (b6 : Old X w) (g0 : MO o_simfs_FS 62 z2 w.heap.size X w z2 z3 f_) (q8 : dir.size ≤ maxLen) (c9 : Sl r_journal_Change X w y7 y0 l) (hp : journal_finish_p f_ dir l Q) :
  Calls Tryz.prog 30 #[(.pointer (some ⟨z3, 0, none⟩)), (.string dir), (.slice y7 l.length y0)] w (Ret fun v w' => ∃ (b7 : S_simfs_FS) (a0 : Int), Q b7 a0 ∧ ∃ (X' : List Nat) (b8 : List Nat), Step X w z2 X' w' ∧ v = (.int .i64 a0) ∧ MO o_simfs_FS 62 z2 w.heap.size X' w' b8 z3 b7 ∧ inR .i64 a0) := by
 have hXo := b6
 have E0 : Evo z2 w w := RB.refl _ _ _
 have hS : Sub X X := Sub.refl _
 have hN : News X w X w := News.refl _ _
 have g1 : Sub z2 X := MO.mem g0
 unfold journal_finish_p at hp
 refine enter_ Tryz.func30 rfl 50 [(0, (.pointer (some ⟨z3, 0, none⟩))), (1, (.string dir)), (2, (.slice y7 l.length y0))] (by kernel_rfl) (fun Qe hQ => ?_)
 replace hp := hp q8 (Sl.len c9)
 refine sr (fun _ p1 => pv (.int .i64 (0 : Int)) ?_)
 refine nt p1 (seq_ (fun _ p2 => sr (fun _ b9 => pv (.slice y7 l.length y0) ?_)))
 refine pv (.int .i64 (l.length : Int)) ?_
 refine pv (.int .i64 (0 : Int)) ?_
 refine nt b9 (wp_block ?_)
 obtain ⟨a1, g2, m1, hp⟩ := hp
 refine loop_ 134209856 (fun kq lq y9 => ∃ (y1 : List Nat) (z1 : Int) (z8 : S_simfs_FS) (t3 : List Nat), (lq = [(13, (.int .i64 z1))]) ∧ (kq = g2 z1 z8) ∧ (Evo z2 w y9) ∧ (Old y1 y9) ∧ (Sub X y1) ∧ (News X w y1 y9) ∧ (Sl r_journal_Change y1 y9 y7 y0 l) ∧ (MO o_simfs_FS 62 z2 w.heap.size y1 y9 t3 z3 z8) ∧ (inR .i64 z1) ∧ (a1 z1 z8)) (g2 (0 : Int) f_) [(13, (.int .i64 (0 : Int)))] (vs_cons (by kernel_rfl) vs_nil) ⟨X, (0 : Int), f_, z2, rfl, rfl, E0, hXo, hS, hN, c9, g0, (by decide : inR .i64 (0 : Int)), m1⟩ ?_
 rintro _ _ y9 p3 ⟨y1, z1, z8, t3, rfl, rfl, r4, s6, q9, k0, t4, r5, m2, m3⟩ f0 m4
 replace hp := hp z1 z8 m3 m2
 refine sr (fun _ a2 => pv (.bool (decide (z1 < (l.length : Int)))) ?_)
 refine nt a2 (seq_ (fun _ a3 => ?_))
 refine cond_d (z1 < (l.length : Int)) (by kernel_rfl) (fun r6 => ?_) (fun r6 => ?_)
 ·
  replace hp := hp.1 r6
  refine wp_skip (then_normal (a3 _ _ _ _ (seq_ (fun _ a4 => wp_block (sr (fun _ a5 => ?_))))))
  obtain ⟨g3, hp⟩ := hp
  obtain ⟨a6, a7, f1, m5, f2, f3, m6, m7⟩ := Sl.atI t4 z1 g3
  obtain ⟨z4, z5, rfl, u2, s7, s8⟩ := r_journal_Change_open m6
  replace hp := hp u2 s7 (Sl.len s8)
  refine pw (.pointer (some ⟨a6, a7 + z1.toNat * 4, none⟩)) (x_ixA (m := l.length) (c := y0) (k := .i64) (i := z1) Tryz.underlying22 Tryz.sizeOf34 (by rw [← m5]; kernel_rfl) (by kernel_rfl) g3) ?_
  refine pw (.agg #[(.string ((lget l z1).Path)), (.bool ((lget l z1).Gone)), (.int .i64 ((lget l z1).Mode)), (.slice z4 (((lget l z1).Data).length) z5)]) (x_loadN [(.string ((lget l z1).Path)), (.bool ((lget l z1).Gone)), (.int .i64 ((lget l z1).Mode)), (.slice z4 (((lget l z1).Data).length) z5)] (by kernel_rfl) Tryz.isAgg34 Tryz.sizeOf34 m7) ?_
  refine sq (o_newX [(.string (ByteArray.mk #[])), (.bool false), (.int .i64 (0 : Int)), (.slice none 0 0)] 34 (X := y1) (B := w.heap.size) r4.size rfl (by kernel_rfl) ?_)
  intro g4 p4 g5 v0 g6 a8
  have a9 := a8 _ (MO.old r5)
  have e0 := MO.step0 r5 v0
  have e1 := Evo.then0 r4 (Step.evo v0)
  refine sq (o_stB (o := 0) (v := (.agg #[(.string ((lget l z1).Path)), (.bool ((lget l z1).Gone)), (.int .i64 ((lget l z1).Mode)), (.slice z4 (((lget l z1).Data).length) z5)])) [(.string ((lget l z1).Path)), (.bool ((lget l z1).Gone)), (.int .i64 ((lget l z1).Mode)), (.slice z4 (((lget l z1).Data).length) z5)] rfl g6 (by kernel_rfl) (by kernel_rfl) Tryz.sizeOf34 rfl rfl rfl ?_)
  intro p5 v1 r7
  refine nt a5 (seq_ (fun _ e2 => ?_))
  have r8 := Evo.thenW e1 (Step.evo v1) (Wr.of g6.2.2)
  have u4 := Old.step (Old.step s6 v0) v1
  have k1 := Sub.trans (Sub.trans q9 (Step.up v0)) (Step.up v1)
  have k2 := News.step (News.step k0 v0) v1
  have k3 := Sl.step (Sl.step t4 v0) v1
  have t5 := MO.step e0 v1 a9
  obtain ⟨e3, m8, hp⟩ := hp
  refine ground_ ?_
  refine join_ 66977792 (fun lq v2 => ∃ (y2 : List Nat) (u5 : Bool) (v3 : S_simfs_FS) (t6 : List Nat), (lq = [(25, (.bool u5))]) ∧ (Evo z2 w v2) ∧ (Old y2 v2) ∧ (Sub X y2) ∧ (News X w y2 v2) ∧ (Sl r_journal_Change y2 v2 y7 y0 l) ∧ (MO o_simfs_FS 62 z2 w.heap.size y2 v2 t6 z3 v3) ∧ (e3 u5 v3)) (fun f4 k4 => ?_) ?_
  ·
   refine reg_ (pv (.pointer (some ⟨g4, 1, none⟩)) ?_)
   by_cases t7 : ((lget l z1).Gone) = true
   ·
    replace hp := hp.1 t7
    refine pw (.bool true) (x_bt (x_load1 (by kernel_rfl) Tryz.isAgg4 (r7.2.1.cell' 1 rfl)) t7) ?_
    refine pv (.bool true) ?_
    refine pv (.pointer (some ⟨z3, 0, none⟩)) ?_
    refine pv (.pointer (some ⟨g4, 0, none⟩)) ?_
    refine pw (.string ((lget l z1).Path)) (x_load1 (by kernel_rfl) Tryz.isAgg9 (r7.2.1.cell' 0 rfl)) ?_
    refine sq (o_call 57 #[(.pointer (some ⟨z3, 0, none⟩)), (.string ((lget l z1).Path))] (by kernel_rfl) (x_call Tryz.call57 (by kernel_rfl)) (simfs_FS_Remove_w (X := g5) (f_ := z8) (p := (lget l z1).Path) u4 (MO.re t5 (Wr.self _ _ (Sub.refl _))) u2 hp) ?_)
    rintro _ p6 ⟨m9, t8, hp, e4, e5, u6, rfl, g7, n0⟩
    have e6 := MO.re g7 (Wr.trans g7.wr t5.wr r8.size)
    replace hp := hp n0
    refine pv (.bool (decide (t8 = (13 : Int)))) ?_
    refine pv (.bool (decide (t8 = (13 : Int)))) ?_
    refine nil_ ?_
    have e7 := Evo.thenW r8 (Step.evo u6) t5.wr
    have g8 := Old.step u4 u6
    have n1 := Sub.trans k1 (Step.up u6)
    have n2 := News.step k2 u6
    have n3 := Sl.step k3 u6
    refine then_normal (k4 _ _ _ ⟨[(25, (.bool (decide (t8 = (13 : Int)))))], fit_mk (fun _ _ => rfl) (by kernel_rfl) (vs_cons (by kernel_rfl) vs_nil), ?_⟩)
    exact ⟨e4, (decide (t8 = (13 : Int))), m9, e5, rfl, e7, g8, n1, n2, n3, e6, hp⟩
   ·
    replace hp := hp.2 t7
    refine pw (.bool false) (x_bf (x_load1 (by kernel_rfl) Tryz.isAgg4 (r7.2.1.cell' 1 rfl)) t7) ?_
    refine pv (.bool false) ?_
    refine no ?_
    refine no ?_
    refine no ?_
    refine no ?_
    refine no ?_
    refine pv (.bool false) ?_
    refine nil_ (then_normal (k4 _ _ _ ⟨[(25, (.bool false))], fit_mk (fun _ _ => rfl) (by kernel_rfl) (vs_cons (by kernel_rfl) vs_nil), ?_⟩))
    exact ⟨g5, false, z8, t3, rfl, r8, u4, k1, k2, k3, t5, hp⟩
  ·
   rintro _ v2 p7 ⟨y2, u5, v3, t6, rfl, g9, d0, k5, k6, n4, d1, n5⟩
   replace hp := m8 u5 v3 n5
   refine then_normal (e2 _ _ _ _ ?_)
   refine cond_b u5 (by kernel_rfl) (fun r9 => ?_) (fun r9 => ?_)
   ·
    replace hp := hp.1 r9
    refine sr (fun _ e8 => pv (.int .i64 (13 : Int)) ?_)
    refine nt e8 (wp_ret (blk_ret (then_ret (then_ret (blk_ret (then_ret ?_))))))
    refine end_ret hQ (.int .i64 (13 : Int)) (by kernel_rfl) ?_
    exact ⟨v3, (13 : Int), hp, y2, t6, step_of g9 g1 k5 k6, rfl, d1, (by decide : inR .i64 (13 : Int))⟩
   ·
    replace hp := hp.2 r9
    refine wp_skip (blk_normal (then_normal (a4 _ _ _ _ (reg_ ?_))))
    obtain ⟨d2, hp⟩ := hp
    refine pw (.int .i64 (z1 + (1 : Int))) (x_add2 (k := .i64) (a := z1) (b := (1 : Int)) (z1 + (1 : Int)) (by kernel_rfl) (by kernel_rfl) (wrap_inR d2)) ?_
    refine pv (.int .i64 (z1 + (1 : Int))) ?_
    refine nil_ (then_normal (m4 _ _ _ ⟨_, [(13, (.int .i64 (z1 + (1 : Int))))], hp.2, fit_mk (AgB.nest (AgB.look (AgB.mix _ _ _) (by kernel_rfl)) (by kernel_rfl) (by kernel_rfl)) (by kernel_rfl) (vs_cons (by kernel_rfl) vs_nil), ?_⟩))
    exact ⟨y2, (z1 + (1 : Int)), v3, t6, rfl, rfl, g9, d0, k5, k6, n4, d1, d2, hp.1⟩
 ·
  replace hp := hp.2 r6
  refine wp_exit ?_
  refine then_exit (then_exit (blk_exit (then_normal (p2 _ _ _ _ (seq_ (fun _ e9 => sr (fun _ i0 => pv (.slice y7 l.length y0) ?_)))))))
  refine pv (.int .i64 (l.length : Int)) ?_
  refine pv (.int .i64 (0 : Int)) ?_
  refine nt i0 (wp_block ?_)
  obtain ⟨i1, d3, n6, hp⟩ := hp
  refine loop_ 281474439841344 (fun kq lq v4 => ∃ (y3 : List Nat) (z0 : Int) (y4 : S_simfs_FS) (z9 : List Nat), (lq = [(29, (.int .i64 z0))]) ∧ (kq = d3 z0 y4) ∧ (Evo z2 w v4) ∧ (Old y3 v4) ∧ (Sub X y3) ∧ (News X w y3 v4) ∧ (Sl r_journal_Change y3 v4 y7 y0 l) ∧ (MO o_simfs_FS 62 z2 w.heap.size y3 v4 z9 z3 y4) ∧ (inR .i64 z0) ∧ (i1 z0 y4)) (d3 (0 : Int) z8) [(29, (.int .i64 (0 : Int)))] (vs_cons (by kernel_rfl) vs_nil) ⟨y1, (0 : Int), z8, t3, rfl, rfl, r4, s6, q9, k0, t4, r5, (by decide : inR .i64 (0 : Int)), n6⟩ ?_
  rintro _ _ v4 p8 ⟨y3, z0, y4, z9, rfl, rfl, t9, s9, k7, k8, k9, u7, j0, n7⟩ f5 n8
  replace hp := hp z0 y4 n7 j0
  refine sr (fun _ i2 => pv (.bool (decide (z0 < (l.length : Int)))) ?_)
  refine nt i2 (seq_ (fun _ i3 => ?_))
  refine cond_d (z0 < (l.length : Int)) (by kernel_rfl) (fun q0 => ?_) (fun q0 => ?_)
  ·
   replace hp := hp.1 q0
   refine wp_skip (then_normal (i3 _ _ _ _ (seq_ (fun _ i4 => wp_block (sr (fun _ i5 => pv (.int .i64 z0) ?_))))))
   obtain ⟨d4, hp⟩ := hp
   obtain ⟨i6, i7, f6, n9, f7, f8, o0, o1⟩ := Sl.atI k9 z0 d4
   obtain ⟨z6, z7, rfl, u3, r0, r1⟩ := r_journal_Change_open o0
   replace hp := hp u3 r0 (Sl.len r1)
   refine pw (.pointer (some ⟨i6, i7 + z0.toNat * 4, none⟩)) (x_ixA (m := l.length) (c := y0) (k := .i64) (i := z0) Tryz.underlying22 Tryz.sizeOf34 (by rw [← n9]; kernel_rfl) (by kernel_rfl) d4) ?_
   refine pw (.agg #[(.string ((lget l z0).Path)), (.bool ((lget l z0).Gone)), (.int .i64 ((lget l z0).Mode)), (.slice z6 (((lget l z0).Data).length) z7)]) (x_loadN [(.string ((lget l z0).Path)), (.bool ((lget l z0).Gone)), (.int .i64 ((lget l z0).Mode)), (.slice z6 (((lget l z0).Data).length) z7)] (by kernel_rfl) Tryz.isAgg34 Tryz.sizeOf34 o1) ?_
   refine sq (o_newX [(.string (ByteArray.mk #[])), (.bool false), (.int .i64 (0 : Int)), (.slice none 0 0)] 34 (X := y3) (B := w.heap.size) t9.size rfl (by kernel_rfl) ?_)
   intro d5 p9 u9 v5 d6 i9
   have s0 := i9 _ (MO.old u7)
   refine pv (.int .i64 z0) ?_
   have h0 := MO.step0 u7 v5
   have h1 := Evo.then0 t9 (Step.evo v5)
   refine sq (o_stB (o := 0) (v := (.agg #[(.string ((lget l z0).Path)), (.bool ((lget l z0).Gone)), (.int .i64 ((lget l z0).Mode)), (.slice z6 (((lget l z0).Data).length) z7)])) [(.string ((lget l z0).Path)), (.bool ((lget l z0).Gone)), (.int .i64 ((lget l z0).Mode)), (.slice z6 (((lget l z0).Data).length) z7)] rfl d6 (by kernel_rfl) (by kernel_rfl) Tryz.sizeOf34 rfl rfl rfl ?_)
   intro s1 v6 h2
   refine nt i5 (seq_ (fun _ h3 => ?_))
   have h4 := Evo.thenW h1 (Step.evo v6) (Wr.of d6.2.2)
   have d7 := Old.step (Old.step s9 v5) v6
   have o2 := Sub.trans (Sub.trans k7 (Step.up v5)) (Step.up v6)
   have o3 := News.step (News.step k8 v5) v6
   have o4 := Sl.step (Sl.step k9 v5) v6
   have d8 := MO.step h0 v6 s0
   obtain ⟨h5, o5, hp⟩ := hp
   refine ground_ ?_
   refine join_ 140720308486144 (fun lq v7 => ∃ (y5 : List Nat) (t0 : Bool) (v8 : S_simfs_FS) (s2 : List Nat), (lq = [(46, (.bool t0))]) ∧ (Evo z2 w v7) ∧ (Old y5 v7) ∧ (Sub X y5) ∧ (News X w y5 v7) ∧ (Sl r_journal_Change y5 v7 y7 y0 l) ∧ (MO o_simfs_FS 62 z2 w.heap.size y5 v7 s2 z3 v8) ∧ (h5 t0 v8)) (fun f9 j1 => ?_) ?_
   ·
    have t1 : Sub z9 u9 := (MO.mem d8)
    refine reg_drawn (RB s1.heap.size z9) 13 (by kernel_rfl) (fun d9 s3 => ?_)
    have h6 := Evo.of_drew s3
    have v9 : d9.heap.size = s1.heap.size := by rw [s3]
    clear s3
    have y6 := Step.of0 u9 h6
    have y8 := RB.refl s1.heap.size z9 d9
    have l0 := Evo.then0 h4 (Step.evo y6)
    have r2 := Old.step d7 y6
    have j2 := Sub.trans o2 (Step.up y6)
    have j3 := News.step o3 y6
    have j4 := Sl.step o4 y6
    have l1 := MO.step0 d8 y6
    have q1 := OB.step0 h2 y6
    refine r_take 0 (.pointer (some ⟨d5, 1, none⟩)) (RB.pre _ _) rfl (by kernel_rfl) (fun _ _ _ h => hQ.panic _ _ _ _ _ h) (.inl ⟨rfl, fun wq hq => (by kernel_rfl)⟩) ?_
    by_cases s4 : ((lget l z0).Gone) = true
    ·
     replace hp := hp.1 s4
     refine r_take 1 (.bool true) (RB.pre _ _) rfl (by kernel_rfl) (fun _ _ _ h => hQ.panic _ _ _ _ _ h) (.inl ⟨rfl, fun wq hq => (x_bt (x_load1 (by kernel_rfl) Tryz.isAgg4 ((OB.step q1 (stepR (RB.trans y8 hq) v9 t1) (Ap.symm s0)).2.1.cell' 1 rfl)) s4)⟩) ?_
     refine r_take 2 (.bool false) (RB.pre _ _) rfl (by kernel_rfl) (fun _ _ _ h => hQ.panic _ _ _ _ _ h) (.inl ⟨rfl, fun wq hq => (by kernel_rfl)⟩) ?_
     refine r_take 3 (.bool false) (RB.pre _ _) rfl (by kernel_rfl) (fun _ _ _ h => hQ.panic _ _ _ _ _ h) (.inl ⟨rfl, fun wq hq => (by kernel_rfl)⟩) ?_
     refine r_take 4 undef (RB.pre _ _) rfl (by kernel_rfl) (fun _ _ _ h => hQ.panic _ _ _ _ _ h) (.inr ⟨by kernel_rfl, rfl⟩) ?_
     refine r_take 5 undef (RB.pre _ _) rfl (by kernel_rfl) (fun _ _ _ h => hQ.panic _ _ _ _ _ h) (.inr ⟨by kernel_rfl, rfl⟩) ?_
     refine r_take 6 undef (RB.pre _ _) rfl (by kernel_rfl) (fun _ _ _ h => hQ.panic _ _ _ _ _ h) (.inr ⟨by kernel_rfl, rfl⟩) ?_
     refine r_take 7 undef (RB.pre _ _) rfl (by kernel_rfl) (fun _ _ _ h => hQ.panic _ _ _ _ _ h) (.inr ⟨by kernel_rfl, rfl⟩) ?_
     refine r_take 8 undef (RB.pre _ _) rfl (by kernel_rfl) (fun _ _ _ h => hQ.panic _ _ _ _ _ h) (.inr ⟨by kernel_rfl, rfl⟩) ?_
     refine r_take 9 undef (RB.pre _ _) rfl (by kernel_rfl) (fun _ _ _ h => hQ.panic _ _ _ _ _ h) (.inr ⟨by kernel_rfl, rfl⟩) ?_
     refine r_take 10 undef (RB.pre _ _) rfl (by kernel_rfl) (fun _ _ _ h => hQ.panic _ _ _ _ _ h) (.inr ⟨by kernel_rfl, rfl⟩) ?_
     refine r_take 11 undef (RB.pre _ _) rfl (by kernel_rfl) (fun _ _ _ h => hQ.panic _ _ _ _ _ h) (.inr ⟨by kernel_rfl, rfl⟩) ?_
     refine r_take 12 (.bool false) (RB.pre _ _) rfl (by kernel_rfl) (fun _ _ _ h => hQ.panic _ _ _ _ _ h) (.inl ⟨rfl, fun wq hq => (by kernel_rfl)⟩) ?_
     refine r_done (by kernel_rfl) ?_
     refine then_normal (j1 _ _ _ ⟨[(46, (.bool false))], fit_mk (fun _ _ => rfl) (by kernel_rfl) (vs_cons (by kernel_rfl) vs_nil), ?_⟩)
     exact ⟨u9, false, y4, z9, rfl, l0, r2, j2, j3, j4, l1, hp⟩
    ·
     replace hp := hp.2 s4
     refine r_take 1 (.bool false) (RB.pre _ _) rfl (by kernel_rfl) (fun _ _ _ h => hQ.panic _ _ _ _ _ h) (.inl ⟨rfl, fun wq hq => (x_bf (x_load1 (by kernel_rfl) Tryz.isAgg4 ((OB.step q1 (stepR (RB.trans y8 hq) v9 t1) (Ap.symm s0)).2.1.cell' 1 rfl)) s4)⟩) ?_
     refine r_take 2 (.bool true) (RB.pre _ _) rfl (by kernel_rfl) (fun _ _ _ h => hQ.panic _ _ _ _ _ h) (.inl ⟨rfl, fun wq hq => (by kernel_rfl)⟩) ?_
     refine r_take 3 (.bool true) (RB.pre _ _) rfl (by kernel_rfl) (fun _ _ _ h => hQ.panic _ _ _ _ _ h) (.inl ⟨rfl, fun wq hq => (by kernel_rfl)⟩) ?_
     refine r_take 4 (.pointer (some ⟨z3, 0, none⟩)) (RB.pre _ _) rfl (by kernel_rfl) (fun _ _ _ h => hQ.panic _ _ _ _ _ h) (.inl ⟨(by kernel_rfl), fun wq hq => (by kernel_rfl)⟩) ?_
     refine r_take 5 (.string dir) (RB.pre _ _) rfl (by kernel_rfl) (fun _ _ _ h => hQ.panic _ _ _ _ _ h) (.inl ⟨(by kernel_rfl), fun wq hq => (by kernel_rfl)⟩) ?_
     refine r_take 6 (.int .i64 z0) (RB.pre _ _) rfl (by kernel_rfl) (fun _ _ _ h => hQ.panic _ _ _ _ _ h) (.inl ⟨(by kernel_rfl), fun wq hq => (by kernel_rfl)⟩) ?_
     refine r_take 8 (.pointer (some ⟨d5, 0, none⟩)) (RB.pre _ _) rfl (by kernel_rfl) (fun _ _ _ h => hQ.panic _ _ _ _ _ h) (.inl ⟨(by kernel_rfl), fun wq hq => (by kernel_rfl)⟩) ?_
     refine r_take 9 (.string ((lget l z0).Path)) (RB.pre _ _) rfl (by kernel_rfl) (fun _ _ _ h => hQ.panic _ _ _ _ _ h) (.inl ⟨(by kernel_rfl), fun wq hq => (x_load1 (by kernel_rfl) Tryz.isAgg9 ((OB.step q1 (stepR (RB.trans y8 hq) v9 t1) (Ap.symm s0)).2.1.cell' 0 rfl))⟩) ?_
     refine r_ready [7] (by kernel_rfl) rfl (all_cons ⟨_, _, _, _, _, _, rfl, ?_⟩ all_nil)
     refine o_call 54 #[(.string dir), (.int .i64 z0)] (by kernel_rfl) (x_call Tryz.call54 (by kernel_rfl)) (journal_name_w (X := []) (dir := dir) (i := z0) (Old.nil _) q8 j0 hp) ?_
     rintro _ Z0 ⟨l2, hp, q2, rfl, j5⟩
     have rm := RB.mono (F' := z9) q2 (Nat.le_trans (Nat.le_of_eq v9.symm) (RB.size y8)) (fun _ h => by cases h)
     have j6 := RB.trans y8 rm
     refine ⟨fun _ => rm, ?_⟩
     have t2 := Step.of0 u9 q2
     replace hp := hp j5
     refine r_ready [10] (by kernel_rfl) rfl (all_cons ⟨_, _, _, _, _, _, rfl, ?_⟩ all_nil)
     have l3 := Evo.then0 l0 q2
     have r3 := Old.step r2 t2
     have o6 := Sub.trans j2 (Step.up t2)
     have o7 := News.step j3 t2
     have o8 := Sl.step j4 t2
     have q3 := MO.step0 l1 t2
     refine o_call 58 #[(.pointer (some ⟨z3, 0, none⟩)), (.string l2), (.string ((lget l z0).Path))] (by kernel_rfl) (x_call Tryz.call58 (by kernel_rfl)) (simfs_FS_Rename_w (X := u9) (f_ := y4) (from_ := l2) (to_ := (lget l z0).Path) r3 (MO.re q3 (Wr.self _ _ (Sub.refl _))) j5 u3 hp) ?_
     rintro _ Z1 ⟨o9, s5, hp, h7, l4, u1, rfl, q4, c0⟩
     have rm := RB.mono (F' := z9) (Step.evo u1) (Nat.le_trans (Nat.le_of_eq v9.symm) (RB.size j6)) (Wr.self _ _ (Sub.refl _))
     refine ⟨fun _ => rm, ?_⟩
     have p0 : Wr z9 s1.heap.size l4 := Wr.trans q4.wr (Wr.self _ _ (Sub.refl _)) (Nat.le_trans (Nat.le_of_eq v9.symm) (RB.size j6))
     have h8 := MO.re q4 (Wr.trans q4.wr q3.wr l3.size)
     replace hp := hp c0
     refine r_take 11 (.bool (decide (s5 = (13 : Int)))) (RB.pre _ _) rfl (by kernel_rfl) (fun _ _ _ h => hQ.panic _ _ _ _ _ h) (.inl ⟨(by kernel_rfl), fun wq hq => (by kernel_rfl)⟩) ?_
     refine r_take 12 (.bool (decide (s5 = (13 : Int)))) (RB.pre _ _) rfl (by kernel_rfl) (fun _ _ _ h => hQ.panic _ _ _ _ _ h) (.inl ⟨rfl, fun wq hq => (by kernel_rfl)⟩) ?_
     refine r_done (by kernel_rfl) ?_
     have h9 := Evo.thenW l3 (Step.evo u1) q3.wr
     have l5 := Old.step r3 u1
     have c1 := Sub.trans o6 (Step.up u1)
     have c2 := News.step o7 u1
     have c3 := Sl.step o8 u1
     refine then_normal (j1 _ _ _ ⟨[(46, (.bool (decide (s5 = (13 : Int)))))], fit_mk (fun _ _ => rfl) (by kernel_rfl) (vs_cons (by kernel_rfl) vs_nil), ?_⟩)
     exact ⟨h7, (decide (s5 = (13 : Int))), o9, l4, rfl, h9, l5, c1, c2, c3, h8, hp⟩
   ·
    rintro _ v7 Z2 ⟨y5, t0, v8, s2, rfl, l6, l7, j7, j8, c4, l8, c5⟩
    replace hp := o5 t0 v8 c5
    refine then_normal (h3 _ _ _ _ ?_)
    refine cond_b t0 (by kernel_rfl) (fun q5 => ?_) (fun q5 => ?_)
    ·
     replace hp := hp.1 q5
     refine sr (fun _ b0 => pv (.int .i64 (13 : Int)) ?_)
     refine nt b0 (wp_ret (blk_ret (then_ret (then_ret (blk_ret (then_ret ?_))))))
     refine end_ret hQ (.int .i64 (13 : Int)) (by kernel_rfl) ?_
     exact ⟨v8, (13 : Int), hp, y5, s2, step_of l6 g1 j7 j8, rfl, l8, (by decide : inR .i64 (13 : Int))⟩
    ·
     replace hp := hp.2 q5
     refine wp_skip (blk_normal (then_normal (i4 _ _ _ _ (reg_ ?_))))
     obtain ⟨l9, hp⟩ := hp
     refine pw (.int .i64 (z0 + (1 : Int))) (x_add2 (k := .i64) (a := z0) (b := (1 : Int)) (z0 + (1 : Int)) (by kernel_rfl) (by kernel_rfl) (wrap_inR l9)) ?_
     refine pv (.int .i64 (z0 + (1 : Int))) ?_
     refine nil_ (then_normal (n8 _ _ _ ⟨_, [(29, (.int .i64 (z0 + (1 : Int))))], hp.2, fit_mk (AgB.nest (AgB.look (AgB.mix _ _ _) (by kernel_rfl)) (by kernel_rfl) (by kernel_rfl)) (by kernel_rfl) (vs_cons (by kernel_rfl) vs_nil), ?_⟩))
     exact ⟨y5, (z0 + (1 : Int)), v8, s2, rfl, rfl, l6, l7, j7, j8, c4, l8, l9, hp.1⟩
  ·
   replace hp := hp.2 q0
   refine wp_exit ?_
   refine then_exit (then_exit (blk_exit (then_normal (e9 _ _ _ _ (sr (fun _ b1 => pv (.pointer (some ⟨z3, 0, none⟩)) ?_))))))
   refine sq (o_call 55 #[(.pointer (some ⟨z3, 0, none⟩))] rfl (x_call Tryz.call55 (by kernel_rfl)) (simfs_FS_Sync_w (X := y3) (f_ := y4) s9 (MO.re u7 (Wr.self _ _ (Sub.refl _))) hp) ?_)
   rintro _ Z3 ⟨c6, q6, hp, b2, b3, q7, rfl, m0, j9⟩
   have b4 := MO.re m0 (Wr.trans m0.wr u7.wr t9.size)
   replace hp := hp j9
   refine pv (.int .i64 q6) ?_
   refine nt b1 (wp_ret ?_)
   have b5 := Evo.thenW t9 (Step.evo q7) u7.wr
   have c7 := Sub.trans k7 (Step.up q7)
   have c8 := News.step k8 q7
   refine end_ret hQ (.int .i64 q6) (by kernel_rfl) ?_
   exact ⟨c6, q6, hp, b2, b3, step_of b5 g1 c7 c8, rfl, b4, j9⟩
def journal_tidy_p (f_ : S_simfs_FS) (dir : ByteArray) (Q : S_simfs_FS → Int → Prop) : Prop :=
 ((dir.size ≤ maxLen) → (((dir ++ (ByteArray.mk #[47, 110, 111, 116, 101])).size ≤ maxLen) ∧ (simfs_FS_Remove_p f_ (dir ++ (ByteArray.mk #[47, 110, 111, 116, 101])) (fun (y4 : S_simfs_FS) (z8 : Int) => ((inR .i64 z8) → (((z8 = (13 : Int)) → Q y4 (13 : Int)) ∧ ((¬ (z8 = (13 : Int))) → (simfs_FS_Sync_p y4 (fun (z9 : S_simfs_FS) (z6 : Int) => ((inR .i64 z6) → (((¬ (z6 = (0 : Int))) → Q z9 z6) ∧ ((z6 = (0 : Int)) → (journal_own_p z9 dir (fun (y0 : S_simfs_FS) (z1 : (List ByteArray)) (z7 : Int) => ((z1.length ≤ 9223372036854775807) → ((inR .i64 z7) → (((¬ (z7 = (0 : Int))) → Q y0 z7) ∧ ((z7 = (0 : Int)) → (∃ (z4 : Int → S_simfs_FS → Prop) (y1 : Int → S_simfs_FS → Nat), (z4 (0 : Int) y0) ∧ (∀ (z0 : Int) (z2 : S_simfs_FS), (z4 z0 z2) → (inR .i64 z0) → (((z0 < (z1.length : Int)) → ((inL z1 z0) ∧ (((lget z1 z0).size ≤ maxLen) → (simfs_FS_Remove_p z2 (lget z1 z0) (fun (z3 : S_simfs_FS) (z5 : Int) => ((inR .i64 z5) → (((z5 = (13 : Int)) → Q z3 (13 : Int)) ∧ ((¬ (z5 = (13 : Int))) → ((inR .i64 (z0 + (1 : Int))) ∧ ((z4 (z0 + (1 : Int)) z3) ∧ y1 (z0 + (1 : Int)) z3 < y1 z0 z2)))))))))) ∧ ((¬ (z0 < (z1.length : Int))) → (simfs_FS_Sync_p z2 (fun (y3 : S_simfs_FS) (y2 : Int) => ((inR .i64 y2) → Q y3 y2)))))))))))))))))))))))))
set_option maxRecDepth 20000 in
set_option maxHeartbeats 4000000 in
theorem journal_tidy_w {X : List Nat} {w : World} {f_ : S_simfs_FS} {dir : ByteArray} {z1 : Nat} {z3 : List Nat} {Q : S_simfs_FS → Int → Prop} (d6 : Old X w) (y2 : MO o_simfs_FS 62 z3 w.heap.size X w z3 z1 f_) (v9 : dir.size ≤ maxLen) (hp : journal_tidy_p f_ dir Q) :
  Calls Tryz.prog 29 #[(.pointer (some ⟨z1, 0, none⟩)), (.string dir)] w (Ret fun v w' => ∃ (d7 : S_simfs_FS) (j1 : Int), Q d7 j1 ∧ ∃ (X' : List Nat) (d8 : List Nat), Step X w z3 X' w' ∧ v = (.int .i64 j1) ∧ MO o_simfs_FS 62 z3 w.heap.size X' w' d8 z1 d7 ∧ inR .i64 j1) := by
 have hXo := d6
 have E0 : Evo z3 w w := RB.refl _ _ _
 have hS : Sub X X := Sub.refl _
 have hN : News X w X w := News.refl _ _
 have v1 : Sub z3 X := MO.mem y2
 unfold journal_tidy_p at hp
 refine enter_ Tryz.func29 rfl 42 [(0, (.pointer (some ⟨z1, 0, none⟩))), (1, (.string dir))] (by kernel_rfl) (fun Qe hQ => ?_)
 replace hp := hp v9
 refine sr (fun _ n0 => pv (.int .i64 (0 : Int)) ?_)
 refine nt n0 (seq_ (fun _ n1 => sr (fun _ n2 => pv (.pointer (some ⟨z1, 0, none⟩)) ?_)))
 refine pv (.string dir) ?_
 obtain ⟨d9, hp⟩ := hp
 refine pw (.string (dir ++ (ByteArray.mk #[47, 110, 111, 116, 101]))) (x_cat (by kernel_rfl) (by kernel_rfl) d9) ?_
 refine sq (o_call 57 #[(.pointer (some ⟨z1, 0, none⟩)), (.string (dir ++ (ByteArray.mk #[47, 110, 111, 116, 101])))] rfl (x_call Tryz.call57 (by kernel_rfl)) (simfs_FS_Remove_w (X := X) (f_ := f_) (p := dir ++ (ByteArray.mk #[47, 110, 111, 116, 101])) hXo (MO.re y2 (Wr.self _ _ (Sub.refl _))) d9 hp) ?_)
 rintro _ n6 ⟨k1, k2, hp, k3, l0, y3, rfl, k4, j2⟩
 have v2 := MO.re k4 (Wr.trans k4.wr y2.wr E0.size)
 replace hp := hp j2
 refine pv (.bool (decide (k2 = (13 : Int)))) ?_
 refine nt n2 ?_
 refine cond_d (k2 = (13 : Int)) (by kernel_rfl) (fun u7 => ?_) (fun u7 => ?_)
 ·
  replace hp := hp.1 u7
  refine sr (fun _ l1 => pv (.int .i64 (13 : Int)) ?_)
  refine nt l1 (wp_ret (then_ret ?_))
  have l2 := Evo.thenW E0 (Step.evo y3) y2.wr
  have j3 := Sub.trans hS (Step.up y3)
  have j4 := News.step hN y3
  refine end_ret hQ (.int .i64 (13 : Int)) (by kernel_rfl) ?_
  exact ⟨k1, (13 : Int), hp, k3, l0, step_of l2 v1 j3 j4, rfl, v2, (by decide : inR .i64 (13 : Int))⟩
 ·
  replace hp := hp.2 u7
  refine wp_skip (then_normal (n1 _ _ _ _ (seq_ (fun _ l3 => sr (fun _ l4 => pv (.pointer (some ⟨z1, 0, none⟩)) ?_)))))
  have u1 := Old.step hXo y3
  have u9 := Evo.thenW E0 (Step.evo y3) y2.wr
  have t0 := Sub.trans hS (Step.up y3)
  have t1 := News.step hN y3
  refine sq (o_call 55 #[(.pointer (some ⟨z1, 0, none⟩))] rfl (x_call Tryz.call55 (by kernel_rfl)) (simfs_FS_Sync_w (X := k3) (f_ := k1) u1 (MO.re v2 (Wr.self _ _ (Sub.refl _))) hp) ?_)
  rintro _ n7 ⟨t2, y1, hp, k5, l5, y4, rfl, k6, t3⟩
  have v3 := MO.re k6 (Wr.trans k6.wr v2.wr u9.size)
  replace hp := hp t3
  refine pv (.int .i64 y1) ?_
  refine nt l4 (sr (fun _ l6 => pv (.int .i64 y1) ?_))
  refine pv (.bool (!decide (y1 = (0 : Int)))) ?_
  refine nt l6 ?_
  refine cond_nd (y1 = (0 : Int)) (by kernel_rfl) (fun t4 => ?_) (fun t4 => ?_)
  ·
   replace hp := hp.1 t4
   refine sr (fun _ l7 => pv (.int .i64 y1) ?_)
   refine pv (.int .i64 y1) ?_
   refine nt l7 (wp_ret (then_ret ?_))
   have l8 := Evo.thenW u9 (Step.evo y4) v2.wr
   have j5 := Sub.trans t0 (Step.up y4)
   have j6 := News.step t1 y4
   refine end_ret hQ (.int .i64 y1) (by kernel_rfl) ?_
   exact ⟨t2, y1, hp, k5, l5, step_of l8 v1 j5 j6, rfl, v3, t3⟩
  ·
   replace hp := hp.2 t4
   refine wp_skip (then_normal (l3 _ _ _ _ (sr (fun _ l9 => pv (.pointer (some ⟨z1, 0, none⟩)) ?_))))
   refine pv (.string dir) ?_
   have u2 := Old.step u1 y4
   have t5 := Evo.thenW u9 (Step.evo y4) v2.wr
   have t6 := Sub.trans t0 (Step.up y4)
   have t7 := News.step t1 y4
   refine sq (o_call 40 #[(.pointer (some ⟨z1, 0, none⟩)), (.string dir)] rfl (x_call Tryz.call40 (by kernel_rfl)) (journal_own_w (X := k5) (f_ := t2) (dir := dir) u2 (MO.re v3 (Wr.self _ _ (Sub.refl _))) v9 hp) ?_)
   rintro _ n8 ⟨v4, z2, z6, hp, k7, k8, y5, z9, y6, rfl, k9, t8, t9⟩
   have j0 := MO.re k9 (Wr.trans k9.wr v3.wr t5.size)
   replace hp := hp (Sl.len t8) t9
   refine pv (.tuple #[(.slice y5 z2.length z9), (.int .i64 z6)]) ?_
   refine pv (.slice y5 z2.length z9) ?_
   refine pv (.int .i64 z6) ?_
   refine pv (.slice y5 z2.length z9) ?_
   refine pv (.int .i64 z6) ?_
   refine nt l9 (seq_ (fun _ m0 => sr (fun _ m1 => pv (.int .i64 z6) ?_)))
   refine pv (.bool (!decide (z6 = (0 : Int)))) ?_
   refine nt m1 ?_
   refine cond_nd (z6 = (0 : Int)) (by kernel_rfl) (fun s0 => ?_) (fun s0 => ?_)
   ·
    replace hp := hp.1 s0
    refine sr (fun _ m2 => pv (.int .i64 z6) ?_)
    refine pv (.int .i64 z6) ?_
    refine nt m2 (wp_ret (then_ret ?_))
    have m3 := Evo.thenW t5 (Step.evo y6) v3.wr
    have j7 := Sub.trans t6 (Step.up y6)
    have j8 := News.step t7 y6
    refine end_ret hQ (.int .i64 z6) (by kernel_rfl) ?_
    exact ⟨v4, z6, hp, k7, k8, step_of m3 v1 j7 j8, rfl, j0, t9⟩
   ·
    replace hp := hp.2 s0
    refine wp_skip (then_normal (m0 _ _ _ _ (seq_ (fun _ m4 => sr (fun _ m5 => pv (.slice y5 z2.length z9) ?_)))))
    refine pv (.int .i64 (z2.length : Int)) ?_
    refine pv (.int .i64 (0 : Int)) ?_
    refine nt m5 (wp_block ?_)
    have s1 := Old.step u2 y6
    have j9 := Evo.thenW t5 (Step.evo y6) v3.wr
    have r3 := Sub.trans t6 (Step.up y6)
    have r4 := News.step t7 y6
    obtain ⟨g0, s2, r5, hp⟩ := hp
    refine loop_ 1097364144656 (fun kq lq y0 => ∃ (z4 : List Nat) (z0 : Int) (z7 : S_simfs_FS) (s3 : List Nat), (lq = [(31, (.int .i64 z0))]) ∧ (kq = s2 z0 z7) ∧ (Evo z3 w y0) ∧ (Old z4 y0) ∧ (Sub X z4) ∧ (News X w z4 y0) ∧ (Sl rStr z4 y0 y5 z9 z2) ∧ (MO o_simfs_FS 62 z3 w.heap.size z4 y0 s3 z1 z7) ∧ (inR .i64 z0) ∧ (g0 z0 z7)) (s2 (0 : Int) v4) [(31, (.int .i64 (0 : Int)))] (vs_cons (by kernel_rfl) vs_nil) ⟨k7, (0 : Int), v4, k8, rfl, rfl, j9, s1, r3, r4, t8, j0, (by decide : inR .i64 (0 : Int)), r5⟩ ?_
    rintro _ _ y0 n3 ⟨z4, z0, z7, s3, rfl, rfl, y7, y8, y9, v0, u3, z8, r6, r7⟩ m6 r8
    replace hp := hp z0 z7 r7 r6
    refine sr (fun _ g1 => pv (.bool (decide (z0 < (z2.length : Int)))) ?_)
    refine nt g1 (seq_ (fun _ g2 => ?_))
    refine cond_d (z0 < (z2.length : Int)) (by kernel_rfl) (fun v5 => ?_) (fun v5 => ?_)
    ·
     replace hp := hp.1 v5
     refine wp_skip (then_normal (g2 _ _ _ _ (seq_ (fun _ g3 => wp_block (sr (fun _ g4 => ?_))))))
     obtain ⟨s4, hp⟩ := hp
     obtain ⟨g5, g6, m7, r9, m8, m9, q0, q1⟩ := Sl.atI u3 z0 s4
     obtain ⟨rfl, u4⟩ := q0
     replace hp := hp u4
     refine pw (.pointer (some ⟨g5, g6 + z0.toNat * 1, none⟩)) (x_ixA (m := z2.length) (c := z9) (k := .i64) (i := z0) Tryz.underlying65 Tryz.sizeOf9 (by rw [← r9]; kernel_rfl) (by kernel_rfl) s4) ?_
     refine pw (.string (lget z2 z0)) (x_load1 (by kernel_rfl) Tryz.isAgg9 (q1 0 _ rfl)) ?_
     refine pv (.string (lget z2 z0)) ?_
     refine nt g4 (sr (fun _ g7 => pv (.pointer (some ⟨z1, 0, none⟩)) ?_))
     refine pv (.string (lget z2 z0)) ?_
     refine sq (o_call 57 #[(.pointer (some ⟨z1, 0, none⟩)), (.string (lget z2 z0))] rfl (x_call Tryz.call57 (by kernel_rfl)) (simfs_FS_Remove_w (X := z4) (f_ := z7) (p := lget z2 z0) y8 (MO.re z8 (Wr.self _ _ (Sub.refl _))) u4 hp) ?_)
     rintro _ n4 ⟨u5, s5, hp, s6, s7, z5, rfl, s8, q2⟩
     have s9 := MO.re s8 (Wr.trans s8.wr z8.wr y7.size)
     replace hp := hp q2
     refine pv (.bool (decide (s5 = (13 : Int)))) ?_
     refine nt g7 ?_
     refine cond_d (s5 = (13 : Int)) (by kernel_rfl) (fun v6 => ?_) (fun v6 => ?_)
     ·
      replace hp := hp.1 v6
      refine sr (fun _ g8 => pv (.int .i64 (13 : Int)) ?_)
      refine nt g8 (wp_ret (blk_ret (then_ret (then_ret (blk_ret (then_ret ?_))))))
      have g9 := Evo.thenW y7 (Step.evo z5) z8.wr
      have q3 := Sub.trans y9 (Step.up z5)
      have q4 := News.step v0 z5
      refine end_ret hQ (.int .i64 (13 : Int)) (by kernel_rfl) ?_
      exact ⟨u5, (13 : Int), hp, s6, s7, step_of g9 v1 q3 q4, rfl, s9, (by decide : inR .i64 (13 : Int))⟩
     ·
      replace hp := hp.2 v6
      refine wp_skip (blk_normal (then_normal (g3 _ _ _ _ (reg_ ?_))))
      obtain ⟨r0, hp⟩ := hp
      refine pw (.int .i64 (z0 + (1 : Int))) (x_add2 (k := .i64) (a := z0) (b := (1 : Int)) (z0 + (1 : Int)) (by kernel_rfl) (by kernel_rfl) (wrap_inR r0)) ?_
      refine pv (.int .i64 (z0 + (1 : Int))) ?_
      refine nil_ ?_
      have d0 := Evo.thenW y7 (Step.evo z5) z8.wr
      have r1 := Old.step y8 z5
      have q5 := Sub.trans y9 (Step.up z5)
      have q6 := News.step v0 z5
      have q7 := Sl.step u3 z5
      refine then_normal (r8 _ _ _ ⟨_, [(31, (.int .i64 (z0 + (1 : Int))))], hp.2, fit_mk (AgB.mix _ _ _) (by kernel_rfl) (vs_cons (by kernel_rfl) vs_nil), ?_⟩)
      exact ⟨s6, (z0 + (1 : Int)), u5, s7, rfl, rfl, d0, r1, q5, q6, q7, s9, r0, hp.1⟩
    ·
     replace hp := hp.2 v5
     refine wp_exit ?_
     refine then_exit (then_exit (blk_exit (then_normal (m4 _ _ _ _ (sr (fun _ d1 => pv (.pointer (some ⟨z1, 0, none⟩)) ?_))))))
     refine sq (o_call 55 #[(.pointer (some ⟨z1, 0, none⟩))] rfl (x_call Tryz.call55 (by kernel_rfl)) (simfs_FS_Sync_w (X := z4) (f_ := z7) y8 (MO.re z8 (Wr.self _ _ (Sub.refl _))) hp) ?_)
     rintro _ n5 ⟨q8, v7, hp, d2, d3, v8, rfl, r2, u6⟩
     have d4 := MO.re r2 (Wr.trans r2.wr z8.wr y7.size)
     replace hp := hp u6
     refine pv (.int .i64 v7) ?_
     refine nt d1 (wp_ret ?_)
     have d5 := Evo.thenW y7 (Step.evo v8) z8.wr
     have q9 := Sub.trans y9 (Step.up v8)
     have k0 := News.step v0 v8
     refine end_ret hQ (.int .i64 v7) (by kernel_rfl) ?_
     exact ⟨q8, v7, hp, d2, d3, step_of d5 v1 q9 k0, rfl, d4, u6⟩
end Go.Proofs.YtlkfoebophjhfaaGreatDoor
