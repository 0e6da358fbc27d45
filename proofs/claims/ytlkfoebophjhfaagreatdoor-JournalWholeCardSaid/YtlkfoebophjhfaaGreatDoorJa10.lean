/- Walks of functions: what each asks and computes, as a plain predicate, and the contract from it. -/
import Derived.Test.YtlkfoebophjhfaaGreatDoorChecked
import Derived.Test.YtlkfoebophjhfaaGreatDoorJa7
namespace Go.Proofs.YtlkfoebophjhfaaGreatDoor
open Go
def simfs_FS_Arm_p (f_ : S_simfs_FS) (n_ : Int) (keep : (List Bool)) (Q : S_simfs_FS → Prop) : Prop :=
 ((inR .i64 n_) → ((keep.length ≤ 9223372036854775807) → (slices_Clone_bool_bool_p keep (fun (z0 : (List Bool)) => ((z0.length ≤ 9223372036854775807) → ((f_.pending.length ≤ 9223372036854775807) → ((inR .i64 f_.quota) → ((inR .i64 f_.now) → ((inR .i64 f_.inodes) → ((inR .i64 f_.ops_) → ((inR .i64 f_.left) → ((f_.keep.length ≤ 9223372036854775807) → Q (S_simfs_FS.mk f_.kept f_.files f_.pending f_.quota f_.now f_.inodes f_.ops_ f_.off true (max n_ (1 : Int)) z0)))))))))))))
set_option maxRecDepth 20000 in
set_option maxHeartbeats 4000000 in
theorem simfs_FS_Arm_w {X : List Nat} {w : World} {f_ : S_simfs_FS} {n_ : Int} {keep : (List Bool)} {z0 : Nat} {z6 : List Nat} {z1 : Option Addr} {z2 : Nat} {Q : S_simfs_FS → Prop} (t6 : Old X w) (v3 : MO o_simfs_FS 62 z6 w.heap.size X w z6 z0 f_) (t2 : inR .i64 n_) (y8 : Sl rBool X w z1 z2 keep) (hp : simfs_FS_Arm_p f_ n_ keep Q) :
  Calls Tryz.prog 15 #[(.pointer (some ⟨z0, 0, none⟩)), (.int .i64 n_), (.slice z1 keep.length z2)] w (Ret fun v w' => ∃ (r8 : S_simfs_FS), Q r8 ∧ ∃ (X' : List Nat) (r9 : List Nat), Step X w z6 X' w' ∧ v = .tuple #[] ∧ MO o_simfs_FS 62 z6 w.heap.size X' w' r9 z0 r8) := by
 have hXo := t6
 have E0 : Evo z6 w w := RB.refl _ _ _
 have hS : Sub X X := Sub.refl _
 have hN : News X w X w := News.refl _ _
 have q0 : Sub z6 X := MO.mem v3
 unfold simfs_FS_Arm_p at hp
 refine enter_ Tryz.func15 rfl 19 [(0, (.pointer (some ⟨z0, 0, none⟩))), (1, (.int .i64 n_)), (2, (.slice z1 keep.length z2))] (by kernel_rfl) (fun Qe hQ => ?_)
 replace hp := hp t2
 replace hp := hp (Sl.len y8)
 refine reg_ ?_
 refine sq (o_pv (.pointer (some ⟨z0, 0, none⟩)) rfl (by kernel_rfl) ?_)
 refine sq (o_pv (.pointer (some ⟨z0, 0, none⟩)) rfl (by kernel_rfl) ?_)
 refine sq (o_pv (.pointer (some ⟨z0, 0, none⟩)) rfl (by kernel_rfl) ?_)
 refine sq (o_pv (.int .i64 n_) rfl (by kernel_rfl) ?_)
 refine sq (o_pv (.int .i64 (max n_ (1 : Int))) rfl (x_max (k := .i64) (a := n_) (b := (1 : Int)) (max n_ (1 : Int)) (by kernel_rfl) (by kernel_rfl) rfl) ?_)
 refine sq (o_pv (.slice z1 keep.length z2) rfl (by kernel_rfl) ?_)
 refine sq (o_call 34 #[(.slice z1 keep.length z2)] rfl (x_call Tryz.call34 (by kernel_rfl)) (slices_Clone_bool_bool_w (X := X) (s := keep) hXo (Sl.sq y8) hp) ?_)
 rintro _ j7 ⟨s5, hp, q1, t7, t8, rfl, q2⟩
 obtain ⟨j3, u4, t9, q3⟩ := OS.own_in q2 q1 E0.size
 have u5 := q3 _ (MO.old v3)
 replace hp := hp (OS.len t9)
 refine sq (o_pv (.pointer (some ⟨z0, 0, none⟩)) rfl (by kernel_rfl) ?_)
 have t5 := (MO.step0 v3 u4)
 obtain ⟨z4, z3, v4, v5, v6, z9, y0, s0, v7, y9, t3, z7, y7, z5, y1, v8, v9, s6, s7, s8, s9, u6, u7, u9, q4, q5, q6⟩ := o_simfs_FS_open t5
 have t0 := Ap.subr (Ap.symm u5) s6
 have q7 := Ap.subr (Ap.symm u5) s7
 have q8 := Ap.subr (Ap.symm u5) s8
 have q9 := Ap.subr (Ap.symm u5) s9
 replace hp := hp (OS.len t3)
 replace hp := hp z7
 replace hp := hp y7
 replace hp := hp z5
 replace hp := hp y1
 replace hp := hp v8
 replace hp := hp (Sl.len v9)
 refine sq (o_pv (.pointer (some ⟨z0, 8, none⟩)) rfl (by kernel_rfl) ?_)
 have k0 := (Evo.then0 E0 (Step.evo u4))
 refine sq (o_stB (o := 8) (v := (.bool true)) [(.map (some z4)), (.map (some z3)), (.slice v4 v5 v6), (.int .i64 f_.quota), (.int .i64 f_.now), (.int .i64 f_.inodes), (.int .i64 f_.ops_), (.bool f_.off), (.bool true), (.int .i64 f_.left), (.slice z9 f_.keep.length y0)] rfl s0 (by kernel_rfl) (by kernel_rfl) Tryz.sizeOf4 rfl rfl rfl ?_)
 intro j4 y2 s1
 refine sq (o_pv (.pointer (some ⟨z0, 0, none⟩)) rfl (by kernel_rfl) ?_)
 refine sq (o_pv (.pointer (some ⟨z0, 9, none⟩)) rfl (by kernel_rfl) ?_)
 have k1 := (OS.step t9 y2 t0)
 have u1 := (OM.step v7 y2 (Ap.symm u6))
 have v0 := (OM.step y9 y2 (Ap.symm u7))
 have r0 := (OS.step t3 y2 (Ap.symm u9))
 have k2 := (Evo.thenW k0 (Step.evo y2) s0.2.2)
 refine sq (o_stB (o := 9) (v := (.int .i64 (max n_ (1 : Int)))) [(.map (some z4)), (.map (some z3)), (.slice v4 v5 v6), (.int .i64 f_.quota), (.int .i64 f_.now), (.int .i64 f_.inodes), (.int .i64 f_.ops_), (.bool f_.off), (.bool true), (.int .i64 (max n_ (1 : Int))), (.slice z9 f_.keep.length y0)] rfl s1 (by kernel_rfl) (by kernel_rfl) Tryz.sizeOf3 rfl rfl rfl ?_)
 intro j5 y3 s2
 refine sq (o_pv (.pointer (some ⟨z0, 0, none⟩)) rfl (by kernel_rfl) ?_)
 refine sq (o_pv (.pointer (some ⟨z0, 10, none⟩)) rfl (by kernel_rfl) ?_)
 have k3 := (OS.step k1 y3 t0)
 have u2 := (OM.step u1 y3 (Ap.symm u6))
 have v1 := (OM.step v0 y3 (Ap.symm u7))
 have r1 := (OS.step r0 y3 (Ap.symm u9))
 have k4 := (Evo.thenW k2 (Step.evo y3) s1.2.2)
 refine sq (o_stB (o := 10) (v := (.slice t7 s5.length t8)) [(.map (some z4)), (.map (some z3)), (.slice v4 v5 v6), (.int .i64 f_.quota), (.int .i64 f_.now), (.int .i64 f_.inodes), (.int .i64 f_.ops_), (.bool f_.off), (.bool true), (.int .i64 (max n_ (1 : Int))), (.slice t7 s5.length t8)] rfl s2 (by kernel_rfl) (by kernel_rfl) Tryz.sizeOf43 rfl rfl rfl ?_)
 intro j6 y4 s3
 refine nil_ ?_
 have s4 := (OS.step k3 y4 t0)
 have r2 := (Sub.trans (Sub.trans (Sub.trans (Sub.trans hS (Step.up u4)) (Step.up y2)) (Step.up y3)) (Step.up y4))
 have k5 := (Evo.thenW k4 (Step.evo y4) s2.2.2)
 have r3 := (News.step (News.step (News.step (News.step hN u4) y2) y3) y4)
 have y5 := (OM.step u2 y4 (Ap.symm u6))
 have z8 := (OM.step v1 y4 (Ap.symm u7))
 have t4 := (OS.step r1 y4 (Ap.symm u9))
 have r4 := OS.apold s4 t6
 obtain ⟨k6, t1, k7, y6⟩ := OS.release s4
 have k8 := k5
 have r5 := (y6 _ r4 r2)
 have r6 := (News.less r3 t1)
 have k9 := (OB.less s3 (y6 _ (Ap.symm t0) (OB.mem s3)))
 have u3 := (OM.less y5 t1 (y6 _ (Ap.symm q7) (OM.mem y5)))
 have v2 := (OM.less z8 t1 (y6 _ (Ap.symm q8) (OM.mem z8)))
 have r7 := (OS.less t4 t1 (y6 _ (Ap.symm q9) (OS.mem t4)))
 obtain ⟨j0, j1, j2⟩ := MO.pack (o_simfs_FS_mk k9 u3 v2 r7 z7 y7 z5 y1 (inR_max t2 (by decide : inR .i64 (1 : Int))) k7 rfl u6 u7 u9 q4 q5 q6)
 refine end_normal hQ (.tuple #[]) (by kernel_rfl) ?_
 exact ⟨(S_simfs_FS.mk f_.kept f_.files f_.pending f_.quota f_.now f_.inodes f_.ops_ f_.off true (max n_ (1 : Int)) s5), hp, k6, j0, step_of k8 q0 r5 r6, rfl, j1⟩
def simfs_FS_On_p (f_ : S_simfs_FS) (Q : S_simfs_FS → Prop) : Prop :=
 ((f_.pending.length ≤ 9223372036854775807) → ((inR .i64 f_.quota) → ((inR .i64 f_.now) → ((inR .i64 f_.inodes) → ((inR .i64 f_.ops_) → ((inR .i64 f_.left) → ((f_.keep.length ≤ 9223372036854775807) → Q (S_simfs_FS.mk f_.kept f_.files f_.pending f_.quota f_.now f_.inodes f_.ops_ false f_.armed f_.left f_.keep))))))))
set_option maxRecDepth 20000 in
set_option maxHeartbeats 4000000 in
theorem simfs_FS_On_w {X : List Nat} {w : World} {f_ : S_simfs_FS} {z0 : Nat} {z2 : List Nat} {Q : S_simfs_FS → Prop} (v8 : Old X w) (y8 : MO o_simfs_FS 62 z2 w.heap.size X w z2 z0 f_) (hp : simfs_FS_On_p f_ Q) :
  Calls Tryz.prog 17 #[(.pointer (some ⟨z0, 0, none⟩))] w (Ret fun v w' => ∃ (v9 : S_simfs_FS), Q v9 ∧ ∃ (X' : List Nat) (u1 : List Nat), Step X w z2 X' w' ∧ v = .tuple #[] ∧ MO o_simfs_FS 62 z2 w.heap.size X' w' u1 z0 v9) := by
 have hXo := v8
 have E0 : Evo z2 w w := RB.refl _ _ _
 have hS : Sub X X := Sub.refl _
 have hN : News X w X w := News.refl _ _
 have u2 : Sub z2 X := MO.mem y8
 unfold simfs_FS_On_p at hp
 refine enter_ Tryz.func17 rfl 5 [(0, (.pointer (some ⟨z0, 0, none⟩)))] (by kernel_rfl) (fun Qe hQ => ?_)
 refine reg_ ?_
 refine sq (o_pv (.pointer (some ⟨z0, 0, none⟩)) rfl (by kernel_rfl) ?_)
 refine sq (o_pv (.pointer (some ⟨z0, 0, none⟩)) rfl (by kernel_rfl) ?_)
 obtain ⟨y6, y0, u3, u4, v4, y1, y2, v0, y7, y3, y9, z3, z8, z1, z4, z5, z6, t3, t4, t5, t6, v1, v2, v3, u5, u6, u7⟩ := o_simfs_FS_open y8
 replace hp := hp (OS.len y9)
 replace hp := hp z3
 replace hp := hp z8
 replace hp := hp z1
 replace hp := hp z4
 replace hp := hp z5
 replace hp := hp (Sl.len z6)
 refine sq (o_pv (.pointer (some ⟨z0, 7, none⟩)) rfl (by kernel_rfl) ?_)
 refine sq (o_stB (o := 7) (v := (.bool false)) [(.map (some y6)), (.map (some y0)), (.slice u3 u4 v4), (.int .i64 f_.quota), (.int .i64 f_.now), (.int .i64 f_.inodes), (.int .i64 f_.ops_), (.bool false), (.bool f_.armed), (.int .i64 f_.left), (.slice y1 f_.keep.length y2)] rfl v0 (by kernel_rfl) (by kernel_rfl) Tryz.sizeOf4 rfl rfl rfl ?_)
 intro t8 z7 u9
 refine nil_ ?_
 have t0 := (Evo.thenW E0 (Step.evo z7) v0.2.2)
 have v5 := (Sub.trans hS (Step.up z7))
 have v6 := (News.step hN z7)
 have y4 := (OM.step y7 z7 (Ap.symm v1))
 have z9 := (OM.step y3 z7 (Ap.symm v2))
 have v7 := (OS.step y9 z7 (Ap.symm v3))
 have y5 := (Sl.step z6 z7)
 obtain ⟨t1, t2, t7⟩ := MO.pack (o_simfs_FS_mk u9 y4 z9 v7 z3 z8 z1 z4 z5 y5 rfl v1 v2 v3 u5 u6 u7)
 refine end_normal hQ (.tuple #[]) (by kernel_rfl) ?_
 exact ⟨(S_simfs_FS.mk f_.kept f_.files f_.pending f_.quota f_.now f_.inodes f_.ops_ false f_.armed f_.left f_.keep), hp, X, t1, step_of t0 u2 v5 v6, rfl, t2⟩
end Go.Proofs.YtlkfoebophjhfaaGreatDoor
