/- Walks of functions: what each asks and computes, as a plain predicate, and the contract from it. -/
import Derived.Test.YtlkfoebophjhfaaGreatDoorChecked
import Derived.Test.YtlkfoebophjhfaaGreatDoorPk
import Derived.Test.YtlkfoebophjhfaaGreatDoorJa10
namespace Go.Proofs.YtlkfoebophjhfaaGreatDoor
open Go
def simfs_FS_Off_p (f_ : S_simfs_FS) (Q : S_simfs_FS → Bool → Prop) : Prop :=
 ((f_.pending.length ≤ 9223372036854775807) → ((inR .i64 f_.quota) → ((inR .i64 f_.now) → ((inR .i64 f_.inodes) → ((inR .i64 f_.ops_) → ((inR .i64 f_.left) → ((f_.keep.length ≤ 9223372036854775807) → Q f_ f_.off)))))))
set_option maxRecDepth 20000 in
set_option maxHeartbeats 4000000 in
theorem simfs_FS_Off_w {X : List Nat} {w : World} {f_ : S_simfs_FS} {z0 : Nat} {z2 : List Nat} {Q : S_simfs_FS → Bool → Prop} (y7 : Old X w) (y0 : MO o_simfs_FS 62 z2 w.heap.size X w z2 z0 f_) (hp : simfs_FS_Off_p f_ Q) :
  Calls Tryz.prog 20 #[(.pointer (some ⟨z0, 0, none⟩))] w (Ret fun v w' => ∃ (y8 : S_simfs_FS) (y9 : Bool), Q y8 y9 ∧ ∃ (X' : List Nat) (v0 : List Nat), Step X w z2 X' w' ∧ v = (.bool y9) ∧ MO o_simfs_FS 62 z2 w.heap.size X' w' v0 z0 y8) := by
 have hXo := y7
 have E0 : Evo z2 w w := RB.refl _ _ _
 have hS : Sub X X := Sub.refl _
 have hN : News X w X w := News.refl _ _
 have v1 : Sub z2 X := MO.mem y0
 unfold simfs_FS_Off_p at hp
 refine enter_ Tryz.func20 rfl 7 [(0, (.pointer (some ⟨z0, 0, none⟩)))] (by kernel_rfl) (fun Qe hQ => ?_)
 refine sr (fun _ u1 => pv (.bool false) ?_)
 refine nt u1 (sr (fun _ u2 => pv (.pointer (some ⟨z0, 0, none⟩)) ?_))
 refine pv (.pointer (some ⟨z0, 0, none⟩)) ?_
 obtain ⟨y6, y3, u3, u4, u5, y4, y5, y2, z9, z8, y1, z3, z7, z1, z4, z5, z6, u6, u7, u9, t0, v2, v3, v4, v5, v6, v7⟩ := o_simfs_FS_open y0
 replace hp := hp (OS.len y1) z3 z7 z1 z4 z5 (Sl.len z6)
 refine pv (.pointer (some ⟨z0, 7, none⟩)) ?_
 refine pw (.bool f_.off) (x_load1 (by kernel_rfl) Tryz.isAgg4 (y2.2.1.cell' 7 rfl)) ?_
 refine pv (.bool f_.off) ?_
 refine nt u2 (wp_ret ?_)
 obtain ⟨v8, v9, t1⟩ := MO.pack (o_simfs_FS_mk y2 z9 z8 y1 z3 z7 z1 z4 z5 z6 rfl v2 v3 v4 v5 v6 v7)
 refine end_ret hQ (.bool f_.off) (by kernel_rfl) ?_
 exact ⟨f_, f_.off, hp, X, v8, step_of E0 v1 hS hN, rfl, v9⟩
def simfs_FS_Ops_p (f_ : S_simfs_FS) (Q : S_simfs_FS → Int → Prop) : Prop :=
 ((f_.pending.length ≤ 9223372036854775807) → ((inR .i64 f_.quota) → ((inR .i64 f_.now) → ((inR .i64 f_.inodes) → ((inR .i64 f_.ops_) → ((inR .i64 f_.left) → ((f_.keep.length ≤ 9223372036854775807) → Q f_ f_.ops_)))))))
set_option maxRecDepth 20000 in
set_option maxHeartbeats 4000000 in
theorem simfs_FS_Ops_w {X : List Nat} {w : World} {f_ : S_simfs_FS} {z0 : Nat} {z3 : List Nat} {Q : S_simfs_FS → Int → Prop} (y8 : Old X w) (y0 : MO o_simfs_FS 62 z3 w.heap.size X w z3 z0 f_) (hp : simfs_FS_Ops_p f_ Q) :
  Calls Tryz.prog 21 #[(.pointer (some ⟨z0, 0, none⟩))] w (Ret fun v w' => ∃ (y9 : S_simfs_FS) (y3 : Int), Q y9 y3 ∧ ∃ (X' : List Nat) (v0 : List Nat), Step X w z3 X' w' ∧ v = (.int .i64 y3) ∧ MO o_simfs_FS 62 z3 w.heap.size X' w' v0 z0 y9 ∧ inR .i64 y3) := by
 have hXo := y8
 have E0 : Evo z3 w w := RB.refl _ _ _
 have hS : Sub X X := Sub.refl _
 have hN : News X w X w := News.refl _ _
 have v1 : Sub z3 X := MO.mem y0
 unfold simfs_FS_Ops_p at hp
 refine enter_ Tryz.func21 rfl 7 [(0, (.pointer (some ⟨z0, 0, none⟩)))] (by kernel_rfl) (fun Qe hQ => ?_)
 refine sr (fun _ u1 => pv (.int .i64 (0 : Int)) ?_)
 refine nt u1 (sr (fun _ u2 => pv (.pointer (some ⟨z0, 0, none⟩)) ?_))
 refine pv (.pointer (some ⟨z0, 0, none⟩)) ?_
 obtain ⟨y7, y4, u3, u4, u5, y5, y6, y2, z9, z8, y1, z4, z7, z2, z1, z5, z6, u6, u7, u9, t0, v2, v3, v4, v5, v6, v7⟩ := o_simfs_FS_open y0
 replace hp := hp (OS.len y1) z4 z7 z2 z1 z5 (Sl.len z6)
 refine pv (.pointer (some ⟨z0, 6, none⟩)) ?_
 refine pw (.int .i64 f_.ops_) (x_load1 (by kernel_rfl) Tryz.isAgg3 (y2.2.1.cell' 6 rfl)) ?_
 refine pv (.int .i64 f_.ops_) ?_
 refine nt u2 (wp_ret ?_)
 obtain ⟨v8, v9, t1⟩ := MO.pack (o_simfs_FS_mk y2 z9 z8 y1 z4 z7 z2 z1 z5 z6 rfl v2 v3 v4 v5 v6 v7)
 refine end_ret hQ (.int .i64 f_.ops_) (by kernel_rfl) ?_
 exact ⟨f_, f_.ops_, hp, X, v8, step_of E0 v1 hS hN, rfl, v9, z1⟩
end Go.Proofs.YtlkfoebophjhfaaGreatDoor
