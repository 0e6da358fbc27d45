/- Walks of functions: what each asks and computes, as a plain predicate, and the contract from it. -/
import Derived.Test.YtaolmfepdmgohaaGreatDoorChecked
import Derived.Test.YtaolmfepdmgohaaGreatDoorFp6
namespace Go.Proofs.YtaolmfepdmgohaaGreatDoor
open Go
theorem elT28 : ElemT Tryz.prog 28 93 8 96 := elemT_mk (i := Tryz.t93) (z := (.agg #[(.int .i64 0), (.string (ByteArray.mk #[])), (.string (ByteArray.mk #[])), (.int .i64 0), (.int .i64 0), (.int .i64 0), (.string (ByteArray.mk #[])), (.string (ByteArray.mk #[]))])) (by kernel_rfl) (by kernel_rfl) (by kernel_rfl) (by kernel_rfl) Tryz.underlying28 Tryz.sizeOf93 (by decide) (by decide)
def rectolaw5_Disk_power_p (d : S_rectolaw5_Disk) (keep : (List Bool)) (Q : S_rectolaw5_Disk → Prop) : Prop :=
 ((keep.length ≤ 9223372036854775807) → ((d.kept.length ≤ 9223372036854775807) → ((d.now.length ≤ 9223372036854775807) → ((d.wait.length ≤ 9223372036854775807) → ((inR .i64 d.quota) → ((inR .i64 d.time) → ((inR .i64 d.inode) → ((inR .i64 d.left) → ((d.keep.length ≤ 9223372036854775807) → ((inR .i64 d.ops_) → (∃ (z3 : (List S_rectolaw5_one) → Int → Prop) (z7 : (List S_rectolaw5_one) → Int → Nat), (z3 d.kept (0 : Int)) ∧ (∀ (z1 : (List S_rectolaw5_one)) (z0 : Int), (z3 z1 z0) → (z1.length ≤ 9223372036854775807) → (inR .i64 z0) → (((z0 < (d.wait.length : Int)) → (∃ z4 : (List S_rectolaw5_one) → Prop, (∀ (z2 : (List S_rectolaw5_one)), z4 z2 → (z2.length ≤ 9223372036854775807) → ((inR .i64 (z0 + (1 : Int))) ∧ ((z3 z2 (z0 + (1 : Int))) ∧ z7 z2 (z0 + (1 : Int)) < z7 z1 z0))) ∧ (∃ z5 : Bool → Prop, (∀ (z6 : Bool), z5 z6 → (((z6 = true) → ((inL d.wait z0) ∧ ((inR .i64 ((lget d.wait z0).kind)) → (((((lget d.wait z0).f).path).size ≤ maxLen) → (((((lget d.wait z0).f).data).size ≤ maxLen) → ((inR .i64 (((lget d.wait z0).f).mode)) → ((inR .i64 (((lget d.wait z0).f).time)) → ((inR .i64 (((lget d.wait z0).f).inode)) → ((((lget d.wait z0).from_).size ≤ maxLen) → ((((lget d.wait z0).to_).size ≤ maxLen) → (rectolaw5_laid_p z1 (S_rectolaw5_op.mk ((lget d.wait z0).kind) ((lget d.wait z0).f) ((lget d.wait z0).from_) ((lget d.wait z0).to_)) (fun (z8 : (List S_rectolaw5_one)) => ((z8.length ≤ 9223372036854775807) → (z4 z8)))))))))))))) ∧ ((z6 = false) → (z4 z1)))) ∧ (((z0 < (keep.length : Int)) → ((inL keep z0) ∧ (z5 (lget keep z0)))) ∧ ((¬ (z0 < (keep.length : Int))) → (z5 false)))))) ∧ ((¬ (z0 < (d.wait.length : Int))) → Q (S_rectolaw5_Disk.mk z1 z1 ([] : List S_rectolaw5_op) d.quota d.time d.inode true false d.left d.keep d.ops_)))))))))))))))
set_option maxRecDepth 20000 in
set_option maxHeartbeats 4000000 in
theorem rectolaw5_Disk_power_w {X : List Nat} {w : World} {d : S_rectolaw5_Disk} {keep : (List Bool)} {z2 : Nat} {v2 : List Nat} {y6 : Option Addr} {y2 : Nat} {Q : S_rectolaw5_Disk → Prop} (o7 : Old X w) (l6 : MO o_rectolaw5_Disk 31 v2 w.heap.size X w v2 z2 d) (r8 : Sl rBool X w y6 y2 keep) (hp : rectolaw5_Disk_power_p d keep Q) :
  Calls Tryz.prog 49 #[(.pointer (some ⟨z2, 0, none⟩)), (.slice y6 keep.length y2)] w (Ret fun v w' => ∃ (o8 : S_rectolaw5_Disk), Q o8 ∧ ∃ (X' : List Nat) (o9 : List Nat), Step X w v2 X' w' ∧ v = .tuple #[] ∧ MO o_rectolaw5_Disk 31 v2 w.heap.size X' w' o9 z2 o8) := by
 have hXo := o7
 have E0 : Evo v2 w w := RB.refl _ _ _
 have hS : Sub X X := Sub.refl _
 have hN : News X w X w := News.refl _ _
 have c0 : Sub v2 X := MO.mem l6
 unfold rectolaw5_Disk_power_p at hp
 refine enter_ Tryz.func49 rfl 55 [(0, (.pointer (some ⟨z2, 0, none⟩))), (1, (.slice y6 keep.length y2))] (by kernel_rfl) (fun Qe hQ => ?_)
 replace hp := hp (Sl.len r8)
 refine seq_ (fun _ a3 => ?_)
 refine reg_ ?_
 refine sq (o_pv (.pointer (some ⟨z2, 0, none⟩)) rfl (by kernel_rfl) ?_)
 refine sq (o_pv (.pointer (some ⟨z2, 0, none⟩)) rfl (by kernel_rfl) ?_)
 obtain ⟨z9, y0, y4, y5, z6, z3, z4, z5, l7, v6, r1, t2, u4, t3, u5, t4, t5, t6, a4⟩ := o_rectolaw5_Disk_open l6
 replace hp := hp (Sl.len v6)
 replace hp := hp (Sl.len r1)
 replace hp := hp (Sl.len t2)
 replace hp := hp u4
 replace hp := hp t3
 replace hp := hp u5
 replace hp := hp t4
 replace hp := hp (Sl.len t5)
 replace hp := hp t6
 refine sq (o_pv (.pointer (some ⟨z2, 0, none⟩)) rfl (by kernel_rfl) ?_)
 refine sq (o_pv (.slice z9 d.kept.length y0) rfl (x_load1 (by kernel_rfl) Tryz.isAgg27 (l7.2.1.cell' 0 rfl)) ?_)
 refine sq (o_pv (.slice z9 d.kept.length y0) rfl (by kernel_rfl) ?_)
 refine nil_ ?_
 refine then_normal (a3 _ _ _ _ ?_)
 refine seq_ (fun _ c1 => ?_)
 refine seq_ (fun _ c2 => ?_)
 refine reg_ ?_
 refine sq (o_pv (.int .i64 (0 : Int)) rfl (by kernel_rfl) ?_)
 refine nil_ ?_
 refine then_normal (c2 _ _ _ _ ?_)
 refine wp_block ?_
 obtain ⟨l8, j1, g6, hp⟩ := hp
 refine loop_ 274877905968 (fun kq lq y8 => ∃ (y3 : List Nat) (z1 : (List S_rectolaw5_one)) (z0 : Int) (z7 : Option Addr) (z8 : Nat), (lq = [(4, (.slice z7 z1.length z8)), (5, (.int .i64 z0))]) ∧ (kq = j1 z1 z0) ∧ (Evo v2 w y8) ∧ (Old y3 y8) ∧ (Sub X y3) ∧ (News X w y3 y8) ∧ (Sl rBool y3 y8 y6 y2 keep) ∧ (Sl r_rectolaw5_one y3 y8 z9 y0 d.kept) ∧ (Sl r_rectolaw5_one y3 y8 y4 y5 d.now) ∧ (Sl r_rectolaw5_op y3 y8 z6 z3 d.wait) ∧ (Sl rBool y3 y8 z4 z5 d.keep) ∧ (OB v2 w.heap.size y3 y8 z2 [(.slice z9 d.kept.length y0), (.slice y4 d.now.length y5), (.slice z6 d.wait.length z3), (.int .i64 d.quota), (.int .i64 d.time), (.int .i64 d.inode), (.bool d.off), (.bool d.armed), (.int .i64 d.left), (.slice z4 d.keep.length z5), (.int .i64 d.ops_)] 31) ∧ (Sl r_rectolaw5_one y3 y8 z7 z8 z1) ∧ (inR .i64 z0) ∧ (l8 z1 z0)) (j1 d.kept (0 : Int)) [(4, (.slice z9 d.kept.length y0)), (5, (.int .i64 (0 : Int)))] (vs_cons (by kernel_rfl) (vs_cons (by kernel_rfl) vs_nil)) ⟨X, d.kept, (0 : Int), z9, y0, rfl, rfl, E0, hXo, hS, hN, r8, v6, r1, t2, t5, l7, v6, (by decide : inR .i64 (0 : Int)), g6⟩ ?_
 rintro _ _ y8 a5 ⟨y3, z1, z0, z7, z8, rfl, rfl, q7, r9, r2, r3, v7, u6, t7, u7, v3, t8, r4, g7, g8⟩ c3 g9
 replace hp := hp z1 z0 g8 (Sl.len r4) g7
 refine seq_ (fun _ l9 => ?_)
 refine seq_ (fun _ m0 => ?_)
 refine reg_ ?_
 refine sq (o_pv (.int .i64 z0) rfl (by kernel_rfl) ?_)
 refine sq (o_pv (.pointer (some ⟨z2, 0, none⟩)) rfl (by kernel_rfl) ?_)
 refine sq (o_pv (.pointer (some ⟨z2, 0, none⟩)) rfl (by kernel_rfl) ?_)
 refine sq (o_pv (.pointer (some ⟨z2, 2, none⟩)) rfl (by kernel_rfl) ?_)
 refine sq (o_pv (.slice z6 d.wait.length z3) rfl (x_load1 (by kernel_rfl) Tryz.isAgg28 (t8.2.1.cell' 2 rfl)) ?_)
 refine sq (o_pv (.int .i64 (d.wait.length : Int)) rfl (by kernel_rfl) ?_)
 refine sq (o_pv (.bool (decide (z0 < (d.wait.length : Int)))) rfl (by kernel_rfl) ?_)
 refine nil_ ?_
 refine then_normal (m0 _ _ _ _ ?_)
 refine cond_d (z0 < (d.wait.length : Int)) (by kernel_rfl) (fun q8 => ?_) (fun q8 => ?_)
 ·
  replace hp := hp.1 q8
  refine wp_skip ?_
  refine then_normal (l9 _ _ _ _ ?_)
  refine seq_ (fun _ m1 => ?_)
  obtain ⟨m2, d0, hp⟩ := hp
  refine ground_ ?_
  refine join_ 274877382672 (fun lq y9 => ∃ (y7 : List Nat) (v8 : (List S_rectolaw5_one)) (t9 : Option Addr) (s0 : Nat), (lq = [(4, (.slice t9 v8.length s0))]) ∧ (Evo v2 w y9) ∧ (Old y7 y9) ∧ (Sub X y7) ∧ (News X w y7 y9) ∧ (Sl rBool y7 y9 y6 y2 keep) ∧ (Sl r_rectolaw5_one y7 y9 z9 y0 d.kept) ∧ (Sl r_rectolaw5_one y7 y9 y4 y5 d.now) ∧ (Sl r_rectolaw5_op y7 y9 z6 z3 d.wait) ∧ (Sl rBool y7 y9 z4 z5 d.keep) ∧ (OB v2 w.heap.size y7 y9 z2 [(.slice z9 d.kept.length y0), (.slice y4 d.now.length y5), (.slice z6 d.wait.length z3), (.int .i64 d.quota), (.int .i64 d.time), (.int .i64 d.inode), (.bool d.off), (.bool d.armed), (.int .i64 d.left), (.slice z4 d.keep.length z5), (.int .i64 d.ops_)] 31) ∧ (Sl r_rectolaw5_one y7 y9 t9 s0 v8) ∧ (m2 v8)) (fun c4 k6 => ?_) ?_
  ·
   refine wp_block ?_
   refine seq_ (fun _ m3 => ?_)
   obtain ⟨m4, d1, hp⟩ := hp
   refine ground_ ?_
   refine join_ 536346624 (fun lq v0 => ∃ (y1 : List Nat) (s1 : Bool), (lq = [(28, (.bool s1))]) ∧ (Evo v2 w v0) ∧ (Old y1 v0) ∧ (Sub X y1) ∧ (News X w y1 v0) ∧ (Sl rBool y1 v0 y6 y2 keep) ∧ (Sl r_rectolaw5_one y1 v0 z7 z8 z1) ∧ (Sl r_rectolaw5_one y1 v0 z9 y0 d.kept) ∧ (Sl r_rectolaw5_one y1 v0 y4 y5 d.now) ∧ (Sl r_rectolaw5_op y1 v0 z6 z3 d.wait) ∧ (Sl rBool y1 v0 z4 z5 d.keep) ∧ (OB v2 w.heap.size y1 v0 z2 [(.slice z9 d.kept.length y0), (.slice y4 d.now.length y5), (.slice z6 d.wait.length z3), (.int .i64 d.quota), (.int .i64 d.time), (.int .i64 d.inode), (.bool d.off), (.bool d.armed), (.int .i64 d.left), (.slice z4 d.keep.length z5), (.int .i64 d.ops_)] 31) ∧ (m4 s1)) (fun c5 k7 => ?_) ?_
   ·
    refine reg_ ?_
    refine sq (o_pv (.int .i64 z0) rfl (by kernel_rfl) ?_)
    refine sq (o_pv (.slice y6 keep.length y2) rfl (by kernel_rfl) ?_)
    refine sq (o_pv (.int .i64 (keep.length : Int)) rfl (by kernel_rfl) ?_)
    by_cases r5 : z0 < (keep.length : Int)
    ·
     replace hp := hp.1 r5
     refine sq (o_pv (.bool true) rfl (x_dt (p := z0 < (keep.length : Int)) (by kernel_rfl) r5) ?_)
     refine sq (o_pv (.bool true) rfl (by kernel_rfl) ?_)
     refine sq (o_pv (.slice y6 keep.length y2) (by kernel_rfl) (by kernel_rfl) ?_)
     refine sq (o_pv (.int .i64 z0) (by kernel_rfl) (by kernel_rfl) ?_)
     obtain ⟨j2, hp⟩ := hp
     obtain ⟨m5, m6, c6, d2, c7, c8, d3, d4⟩ := Sl.atI v7 z0 j2
     obtain rfl := d3
     refine sq (o_pv (.pointer (some ⟨m5, m6 + z0.toNat * 1, none⟩)) (by kernel_rfl) (x_ixA (m := keep.length) (c := y2) (k := .i64) (i := z0) Tryz.underlying29 Tryz.sizeOf4 (by rw [← d2]; kernel_rfl) (by kernel_rfl) j2) ?_)
     refine sq (o_pv (.bool (lget keep z0)) (by kernel_rfl) (x_load1 (by kernel_rfl) Tryz.isAgg4 (d4 0 _ rfl)) ?_)
     refine sq (o_pv (.bool (lget keep z0)) rfl (by kernel_rfl) ?_)
     refine nil_ ?_
     refine then_normal (k7 _ _ _ ⟨[(28, (.bool (lget keep z0)))], fit_mk (fun _ _ => rfl) (by kernel_rfl) (vs_cons (by kernel_rfl) vs_nil), ?_⟩)
     exact ⟨y3, (lget keep z0), rfl, q7, r9, r2, r3, v7, r4, u6, t7, u7, v3, t8, hp⟩
    ·
     replace hp := hp.2 r5
     refine sq (o_pv (.bool false) rfl (x_df (p := z0 < (keep.length : Int)) (by kernel_rfl) r5) ?_)
     refine sq (o_pv (.bool false) rfl (by kernel_rfl) ?_)
     refine sq (o_not (by kernel_rfl) ?_)
     refine sq (o_not (by kernel_rfl) ?_)
     refine sq (o_not (by kernel_rfl) ?_)
     refine sq (o_not (by kernel_rfl) ?_)
     refine sq (o_pv (.bool false) rfl (by kernel_rfl) ?_)
     refine nil_ ?_
     refine then_normal (k7 _ _ _ ⟨[(28, (.bool false))], fit_mk (fun _ _ => rfl) (by kernel_rfl) (vs_cons (by kernel_rfl) vs_nil), ?_⟩)
     exact ⟨y3, false, rfl, q7, r9, r2, r3, v7, r4, u6, t7, u7, v3, t8, hp⟩
   ·
    rintro _ v0 a6 ⟨y1, s1, rfl, j3, s2, k8, k9, s3, j4, u9, s4, v4, t0, q9, d5⟩
    replace hp := d1 s1 d5
    refine then_normal (m3 _ _ _ _ ?_)
    refine cond_b s1 (by kernel_rfl) (fun k0 => ?_) (fun k0 => ?_)
    ·
     replace hp := hp.1 k0
     refine reg_ ?_
     refine sq (o_pv (.slice z7 z1.length z8) rfl (by kernel_rfl) ?_)
     refine sq (o_pv (.pointer (some ⟨z2, 0, none⟩)) rfl (by kernel_rfl) ?_)
     refine sq (o_pv (.pointer (some ⟨z2, 0, none⟩)) rfl (by kernel_rfl) ?_)
     refine sq (o_pv (.pointer (some ⟨z2, 2, none⟩)) rfl (by kernel_rfl) ?_)
     refine sq (o_pv (.slice z6 d.wait.length z3) rfl (x_load1 (by kernel_rfl) Tryz.isAgg28 (q9.2.1.cell' 2 rfl)) ?_)
     refine sq (o_pv (.int .i64 z0) rfl (by kernel_rfl) ?_)
     obtain ⟨j5, hp⟩ := hp
     obtain ⟨m7, m8, c9, d6, a0, a1, d7, d8⟩ := Sl.atI v4 z0 j5
     obtain ⟨rfl, t1, v9, u0, u1, u2, v5, u3, s5⟩ := r_rectolaw5_op_open d7
     replace hp := hp t1
     replace hp := hp v9
     replace hp := hp u0
     replace hp := hp u1
     replace hp := hp u2
     replace hp := hp v5
     replace hp := hp u3
     replace hp := hp s5
     refine sq (o_pv (.pointer (some ⟨m7, m8 + z0.toNat * 8, none⟩)) rfl (x_ixA (m := d.wait.length) (c := z3) (k := .i64) (i := z0) Tryz.underlying28 Tryz.sizeOf93 (by rw [← d6]; kernel_rfl) (by kernel_rfl) j5) ?_)
     refine sq (o_pv (.agg #[(.int .i64 ((lget d.wait z0).kind)), (.string (((lget d.wait z0).f).path)), (.string (((lget d.wait z0).f).data)), (.int .i64 (((lget d.wait z0).f).mode)), (.int .i64 (((lget d.wait z0).f).time)), (.int .i64 (((lget d.wait z0).f).inode)), (.string ((lget d.wait z0).from_)), (.string ((lget d.wait z0).to_))]) rfl (x_loadN [(.int .i64 ((lget d.wait z0).kind)), (.string (((lget d.wait z0).f).path)), (.string (((lget d.wait z0).f).data)), (.int .i64 (((lget d.wait z0).f).mode)), (.int .i64 (((lget d.wait z0).f).time)), (.int .i64 (((lget d.wait z0).f).inode)), (.string ((lget d.wait z0).from_)), (.string ((lget d.wait z0).to_))] (by kernel_rfl) Tryz.isAgg93 Tryz.sizeOf93 d8) ?_)
     refine sq (o_call 81 #[(.slice z7 z1.length z8), (.agg #[(.int .i64 ((lget d.wait z0).kind)), (.string (((lget d.wait z0).f).path)), (.string (((lget d.wait z0).f).data)), (.int .i64 (((lget d.wait z0).f).mode)), (.int .i64 (((lget d.wait z0).f).time)), (.int .i64 (((lget d.wait z0).f).inode)), (.string ((lget d.wait z0).from_)), (.string ((lget d.wait z0).to_))])] rfl (x_call Tryz.call81 (by kernel_rfl)) (rectolaw5_laid_w (X := y1) (l := z1) (o := (S_rectolaw5_op.mk ((lget d.wait z0).kind) ((lget d.wait z0).f) ((lget d.wait z0).from_) ((lget d.wait z0).to_))) s2 j4 t1 v9 u0 u1 u2 v5 u3 s5 hp) ?_)
     rintro _ a7 ⟨k1, hp, j6, r6, r7, rfl, j0⟩
     have v1 := Step.of0 y1 j6
     replace hp := hp (Sl.len j0)
     refine sq (o_pv (.slice r6 k1.length r7) rfl (by kernel_rfl) ?_)
     refine nil_ ?_
     refine blk_normal ?_
     have m9 := (Evo.then0 j3 j6)
     have j7 := (Old.step s2 v1)
     have d9 := (Sub.trans k8 (Step.up v1))
     have l0 := (News.step k9 v1)
     have k2 := (Sl.step s3 v1)
     have q0 := (Sl.step u9 v1)
     have k3 := (Sl.step s4 v1)
     have q1 := (Sl.step v4 v1)
     have q2 := (Sl.step t0 v1)
     have n0 := (OB.step0 q9 v1)
     refine then_normal (k6 _ _ _ ⟨[(4, (.slice r6 k1.length r7))], fit_mk (AgB.nest (AgB.look (fun _ _ => rfl) (by kernel_rfl)) (by kernel_rfl) (by kernel_rfl)) (by kernel_rfl) (vs_cons (by kernel_rfl) vs_nil), ?_⟩)
     exact ⟨y1, k1, r6, r7, rfl, m9, j7, d9, l0, k2, q0, k3, q1, q2, n0, j0, hp⟩
    ·
     replace hp := hp.2 k0
     refine wp_skip ?_
     refine blk_normal ?_
     refine then_normal (k6 _ _ _ ⟨[(4, (.slice z7 z1.length z8))], fit_mk (AgB.nest (AgB.look (fun _ _ => rfl) (by kernel_rfl)) (by kernel_rfl) (by kernel_rfl)) (by kernel_rfl) (vs_cons (by kernel_rfl) vs_nil), ?_⟩)
     exact ⟨y1, z1, z7, z8, rfl, j3, s2, k8, k9, s3, u9, s4, v4, t0, q9, j4, hp⟩
  ·
   rintro _ y9 a8 ⟨y7, v8, t9, s0, rfl, n1, j8, l1, l2, k4, q3, k5, q4, q5, n2, j9, l3⟩
   replace hp := d0 v8 l3 (Sl.len j9)
   refine then_normal (m1 _ _ _ _ ?_)
   refine reg_ ?_
   refine sq (o_pv (.int .i64 z0) rfl (by kernel_rfl) ?_)
   obtain ⟨g0, hp⟩ := hp
   refine sq (o_pv (.int .i64 (z0 + (1 : Int))) rfl (x_add2 (k := .i64) (a := z0) (b := (1 : Int)) (z0 + (1 : Int)) (by kernel_rfl) (by kernel_rfl) (wrap_inR g0)) ?_)
   refine sq (o_pv (.int .i64 (z0 + (1 : Int))) rfl (by kernel_rfl) ?_)
   refine nil_ ?_
   refine then_normal (g9 _ _ _ ⟨_, [(4, (.slice t9 v8.length s0)), (5, (.int .i64 (z0 + (1 : Int))))], hp.2, fit_mk (AgB.nest (AgB.look (AgB.mix _ _ _) (by kernel_rfl)) (by kernel_rfl) (by kernel_rfl)) (by kernel_rfl) (vs_cons (by kernel_rfl) (vs_cons (by kernel_rfl) vs_nil)), ?_⟩)
   exact ⟨y7, v8, (z0 + (1 : Int)), t9, s0, rfl, rfl, n1, j8, l1, l2, k4, q3, k5, q4, q5, n2, j9, g0, hp.1⟩
 ·
  replace hp := hp.2 q8
  refine wp_exit ?_
  refine then_exit ?_
  refine then_exit ?_
  refine blk_exit ?_
  refine then_normal (c1 _ _ _ _ ?_)
  refine seq_ (fun _ n3 => ?_)
  refine reg_ ?_
  refine sq (o_pv (.pointer (some ⟨z2, 0, none⟩)) rfl (by kernel_rfl) ?_)
  refine sq (o_pv (.slice z7 z1.length z8) rfl (by kernel_rfl) ?_)
  refine sq (o_pv (.pointer (some ⟨z2, 0, none⟩)) rfl (by kernel_rfl) ?_)
  refine sq (o_pv (.pointer (some ⟨z2, 0, none⟩)) rfl (by kernel_rfl) ?_)
  refine sq (o_stB (o := 0) (v := (.slice z7 z1.length z8)) [(.slice z7 z1.length z8), (.slice y4 d.now.length y5), (.slice z6 d.wait.length z3), (.int .i64 d.quota), (.int .i64 d.time), (.int .i64 d.inode), (.bool d.off), (.bool d.armed), (.int .i64 d.left), (.slice z4 d.keep.length z5), (.int .i64 d.ops_)] rfl t8 (by kernel_rfl) (by kernel_rfl) Tryz.sizeOf27 rfl rfl rfl ?_)
  intro a9 s6 g1
  refine nil_ ?_
  refine then_normal (n3 _ _ _ _ ?_)
  refine seq_ (fun _ n4 => ?_)
  refine reg_ ?_
  refine sq (o_pv (.pointer (some ⟨z2, 0, none⟩)) rfl (by kernel_rfl) ?_)
  refine sq (o_pv (.slice z7 z1.length z8) rfl (by kernel_rfl) ?_)
  refine sq (o_pv (.pointer (some ⟨z2, 0, none⟩)) rfl (by kernel_rfl) ?_)
  refine sq (o_pv (.pointer (some ⟨z2, 1, none⟩)) rfl (by kernel_rfl) ?_)
  have n5 := (Evo.thenW q7 (Step.evo s6) t8.2.2)
  refine sq (o_stB (o := 1) (v := (.slice z7 z1.length z8)) [(.slice z7 z1.length z8), (.slice z7 z1.length z8), (.slice z6 d.wait.length z3), (.int .i64 d.quota), (.int .i64 d.time), (.int .i64 d.inode), (.bool d.off), (.bool d.armed), (.int .i64 d.left), (.slice z4 d.keep.length z5), (.int .i64 d.ops_)] rfl g1 (by kernel_rfl) (by kernel_rfl) Tryz.sizeOf27 rfl rfl rfl ?_)
  intro e0 s7 g2
  refine nil_ ?_
  refine then_normal (n4 _ _ _ _ ?_)
  refine seq_ (fun _ n6 => ?_)
  refine reg_ ?_
  refine sq (o_pv (.pointer (some ⟨z2, 0, none⟩)) rfl (by kernel_rfl) ?_)
  refine sq (o_pv (.pointer (some ⟨z2, 0, none⟩)) rfl (by kernel_rfl) ?_)
  refine sq (o_pv (.pointer (some ⟨z2, 2, none⟩)) rfl (by kernel_rfl) ?_)
  have n7 := (Evo.thenW n5 (Step.evo s7) g1.2.2)
  refine sq (o_stB (o := 2) (v := (.slice none 0 0)) [(.slice z7 z1.length z8), (.slice z7 z1.length z8), (.slice none 0 0), (.int .i64 d.quota), (.int .i64 d.time), (.int .i64 d.inode), (.bool d.off), (.bool d.armed), (.int .i64 d.left), (.slice z4 d.keep.length z5), (.int .i64 d.ops_)] rfl g2 (by kernel_rfl) (by kernel_rfl) Tryz.sizeOf28 rfl rfl rfl ?_)
  intro e1 s8 g3
  refine nil_ ?_
  refine then_normal (n6 _ _ _ _ ?_)
  refine seq_ (fun _ n8 => ?_)
  refine reg_ ?_
  refine sq (o_pv (.pointer (some ⟨z2, 0, none⟩)) rfl (by kernel_rfl) ?_)
  refine sq (o_pv (.pointer (some ⟨z2, 0, none⟩)) rfl (by kernel_rfl) ?_)
  refine sq (o_pv (.pointer (some ⟨z2, 6, none⟩)) rfl (by kernel_rfl) ?_)
  have n9 := (Evo.thenW n7 (Step.evo s8) g2.2.2)
  refine sq (o_stB (o := 6) (v := (.bool true)) [(.slice z7 z1.length z8), (.slice z7 z1.length z8), (.slice none 0 0), (.int .i64 d.quota), (.int .i64 d.time), (.int .i64 d.inode), (.bool true), (.bool d.armed), (.int .i64 d.left), (.slice z4 d.keep.length z5), (.int .i64 d.ops_)] rfl g3 (by kernel_rfl) (by kernel_rfl) Tryz.sizeOf4 rfl rfl rfl ?_)
  intro e2 s9 g4
  refine nil_ ?_
  refine then_normal (n8 _ _ _ _ ?_)
  refine reg_ ?_
  refine sq (o_pv (.pointer (some ⟨z2, 0, none⟩)) rfl (by kernel_rfl) ?_)
  refine sq (o_pv (.pointer (some ⟨z2, 0, none⟩)) rfl (by kernel_rfl) ?_)
  refine sq (o_pv (.pointer (some ⟨z2, 7, none⟩)) rfl (by kernel_rfl) ?_)
  have o0 := (Evo.thenW n9 (Step.evo s9) g3.2.2)
  refine sq (o_stB (o := 7) (v := (.bool false)) [(.slice z7 z1.length z8), (.slice z7 z1.length z8), (.slice none 0 0), (.int .i64 d.quota), (.int .i64 d.time), (.int .i64 d.inode), (.bool true), (.bool false), (.int .i64 d.left), (.slice z4 d.keep.length z5), (.int .i64 d.ops_)] rfl g4 (by kernel_rfl) (by kernel_rfl) Tryz.sizeOf4 rfl rfl rfl ?_)
  intro e3 r0 o3
  refine nil_ ?_
  have o4 := (Evo.thenW o0 (Step.evo r0) g4.2.2)
  have l4 := (Sub.trans (Sub.trans (Sub.trans (Sub.trans (Sub.trans r2 (Step.up s6)) (Step.up s7)) (Step.up s8)) (Step.up s9)) (Step.up r0))
  have l5 := (News.step (News.step (News.step (News.step (News.step r3 s6) s7) s8) s9) r0)
  have q6 := (Sl.step (Sl.step (Sl.step (Sl.step (Sl.step v3 s6) s7) s8) s9) r0)
  have g5 := (Sl.step (Sl.step (Sl.step (Sl.step (Sl.step r4 s6) s7) s8) s9) r0)
  obtain ⟨o5, o6, a2⟩ := MO.pack (o_rectolaw5_Disk_mk o3 g5 rfl g5 rfl (Sl.nil) rfl u4 t3 u5 t4 q6 rfl t6)
  refine end_normal hQ (.tuple #[]) (by kernel_rfl) ?_
  exact ⟨(S_rectolaw5_Disk.mk z1 z1 ([] : List S_rectolaw5_op) d.quota d.time d.inode true false d.left d.keep d.ops_), hp, y3, o5, step_of o4 c0 l4 l5, rfl, o6⟩
def rectolaw5_Disk_do_p (d : S_rectolaw5_Disk) (o : S_rectolaw5_op) (Q : S_rectolaw5_Disk → Int → Prop) : Prop :=
 ((inR .i64 o.kind) → ((o.f.path.size ≤ maxLen) → ((o.f.data.size ≤ maxLen) → ((inR .i64 o.f.mode) → ((inR .i64 o.f.time) → ((inR .i64 o.f.inode) → ((o.from_.size ≤ maxLen) → ((o.to_.size ≤ maxLen) → ((d.kept.length ≤ 9223372036854775807) → ((d.now.length ≤ 9223372036854775807) → ((d.wait.length ≤ 9223372036854775807) → ((inR .i64 d.quota) → ((inR .i64 d.time) → ((inR .i64 d.inode) → ((inR .i64 d.left) → ((d.keep.length ≤ 9223372036854775807) → ((inR .i64 d.ops_) → (∃ z1 : Int → Prop, (∀ (z2 : Int), z1 z2 → (inR .i64 z2) → (rectolaw5_laid_p d.now o (fun (z3 : (List S_rectolaw5_one)) => ((z3.length ≤ 9223372036854775807) → (∀ z4 : (List S_rectolaw5_op) → Prop, (∀ (z0 : (List S_rectolaw5_op)), ((z0.length ≤ 9223372036854775807) → ((inR .i64 (d.ops_ + (1 : Int))) ∧ Q (S_rectolaw5_Disk.mk d.kept z3 z0 d.quota d.time d.inode d.off d.armed z2 d.keep (d.ops_ + (1 : Int))) (0 : Int))) → z4 z0) → ((d.wait.length * 96 ≤ 140737488355328) ∧ (((d.wait.length + ([o]).length) * 96 ≤ 140737488355328) ∧ (z4 (d.wait ++ ([o])))))))))) ∧ (((d.armed = true) → ((inR .i64 (d.left - (1 : Int))) ∧ ((((d.left - (1 : Int)) ≤ (0 : Int)) → (rectolaw5_Disk_power_p (S_rectolaw5_Disk.mk d.kept d.now d.wait d.quota d.time d.inode d.off d.armed (d.left - (1 : Int)) d.keep d.ops_) d.keep (fun (z5 : S_rectolaw5_Disk) => Q z5 (13 : Int)))) ∧ ((¬ ((d.left - (1 : Int)) ≤ (0 : Int))) → (z1 (d.left - (1 : Int))))))) ∧ ((d.armed = false) → (z1 d.left)))))))))))))))))))))
set_option maxRecDepth 20000 in
set_option maxHeartbeats 4000000 in
theorem rectolaw5_Disk_do_w {X : List Nat} {w : World} {d : S_rectolaw5_Disk} {o : S_rectolaw5_op} {z0 : Nat} {s7 : List Nat} {Q : S_rectolaw5_Disk → Int → Prop} (Y8 : Old X w) (c5 : MO o_rectolaw5_Disk 31 s7 w.heap.size X w s7 z0 d) (v8 : inR .i64 o.kind) (y1 : o.f.path.size ≤ maxLen) (y2 : o.f.data.size ≤ maxLen) (y3 : inR .i64 o.f.mode) (y4 : inR .i64 o.f.time) (z8 : inR .i64 o.f.inode) (z9 : o.from_.size ≤ maxLen) (v9 : o.to_.size ≤ maxLen) (hp : rectolaw5_Disk_do_p d o Q) :
  Calls Tryz.prog 40 #[(.pointer (some ⟨z0, 0, none⟩)), (.agg #[(.int .i64 o.kind), (.string o.f.path), (.string o.f.data), (.int .i64 o.f.mode), (.int .i64 o.f.time), (.int .i64 o.f.inode), (.string o.from_), (.string o.to_)])] w (Ret fun v w' => ∃ (K0 : S_rectolaw5_Disk) (V2 : Int), Q K0 V2 ∧ ∃ (X' : List Nat) (K1 : List Nat), Step X w s7 X' w' ∧ v = (.int .i64 V2) ∧ MO o_rectolaw5_Disk 31 s7 w.heap.size X' w' K1 z0 K0 ∧ inR .i64 V2) := by
 have hXo := Y8
 have E0 : Evo s7 w w := RB.refl _ _ _
 have hS : Sub X X := Sub.refl _
 have hN : News X w X w := News.refl _ _
 have Y9 : Sub s7 X := MO.mem c5
 unfold rectolaw5_Disk_do_p at hp
 refine enter_ Tryz.func40 rfl 55 [(0, (.pointer (some ⟨z0, 0, none⟩))), (1, (.agg #[(.int .i64 o.kind), (.string o.f.path), (.string o.f.data), (.int .i64 o.f.mode), (.int .i64 o.f.time), (.int .i64 o.f.inode), (.string o.from_), (.string o.to_)]))] (by kernel_rfl) (fun Qe hQ => ?_)
 replace hp := hp v8
 replace hp := hp y1
 replace hp := hp y2
 replace hp := hp y3
 replace hp := hp y4
 replace hp := hp z8
 replace hp := hp z9
 replace hp := hp v9
 refine seq_ (fun _ K2 => ?_)
 refine reg_ ?_
 refine sq (o_newX [(.int .i64 o.kind), (.string o.f.path), (.string o.f.data), (.int .i64 o.f.mode), (.int .i64 o.f.time), (.int .i64 o.f.inode), (.string o.from_), (.string o.to_)] 93 (X := X) (B := w.heap.size) E0.size rfl (by kernel_rfl) ?_)
 intro K3 D9 c6 k8 V0 K4
 have K5 := K4 _ (MO.old c5)
 refine sq (o_pv (.int .i64 (0 : Int)) rfl (by kernel_rfl) ?_)
 refine nil_ ?_
 refine then_normal (K2 _ _ _ _ ?_)
 refine seq_ (fun _ K6 => ?_)
 refine seq_ (fun _ K7 => ?_)
 refine reg_ ?_
 refine sq (o_pv (.pointer (some ⟨z0, 0, none⟩)) rfl (by kernel_rfl) ?_)
 refine sq (o_pv (.pointer (some ⟨z0, 0, none⟩)) rfl (by kernel_rfl) ?_)
 have V3 := (MO.step0 c5 k8)
 obtain ⟨z4, z5, u0, u1, y5, y6, z1, z2, q0, u3, s5, u4, t6, s8, t7, r4, u5, r5, V4⟩ := o_rectolaw5_Disk_open V3
 have V1 := Ap.subr (Ap.symm K5) V4
 replace hp := hp (Sl.len u3)
 replace hp := hp (Sl.len s5)
 replace hp := hp (Sl.len u4)
 replace hp := hp t6
 replace hp := hp s8
 replace hp := hp t7
 replace hp := hp r4
 replace hp := hp (Sl.len u5)
 replace hp := hp r5
 refine sq (o_pv (.pointer (some ⟨z0, 7, none⟩)) rfl (by kernel_rfl) ?_)
 refine sq (o_pv (.bool d.armed) rfl (x_load1 (by kernel_rfl) Tryz.isAgg4 (q0.2.1.cell' 7 rfl)) ?_)
 refine nil_ ?_
 refine then_normal (K7 _ _ _ _ ?_)
 have q1 := (Old.step hXo k8)
 have c7 := (Evo.then0 E0 (Step.evo k8))
 have d6 := (Sub.trans hS (Step.up k8))
 have d7 := (News.step hN k8)
 obtain ⟨K8, V5, hp⟩ := hp
 refine ground_ ?_
 refine join_ 134217232 (fun lq u2 => ∃ (y0 : List Nat) (t5 : Int), (lq = []) ∧ (Evo s7 w u2) ∧ (Old y0 u2) ∧ (Sub X y0) ∧ (News X w y0 u2) ∧ (Sl r_rectolaw5_one y0 u2 z4 z5 d.kept) ∧ (Sl r_rectolaw5_one y0 u2 u0 u1 d.now) ∧ (Sl r_rectolaw5_op y0 u2 y5 y6 d.wait) ∧ (Sl rBool y0 u2 z1 z2 d.keep) ∧ (OB ([]) w.heap.size y0 u2 K3 [(.int .i64 o.kind), (.string o.f.path), (.string o.f.data), (.int .i64 o.f.mode), (.int .i64 o.f.time), (.int .i64 o.f.inode), (.string o.from_), (.string o.to_)] 93) ∧ (OB s7 w.heap.size y0 u2 z0 [(.slice z4 d.kept.length z5), (.slice u0 d.now.length u1), (.slice y5 d.wait.length y6), (.int .i64 d.quota), (.int .i64 d.time), (.int .i64 d.inode), (.bool d.off), (.bool d.armed), (.int .i64 t5), (.slice z1 d.keep.length z2), (.int .i64 d.ops_)] 31) ∧ (inR .i64 t5) ∧ (K8 t5)) (fun I3 c8 => ?_) ?_
 ·
  refine cond_b d.armed (by kernel_rfl) (fun c9 => ?_) (fun c9 => ?_)
  ·
   replace hp := hp.1 c9
   refine seq_ (fun _ K9 => ?_)
   refine reg_ ?_
   refine sq (o_pv (.pointer (some ⟨z0, 0, none⟩)) rfl (by kernel_rfl) ?_)
   refine sq (o_pv (.pointer (some ⟨z0, 0, none⟩)) rfl (by kernel_rfl) ?_)
   refine sq (o_pv (.pointer (some ⟨z0, 8, none⟩)) rfl (by kernel_rfl) ?_)
   refine sq (o_pv (.int .i64 d.left) rfl (x_load1 (by kernel_rfl) Tryz.isAgg3 (q0.2.1.cell' 8 rfl)) ?_)
   obtain ⟨d8, hp⟩ := hp
   refine sq (o_pv (.int .i64 (d.left - (1 : Int))) rfl (x_sub2 (k := .i64) (a := d.left) (b := (1 : Int)) (d.left - (1 : Int)) (by kernel_rfl) (by kernel_rfl) (wrap_inR d8)) ?_)
   refine sq (o_pv (.pointer (some ⟨z0, 0, none⟩)) rfl (by kernel_rfl) ?_)
   refine sq (o_pv (.pointer (some ⟨z0, 8, none⟩)) rfl (by kernel_rfl) ?_)
   refine sq (o_stB (o := 8) (v := (.int .i64 (d.left - (1 : Int)))) [(.slice z4 d.kept.length z5), (.slice u0 d.now.length u1), (.slice y5 d.wait.length y6), (.int .i64 d.quota), (.int .i64 d.time), (.int .i64 d.inode), (.bool d.off), (.bool d.armed), (.int .i64 (d.left - (1 : Int))), (.slice z1 d.keep.length z2), (.int .i64 d.ops_)] rfl q0 (by kernel_rfl) (by kernel_rfl) Tryz.sizeOf3 rfl rfl rfl ?_)
   intro I4 z7 q2
   refine nil_ ?_
   refine then_normal (K9 _ _ _ _ ?_)
   refine seq_ (fun _ V6 => ?_)
   refine reg_ ?_
   refine sq (o_pv (.pointer (some ⟨z0, 0, none⟩)) rfl (by kernel_rfl) ?_)
   refine sq (o_pv (.pointer (some ⟨z0, 0, none⟩)) rfl (by kernel_rfl) ?_)
   refine sq (o_pv (.pointer (some ⟨z0, 8, none⟩)) rfl (by kernel_rfl) ?_)
   refine sq (o_pv (.int .i64 (d.left - (1 : Int))) rfl (x_load1 (by kernel_rfl) Tryz.isAgg3 (q2.2.1.cell' 8 rfl)) ?_)
   refine sq (o_pv (.bool (decide ((d.left - (1 : Int)) ≤ (0 : Int)))) rfl (by kernel_rfl) ?_)
   refine nil_ ?_
   refine then_normal (V6 _ _ _ _ ?_)
   refine cond_d ((d.left - (1 : Int)) ≤ (0 : Int)) (by kernel_rfl) (fun d9 => ?_) (fun d9 => ?_)
   ·
    replace hp := hp.1 d9
    refine seq_ (fun _ V7 => ?_)
    refine reg_ ?_
    refine sq (o_pv (.pointer (some ⟨z0, 0, none⟩)) rfl (by kernel_rfl) ?_)
    refine sq (o_pv (.pointer (some ⟨z0, 0, none⟩)) rfl (by kernel_rfl) ?_)
    refine sq (o_pv (.pointer (some ⟨z0, 0, none⟩)) rfl (by kernel_rfl) ?_)
    refine sq (o_pv (.pointer (some ⟨z0, 9, none⟩)) rfl (by kernel_rfl) ?_)
    refine sq (o_pv (.slice z1 d.keep.length z2) rfl (x_load1 (by kernel_rfl) Tryz.isAgg29 (q2.2.1.cell' 9 rfl)) ?_)
    have a0 := (Old.step q1 z7)
    have a1 := (Evo.thenW c7 (Step.evo z7) q0.2.2)
    have f5 := (Sub.trans d6 (Step.up z7))
    have f6 := (News.step d7 z7)
    have k9 := (Sl.step u3 z7)
    have l0 := (Sl.step s5 z7)
    have j0 := (Sl.step u4 z7)
    have r2 := (Sl.step u5 z7)
    obtain ⟨I5, l1, J4⟩ := MO.pack (o_rectolaw5_Disk_mk q2 k9 rfl l0 rfl j0 rfl t6 s8 t7 d8 r2 rfl r5)
    refine sq (o_call 49 #[(.pointer (some ⟨z0, 0, none⟩)), (.slice z1 d.keep.length z2)] rfl (x_call Tryz.call49 (by kernel_rfl)) (rectolaw5_Disk_power_w (X := c6) (d := (S_rectolaw5_Disk.mk d.kept d.now d.wait d.quota d.time d.inode d.off d.armed (d.left - (1 : Int)) d.keep d.ops_)) (keep := d.keep) a0 (MO.re l1 (Wr.self _ _ (Sub.refl _))) r2 hp) ?_)
    rintro _ I6 ⟨V8, hp, V9, U0, l2, rfl, a2⟩
    have U1 := MO.re a2 (Wr.trans a2.wr l1.wr a1.size)
    refine nil_ ?_
    refine then_normal (V7 _ _ _ _ ?_)
    refine seq_ (fun _ U2 => ?_)
    refine reg_ ?_
    refine sq (o_pv (.int .i64 (13 : Int)) rfl (by kernel_rfl) ?_)
    refine nil_ ?_
    refine then_normal (U2 _ _ _ _ ?_)
    refine wp_ret ?_
    refine then_ret ?_
    refine then_ret ?_
    have U3 := (Evo.thenW a1 (Step.evo l2) l1.wr)
    have f7 := (Sub.trans f5 (Step.up l2))
    have f8 := (News.step f6 l2)
    refine end_ret hQ (.int .i64 (13 : Int)) (by kernel_rfl) ?_
    exact ⟨V8, (13 : Int), hp, V9, U0, step_of U3 Y9 f7 f8, rfl, U1, (by decide : inR .i64 (13 : Int))⟩
   ·
    replace hp := hp.2 d9
    refine wp_skip ?_
    have U4 := (Evo.thenW c7 (Step.evo z7) q0.2.2)
    have a3 := (Old.step q1 z7)
    have f9 := (Sub.trans d6 (Step.up z7))
    have p0 := (News.step d7 z7)
    have j1 := (Sl.step u3 z7)
    have l3 := (Sl.step s5 z7)
    have j2 := (Sl.step u4 z7)
    have j3 := (Sl.step u5 z7)
    have U5 := (OB.step V0 z7 V1)
    refine then_normal (c8 _ _ _ ⟨[], fit_mk (fun _ _ => rfl) (by kernel_rfl) vs_nil, ?_⟩)
    exact ⟨c6, (d.left - (1 : Int)), rfl, U4, a3, f9, p0, j1, l3, j2, j3, U5, q2, d8, hp⟩
  ·
   replace hp := hp.2 c9
   refine wp_skip ?_
   refine then_normal (c8 _ _ _ ⟨[], fit_mk (fun _ _ => rfl) (by kernel_rfl) vs_nil, ?_⟩)
   exact ⟨c6, d.left, rfl, c7, q1, d6, d7, u3, s5, u4, u5, V0, q0, r4, hp⟩
 ·
  rintro _ u2 I7 ⟨y0, t5, rfl, J0, p1, U6, U7, l4, c4, l5, l6, J1, J2, a4, U8⟩
  replace hp := V5 t5 U8 a4
  refine then_normal (K6 _ _ _ _ ?_)
  refine seq_ (fun _ U9 => ?_)
  refine reg_drawn (RB u2.heap.size []) 9 (by kernel_rfl) (fun a5 q3 => ?_)
  have T0 := Evo.of_drew q3
  have l7 : a5.heap.size = u2.heap.size := by rw [q3]
  clear q3
  have v2 := Step.of0 y0 T0
  have q4 := RB.refl u2.heap.size [] a5
  have T1 := (Evo.then0 J0 (Step.evo v2))
  have j4 := (Old.step p1 v2)
  have p2 := (Sub.trans U6 (Step.up v2))
  have p3 := (News.step U7 v2)
  have j5 := (Sl.step l4 v2)
  have l8 := (Sl.step c4 v2)
  have j6 := (Sl.step l5 v2)
  have j7 := (Sl.step l6 v2)
  have l9 := (OB.step0 J1 v2)
  have m0 := (OB.step0 J2 v2)
  refine r_take 0 (.pointer (some ⟨z0, 0, none⟩)) (RB.pre _ _) rfl (by kernel_rfl) (fun _ _ _ h => hQ.panic _ _ _ _ _ h) (.inl ⟨rfl, fun wq hq => (by kernel_rfl)⟩) ?_
  refine r_take 1 (.pointer (some ⟨z0, 0, none⟩)) (RB.pre _ _) rfl (by kernel_rfl) (fun _ _ _ h => hQ.panic _ _ _ _ _ h) (.inl ⟨rfl, fun wq hq => (by kernel_rfl)⟩) ?_
  refine r_take 2 (.pointer (some ⟨z0, 0, none⟩)) (RB.pre _ _) rfl (by kernel_rfl) (fun _ _ _ h => hQ.panic _ _ _ _ _ h) (.inl ⟨rfl, fun wq hq => (by kernel_rfl)⟩) ?_
  refine r_take 3 (.pointer (some ⟨z0, 1, none⟩)) (RB.pre _ _) rfl (by kernel_rfl) (fun _ _ _ h => hQ.panic _ _ _ _ _ h) (.inl ⟨rfl, fun wq hq => (by kernel_rfl)⟩) ?_
  refine r_take 4 (.slice u0 d.now.length u1) (RB.pre _ _) rfl (by kernel_rfl) (fun _ _ _ h => hQ.panic _ _ _ _ _ h) (.inl ⟨rfl, fun wq hq => (x_load1 (by kernel_rfl) Tryz.isAgg27 ((Blk.rb m0.2.1 (RB.trans q4 hq) (Nat.lt_of_lt_of_eq (Blk.lt m0.2.1) l7) (fun h => by cases h)).cell' 1 rfl))⟩) ?_
  refine r_take 5 (.agg #[(.int .i64 o.kind), (.string o.f.path), (.string o.f.data), (.int .i64 o.f.mode), (.int .i64 o.f.time), (.int .i64 o.f.inode), (.string o.from_), (.string o.to_)]) (RB.pre _ _) rfl (by kernel_rfl) (fun _ _ _ h => hQ.panic _ _ _ _ _ h) (.inl ⟨rfl, fun wq hq => (x_loadN [(.int .i64 o.kind), (.string o.f.path), (.string o.f.data), (.int .i64 o.f.mode), (.int .i64 o.f.time), (.int .i64 o.f.inode), (.string o.from_), (.string o.to_)] (by kernel_rfl) Tryz.isAgg93 Tryz.sizeOf93 ((Blk.rb l9.2.1 (RB.trans q4 hq) (Nat.lt_of_lt_of_eq (Blk.lt l9.2.1) l7) (fun h => by cases h)).cells' 0 rfl))⟩) ?_
  refine r_ready [6] (by kernel_rfl) rfl (all_cons ⟨_, _, _, _, _, _, rfl, ?_⟩ all_nil)
  refine o_call 81 #[(.slice u0 d.now.length u1), (.agg #[(.int .i64 o.kind), (.string o.f.path), (.string o.f.data), (.int .i64 o.f.mode), (.int .i64 o.f.time), (.int .i64 o.f.inode), (.string o.from_), (.string o.to_)])] rfl (x_call Tryz.call81 (by kernel_rfl)) (rectolaw5_laid_w (X := y0) (l := d.now) (o := o) j4 l8 v8 y1 y2 y3 y4 z8 z9 v9 hp) ?_
  rintro _ I8 ⟨u6, hp, m1, y9, v0, rfl, n7⟩
  have rm := RB.mono (F' := []) m1 (Nat.le_trans (Nat.le_of_eq l7.symm) (RB.size q4)) (fun _ h => by cases h)
  refine ⟨fun _ => rm, ?_⟩
  have t8 := Step.of0 y0 m1
  replace hp := hp (Sl.len n7)
  refine r_take 7 (.pointer (some ⟨z0, 0, none⟩)) (RB.pre _ _) rfl (by kernel_rfl) (fun _ _ _ h => hQ.panic _ _ _ _ _ h) (.inl ⟨rfl, fun wq hq => (by kernel_rfl)⟩) ?_
  refine r_take 8 (.pointer (some ⟨z0, 1, none⟩)) (RB.pre _ _) rfl (by kernel_rfl) (fun _ _ _ h => hQ.panic _ _ _ _ _ h) (.inl ⟨rfl, fun wq hq => (by kernel_rfl)⟩) ?_
  refine r_ready [9] (by kernel_rfl) rfl (all_cons ⟨_, _, _, _, _, _, rfl, ?_⟩ all_nil)
  have T2 := (OB.step0 l9 t8)
  have a6 := (OB.step0 m0 t8)
  have T3 := (Evo.then0 T1 m1)
  refine o_stB (o := 1) (v := (.slice y9 u6.length v0)) [(.slice z4 d.kept.length z5), (.slice y9 u6.length v0), (.slice y5 d.wait.length y6), (.int .i64 d.quota), (.int .i64 d.time), (.int .i64 d.inode), (.bool d.off), (.bool d.armed), (.int .i64 t5), (.slice z1 d.keep.length z2), (.int .i64 d.ops_)] rfl a6 (by kernel_rfl) (by kernel_rfl) Tryz.sizeOf27 rfl rfl rfl ?_
  intro m2 u7 T4
  refine ⟨fun h => absurd h (by decide), ?_⟩
  refine r_done (by kernel_rfl) ?_
  refine then_normal (U9 _ _ _ _ ?_)
  refine seq_ (fun _ T5 => ?_)
  have T6 := (Evo.thenW T3 (Step.evo u7) a6.2.2)
  have a7 := (Old.step (Old.step j4 t8) u7)
  have p4 := (Sub.trans (Sub.trans p2 (Step.up t8)) (Step.up u7))
  have p5 := (News.step (News.step p3 t8) u7)
  have j8 := (Sl.step (Sl.step j5 t8) u7)
  have j9 := (Sl.step (Sl.step j6 t8) u7)
  have g0 := (Sl.step (Sl.step j7 t8) u7)
  have T7 := (OB.step T2 u7 V1)
  have p6 := (Sl.step n7 u7)
  obtain ⟨T8, p7, hp⟩ := yon1 hp
  refine ground_ ?_
  refine join_ 281406257233920 (fun lq u9 => ∃ (t0 : List Nat) (r0 : (List S_rectolaw5_op)) (r6 : Option Addr) (r7 : Nat) (q5 : Nat), (lq = []) ∧ (Evo s7 w u9) ∧ (Old t0 u9) ∧ (Sub X t0) ∧ (News X w t0 u9) ∧ (Sl r_rectolaw5_one t0 u9 z4 z5 d.kept) ∧ (Sl r_rectolaw5_one t0 u9 y9 v0 u6) ∧ (Sl rBool t0 u9 z1 z2 d.keep) ∧ (OS r_rectolaw5_op ([]) w.heap.size t0 u9 93 r6 r7 q5 r0) ∧ (OB s7 w.heap.size t0 u9 z0 [(.slice z4 d.kept.length z5), (.slice y9 u6.length v0), (.slice r6 r7 q5), (.int .i64 d.quota), (.int .i64 d.time), (.int .i64 d.inode), (.bool d.off), (.bool d.armed), (.int .i64 t5), (.slice z1 d.keep.length z2), (.int .i64 d.ops_)] 31) ∧ (Ap (blkL r6) ([z0])) ∧ (T8 r0)) (fun J5 q6 => ?_) ?_
  ·
   refine reg_drawn (RB m2.heap.size []) 12 (by kernel_rfl) (fun a8 q7 => ?_)
   have T9 := Evo.of_drew q7
   have z3 : a8.heap.size = m2.heap.size := by rw [q7]
   clear q7
   have v3 := Step.of0 y0 T9
   have v1 := RB.refl m2.heap.size [] a8
   have r8 := (Evo.then0 T6 (Step.evo v3))
   have r9 := (Old.step a7 v3)
   have q8 := (Sub.trans p4 (Step.up v3))
   have q9 := (News.step p5 v3)
   have t9 := (Sl.step j8 v3)
   have s0 := (Sl.step j9 v3)
   have s1 := (Sl.step g0 v3)
   have a9 := (OB.step0 T7 v3)
   have r1 := (OB.step0 T4 v3)
   have k0 := (Sl.step p6 v3)
   refine r_take 0 (.pointer (some ⟨z0, 0, none⟩)) (RB.pre _ _) rfl (by kernel_rfl) (fun _ _ _ h => hQ.panic _ _ _ _ _ h) (.inl ⟨rfl, fun wq hq => (by kernel_rfl)⟩) ?_
   refine r_take 2 (.pointer (some ⟨z0, 0, none⟩)) (RB.pre _ _) rfl (by kernel_rfl) (fun _ _ _ h => hQ.panic _ _ _ _ _ h) (.inl ⟨rfl, fun wq hq => (by kernel_rfl)⟩) ?_
   refine r_take 3 (.pointer (some ⟨z0, 0, none⟩)) (RB.pre _ _) rfl (by kernel_rfl) (fun _ _ _ h => hQ.panic _ _ _ _ _ h) (.inl ⟨rfl, fun wq hq => (by kernel_rfl)⟩) ?_
   refine r_take 4 (.pointer (some ⟨z0, 2, none⟩)) (RB.pre _ _) rfl (by kernel_rfl) (fun _ _ _ h => hQ.panic _ _ _ _ _ h) (.inl ⟨rfl, fun wq hq => (by kernel_rfl)⟩) ?_
   refine r_take 5 (.slice y5 d.wait.length y6) (RB.pre _ _) rfl (by kernel_rfl) (fun _ _ _ h => hQ.panic _ _ _ _ _ h) (.inl ⟨rfl, fun wq hq => (x_load1 (by kernel_rfl) Tryz.isAgg28 ((Blk.rb r1.2.1 (RB.trans v1 hq) (Nat.lt_of_lt_of_eq (Blk.lt r1.2.1) z3) (fun h => by cases h)).cell' 2 rfl))⟩) ?_
   refine r_take 7 (.agg #[(.int .i64 o.kind), (.string o.f.path), (.string o.f.data), (.int .i64 o.f.mode), (.int .i64 o.f.time), (.int .i64 o.f.inode), (.string o.from_), (.string o.to_)]) (RB.pre _ _) rfl (by kernel_rfl) (fun _ _ _ h => hQ.panic _ _ _ _ _ h) (.inl ⟨rfl, fun wq hq => (x_loadN [(.int .i64 o.kind), (.string o.f.path), (.string o.f.data), (.int .i64 o.f.mode), (.int .i64 o.f.time), (.int .i64 o.f.inode), (.string o.from_), (.string o.to_)] (by kernel_rfl) Tryz.isAgg93 Tryz.sizeOf93 ((Blk.rb a9.2.1 (RB.trans v1 hq) (Nat.lt_of_lt_of_eq (Blk.lt a9.2.1) z3) (fun h => by cases h)).cells' 0 rfl))⟩) ?_
   refine r_ready [1, 8] (by kernel_rfl) rfl (all_cons ⟨_, _, _, _, _, _, rfl, ?_⟩ (all_cons ⟨_, _, _, _, _, _, rfl, ?_⟩ all_nil))
   ·
    refine o_rowX (R := r_rectolaw5_op) [] ([] : List S_rectolaw5_op) 93 0 (X := y0) (B := w.heap.size) r8.size rfl (by kernel_rfl) Flat.nil rfl (by decide) ?_
    intro I9 H0 e0 z6 k1 e1
    have r3 := new_of (Nat.le_trans (Nat.le_of_eq z3.symm) (RB.size v1)) e1
    have rm := RB.mono (F' := []) (Step.evo z6) (Nat.le_trans (Nat.le_of_eq z3.symm) (RB.size v1)) (fun _ h => by cases h)
    have s6 := RB.trans v1 rm
    refine ⟨fun _ => rm, ?_⟩
    have k2 := e1 _ (OB.old r1)
    refine r_ready [6, 8] (by kernel_rfl) rfl (all_cons ⟨_, _, _, _, _, _, rfl, ?_⟩ (all_cons ⟨_, _, _, _, _, _, rfl, ?_⟩ all_nil))
    ·
     obtain ⟨R1, hp⟩ := hp
     have g1 := (Sl.step s0 z6)
     have e2 := (OB.step0 r1 z6)
     have e3 := (Evo.then0 r8 (Step.evo z6))
     refine o_appX (R := r_rectolaw5_op) (X := e0) (B := w.heap.size) (L := ([] : List S_rectolaw5_op)) (M := d.wait) rfl elT28 rfl e3.size k1 (Sl.src g1) rfl (by kernel_rfl) (by kernel_rfl) (by simpa using R1) ?_
     intro H1 H2 H3 H4 R2 t1 e4 n8
     have rm := RB.mono (F' := []) (Step.evo t1) (Nat.le_trans (Nat.le_of_eq z3.symm) (RB.size s6)) (fun x hx => .inr (r3 x hx))
     have n9 := new_app (Nat.le_trans (Nat.le_of_eq z3.symm) (RB.size s6)) r3 n8
     have k3 := RB.trans s6 rm
     refine ⟨fun _ => rm, ?_⟩
     rw [List.nil_append] at e4
     have e5 := n8 _ k2 (OB.old e2)
     refine r_ready [8] (by kernel_rfl) rfl (all_cons ⟨_, _, _, _, _, _, rfl, ?_⟩ all_nil)
     have R3 := (OB.step e2 t1 k2)
     have e6 := (Evo.thenW e3 (Step.evo t1) (Wr.of k1.2.2))
     refine o_rowX (R := r_rectolaw5_op) [(.int .i64 o.kind), (.string o.f.path), (.string o.f.data), (.int .i64 o.f.mode), (.int .i64 o.f.time), (.int .i64 o.f.inode), (.string o.from_), (.string o.to_)] [o] 93 1 (X := R2) (B := w.heap.size) e6.size rfl (by kernel_rfl) (Flat.cons (cs := [(.int .i64 o.kind), (.string o.f.path), (.string o.f.data), (.int .i64 o.f.mode), (.int .i64 o.f.time), (.int .i64 o.f.inode), (.string o.from_), (.string o.to_)]) (r_rectolaw5_op_mk v8 y1 y2 y3 y4 z8 z9 v9) Flat.nil) rfl (by decide) ?_
     intro H5 H6 R4 v4 e7 R5
     have J6 := new_of (Nat.le_trans (Nat.le_of_eq z3.symm) (RB.size k3)) R5
     have rm := RB.mono (F' := []) (Step.evo v4) (Nat.le_trans (Nat.le_of_eq z3.symm) (RB.size k3)) (fun _ h => by cases h)
     have o0 := RB.trans k3 rm
     refine ⟨fun _ => rm, ?_⟩
     refine r_ready [9] (by kernel_rfl) rfl (all_cons ⟨_, _, _, _, _, _, rfl, ?_⟩ all_nil)
     obtain ⟨R6, hp⟩ := hp
     have e8 := (OS.step0 e4 v4)
     have e9 := (OB.step0 R3 v4)
     have i0 := (Evo.then0 e6 (Step.evo v4))
     refine o_appX (R := r_rectolaw5_op) (X := R4) (B := w.heap.size) (L := d.wait) (M := [o]) rfl elT28 rfl i0.size e8 (OS.src e7) e7.1 (by kernel_rfl) (by kernel_rfl) R6 ?_
     intro m3 m4 m5 H7 R7 t2 R8 o3
     have rm := RB.mono (F' := []) (Step.evo t2) (Nat.le_trans (Nat.le_of_eq z3.symm) (RB.size o0)) (fun x hx => .inr (n9 x hx))
     have J7 := new_app (Nat.le_trans (Nat.le_of_eq z3.symm) (RB.size o0)) n9 o3
     refine ⟨fun _ => rm, ?_⟩
     have i1 := o3 _ e5 (OB.old e9)
     refine r_take 10 (.pointer (some ⟨z0, 0, none⟩)) (RB.pre _ _) rfl (by kernel_rfl) (fun _ _ _ h => hQ.panic _ _ _ _ _ h) (.inl ⟨rfl, fun wq hq => (by kernel_rfl)⟩) ?_
     refine r_take 11 (.pointer (some ⟨z0, 2, none⟩)) (RB.pre _ _) rfl (by kernel_rfl) (fun _ _ _ h => hQ.panic _ _ _ _ _ h) (.inl ⟨rfl, fun wq hq => (by kernel_rfl)⟩) ?_
     refine r_ready [12] (by kernel_rfl) rfl (all_cons ⟨_, _, _, _, _, _, rfl, ?_⟩ all_nil)
     have i2 := (OB.step e9 t2 e5)
     have R9 := (Evo.thenW i0 (Step.evo t2) (Wr.of e8.2.2))
     refine o_stB (o := 2) (v := (.slice m3 m4 m5)) [(.slice z4 d.kept.length z5), (.slice y9 u6.length v0), (.slice m3 m4 m5), (.int .i64 d.quota), (.int .i64 d.time), (.int .i64 d.inode), (.bool d.off), (.bool d.armed), (.int .i64 t5), (.slice z1 d.keep.length z2), (.int .i64 d.ops_)] rfl i2 (by kernel_rfl) (by kernel_rfl) Tryz.sizeOf28 rfl rfl rfl ?_
     intro H8 s2 P0
     refine ⟨fun h => absurd h (by decide), ?_⟩
     refine r_done (by kernel_rfl) ?_
     have P1 := (Evo.thenW R9 (Step.evo s2) i2.2.2)
     have i3 := (Old.step (Old.step (Old.step (Old.step (Old.step r9 z6) t1) v4) t2) s2)
     have p8 := (Sub.trans (Sub.trans (Sub.trans (Sub.trans (Sub.trans q8 (Step.up z6)) (Step.up t1)) (Step.up v4)) (Step.up t2)) (Step.up s2))
     have p9 := (News.step (News.step (News.step (News.step (News.step q9 z6) t1) v4) t2) s2)
     have g2 := (Sl.step (Sl.step (Sl.step (Sl.step (Sl.step t9 z6) t1) v4) t2) s2)
     have Z0 := (Sl.step (Sl.step (Sl.step (Sl.step (Sl.step k0 z6) t1) v4) t2) s2)
     have g3 := (Sl.step (Sl.step (Sl.step (Sl.step (Sl.step s1 z6) t1) v4) t2) s2)
     have P2 := (OS.step R8 s2 (Ap.symm i1))
     refine then_normal (q6 _ _ _ ⟨[], fit_mk (fun _ _ => rfl) (by kernel_rfl) vs_nil, ?_⟩)
     exact ⟨R7, (d.wait ++ ([o])), m3, m4, m5, rfl, P1, i3, p8, p9, g2, Z0, g3, P2, P0, (Ap.symm i1), hp⟩
    ·
     have P3 := (OB.step0 r1 z6)
     have i4 := (Evo.then0 r8 (Step.evo z6))
     refine o_rowX (R := r_rectolaw5_op) [(.int .i64 o.kind), (.string o.f.path), (.string o.f.data), (.int .i64 o.f.mode), (.int .i64 o.f.time), (.int .i64 o.f.inode), (.string o.from_), (.string o.to_)] [o] 93 1 (X := e0) (B := w.heap.size) i4.size rfl (by kernel_rfl) (Flat.cons (cs := [(.int .i64 o.kind), (.string o.f.path), (.string o.f.data), (.int .i64 o.f.mode), (.int .i64 o.f.time), (.int .i64 o.f.inode), (.string o.from_), (.string o.to_)]) (r_rectolaw5_op_mk v8 y1 y2 y3 y4 z8 z9 v9) Flat.nil) rfl (by decide) ?_
     intro H9 G0 P4 y7 P5 i5
     have J8 := new_of (Nat.le_trans (Nat.le_of_eq z3.symm) (RB.size s6)) i5
     have rm := RB.mono (F' := []) (Step.evo y7) (Nat.le_trans (Nat.le_of_eq z3.symm) (RB.size s6)) (fun _ h => by cases h)
     have k4 := RB.trans s6 rm
     refine ⟨fun _ => rm, ?_⟩
     have P6 := i5 _ (OS.old k1)
     refine r_ready [6] (by kernel_rfl) rfl (all_cons ⟨_, _, _, _, _, _, rfl, ?_⟩ all_nil)
     obtain ⟨P7, hp⟩ := hp
     have g4 := (Sl.step (Sl.step s0 z6) y7)
     have i6 := (OS.step0 k1 y7)
     have i7 := (OB.step0 P3 y7)
     have i9 := (Evo.then0 i4 (Step.evo y7))
     refine o_appX (R := r_rectolaw5_op) (X := P4) (B := w.heap.size) (L := ([] : List S_rectolaw5_op)) (M := d.wait) rfl elT28 rfl i9.size i6 (Sl.src g4) rfl (by kernel_rfl) (by kernel_rfl) (by simpa using P7) ?_
     intro G1 G2 G3 G4 P8 v5 m6 o4
     have rm := RB.mono (F' := []) (Step.evo v5) (Nat.le_trans (Nat.le_of_eq z3.symm) (RB.size k4)) (fun x hx => .inr (r3 x hx))
     have o5 := new_app (Nat.le_trans (Nat.le_of_eq z3.symm) (RB.size k4)) r3 o4
     have o6 := RB.trans k4 rm
     refine ⟨fun _ => rm, ?_⟩
     rw [List.nil_append] at m6
     have h0 := o4 _ k2 (OB.old i7)
     refine r_ready [9] (by kernel_rfl) rfl (all_cons ⟨_, _, _, _, _, _, rfl, ?_⟩ all_nil)
     obtain ⟨P9, hp⟩ := hp
     have h1 := (OS.step P5 v5 (Ap.symm P6))
     have h2 := (OB.step i7 v5 k2)
     have h3 := (Evo.thenW i9 (Step.evo v5) (Wr.of i6.2.2))
     refine o_appX (R := r_rectolaw5_op) (X := P8) (B := w.heap.size) (L := d.wait) (M := [o]) rfl elT28 rfl h3.size m6 (OS.src h1) h1.1 (by kernel_rfl) (by kernel_rfl) P9 ?_
     intro m7 m8 m9 G5 N0 t3 N1 o7
     have rm := RB.mono (F' := []) (Step.evo t3) (Nat.le_trans (Nat.le_of_eq z3.symm) (RB.size o6)) (fun x hx => .inr (o5 x hx))
     have J9 := new_app (Nat.le_trans (Nat.le_of_eq z3.symm) (RB.size o6)) o5 o7
     refine ⟨fun _ => rm, ?_⟩
     have h4 := o7 _ h0 (OB.old h2)
     refine r_take 10 (.pointer (some ⟨z0, 0, none⟩)) (RB.pre _ _) rfl (by kernel_rfl) (fun _ _ _ h => hQ.panic _ _ _ _ _ h) (.inl ⟨rfl, fun wq hq => (by kernel_rfl)⟩) ?_
     refine r_take 11 (.pointer (some ⟨z0, 2, none⟩)) (RB.pre _ _) rfl (by kernel_rfl) (fun _ _ _ h => hQ.panic _ _ _ _ _ h) (.inl ⟨rfl, fun wq hq => (by kernel_rfl)⟩) ?_
     refine r_ready [12] (by kernel_rfl) rfl (all_cons ⟨_, _, _, _, _, _, rfl, ?_⟩ all_nil)
     have h5 := (OB.step h2 t3 h0)
     have N2 := (Evo.thenW h3 (Step.evo t3) (Wr.of m6.2.2))
     refine o_stB (o := 2) (v := (.slice m7 m8 m9)) [(.slice z4 d.kept.length z5), (.slice y9 u6.length v0), (.slice m7 m8 m9), (.int .i64 d.quota), (.int .i64 d.time), (.int .i64 d.inode), (.bool d.off), (.bool d.armed), (.int .i64 t5), (.slice z1 d.keep.length z2), (.int .i64 d.ops_)] rfl h5 (by kernel_rfl) (by kernel_rfl) Tryz.sizeOf28 rfl rfl rfl ?_
     intro G6 s3 N3
     refine ⟨fun h => absurd h (by decide), ?_⟩
     refine r_done (by kernel_rfl) ?_
     have N4 := (Evo.thenW N2 (Step.evo s3) h5.2.2)
     have h6 := (Old.step (Old.step (Old.step (Old.step (Old.step r9 z6) y7) v5) t3) s3)
     have Z1 := (Sub.trans (Sub.trans (Sub.trans (Sub.trans (Sub.trans q8 (Step.up z6)) (Step.up y7)) (Step.up v5)) (Step.up t3)) (Step.up s3))
     have Z2 := (News.step (News.step (News.step (News.step (News.step q9 z6) y7) v5) t3) s3)
     have g5 := (Sl.step (Sl.step (Sl.step (Sl.step (Sl.step t9 z6) y7) v5) t3) s3)
     have Z3 := (Sl.step (Sl.step (Sl.step (Sl.step (Sl.step k0 z6) y7) v5) t3) s3)
     have g6 := (Sl.step (Sl.step (Sl.step (Sl.step (Sl.step s1 z6) y7) v5) t3) s3)
     have N5 := (OS.step N1 s3 (Ap.symm h4))
     refine then_normal (q6 _ _ _ ⟨[], fit_mk (fun _ _ => rfl) (by kernel_rfl) vs_nil, ?_⟩)
     exact ⟨N0, (d.wait ++ ([o])), m7, m8, m9, rfl, N4, h6, Z1, Z2, g5, Z3, g6, N5, N3, (Ap.symm h4), hp⟩
   ·
    refine o_rowX (R := r_rectolaw5_op) [(.int .i64 o.kind), (.string o.f.path), (.string o.f.data), (.int .i64 o.f.mode), (.int .i64 o.f.time), (.int .i64 o.f.inode), (.string o.from_), (.string o.to_)] [o] 93 1 (X := y0) (B := w.heap.size) r8.size rfl (by kernel_rfl) (Flat.cons (cs := [(.int .i64 o.kind), (.string o.f.path), (.string o.f.data), (.int .i64 o.f.mode), (.int .i64 o.f.time), (.int .i64 o.f.inode), (.string o.from_), (.string o.to_)]) (r_rectolaw5_op_mk v8 y1 y2 y3 y4 z8 z9 v9) Flat.nil) rfl (by decide) ?_
    intro G7 G8 N6 v6 h7 N7
    have I0 := new_of (Nat.le_trans (Nat.le_of_eq z3.symm) (RB.size v1)) N7
    have rm := RB.mono (F' := []) (Step.evo v6) (Nat.le_trans (Nat.le_of_eq z3.symm) (RB.size v1)) (fun _ h => by cases h)
    have k5 := RB.trans v1 rm
    refine ⟨fun _ => rm, ?_⟩
    refine r_ready [1] (by kernel_rfl) rfl (all_cons ⟨_, _, _, _, _, _, rfl, ?_⟩ all_nil)
    have h8 := (OB.step0 r1 v6)
    have h9 := (Evo.then0 r8 (Step.evo v6))
    refine o_rowX (R := r_rectolaw5_op) [] ([] : List S_rectolaw5_op) 93 0 (X := N6) (B := w.heap.size) h9.size rfl (by kernel_rfl) Flat.nil rfl (by decide) ?_
    intro G9 D0 N8 y8 b0 n0
    have o8 := new_of (Nat.le_trans (Nat.le_of_eq z3.symm) (RB.size k5)) n0
    have rm := RB.mono (F' := []) (Step.evo y8) (Nat.le_trans (Nat.le_of_eq z3.symm) (RB.size k5)) (fun _ h => by cases h)
    have k6 := RB.trans k5 rm
    refine ⟨fun _ => rm, ?_⟩
    have b1 := n0 _ (OB.old h8)
    have N9 := n0 _ (OS.old h7)
    refine r_ready [6] (by kernel_rfl) rfl (all_cons ⟨_, _, _, _, _, _, rfl, ?_⟩ all_nil)
    obtain ⟨M0, hp⟩ := hp
    have g7 := (Sl.step (Sl.step s0 v6) y8)
    have b2 := (OB.step0 h8 y8)
    have M1 := (OS.step0 h7 y8)
    have b3 := (Evo.then0 h9 (Step.evo y8))
    refine o_appX (R := r_rectolaw5_op) (X := N8) (B := w.heap.size) (L := ([] : List S_rectolaw5_op)) (M := d.wait) rfl elT28 rfl b3.size b0 (Sl.src g7) rfl (by kernel_rfl) (by kernel_rfl) (by simpa using M0) ?_
    intro D1 D2 D3 D4 M2 v7 n1 o9
    have rm := RB.mono (F' := []) (Step.evo v7) (Nat.le_trans (Nat.le_of_eq z3.symm) (RB.size k6)) (fun x hx => .inr (o8 x hx))
    have c0 := new_app (Nat.le_trans (Nat.le_of_eq z3.symm) (RB.size k6)) o8 o9
    have c1 := RB.trans k6 rm
    refine ⟨fun _ => rm, ?_⟩
    rw [List.nil_append] at n1
    have b4 := o9 _ b1 (OB.old b2)
    refine r_ready [9] (by kernel_rfl) rfl (all_cons ⟨_, _, _, _, _, _, rfl, ?_⟩ all_nil)
    obtain ⟨M3, hp⟩ := hp
    have b5 := (OS.step M1 v7 N9)
    have b6 := (OB.step b2 v7 b1)
    have b7 := (Evo.thenW b3 (Step.evo v7) (Wr.of b0.2.2))
    refine o_appX (R := r_rectolaw5_op) (X := M2) (B := w.heap.size) (L := d.wait) (M := [o]) rfl elT28 rfl b7.size n1 (OS.src b5) b5.1 (by kernel_rfl) (by kernel_rfl) M3 ?_
    intro n2 n3 n4 D5 M4 t4 M5 c2
    have rm := RB.mono (F' := []) (Step.evo t4) (Nat.le_trans (Nat.le_of_eq z3.symm) (RB.size c1)) (fun x hx => .inr (c0 x hx))
    have I1 := new_app (Nat.le_trans (Nat.le_of_eq z3.symm) (RB.size c1)) c0 c2
    refine ⟨fun _ => rm, ?_⟩
    have b8 := c2 _ b4 (OB.old b6)
    refine r_take 10 (.pointer (some ⟨z0, 0, none⟩)) (RB.pre _ _) rfl (by kernel_rfl) (fun _ _ _ h => hQ.panic _ _ _ _ _ h) (.inl ⟨rfl, fun wq hq => (by kernel_rfl)⟩) ?_
    refine r_take 11 (.pointer (some ⟨z0, 2, none⟩)) (RB.pre _ _) rfl (by kernel_rfl) (fun _ _ _ h => hQ.panic _ _ _ _ _ h) (.inl ⟨rfl, fun wq hq => (by kernel_rfl)⟩) ?_
    refine r_ready [12] (by kernel_rfl) rfl (all_cons ⟨_, _, _, _, _, _, rfl, ?_⟩ all_nil)
    have b9 := (OB.step b6 t4 b4)
    have M6 := (Evo.thenW b7 (Step.evo t4) (Wr.of n1.2.2))
    refine o_stB (o := 2) (v := (.slice n2 n3 n4)) [(.slice z4 d.kept.length z5), (.slice y9 u6.length v0), (.slice n2 n3 n4), (.int .i64 d.quota), (.int .i64 d.time), (.int .i64 d.inode), (.bool d.off), (.bool d.armed), (.int .i64 t5), (.slice z1 d.keep.length z2), (.int .i64 d.ops_)] rfl b9 (by kernel_rfl) (by kernel_rfl) Tryz.sizeOf28 rfl rfl rfl ?_
    intro D6 s4 M7
    refine ⟨fun h => absurd h (by decide), ?_⟩
    refine r_done (by kernel_rfl) ?_
    have M8 := (Evo.thenW M6 (Step.evo s4) b9.2.2)
    have f0 := (Old.step (Old.step (Old.step (Old.step (Old.step r9 v6) y8) v7) t4) s4)
    have Z4 := (Sub.trans (Sub.trans (Sub.trans (Sub.trans (Sub.trans q8 (Step.up v6)) (Step.up y8)) (Step.up v7)) (Step.up t4)) (Step.up s4))
    have Z5 := (News.step (News.step (News.step (News.step (News.step q9 v6) y8) v7) t4) s4)
    have g8 := (Sl.step (Sl.step (Sl.step (Sl.step (Sl.step t9 v6) y8) v7) t4) s4)
    have Z6 := (Sl.step (Sl.step (Sl.step (Sl.step (Sl.step k0 v6) y8) v7) t4) s4)
    have g9 := (Sl.step (Sl.step (Sl.step (Sl.step (Sl.step s1 v6) y8) v7) t4) s4)
    have M9 := (OS.step M5 s4 (Ap.symm b8))
    refine then_normal (q6 _ _ _ ⟨[], fit_mk (fun _ _ => rfl) (by kernel_rfl) vs_nil, ?_⟩)
    exact ⟨M4, (d.wait ++ ([o])), n2, n3, n4, rfl, M8, f0, Z4, Z5, g8, Z6, g9, M9, M7, (Ap.symm b8), hp⟩
  ·
   rintro _ u9 D7 ⟨t0, r0, r6, r7, q5, rfl, L0, J3, Z7, Z8, d0, Z9, d1, f1, n5, f2, Y0⟩
   replace hp := p7 r0 Y0 (OS.len f1)
   refine then_normal (T5 _ _ _ _ ?_)
   refine seq_ (fun _ L1 => ?_)
   refine reg_ ?_
   refine sq (o_pv (.pointer (some ⟨z0, 0, none⟩)) rfl (by kernel_rfl) ?_)
   refine sq (o_pv (.pointer (some ⟨z0, 0, none⟩)) rfl (by kernel_rfl) ?_)
   refine sq (o_pv (.pointer (some ⟨z0, 10, none⟩)) rfl (by kernel_rfl) ?_)
   refine sq (o_pv (.int .i64 d.ops_) rfl (x_load1 (by kernel_rfl) Tryz.isAgg3 (n5.2.1.cell' 10 rfl)) ?_)
   obtain ⟨f3, hp⟩ := hp
   refine sq (o_pv (.int .i64 (d.ops_ + (1 : Int))) rfl (x_add2 (k := .i64) (a := d.ops_) (b := (1 : Int)) (d.ops_ + (1 : Int)) (by kernel_rfl) (by kernel_rfl) (wrap_inR f3)) ?_)
   refine sq (o_pv (.pointer (some ⟨z0, 0, none⟩)) rfl (by kernel_rfl) ?_)
   refine sq (o_pv (.pointer (some ⟨z0, 10, none⟩)) rfl (by kernel_rfl) ?_)
   refine sq (o_stB (o := 10) (v := (.int .i64 (d.ops_ + (1 : Int)))) [(.slice z4 d.kept.length z5), (.slice y9 u6.length v0), (.slice r6 r7 q5), (.int .i64 d.quota), (.int .i64 d.time), (.int .i64 d.inode), (.bool d.off), (.bool d.armed), (.int .i64 t5), (.slice z1 d.keep.length z2), (.int .i64 (d.ops_ + (1 : Int)))] rfl n5 (by kernel_rfl) (by kernel_rfl) Tryz.sizeOf3 rfl rfl rfl ?_)
   intro D8 s9 f4
   refine nil_ ?_
   refine then_normal (L1 _ _ _ _ ?_)
   refine seq_ (fun _ L2 => ?_)
   refine reg_ ?_
   refine sq (o_pv (.int .i64 (0 : Int)) rfl (by kernel_rfl) ?_)
   refine nil_ ?_
   refine then_normal (L2 _ _ _ _ ?_)
   refine wp_ret ?_
   have n6 := (OS.step f1 s9 f2)
   have Y1 := (Sub.trans Z7 (Step.up s9))
   have L3 := (Evo.thenW L0 (Step.evo s9) n5.2.2)
   have Y2 := (News.step Z8 s9)
   have d2 := (Sl.step d0 s9)
   have Y3 := (Sl.step Z9 s9)
   have d3 := (Sl.step d1 s9)
   have Y4 := OS.apold n6 Y8
   obtain ⟨L4, k7, L5, c3⟩ := OS.release n6
   obtain rfl : r7 = r0.length := n6.1
   have L6 := L3
   have Y5 := (c3 _ Y4 Y1)
   have Y6 := (News.less Y2 k7)
   have d4 := (Sl.less d2 k7)
   have Y7 := (Sl.less Y3 k7)
   have d5 := (Sl.less d3 k7)
   have L7 := (OB.less f4 (c3 _ (Ap.symm f2) (OB.mem f4)))
   obtain ⟨L8, L9, I2⟩ := MO.pack (o_rectolaw5_Disk_mk L7 d4 rfl Y7 rfl L5 rfl t6 s8 t7 a4 d5 rfl f3)
   refine end_ret hQ (.int .i64 (0 : Int)) (by kernel_rfl) ?_
   exact ⟨(S_rectolaw5_Disk.mk d.kept u6 r0 d.quota d.time d.inode d.off d.armed t5 d.keep (d.ops_ + (1 : Int))), (0 : Int), hp, L4, L8, step_of L6 Y9 Y5 Y6, rfl, L9, (by decide : inR .i64 (0 : Int))⟩
def simfs_FS_Rename_p (f_ : S_simfs_FS) (from_ : ByteArray) (to_ : ByteArray) (Q : S_simfs_FS → Int → Prop) : Prop :=
 ((from_.size ≤ maxLen) → ((to_.size ≤ maxLen) → ((f_.pending.length ≤ 9223372036854775807) → ((inR .i64 f_.quota) → ((inR .i64 f_.now) → ((inR .i64 f_.inodes) → ((inR .i64 f_.ops_) → ((inR .i64 f_.left) → ((f_.keep.length ≤ 9223372036854775807) → (((f_.off = true) → Q f_ (13 : Int)) ∧ ((f_.off = false) → ((inR .i64 ((mgetD f_.files from_).mode)) → ((inR .i64 ((mgetD f_.files from_).time)) → ((inR .i64 ((mgetD f_.files from_).inode)) → ((((mgetD f_.files from_).b).length ≤ 9223372036854775807) → ((((!(mhas f_.files from_)) = true) → Q f_ (5 : Int)) ∧ (((!(mhas f_.files from_)) = false) → (path_Check_p to_ (fun (z0 : Int) => ((inR .i64 z0) → (((¬ (z0 = (0 : Int))) → Q f_ z0) ∧ ((z0 = (0 : Int)) → (simfs_clash_p f_.files to_ from_ (fun (z2 : Bool) => (((z2 = true) → Q f_ (11 : Int)) ∧ ((z2 = false) → ((((from_ : ByteArray) = to_) → Q f_ (0 : Int)) ∧ ((¬ ((from_ : ByteArray) = to_)) → (simfs_FS_trips_p f_ (fun (z1 : S_simfs_FS) (z3 : Bool) => (((z3 = true) → Q z1 (13 : Int)) ∧ ((z3 = false) → (simfs_FS_do_p z1 (S_simfs_op.mk (2 : Int) from_ to_ (S_simfs_file.mk (0 : Int) (0 : Int) (0 : Int) ([] : List Int))) (fun (z4 : S_simfs_FS) => Q z4 (0 : Int)))))))))))))))))))))))))))))))))))
set_option maxRecDepth 20000 in
set_option maxHeartbeats 4000000 in
theorem simfs_FS_Rename_w {X : List Nat} {w : World} {f_ : S_simfs_FS} {from_ : ByteArray} {to_ : ByteArray} {z4 : Nat} {v0 : List Nat} {Q : S_simfs_FS → Int → Prop} (n4 : Old X w) (q3 : MO o_simfs_FS 78 v0 w.heap.size X w v0 z4 f_) (v1 : from_.size ≤ maxLen) (v3 : to_.size ≤ maxLen) (hp : simfs_FS_Rename_p f_ from_ to_ Q) :
  Calls Tryz.prog 42 #[(.pointer (some ⟨z4, 0, none⟩)), (.string from_), (.string to_)] w (Ret fun v w' => ∃ (n5 : S_simfs_FS) (g3 : Int), Q n5 g3 ∧ ∃ (X' : List Nat) (n6 : List Nat), Step X w v0 X' w' ∧ v = (.int .i64 g3) ∧ MO o_simfs_FS 78 v0 w.heap.size X' w' n6 z4 n5 ∧ inR .i64 g3) := by
 have hXo := n4
 have E0 : Evo v0 w w := RB.refl _ _ _
 have hS : Sub X X := Sub.refl _
 have hN : News X w X w := News.refl _ _
 have v4 : Sub v0 X := MO.mem q3
 unfold simfs_FS_Rename_p at hp
 refine enter_ Tryz.func42 rfl 47 [(0, (.pointer (some ⟨z4, 0, none⟩))), (1, (.string from_)), (2, (.string to_))] (by kernel_rfl) (fun Qe hQ => ?_)
 replace hp := hp v1
 replace hp := hp v3
 refine seq_ (fun _ c9 => ?_)
 refine reg_ ?_
 refine sq (o_pv (.int .i64 (0 : Int)) rfl (by kernel_rfl) ?_)
 refine nil_ ?_
 refine then_normal (c9 _ _ _ _ ?_)
 refine seq_ (fun _ a0 => ?_)
 refine seq_ (fun _ a1 => ?_)
 refine reg_ ?_
 refine sq (o_pv (.pointer (some ⟨z4, 0, none⟩)) rfl (by kernel_rfl) ?_)
 refine sq (o_pv (.pointer (some ⟨z4, 0, none⟩)) rfl (by kernel_rfl) ?_)
 obtain ⟨n3, y4, a2, a3, a4, g4, g5, t4, y8, y3, u4, z5, y0, z2, z7, z8, z9, a5, a6, a7, a8, v7, v8, v9, u0, u1, u2⟩ := o_simfs_FS_open q3
 replace hp := hp (OS.len u4)
 replace hp := hp z5
 replace hp := hp y0
 replace hp := hp z2
 replace hp := hp z7
 replace hp := hp z8
 replace hp := hp (Sl.len z9)
 refine sq (o_pv (.pointer (some ⟨z4, 7, none⟩)) rfl (by kernel_rfl) ?_)
 refine sq (o_pv (.bool f_.off) rfl (x_load1 (by kernel_rfl) Tryz.isAgg4 (t4.2.1.cell' 7 rfl)) ?_)
 refine nil_ ?_
 refine then_normal (a1 _ _ _ _ ?_)
 refine cond_b f_.off (by kernel_rfl) (fun q4 => ?_) (fun q4 => ?_)
 ·
  replace hp := hp.1 q4
  refine seq_ (fun _ n7 => ?_)
  refine reg_ ?_
  refine sq (o_pv (.int .i64 (13 : Int)) rfl (by kernel_rfl) ?_)
  refine nil_ ?_
  refine then_normal (n7 _ _ _ _ ?_)
  refine wp_ret ?_
  refine then_ret ?_
  obtain ⟨n8, n9, a9⟩ := MO.pack (o_simfs_FS_mk t4 y8 y3 u4 z5 y0 z2 z7 z8 z9 rfl v7 v8 v9 u0 u1 u2)
  refine end_ret hQ (.int .i64 (13 : Int)) (by kernel_rfl) ?_
  exact ⟨f_, (13 : Int), hp, X, n8, step_of E0 v4 hS hN, rfl, n9, (by decide : inR .i64 (13 : Int))⟩
 ·
  replace hp := hp.2 q4
  refine wp_skip ?_
  refine then_normal (a0 _ _ _ _ ?_)
  refine seq_ (fun _ o0 => ?_)
  refine seq_ (fun _ o3 => ?_)
  refine reg_ ?_
  refine sq (o_pv (.pointer (some ⟨z4, 0, none⟩)) rfl (by kernel_rfl) ?_)
  refine sq (o_pv (.pointer (some ⟨z4, 0, none⟩)) rfl (by kernel_rfl) ?_)
  refine sq (o_pv (.pointer (some ⟨z4, 1, none⟩)) rfl (by kernel_rfl) ?_)
  refine sq (o_pv (.map (some y4)) rfl (x_load1 (by kernel_rfl) Tryz.isAgg75 (t4.2.1.cell' 1 rfl)) ?_)
  refine sq (o_pv (.string from_) rfl (by kernel_rfl) ?_)
  obtain ⟨e0, g6, g7⟩ := MapAt.look y3.2.1 from_ [(.int .i64 (0 : Int)), (.int .i64 (0 : Int)), (.int .i64 (0 : Int)), (.slice none 0 0)] (fun _ _ => (r_simfs_file_mk (by decide : inR .i64 (0 : Int)) (by decide : inR .i64 (0 : Int)) (by decide : inR .i64 (0 : Int)) (Sl.nil) rfl))
  obtain ⟨y6, y7, rfl, r0, r1, t5, k6⟩ := r_simfs_file_open g6
  replace hp := hp r0
  replace hp := hp r1
  replace hp := hp t5
  replace hp := hp (Sl.len k6)
  refine sq (o_pv (.tuple #[(.agg #[(.int .i64 ((mgetD f_.files from_).mode)), (.int .i64 ((mgetD f_.files from_).time)), (.int .i64 ((mgetD f_.files from_).inode)), (.slice y6 (((mgetD f_.files from_).b).length) y7)]), (.bool (mhas f_.files from_))]) rfl (x_lookup2 (w0 := w) (k := from_) (v := (.agg #[(.int .i64 ((mgetD f_.files from_).mode)), (.int .i64 ((mgetD f_.files from_).time)), (.int .i64 ((mgetD f_.files from_).inode)), (.slice y6 (((mgetD f_.files from_).b).length) y7)])) (z := (.agg #[(.int .i64 (0 : Int)), (.int .i64 (0 : Int)), (.int .i64 (0 : Int)), (.slice none 0 0)])) (b := mhas f_.files from_) (s := 4) (bts := 48) (by kernel_rfl) (by kernel_rfl) g7 rfl Tryz.underlying75 Tryz.underlying9 (by kernel_rfl)) ?_)
  refine sq (o_pv (.tuple #[(.agg #[(.int .i64 ((mgetD f_.files from_).mode)), (.int .i64 ((mgetD f_.files from_).time)), (.int .i64 ((mgetD f_.files from_).inode)), (.slice y6 (((mgetD f_.files from_).b).length) y7)]), (.bool (mhas f_.files from_))]) rfl (by kernel_rfl) ?_)
  refine sq (o_pv (.agg #[(.int .i64 ((mgetD f_.files from_).mode)), (.int .i64 ((mgetD f_.files from_).time)), (.int .i64 ((mgetD f_.files from_).inode)), (.slice y6 (((mgetD f_.files from_).b).length) y7)]) rfl (by kernel_rfl) ?_)
  refine sq (o_pv (.bool (mhas f_.files from_)) rfl (by kernel_rfl) ?_)
  refine sq (o_newX [(.int .i64 (0 : Int)), (.int .i64 (0 : Int)), (.int .i64 (0 : Int)), (.slice none 0 0)] 81 (X := X) (B := w.heap.size) E0.size rfl (by kernel_rfl) ?_)
  intro e6 e7 v5 z6 u3 r9
  have q5 := r9 _ (OB.old t4)
  have t6 := r9 _ (OM.old y8)
  have q6 := r9 _ (OM.old y3)
  have t7 := r9 _ (OS.old u4)
  have q7 := (OB.step0 t4 z6)
  have y2 := (OM.step0 y8 z6)
  have y5 := (OM.step0 y3 z6)
  have v6 := (OS.step0 u4 z6)
  have t8 := (Evo.then0 E0 (Step.evo z6))
  refine sq (o_stB (o := 0) (v := (.agg #[(.int .i64 ((mgetD f_.files from_).mode)), (.int .i64 ((mgetD f_.files from_).time)), (.int .i64 ((mgetD f_.files from_).inode)), (.slice y6 (((mgetD f_.files from_).b).length) y7)])) [(.int .i64 ((mgetD f_.files from_).mode)), (.int .i64 ((mgetD f_.files from_).time)), (.int .i64 ((mgetD f_.files from_).inode)), (.slice y6 (((mgetD f_.files from_).b).length) y7)] rfl u3 (by kernel_rfl) (by kernel_rfl) Tryz.sizeOf81 rfl rfl rfl ?_)
  intro e8 z0 e9
  refine sq (o_pv (.bool (mhas f_.files from_)) rfl (by kernel_rfl) ?_)
  refine nil_ ?_
  refine then_normal (o3 _ _ _ _ ?_)
  refine seq_ (fun _ o4 => ?_)
  refine reg_ ?_
  refine sq (o_pv (.bool (mhas f_.files from_)) rfl (by kernel_rfl) ?_)
  refine sq (o_pv (.bool (!(mhas f_.files from_))) rfl (by kernel_rfl) ?_)
  refine nil_ ?_
  refine then_normal (o4 _ _ _ _ ?_)
  refine cond_b (!(mhas f_.files from_)) (by kernel_rfl) (fun q8 => ?_) (fun q8 => ?_)
  ·
   replace hp := hp.1 q8
   refine seq_ (fun _ o5 => ?_)
   refine reg_ ?_
   refine sq (o_pv (.int .i64 (5 : Int)) rfl (by kernel_rfl) ?_)
   refine nil_ ?_
   refine then_normal (o5 _ _ _ _ ?_)
   refine wp_ret ?_
   refine then_ret ?_
   have o6 := (Evo.thenW t8 (Step.evo z0) (Wr.of u3.2.2))
   have g8 := (Sub.trans (Sub.trans hS (Step.up z6)) (Step.up z0))
   have g9 := (News.step (News.step hN z6) z0)
   have o7 := (OB.step q7 z0 q5)
   have r2 := (OM.step y2 z0 t6)
   have t9 := (OM.step y5 z0 q6)
   have d0 := (OS.step v6 z0 t7)
   have r3 := (Sl.step (Sl.step z9 z6) z0)
   obtain ⟨o8, o9, e1⟩ := MO.pack (o_simfs_FS_mk o7 r2 t9 d0 z5 y0 z2 z7 z8 r3 rfl v7 v8 v9 u0 u1 u2)
   refine end_ret hQ (.int .i64 (5 : Int)) (by kernel_rfl) ?_
   exact ⟨f_, (5 : Int), hp, v5, o8, step_of o6 v4 g8 g9, rfl, o9, (by decide : inR .i64 (5 : Int))⟩
  ·
   replace hp := hp.2 q8
   refine wp_skip ?_
   refine then_normal (o0 _ _ _ _ ?_)
   refine seq_ (fun _ c0 => ?_)
   refine seq_ (fun _ c1 => ?_)
   refine reg_ ?_
   refine sq (o_pv (.string to_) rfl (by kernel_rfl) ?_)
   refine sq (o_call 82 #[(.string to_)] rfl (x_call Tryz.call82 (by kernel_rfl)) (path_Check_w (X := []) (p := to_) (Old.nil _) v3 hp) ?_)
   rintro _ i0 ⟨v2, hp, s0, rfl, q9⟩
   have z3 := Step.of0 v5 s0
   replace hp := hp q9
   refine sq (o_pv (.int .i64 v2) rfl (by kernel_rfl) ?_)
   refine nil_ ?_
   refine then_normal (c1 _ _ _ _ ?_)
   refine seq_ (fun _ c2 => ?_)
   refine reg_ ?_
   refine sq (o_pv (.int .i64 v2) rfl (by kernel_rfl) ?_)
   refine sq (o_pv (.bool (!decide (v2 = (0 : Int)))) rfl (by kernel_rfl) ?_)
   refine nil_ ?_
   refine then_normal (c2 _ _ _ _ ?_)
   refine cond_nd (v2 = (0 : Int)) (by kernel_rfl) (fun k0 => ?_) (fun k0 => ?_)
   ·
    replace hp := hp.1 k0
    refine seq_ (fun _ c3 => ?_)
    refine reg_ ?_
    refine sq (o_pv (.int .i64 v2) rfl (by kernel_rfl) ?_)
    refine sq (o_pv (.int .i64 v2) rfl (by kernel_rfl) ?_)
    refine nil_ ?_
    refine then_normal (c3 _ _ _ _ ?_)
    refine wp_ret ?_
    refine then_ret ?_
    have c4 := (Evo.then0 (Evo.thenW t8 (Step.evo z0) (Wr.of u3.2.2)) s0)
    have d1 := (Sub.trans (Sub.trans (Sub.trans hS (Step.up z6)) (Step.up z0)) (Step.up z3))
    have k7 := (News.step (News.step (News.step hN z6) z0) z3)
    have d2 := (OB.step0 (OB.step q7 z0 q5) z3)
    have s1 := (OM.step0 (OM.step y2 z0 t6) z3)
    have u5 := (OM.step0 (OM.step y5 z0 q6) z3)
    have k8 := (OS.step0 (OS.step v6 z0 t7) z3)
    have s2 := (Sl.step (Sl.step (Sl.step z9 z6) z0) z3)
    obtain ⟨d3, d4, c5⟩ := MO.pack (o_simfs_FS_mk d2 s1 u5 k8 z5 y0 z2 z7 z8 s2 rfl v7 v8 v9 u0 u1 u2)
    refine end_ret hQ (.int .i64 v2) (by kernel_rfl) ?_
    exact ⟨f_, v2, hp, v5, d3, step_of c4 v4 d1 k7, rfl, d4, q9⟩
   ·
    replace hp := hp.2 k0
    refine wp_skip ?_
    refine then_normal (c0 _ _ _ _ ?_)
    refine seq_ (fun _ d5 => ?_)
    refine seq_ (fun _ d6 => ?_)
    refine reg_ ?_
    refine sq (o_pv (.pointer (some ⟨z4, 0, none⟩)) rfl (by kernel_rfl) ?_)
    refine sq (o_pv (.pointer (some ⟨z4, 0, none⟩)) rfl (by kernel_rfl) ?_)
    refine sq (o_pv (.pointer (some ⟨z4, 1, none⟩)) rfl (by kernel_rfl) ?_)
    have u6 := (OB.step0 (OB.step q7 z0 q5) z3)
    refine sq (o_pv (.map (some y4)) rfl (x_load1 (by kernel_rfl) Tryz.isAgg75 (u6.2.1.cell' 1 rfl)) ?_)
    refine sq (o_pv (.string to_) rfl (by kernel_rfl) ?_)
    refine sq (o_pv (.string from_) rfl (by kernel_rfl) ?_)
    have y1 := (OM.step0 (OM.step y5 z0 q6) z3)
    refine sq (o_call 80 #[(.map (some y4)), (.string to_), (.string from_)] rfl (x_call Tryz.call80 (by kernel_rfl)) (simfs_clash_w (X := []) (l := f_.files) (p := to_) (but := from_) (Old.nil _) (OM.rm y1) v3 v1 hp) ?_)
    rintro _ e2 ⟨d7, hp, u7, rfl⟩
    have z1 := Step.of0 v5 u7
    refine nil_ ?_
    refine then_normal (d6 _ _ _ _ ?_)
    refine cond_b d7 (by kernel_rfl) (fun r4 => ?_) (fun r4 => ?_)
    ·
     replace hp := hp.1 r4
     refine seq_ (fun _ d8 => ?_)
     refine reg_ ?_
     refine sq (o_pv (.int .i64 (11 : Int)) rfl (by kernel_rfl) ?_)
     refine nil_ ?_
     refine then_normal (d8 _ _ _ _ ?_)
     refine wp_ret ?_
     refine then_ret ?_
     have d9 := (Evo.then0 (Evo.then0 (Evo.thenW t8 (Step.evo z0) (Wr.of u3.2.2)) s0) u7)
     have k9 := (Sub.trans (Sub.trans (Sub.trans (Sub.trans hS (Step.up z6)) (Step.up z0)) (Step.up z3)) (Step.up z1))
     have j0 := (News.step (News.step (News.step (News.step hN z6) z0) z3) z1)
     have l0 := (OB.step0 u6 z1)
     have s3 := (OM.step0 (OM.step0 (OM.step y2 z0 t6) z3) z1)
     have u9 := (OM.step0 y1 z1)
     have j1 := (OS.step0 (OS.step0 (OS.step v6 z0 t7) z3) z1)
     have s4 := (Sl.step (Sl.step (Sl.step (Sl.step z9 z6) z0) z3) z1)
     obtain ⟨l1, l2, c6⟩ := MO.pack (o_simfs_FS_mk l0 s3 u9 j1 z5 y0 z2 z7 z8 s4 rfl v7 v8 v9 u0 u1 u2)
     refine end_ret hQ (.int .i64 (11 : Int)) (by kernel_rfl) ?_
     exact ⟨f_, (11 : Int), hp, v5, l1, step_of d9 v4 k9 j0, rfl, l2, (by decide : inR .i64 (11 : Int))⟩
    ·
     replace hp := hp.2 r4
     refine wp_skip ?_
     refine then_normal (d5 _ _ _ _ ?_)
     refine seq_ (fun _ l3 => ?_)
     refine seq_ (fun _ l4 => ?_)
     refine reg_ ?_
     refine sq (o_pv (.string from_) rfl (by kernel_rfl) ?_)
     refine sq (o_pv (.string to_) rfl (by kernel_rfl) ?_)
     refine sq (o_pv (.bool (decide ((from_ : ByteArray) = to_))) rfl (x_streq (by kernel_rfl) (by kernel_rfl)) ?_)
     refine nil_ ?_
     refine then_normal (l4 _ _ _ _ ?_)
     refine cond_d ((from_ : ByteArray) = to_) (by kernel_rfl) (fun r5 => ?_) (fun r5 => ?_)
     ·
      replace hp := hp.1 r5
      refine seq_ (fun _ l5 => ?_)
      refine reg_ ?_
      refine sq (o_pv (.int .i64 (0 : Int)) rfl (by kernel_rfl) ?_)
      refine nil_ ?_
      refine then_normal (l5 _ _ _ _ ?_)
      refine wp_ret ?_
      refine then_ret ?_
      have l6 := (Evo.then0 (Evo.then0 (Evo.thenW t8 (Step.evo z0) (Wr.of u3.2.2)) s0) u7)
      have j2 := (Sub.trans (Sub.trans (Sub.trans (Sub.trans hS (Step.up z6)) (Step.up z0)) (Step.up z3)) (Step.up z1))
      have j3 := (News.step (News.step (News.step (News.step hN z6) z0) z3) z1)
      have l7 := (OB.step0 u6 z1)
      have s5 := (OM.step0 (OM.step0 (OM.step y2 z0 t6) z3) z1)
      have t0 := (OM.step0 y1 z1)
      have j4 := (OS.step0 (OS.step0 (OS.step v6 z0 t7) z3) z1)
      have s6 := (Sl.step (Sl.step (Sl.step (Sl.step z9 z6) z0) z3) z1)
      obtain ⟨l8, l9, c7⟩ := MO.pack (o_simfs_FS_mk l7 s5 t0 j4 z5 y0 z2 z7 z8 s6 rfl v7 v8 v9 u0 u1 u2)
      refine end_ret hQ (.int .i64 (0 : Int)) (by kernel_rfl) ?_
      exact ⟨f_, (0 : Int), hp, v5, l8, step_of l6 v4 j2 j3, rfl, l9, (by decide : inR .i64 (0 : Int))⟩
     ·
      replace hp := hp.2 r5
      refine wp_skip ?_
      refine then_normal (l3 _ _ _ _ ?_)
      refine seq_ (fun _ m0 => ?_)
      refine seq_ (fun _ m1 => ?_)
      refine reg_ ?_
      refine sq (o_pv (.pointer (some ⟨z4, 0, none⟩)) rfl (by kernel_rfl) ?_)
      have s7 := (Old.step (Old.step (Old.step (Old.step hXo z6) z0) z3) z1)
      have r6 := (Evo.then0 (Evo.then0 (Evo.thenW t8 (Step.evo z0) (Wr.of u3.2.2)) s0) u7)
      have q0 := (Sub.trans (Sub.trans (Sub.trans (Sub.trans hS (Step.up z6)) (Step.up z0)) (Step.up z3)) (Step.up z1))
      have q1 := (News.step (News.step (News.step (News.step hN z6) z0) z3) z1)
      have m2 := (OB.step0 u6 z1)
      have s8 := (OM.step0 (OM.step0 (OM.step y2 z0 t6) z3) z1)
      have t1 := (OM.step0 y1 z1)
      have j5 := (OS.step0 (OS.step0 (OS.step v6 z0 t7) z3) z1)
      have s9 := (Sl.step (Sl.step (Sl.step (Sl.step z9 z6) z0) z3) z1)
      obtain ⟨e3, t2, c8⟩ := MO.pack (o_simfs_FS_mk m2 s8 t1 j5 z5 y0 z2 z7 z8 s9 rfl v7 v8 v9 u0 u1 u2)
      refine sq (o_call 69 #[(.pointer (some ⟨z4, 0, none⟩))] rfl (x_call Tryz.call69 (by kernel_rfl)) (simfs_FS_trips_w (X := v5) (f_ := f_) s7 (MO.re t2 (Wr.self _ _ (Sub.refl _))) hp) ?_)
      rintro _ e4 ⟨q2, m3, hp, k1, m4, y9, rfl, k2⟩
      have t3 := MO.re k2 (Wr.trans k2.wr t2.wr r6.size)
      refine nil_ ?_
      refine then_normal (m1 _ _ _ _ ?_)
      refine cond_b m3 (by kernel_rfl) (fun r7 => ?_) (fun r7 => ?_)
      ·
       replace hp := hp.1 r7
       refine seq_ (fun _ m5 => ?_)
       refine reg_ ?_
       refine sq (o_pv (.int .i64 (13 : Int)) rfl (by kernel_rfl) ?_)
       refine nil_ ?_
       refine then_normal (m5 _ _ _ _ ?_)
       refine wp_ret ?_
       refine then_ret ?_
       have m6 := (Evo.thenW r6 (Step.evo y9) t2.wr)
       have j6 := (Sub.trans q0 (Step.up y9))
       have j7 := (News.step q1 y9)
       refine end_ret hQ (.int .i64 (13 : Int)) (by kernel_rfl) ?_
       exact ⟨q2, (13 : Int), hp, k1, m4, step_of m6 v4 j6 j7, rfl, t3, (by decide : inR .i64 (13 : Int))⟩
      ·
       replace hp := hp.2 r7
       refine wp_skip ?_
       refine then_normal (m0 _ _ _ _ ?_)
       refine seq_ (fun _ m7 => ?_)
       refine reg_ ?_
       refine sq (o_pv (.pointer (some ⟨z4, 0, none⟩)) rfl (by kernel_rfl) ?_)
       refine sq (o_pv (.string from_) rfl (by kernel_rfl) ?_)
       refine sq (o_pv (.string to_) rfl (by kernel_rfl) ?_)
       refine sq (o_pv (.agg #[(.int .i64 (2 : Int)), (.string from_), (.string to_), (.int .i64 (0 : Int)), (.int .i64 (0 : Int)), (.int .i64 (0 : Int)), (.slice none 0 0)]) rfl (by kernel_rfl) ?_)
       have k3 := (Old.step s7 y9)
       have k4 := (Evo.thenW r6 (Step.evo y9) t2.wr)
       have j8 := (Sub.trans q0 (Step.up y9))
       have j9 := (News.step q1 y9)
       refine sq (o_call 70 #[(.pointer (some ⟨z4, 0, none⟩)), (.agg #[(.int .i64 (2 : Int)), (.string from_), (.string to_), (.int .i64 (0 : Int)), (.int .i64 (0 : Int)), (.int .i64 (0 : Int)), (.slice none (([] : List Int)).length 0)])] rfl (x_call Tryz.call70 (by rw []; kernel_rfl)) (simfs_FS_do_w (X := k1) (f_ := q2) (o := (S_simfs_op.mk (2 : Int) from_ to_ (S_simfs_file.mk (0 : Int) (0 : Int) (0 : Int) ([] : List Int)))) k3 (MO.re t3 (Wr.self _ _ (Sub.refl _))) (by decide : inR .i64 (2 : Int)) v1 v3 (by decide : inR .i64 (0 : Int)) (by decide : inR .i64 (0 : Int)) (by decide : inR .i64 (0 : Int)) Sl.nil hp) ?_)
       rintro _ e5 ⟨g0, hp, m8, m9, r8, rfl, k5⟩
       have n0 := MO.re k5 (Wr.trans k5.wr t3.wr k4.size)
       refine nil_ ?_
       refine then_normal (m7 _ _ _ _ ?_)
       refine seq_ (fun _ n1 => ?_)
       refine reg_ ?_
       refine sq (o_pv (.int .i64 (0 : Int)) rfl (by kernel_rfl) ?_)
       refine nil_ ?_
       refine then_normal (n1 _ _ _ _ ?_)
       refine wp_ret ?_
       have n2 := (Evo.thenW k4 (Step.evo r8) t3.wr)
       have g1 := (Sub.trans j8 (Step.up r8))
       have g2 := (News.step j9 r8)
       refine end_ret hQ (.int .i64 (0 : Int)) (by kernel_rfl) ?_
       exact ⟨g0, (0 : Int), hp, m8, m9, step_of n2 v4 g1 g2, rfl, n0, (by decide : inR .i64 (0 : Int))⟩
def simfs_FS_Remove_p (f_ : S_simfs_FS) (p : ByteArray) (Q : S_simfs_FS → Int → Prop) : Prop :=
 ((p.size ≤ maxLen) → ((f_.pending.length ≤ 9223372036854775807) → ((inR .i64 f_.quota) → ((inR .i64 f_.now) → ((inR .i64 f_.inodes) → ((inR .i64 f_.ops_) → ((inR .i64 f_.left) → ((f_.keep.length ≤ 9223372036854775807) → ((inR .i64 ((mgetD f_.files p).mode)) → ((inR .i64 ((mgetD f_.files p).time)) → ((inR .i64 ((mgetD f_.files p).inode)) → ((((mgetD f_.files p).b).length ≤ 9223372036854775807) → (((f_.off = true) → Q f_ (13 : Int)) ∧ ((f_.off = false) → ((((!(mhas f_.files p)) = true) → Q f_ (5 : Int)) ∧ (((!(mhas f_.files p)) = false) → (simfs_FS_trips_p f_ (fun (z0 : S_simfs_FS) (z1 : Bool) => (((z1 = true) → Q z0 (13 : Int)) ∧ ((z1 = false) → (simfs_FS_do_p z0 (S_simfs_op.mk (3 : Int) p (ByteArray.mk #[]) (S_simfs_file.mk (0 : Int) (0 : Int) (0 : Int) ([] : List Int))) (fun (z2 : S_simfs_FS) => Q z2 (0 : Int)))))))))))))))))))))))
set_option maxRecDepth 20000 in
set_option maxHeartbeats 4000000 in
theorem simfs_FS_Remove_w {X : List Nat} {w : World} {f_ : S_simfs_FS} {p : ByteArray} {z1 : Nat} {y5 : List Nat} {Q : S_simfs_FS → Int → Prop} (j8 : Old X w) (t3 : MO o_simfs_FS 78 y5 w.heap.size X w y5 z1 f_) (q6 : p.size ≤ maxLen) (hp : simfs_FS_Remove_p f_ p Q) :
  Calls Tryz.prog 46 #[(.pointer (some ⟨z1, 0, none⟩)), (.string p)] w (Ret fun v w' => ∃ (j9 : S_simfs_FS) (q7 : Int), Q j9 q7 ∧ ∃ (X' : List Nat) (g0 : List Nat), Step X w y5 X' w' ∧ v = (.int .i64 q7) ∧ MO o_simfs_FS 78 y5 w.heap.size X' w' g0 z1 j9 ∧ inR .i64 q7) := by
 have hXo := j8
 have E0 : Evo y5 w w := RB.refl _ _ _
 have hS : Sub X X := Sub.refl _
 have hN : News X w X w := News.refl _ _
 have u6 : Sub y5 X := MO.mem t3
 unfold simfs_FS_Remove_p at hp
 refine enter_ Tryz.func46 rfl 31 [(0, (.pointer (some ⟨z1, 0, none⟩))), (1, (.string p))] (by kernel_rfl) (fun Qe hQ => ?_)
 replace hp := hp q6
 refine seq_ (fun _ d6 => ?_)
 refine reg_ ?_
 refine sq (o_pv (.int .i64 (0 : Int)) rfl (by kernel_rfl) ?_)
 refine nil_ ?_
 refine then_normal (d6 _ _ _ _ ?_)
 refine seq_ (fun _ d7 => ?_)
 refine reg_ ?_
 refine sq (o_pv (.pointer (some ⟨z1, 0, none⟩)) rfl (by kernel_rfl) ?_)
 refine sq (o_pv (.pointer (some ⟨z1, 0, none⟩)) rfl (by kernel_rfl) ?_)
 obtain ⟨j7, v5, d8, d9, l0, q8, q9, t4, y6, z8, v6, z4, y0, z2, z5, z6, z7, l1, l2, l3, l4, t5, t6, t7, t8, t9, s0⟩ := o_simfs_FS_open t3
 replace hp := hp (OS.len v6)
 replace hp := hp z4
 replace hp := hp y0
 replace hp := hp z2
 replace hp := hp z5
 replace hp := hp z6
 replace hp := hp (Sl.len z7)
 refine sq (o_pv (.pointer (some ⟨z1, 1, none⟩)) rfl (by kernel_rfl) ?_)
 refine sq (o_pv (.map (some v5)) rfl (x_load1 (by kernel_rfl) Tryz.isAgg75 (t4.2.1.cell' 1 rfl)) ?_)
 refine sq (o_pv (.string p) rfl (by kernel_rfl) ?_)
 obtain ⟨l5, k0, k1⟩ := MapAt.look z8.2.1 p [(.int .i64 (0 : Int)), (.int .i64 (0 : Int)), (.int .i64 (0 : Int)), (.slice none 0 0)] (fun _ _ => (r_simfs_file_mk (by decide : inR .i64 (0 : Int)) (by decide : inR .i64 (0 : Int)) (by decide : inR .i64 (0 : Int)) (Sl.nil) rfl))
 obtain ⟨y1, y2, rfl, v7, v8, v0, r7⟩ := r_simfs_file_open k0
 replace hp := hp v7
 replace hp := hp v8
 replace hp := hp v0
 replace hp := hp (Sl.len r7)
 refine sq (o_pv (.tuple #[(.agg #[(.int .i64 ((mgetD f_.files p).mode)), (.int .i64 ((mgetD f_.files p).time)), (.int .i64 ((mgetD f_.files p).inode)), (.slice y1 (((mgetD f_.files p).b).length) y2)]), (.bool (mhas f_.files p))]) rfl (x_lookup2 (w0 := w) (k := p) (v := (.agg #[(.int .i64 ((mgetD f_.files p).mode)), (.int .i64 ((mgetD f_.files p).time)), (.int .i64 ((mgetD f_.files p).inode)), (.slice y1 (((mgetD f_.files p).b).length) y2)])) (z := (.agg #[(.int .i64 (0 : Int)), (.int .i64 (0 : Int)), (.int .i64 (0 : Int)), (.slice none 0 0)])) (b := mhas f_.files p) (s := 4) (bts := 48) (by kernel_rfl) (by kernel_rfl) k1 rfl Tryz.underlying75 Tryz.underlying9 (by kernel_rfl)) ?_)
 refine sq (o_pv (.tuple #[(.agg #[(.int .i64 ((mgetD f_.files p).mode)), (.int .i64 ((mgetD f_.files p).time)), (.int .i64 ((mgetD f_.files p).inode)), (.slice y1 (((mgetD f_.files p).b).length) y2)]), (.bool (mhas f_.files p))]) rfl (by kernel_rfl) ?_)
 refine sq (o_pv (.agg #[(.int .i64 ((mgetD f_.files p).mode)), (.int .i64 ((mgetD f_.files p).time)), (.int .i64 ((mgetD f_.files p).inode)), (.slice y1 (((mgetD f_.files p).b).length) y2)]) rfl (by kernel_rfl) ?_)
 refine sq (o_pv (.bool (mhas f_.files p)) rfl (by kernel_rfl) ?_)
 refine sq (o_newX [(.int .i64 (0 : Int)), (.int .i64 (0 : Int)), (.int .i64 (0 : Int)), (.slice none 0 0)] 81 (X := X) (B := w.heap.size) E0.size rfl (by kernel_rfl) ?_)
 intro m1 m2 s1 z3 u7 u9
 have g1 := u9 _ (OB.old t4)
 have s2 := u9 _ (OM.old y6)
 have s3 := u9 _ (OM.old z8)
 have s4 := u9 _ (OS.old v6)
 have g2 := (OB.step0 t4 z3)
 have y3 := (OM.step0 y6 z3)
 have z9 := (OM.step0 z8 z3)
 have v9 := (OS.step0 v6 z3)
 have s5 := (Evo.then0 E0 (Step.evo z3))
 refine sq (o_stB (o := 0) (v := (.agg #[(.int .i64 ((mgetD f_.files p).mode)), (.int .i64 ((mgetD f_.files p).time)), (.int .i64 ((mgetD f_.files p).inode)), (.slice y1 (((mgetD f_.files p).b).length) y2)])) [(.int .i64 ((mgetD f_.files p).mode)), (.int .i64 ((mgetD f_.files p).time)), (.int .i64 ((mgetD f_.files p).inode)), (.slice y1 (((mgetD f_.files p).b).length) y2)] rfl u7 (by kernel_rfl) (by kernel_rfl) Tryz.sizeOf81 rfl rfl rfl ?_)
 intro m3 z0 m4
 refine sq (o_pv (.bool (mhas f_.files p)) rfl (by kernel_rfl) ?_)
 refine nil_ ?_
 refine then_normal (d7 _ _ _ _ ?_)
 refine seq_ (fun _ g3 => ?_)
 refine wp_block ?_
 refine seq_ (fun _ g4 => ?_)
 refine reg_ ?_
 refine sq (o_pv (.pointer (some ⟨z1, 0, none⟩)) rfl (by kernel_rfl) ?_)
 refine sq (o_pv (.pointer (some ⟨z1, 0, none⟩)) rfl (by kernel_rfl) ?_)
 refine sq (o_pv (.pointer (some ⟨z1, 7, none⟩)) rfl (by kernel_rfl) ?_)
 have t0 := (OB.step g2 z0 g1)
 refine sq (o_pv (.bool f_.off) rfl (x_load1 (by kernel_rfl) Tryz.isAgg4 (t0.2.1.cell' 7 rfl)) ?_)
 refine sq (o_pv (.bool f_.off) rfl (by kernel_rfl) ?_)
 refine nil_ ?_
 refine then_normal (g4 _ _ _ _ ?_)
 refine cond_b f_.off (by kernel_rfl) (fun s6 => ?_) (fun s6 => ?_)
 ·
  replace hp := hp.1 s6
  refine seq_ (fun _ g5 => ?_)
  refine reg_ ?_
  refine sq (o_pv (.int .i64 (13 : Int)) rfl (by kernel_rfl) ?_)
  refine nil_ ?_
  refine then_normal (g5 _ _ _ _ ?_)
  refine wp_ret ?_
  refine blk_ret ?_
  refine then_ret ?_
  have g6 := (Evo.thenW s5 (Step.evo z0) (Wr.of u7.2.2))
  have k2 := (Sub.trans (Sub.trans hS (Step.up z3)) (Step.up z0))
  have k3 := (News.step (News.step hN z3) z0)
  have u0 := (OM.step y3 z0 s2)
  have v1 := (OM.step z9 z0 s3)
  have k4 := (OS.step v9 z0 s4)
  have u1 := (Sl.step (Sl.step z7 z3) z0)
  obtain ⟨g7, g8, l6⟩ := MO.pack (o_simfs_FS_mk t0 u0 v1 k4 z4 y0 z2 z5 z6 u1 rfl t5 t6 t7 t8 t9 s0)
  refine end_ret hQ (.int .i64 (13 : Int)) (by kernel_rfl) ?_
  exact ⟨f_, (13 : Int), hp, s1, g7, step_of g6 u6 k2 k3, rfl, g8, (by decide : inR .i64 (13 : Int))⟩
 ·
  replace hp := hp.2 s6
  refine seq_ (fun _ g9 => ?_)
  refine reg_ ?_
  refine sq (o_pv (.bool (mhas f_.files p)) rfl (by kernel_rfl) ?_)
  refine sq (o_pv (.bool (!(mhas f_.files p))) rfl (by kernel_rfl) ?_)
  refine sq (o_pv (.bool (!(mhas f_.files p))) rfl (by kernel_rfl) ?_)
  refine nil_ ?_
  refine then_normal (g9 _ _ _ _ ?_)
  refine cond_b (!(mhas f_.files p)) (by kernel_rfl) (fun s7 => ?_) (fun s7 => ?_)
  ·
   replace hp := hp.1 s7
   refine seq_ (fun _ d0 => ?_)
   refine reg_ ?_
   refine sq (o_pv (.int .i64 (5 : Int)) rfl (by kernel_rfl) ?_)
   refine nil_ ?_
   refine then_normal (d0 _ _ _ _ ?_)
   refine wp_ret ?_
   refine blk_ret ?_
   refine then_ret ?_
   have d1 := (Evo.thenW s5 (Step.evo z0) (Wr.of u7.2.2))
   have k5 := (Sub.trans (Sub.trans hS (Step.up z3)) (Step.up z0))
   have k6 := (News.step (News.step hN z3) z0)
   have u2 := (OM.step y3 z0 s2)
   have v2 := (OM.step z9 z0 s3)
   have k7 := (OS.step v9 z0 s4)
   have u3 := (Sl.step (Sl.step z7 z3) z0)
   obtain ⟨d2, d3, l7⟩ := MO.pack (o_simfs_FS_mk t0 u2 v2 k7 z4 y0 z2 z5 z6 u3 rfl t5 t6 t7 t8 t9 s0)
   refine end_ret hQ (.int .i64 (5 : Int)) (by kernel_rfl) ?_
   exact ⟨f_, (5 : Int), hp, s1, d2, step_of d1 u6 k5 k6, rfl, d3, (by decide : inR .i64 (5 : Int))⟩
  ·
   replace hp := hp.2 s7
   refine seq_ (fun _ d4 => ?_)
   refine reg_ ?_
   refine sq (o_pv (.pointer (some ⟨z1, 0, none⟩)) rfl (by kernel_rfl) ?_)
   have t1 := (Old.step (Old.step hXo z3) z0)
   have s8 := (Evo.thenW s5 (Step.evo z0) (Wr.of u7.2.2))
   have s9 := (Sub.trans (Sub.trans hS (Step.up z3)) (Step.up z0))
   have r0 := (News.step (News.step hN z3) z0)
   have v3 := (OM.step y3 z0 s2)
   have y7 := (OM.step z9 z0 s3)
   have r8 := (OS.step v9 z0 s4)
   have v4 := (Sl.step (Sl.step z7 z3) z0)
   obtain ⟨l8, y8, d5⟩ := MO.pack (o_simfs_FS_mk t0 v3 y7 r8 z4 y0 z2 z5 z6 v4 rfl t5 t6 t7 t8 t9 s0)
   refine sq (o_call 69 #[(.pointer (some ⟨z1, 0, none⟩))] rfl (x_call Tryz.call69 (by kernel_rfl)) (simfs_FS_trips_w (X := s1) (f_ := f_) t1 (MO.re y8 (Wr.self _ _ (Sub.refl _))) hp) ?_)
   rintro _ l9 ⟨t2, r1, hp, r2, k8, y4, rfl, r3⟩
   have y9 := MO.re r3 (Wr.trans r3.wr y8.wr s8.size)
   refine sq (o_pv (.bool r1) rfl (by kernel_rfl) ?_)
   refine nil_ ?_
   refine then_normal (d4 _ _ _ _ ?_)
   refine cond_b r1 (by kernel_rfl) (fun u4 => ?_) (fun u4 => ?_)
   ·
    replace hp := hp.1 u4
    refine seq_ (fun _ k9 => ?_)
    refine reg_ ?_
    refine sq (o_pv (.int .i64 (13 : Int)) rfl (by kernel_rfl) ?_)
    refine nil_ ?_
    refine then_normal (k9 _ _ _ _ ?_)
    refine wp_ret ?_
    refine blk_ret ?_
    refine then_ret ?_
    have j0 := (Evo.thenW s8 (Step.evo y4) y8.wr)
    have r9 := (Sub.trans s9 (Step.up y4))
    have q0 := (News.step r0 y4)
    refine end_ret hQ (.int .i64 (13 : Int)) (by kernel_rfl) ?_
    exact ⟨t2, (13 : Int), hp, r2, k8, step_of j0 u6 r9 q0, rfl, y9, (by decide : inR .i64 (13 : Int))⟩
   ·
    replace hp := hp.2 u4
    refine wp_skip ?_
    refine blk_normal ?_
    refine then_normal (g3 _ _ _ _ ?_)
    refine seq_ (fun _ j1 => ?_)
    refine reg_ ?_
    refine sq (o_pv (.pointer (some ⟨z1, 0, none⟩)) rfl (by kernel_rfl) ?_)
    refine sq (o_pv (.string p) rfl (by kernel_rfl) ?_)
    refine sq (o_pv (.agg #[(.int .i64 (3 : Int)), (.string p), (.string (ByteArray.mk #[])), (.int .i64 (0 : Int)), (.int .i64 (0 : Int)), (.int .i64 (0 : Int)), (.slice none 0 0)]) rfl (by kernel_rfl) ?_)
    have r4 := (Old.step t1 y4)
    have r5 := (Evo.thenW s8 (Step.evo y4) y8.wr)
    have q1 := (Sub.trans s9 (Step.up y4))
    have q2 := (News.step r0 y4)
    refine sq (o_call 70 #[(.pointer (some ⟨z1, 0, none⟩)), (.agg #[(.int .i64 (3 : Int)), (.string p), (.string (ByteArray.mk #[])), (.int .i64 (0 : Int)), (.int .i64 (0 : Int)), (.int .i64 (0 : Int)), (.slice none (([] : List Int)).length 0)])] rfl (x_call Tryz.call70 (by rw []; kernel_rfl)) (simfs_FS_do_w (X := r2) (f_ := t2) (o := (S_simfs_op.mk (3 : Int) p (ByteArray.mk #[]) (S_simfs_file.mk (0 : Int) (0 : Int) (0 : Int) ([] : List Int)))) r4 (MO.re y9 (Wr.self _ _ (Sub.refl _))) (by decide : inR .i64 (3 : Int)) q6 (by decide : (ByteArray.mk #[]).size ≤ maxLen) (by decide : inR .i64 (0 : Int)) (by decide : inR .i64 (0 : Int)) (by decide : inR .i64 (0 : Int)) Sl.nil hp) ?_)
    rintro _ m0 ⟨q3, hp, j2, j3, u5, rfl, r6⟩
    have j4 := MO.re r6 (Wr.trans r6.wr y9.wr r5.size)
    refine nil_ ?_
    refine then_normal (j1 _ _ _ _ ?_)
    refine seq_ (fun _ j5 => ?_)
    refine reg_ ?_
    refine sq (o_pv (.int .i64 (0 : Int)) rfl (by kernel_rfl) ?_)
    refine nil_ ?_
    refine then_normal (j5 _ _ _ _ ?_)
    refine wp_ret ?_
    have j6 := (Evo.thenW r5 (Step.evo u5) y9.wr)
    have q4 := (Sub.trans q1 (Step.up u5))
    have q5 := (News.step q2 u5)
    refine end_ret hQ (.int .i64 (0 : Int)) (by kernel_rfl) ?_
    exact ⟨q3, (0 : Int), hp, j2, j3, step_of j6 u6 q4 q5, rfl, j4, (by decide : inR .i64 (0 : Int))⟩
def simfs_FS_sync_p (f_ : S_simfs_FS) (Q : S_simfs_FS → Prop) : Prop :=
 ((f_.pending.length ≤ 9223372036854775807) → ((inR .i64 f_.quota) → ((inR .i64 f_.now) → ((inR .i64 f_.inodes) → ((inR .i64 f_.ops_) → ((inR .i64 f_.left) → ((f_.keep.length ≤ 9223372036854775807) → (maps_Clone_map_string_simfs_file_string_simfs_file_p f_.files (fun (z0 : (List (ByteArray × S_simfs_file))) (z1 : (List (ByteArray × S_simfs_file))) => Q (S_simfs_FS.mk z1 z0 ([] : List S_simfs_op) f_.quota f_.now f_.inodes f_.ops_ f_.off f_.armed f_.left f_.keep))))))))))
set_option maxRecDepth 20000 in
set_option maxHeartbeats 4000000 in
theorem simfs_FS_sync_w {X : List Nat} {w : World} {f_ : S_simfs_FS} {z0 : Nat} {z4 : List Nat} {Q : S_simfs_FS → Prop} (u2 : Old X w) (v0 : MO o_simfs_FS 78 z4 w.heap.size X w z4 z0 f_) (hp : simfs_FS_sync_p f_ Q) :
  Calls Tryz.prog 85 #[(.pointer (some ⟨z0, 0, none⟩))] w (Ret fun v w' => ∃ (u3 : S_simfs_FS), Q u3 ∧ ∃ (X' : List Nat) (u4 : List Nat), Step X w z4 X' w' ∧ v = .tuple #[] ∧ MO o_simfs_FS 78 z4 w.heap.size X' w' u4 z0 u3) := by
 have hXo := u2
 have E0 : Evo z4 w w := RB.refl _ _ _
 have hS : Sub X X := Sub.refl _
 have hN : News X w X w := News.refl _ _
 have u5 : Sub z4 X := MO.mem v0
 unfold simfs_FS_sync_p at hp
 refine enter_ Tryz.func85 rfl 13 [(0, (.pointer (some ⟨z0, 0, none⟩)))] (by kernel_rfl) (fun Qe hQ => ?_)
 refine reg_ ?_
 refine sq (o_pv (.pointer (some ⟨z0, 0, none⟩)) rfl (by kernel_rfl) ?_)
 refine sq (o_pv (.pointer (some ⟨z0, 0, none⟩)) rfl (by kernel_rfl) ?_)
 refine sq (o_pv (.pointer (some ⟨z0, 0, none⟩)) rfl (by kernel_rfl) ?_)
 refine sq (o_pv (.pointer (some ⟨z0, 0, none⟩)) rfl (by kernel_rfl) ?_)
 obtain ⟨u0, z1, u6, u7, v6, z6, z7, y8, u1, z2, v7, z5, y1, z3, z8, z9, y0, s5, s6, s7, s8, r0, u9, r1, r2, r3, r4⟩ := o_simfs_FS_open v0
 replace hp := hp (OS.len v7)
 replace hp := hp z5
 replace hp := hp y1
 replace hp := hp z3
 replace hp := hp z8
 replace hp := hp z9
 replace hp := hp (Sl.len y0)
 refine sq (o_pv (.pointer (some ⟨z0, 1, none⟩)) rfl (by kernel_rfl) ?_)
 refine sq (o_pv (.map (some z1)) rfl (x_load1 (by kernel_rfl) Tryz.isAgg75 (y8.2.1.cell' 1 rfl)) ?_)
 refine sq (o_call 35 #[(.map (some z1))] rfl (x_call Tryz.call35 (by kernel_rfl)) (maps_Clone_map_string_simfs_file_string_simfs_file_w (X := X) (m := f_.files) hXo (OM.re z2 (Wr.self _ _ (Sub.refl _))) hp) ?_)
 rintro _ r5 ⟨t0, t1, hp, t2, y5, y4, rfl, v1, y6, t3⟩
 have t4 := OM.re v1 (Wr.trans v1.wr z2.wr E0.size)
 have y9 := Ap.grow v1.wr u9 (OB.old y8) (Nat.le_refl _)
 have t5 := OM.re y6 (Wr.trans y6.wr (Wr.nil [] _) E0.size)
 have v2 := Ap.grow y6.wr (Ap.nil_r _) (OB.old y8) (Nat.le_refl _)
 refine sq (o_pv (.pointer (some ⟨z0, 0, none⟩)) rfl (by kernel_rfl) ?_)
 refine sq (o_pv (.pointer (some ⟨z0, 0, none⟩)) rfl (by kernel_rfl) ?_)
 have v3 := (OB.step y8 y4 y9)
 have t6 := (Evo.thenW E0 (Step.evo y4) z2.wr)
 refine sq (o_stB (o := 0) (v := (.map (some y5))) [(.map (some y5)), (.map (some z1)), (.slice u6 u7 v6), (.int .i64 f_.quota), (.int .i64 f_.now), (.int .i64 f_.inodes), (.int .i64 f_.ops_), (.bool f_.off), (.bool f_.armed), (.int .i64 f_.left), (.slice z6 f_.keep.length z7)] rfl v3 (by kernel_rfl) (by kernel_rfl) Tryz.sizeOf75 rfl rfl rfl ?_)
 intro r6 y2 v4
 refine sq (o_pv (.pointer (some ⟨z0, 0, none⟩)) rfl (by kernel_rfl) ?_)
 refine sq (o_pv (.pointer (some ⟨z0, 2, none⟩)) rfl (by kernel_rfl) ?_)
 have t7 := (OM.step t4 y2 (Ap.symm y9))
 have t8 := (OM.step t5 y2 (Ap.symm v2))
 have t9 := (Evo.thenW t6 (Step.evo y2) v3.2.2)
 refine sq (o_stB (o := 2) (v := (.slice none 0 0)) [(.map (some y5)), (.map (some z1)), (.slice none 0 0), (.int .i64 f_.quota), (.int .i64 f_.now), (.int .i64 f_.inodes), (.int .i64 f_.ops_), (.bool f_.off), (.bool f_.armed), (.int .i64 f_.left), (.slice z6 f_.keep.length z7)] rfl v4 (by kernel_rfl) (by kernel_rfl) Tryz.sizeOf76 rfl rfl rfl ?_)
 intro r7 y3 s0
 refine nil_ ?_
 have s1 := (Evo.thenW t9 (Step.evo y3) v4.2.2)
 have v8 := (Sub.trans (Sub.trans (Sub.trans hS (Step.up y4)) (Step.up y2)) (Step.up y3))
 have v9 := (News.step (News.step (News.step hN y4) y2) y3)
 have y7 := (Sl.step (Sl.step (Sl.step y0 y4) y2) y3)
 have s2 := (OM.step t7 y3 (Ap.symm y9))
 have v5 := (OM.step t8 y3 (Ap.symm v2))
 obtain ⟨s3, s4, s9⟩ := MO.pack (o_simfs_FS_mk s0 (OM.re v5 (Wr.of v5.wr)) s2 (OS.nil2 _ _ _ _ _) z5 y1 z3 z8 z9 y7 rfl v2 y9 (Ap.nil_r _) (Ap.symm t3) (Ap.nil_r _) (Ap.nil_r _))
 refine end_normal hQ (.tuple #[]) (by kernel_rfl) ?_
 exact ⟨(S_simfs_FS.mk t1 t0 ([] : List S_simfs_op) f_.quota f_.now f_.inodes f_.ops_ f_.off f_.armed f_.left f_.keep), hp, t2, s3, step_of s1 u5 v8 v9, rfl, s4⟩
def simfs_FS_Sync_p (f_ : S_simfs_FS) (Q : S_simfs_FS → Int → Prop) : Prop :=
 ((f_.pending.length ≤ 9223372036854775807) → ((inR .i64 f_.quota) → ((inR .i64 f_.now) → ((inR .i64 f_.inodes) → ((inR .i64 f_.ops_) → ((inR .i64 f_.left) → ((f_.keep.length ≤ 9223372036854775807) → (((f_.off = true) → Q f_ (13 : Int)) ∧ ((f_.off = false) → (simfs_FS_sync_p f_ (fun (z0 : S_simfs_FS) => Q z0 (0 : Int))))))))))))
set_option maxRecDepth 20000 in
set_option maxHeartbeats 4000000 in
theorem simfs_FS_Sync_w {X : List Nat} {w : World} {f_ : S_simfs_FS} {z0 : Nat} {z6 : List Nat} {Q : S_simfs_FS → Int → Prop} (u2 : Old X w) (y1 : MO o_simfs_FS 78 z6 w.heap.size X w z6 z0 f_) (hp : simfs_FS_Sync_p f_ Q) :
  Calls Tryz.prog 47 #[(.pointer (some ⟨z0, 0, none⟩))] w (Ret fun v w' => ∃ (u3 : S_simfs_FS) (v4 : Int), Q u3 v4 ∧ ∃ (X' : List Nat) (u4 : List Nat), Step X w z6 X' w' ∧ v = (.int .i64 v4) ∧ MO o_simfs_FS 78 z6 w.heap.size X' w' u4 z0 u3 ∧ inR .i64 v4) := by
 have hXo := u2
 have E0 : Evo z6 w w := RB.refl _ _ _
 have hS : Sub X X := Sub.refl _
 have hN : News X w X w := News.refl _ _
 have y6 : Sub z6 X := MO.mem y1
 unfold simfs_FS_Sync_p at hp
 refine enter_ Tryz.func47 rfl 9 [(0, (.pointer (some ⟨z0, 0, none⟩)))] (by kernel_rfl) (fun Qe hQ => ?_)
 refine seq_ (fun _ t5 => ?_)
 refine reg_ ?_
 refine sq (o_pv (.int .i64 (0 : Int)) rfl (by kernel_rfl) ?_)
 refine nil_ ?_
 refine then_normal (t5 _ _ _ _ ?_)
 refine seq_ (fun _ t6 => ?_)
 refine seq_ (fun _ t7 => ?_)
 refine reg_ ?_
 refine sq (o_pv (.pointer (some ⟨z0, 0, none⟩)) rfl (by kernel_rfl) ?_)
 refine sq (o_pv (.pointer (some ⟨z0, 0, none⟩)) rfl (by kernel_rfl) ?_)
 obtain ⟨u1, v5, t8, t9, s0, v6, v7, y2, z9, z8, y0, z2, z7, z1, z3, z4, z5, s1, s2, s3, s4, y7, y8, y9, v0, v1, v2⟩ := o_simfs_FS_open y1
 replace hp := hp (OS.len y0)
 replace hp := hp z2
 replace hp := hp z7
 replace hp := hp z1
 replace hp := hp z3
 replace hp := hp z4
 replace hp := hp (Sl.len z5)
 refine sq (o_pv (.pointer (some ⟨z0, 7, none⟩)) rfl (by kernel_rfl) ?_)
 refine sq (o_pv (.bool f_.off) rfl (x_load1 (by kernel_rfl) Tryz.isAgg4 (y2.2.1.cell' 7 rfl)) ?_)
 refine nil_ ?_
 refine then_normal (t7 _ _ _ _ ?_)
 refine cond_b f_.off (by kernel_rfl) (fun y3 => ?_) (fun y3 => ?_)
 ·
  replace hp := hp.1 y3
  refine seq_ (fun _ u5 => ?_)
  refine reg_ ?_
  refine sq (o_pv (.int .i64 (13 : Int)) rfl (by kernel_rfl) ?_)
  refine nil_ ?_
  refine then_normal (u5 _ _ _ _ ?_)
  refine wp_ret ?_
  refine then_ret ?_
  obtain ⟨u6, u7, s5⟩ := MO.pack (o_simfs_FS_mk y2 z9 z8 y0 z2 z7 z1 z3 z4 z5 rfl y7 y8 y9 v0 v1 v2)
  refine end_ret hQ (.int .i64 (13 : Int)) (by kernel_rfl) ?_
  exact ⟨f_, (13 : Int), hp, X, u6, step_of E0 y6 hS hN, rfl, u7, (by decide : inR .i64 (13 : Int))⟩
 ·
  replace hp := hp.2 y3
  refine wp_skip ?_
  refine then_normal (t6 _ _ _ _ ?_)
  refine seq_ (fun _ u9 => ?_)
  refine reg_ ?_
  refine sq (o_pv (.pointer (some ⟨z0, 0, none⟩)) rfl (by kernel_rfl) ?_)
  obtain ⟨s7, y4, s6⟩ := MO.pack (o_simfs_FS_mk y2 z9 z8 y0 z2 z7 z1 z3 z4 z5 rfl y7 y8 y9 v0 v1 v2)
  refine sq (o_call 85 #[(.pointer (some ⟨z0, 0, none⟩))] rfl (x_call Tryz.call85 (by kernel_rfl)) (simfs_FS_sync_w (X := X) (f_ := f_) hXo (MO.re y4 (Wr.self _ _ (Sub.refl _))) hp) ?_)
  rintro _ s8 ⟨v8, hp, t0, t1, y5, rfl, v3⟩
  have t2 := MO.re v3 (Wr.trans v3.wr y4.wr E0.size)
  refine nil_ ?_
  refine then_normal (u9 _ _ _ _ ?_)
  refine seq_ (fun _ t3 => ?_)
  refine reg_ ?_
  refine sq (o_pv (.int .i64 (0 : Int)) rfl (by kernel_rfl) ?_)
  refine nil_ ?_
  refine then_normal (t3 _ _ _ _ ?_)
  refine wp_ret ?_
  have t4 := (Evo.thenW E0 (Step.evo y5) y4.wr)
  have v9 := (Sub.trans hS (Step.up y5))
  have u0 := (News.step hN y5)
  refine end_ret hQ (.int .i64 (0 : Int)) (by kernel_rfl) ?_
  exact ⟨v8, (0 : Int), hp, t0, t1, step_of t4 y6 v9 u0, rfl, t2, (by decide : inR .i64 (0 : Int))⟩
def rectolaw5_Disk_sync_p (d : S_rectolaw5_Disk) (Q : S_rectolaw5_Disk → Prop) : Prop :=
 ((d.kept.length ≤ 9223372036854775807) → ((d.now.length ≤ 9223372036854775807) → ((d.wait.length ≤ 9223372036854775807) → ((inR .i64 d.quota) → ((inR .i64 d.time) → ((inR .i64 d.inode) → ((inR .i64 d.left) → ((d.keep.length ≤ 9223372036854775807) → ((inR .i64 d.ops_) → Q (S_rectolaw5_Disk.mk d.now d.now ([] : List S_rectolaw5_op) d.quota d.time d.inode d.off d.armed d.left d.keep d.ops_))))))))))
set_option maxRecDepth 20000 in
set_option maxHeartbeats 4000000 in
theorem rectolaw5_Disk_sync_w {X : List Nat} {w : World} {d : S_rectolaw5_Disk} {z0 : Nat} {y1 : List Nat} {Q : S_rectolaw5_Disk → Prop} (v8 : Old X w) (v2 : MO o_rectolaw5_Disk 31 y1 w.heap.size X w y1 z0 d) (hp : rectolaw5_Disk_sync_p d Q) :
  Calls Tryz.prog 48 #[(.pointer (some ⟨z0, 0, none⟩))] w (Ret fun v w' => ∃ (v9 : S_rectolaw5_Disk), Q v9 ∧ ∃ (X' : List Nat) (u0 : List Nat), Step X w y1 X' w' ∧ v = .tuple #[] ∧ MO o_rectolaw5_Disk 31 y1 w.heap.size X' w' u0 z0 v9) := by
 have hXo := v8
 have E0 : Evo y1 w w := RB.refl _ _ _
 have hS : Sub X X := Sub.refl _
 have hN : News X w X w := News.refl _ _
 have u1 : Sub y1 X := MO.mem v2
 unfold rectolaw5_Disk_sync_p at hp
 refine enter_ Tryz.func48 rfl 12 [(0, (.pointer (some ⟨z0, 0, none⟩)))] (by kernel_rfl) (fun Qe hQ => ?_)
 refine seq_ (fun _ u7 => ?_)
 refine reg_ ?_
 refine sq (o_pv (.pointer (some ⟨z0, 0, none⟩)) rfl (by kernel_rfl) ?_)
 refine sq (o_pv (.pointer (some ⟨z0, 0, none⟩)) rfl (by kernel_rfl) ?_)
 refine sq (o_pv (.pointer (some ⟨z0, 0, none⟩)) rfl (by kernel_rfl) ?_)
 obtain ⟨v6, v7, z1, z2, y6, y7, z5, z6, v1, v0, y2, y8, z3, z7, z4, z8, z9, y0, u9⟩ := o_rectolaw5_Disk_open v2
 replace hp := hp (Sl.len v0)
 replace hp := hp (Sl.len y2)
 replace hp := hp (Sl.len y8)
 replace hp := hp z3
 replace hp := hp z7
 replace hp := hp z4
 replace hp := hp z8
 replace hp := hp (Sl.len z9)
 replace hp := hp y0
 refine sq (o_pv (.pointer (some ⟨z0, 1, none⟩)) rfl (by kernel_rfl) ?_)
 refine sq (o_pv (.slice z1 d.now.length z2) rfl (x_load1 (by kernel_rfl) Tryz.isAgg27 (v1.2.1.cell' 1 rfl)) ?_)
 refine sq (o_pv (.pointer (some ⟨z0, 0, none⟩)) rfl (by kernel_rfl) ?_)
 refine sq (o_pv (.pointer (some ⟨z0, 0, none⟩)) rfl (by kernel_rfl) ?_)
 refine sq (o_stB (o := 0) (v := (.slice z1 d.now.length z2)) [(.slice z1 d.now.length z2), (.slice z1 d.now.length z2), (.slice y6 d.wait.length y7), (.int .i64 d.quota), (.int .i64 d.time), (.int .i64 d.inode), (.bool d.off), (.bool d.armed), (.int .i64 d.left), (.slice z5 d.keep.length z6), (.int .i64 d.ops_)] rfl v1 (by kernel_rfl) (by kernel_rfl) Tryz.sizeOf27 rfl rfl rfl ?_)
 intro t1 y4 v3
 refine nil_ ?_
 refine then_normal (u7 _ _ _ _ ?_)
 refine reg_ ?_
 refine sq (o_pv (.pointer (some ⟨z0, 0, none⟩)) rfl (by kernel_rfl) ?_)
 refine sq (o_pv (.pointer (some ⟨z0, 0, none⟩)) rfl (by kernel_rfl) ?_)
 refine sq (o_pv (.pointer (some ⟨z0, 2, none⟩)) rfl (by kernel_rfl) ?_)
 have u2 := (Evo.thenW E0 (Step.evo y4) v1.2.2)
 refine sq (o_stB (o := 2) (v := (.slice none 0 0)) [(.slice z1 d.now.length z2), (.slice z1 d.now.length z2), (.slice none 0 0), (.int .i64 d.quota), (.int .i64 d.time), (.int .i64 d.inode), (.bool d.off), (.bool d.armed), (.int .i64 d.left), (.slice z5 d.keep.length z6), (.int .i64 d.ops_)] rfl v3 (by kernel_rfl) (by kernel_rfl) Tryz.sizeOf28 rfl rfl rfl ?_)
 intro t2 y5 u3
 refine nil_ ?_
 have u4 := (Evo.thenW u2 (Step.evo y5) v3.2.2)
 have v4 := (Sub.trans (Sub.trans hS (Step.up y4)) (Step.up y5))
 have v5 := (News.step (News.step hN y4) y5)
 have y3 := (Sl.step (Sl.step y2 y4) y5)
 have y9 := (Sl.step (Sl.step z9 y4) y5)
 obtain ⟨u5, u6, t0⟩ := MO.pack (o_rectolaw5_Disk_mk u3 y3 rfl y3 rfl (Sl.nil) rfl z3 z7 z4 z8 y9 rfl y0)
 refine end_normal hQ (.tuple #[]) (by kernel_rfl) ?_
 exact ⟨(S_rectolaw5_Disk.mk d.now d.now ([] : List S_rectolaw5_op) d.quota d.time d.inode d.off d.armed d.left d.keep d.ops_), hp, X, u5, step_of u4 u1 v4 v5, rfl, u6⟩
def simfs_FS_Arm_p (f_ : S_simfs_FS) (n_ : Int) (keep : (List Bool)) (Q : S_simfs_FS → Prop) : Prop :=
 ((inR .i64 n_) → ((keep.length ≤ 9223372036854775807) → (slices_Clone_bool_bool_p keep (fun (z0 : (List Bool)) => ((z0.length ≤ 9223372036854775807) → ((f_.pending.length ≤ 9223372036854775807) → ((inR .i64 f_.quota) → ((inR .i64 f_.now) → ((inR .i64 f_.inodes) → ((inR .i64 f_.ops_) → ((inR .i64 f_.left) → ((f_.keep.length ≤ 9223372036854775807) → Q (S_simfs_FS.mk f_.kept f_.files f_.pending f_.quota f_.now f_.inodes f_.ops_ f_.off true (max n_ (1 : Int)) z0)))))))))))))
set_option maxRecDepth 20000 in
set_option maxHeartbeats 4000000 in
theorem simfs_FS_Arm_w {X : List Nat} {w : World} {f_ : S_simfs_FS} {n_ : Int} {keep : (List Bool)} {z0 : Nat} {z6 : List Nat} {z1 : Option Addr} {z2 : Nat} {Q : S_simfs_FS → Prop} (t5 : Old X w) (v3 : MO o_simfs_FS 78 z6 w.heap.size X w z6 z0 f_) (t1 : inR .i64 n_) (y8 : Sl rBool X w z1 z2 keep) (hp : simfs_FS_Arm_p f_ n_ keep Q) :
  Calls Tryz.prog 21 #[(.pointer (some ⟨z0, 0, none⟩)), (.int .i64 n_), (.slice z1 keep.length z2)] w (Ret fun v w' => ∃ (r7 : S_simfs_FS), Q r7 ∧ ∃ (X' : List Nat) (r8 : List Nat), Step X w z6 X' w' ∧ v = .tuple #[] ∧ MO o_simfs_FS 78 z6 w.heap.size X' w' r8 z0 r7) := by
 have hXo := t5
 have E0 : Evo z6 w w := RB.refl _ _ _
 have hS : Sub X X := Sub.refl _
 have hN : News X w X w := News.refl _ _
 have r9 : Sub z6 X := MO.mem v3
 unfold simfs_FS_Arm_p at hp
 refine enter_ Tryz.func21 rfl 19 [(0, (.pointer (some ⟨z0, 0, none⟩))), (1, (.int .i64 n_)), (2, (.slice z1 keep.length z2))] (by kernel_rfl) (fun Qe hQ => ?_)
 replace hp := hp t1
 replace hp := hp (Sl.len y8)
 refine reg_ ?_
 refine sq (o_pv (.pointer (some ⟨z0, 0, none⟩)) rfl (by kernel_rfl) ?_)
 refine sq (o_pv (.pointer (some ⟨z0, 0, none⟩)) rfl (by kernel_rfl) ?_)
 refine sq (o_pv (.pointer (some ⟨z0, 0, none⟩)) rfl (by kernel_rfl) ?_)
 refine sq (o_pv (.int .i64 n_) rfl (by kernel_rfl) ?_)
 refine sq (o_pv (.int .i64 (max n_ (1 : Int))) rfl (x_max (k := .i64) (a := n_) (b := (1 : Int)) (max n_ (1 : Int)) (by kernel_rfl) (by kernel_rfl) rfl) ?_)
 refine sq (o_pv (.slice z1 keep.length z2) rfl (by kernel_rfl) ?_)
 refine sq (o_call 37 #[(.slice z1 keep.length z2)] rfl (x_call Tryz.call37 (by kernel_rfl)) (slices_Clone_bool_bool_w (X := X) (s := keep) hXo (Sl.sq y8) hp) ?_)
 rintro _ j6 ⟨s4, hp, q0, t6, t7, rfl, q1⟩
 obtain ⟨j2, u3, t8, q2⟩ := OS.own_in q1 q0 E0.size
 have u4 := q2 _ (MO.old v3)
 replace hp := hp (OS.len t8)
 refine sq (o_pv (.pointer (some ⟨z0, 0, none⟩)) rfl (by kernel_rfl) ?_)
 have t4 := (MO.step0 v3 u3)
 obtain ⟨z4, z3, v4, v5, v6, z9, y0, t9, v7, y9, t2, z7, y7, z5, y1, v8, v9, s5, s6, s7, s8, u5, u6, u7, q3, q4, q5⟩ := o_simfs_FS_open t4
 have u9 := Ap.subr (Ap.symm u4) s5
 have q6 := Ap.subr (Ap.symm u4) s6
 have q7 := Ap.subr (Ap.symm u4) s7
 have q8 := Ap.subr (Ap.symm u4) s8
 replace hp := hp (OS.len t2)
 replace hp := hp z7
 replace hp := hp y7
 replace hp := hp z5
 replace hp := hp y1
 replace hp := hp v8
 replace hp := hp (Sl.len v9)
 refine sq (o_pv (.pointer (some ⟨z0, 8, none⟩)) rfl (by kernel_rfl) ?_)
 have q9 := (Evo.then0 E0 (Step.evo u3))
 refine sq (o_stB (o := 8) (v := (.bool true)) [(.map (some z4)), (.map (some z3)), (.slice v4 v5 v6), (.int .i64 f_.quota), (.int .i64 f_.now), (.int .i64 f_.inodes), (.int .i64 f_.ops_), (.bool f_.off), (.bool true), (.int .i64 f_.left), (.slice z9 f_.keep.length y0)] rfl t9 (by kernel_rfl) (by kernel_rfl) Tryz.sizeOf4 rfl rfl rfl ?_)
 intro j3 y2 s0
 refine sq (o_pv (.pointer (some ⟨z0, 0, none⟩)) rfl (by kernel_rfl) ?_)
 refine sq (o_pv (.pointer (some ⟨z0, 9, none⟩)) rfl (by kernel_rfl) ?_)
 have k0 := (OS.step t8 y2 u9)
 have u0 := (OM.step v7 y2 (Ap.symm u5))
 have v0 := (OM.step y9 y2 (Ap.symm u6))
 have s9 := (OS.step t2 y2 (Ap.symm u7))
 have k1 := (Evo.thenW q9 (Step.evo y2) t9.2.2)
 refine sq (o_stB (o := 9) (v := (.int .i64 (max n_ (1 : Int)))) [(.map (some z4)), (.map (some z3)), (.slice v4 v5 v6), (.int .i64 f_.quota), (.int .i64 f_.now), (.int .i64 f_.inodes), (.int .i64 f_.ops_), (.bool f_.off), (.bool true), (.int .i64 (max n_ (1 : Int))), (.slice z9 f_.keep.length y0)] rfl s0 (by kernel_rfl) (by kernel_rfl) Tryz.sizeOf3 rfl rfl rfl ?_)
 intro j4 y3 s1
 refine sq (o_pv (.pointer (some ⟨z0, 0, none⟩)) rfl (by kernel_rfl) ?_)
 refine sq (o_pv (.pointer (some ⟨z0, 10, none⟩)) rfl (by kernel_rfl) ?_)
 have k2 := (OS.step k0 y3 u9)
 have u1 := (OM.step u0 y3 (Ap.symm u5))
 have v1 := (OM.step v0 y3 (Ap.symm u6))
 have r0 := (OS.step s9 y3 (Ap.symm u7))
 have k3 := (Evo.thenW k1 (Step.evo y3) s0.2.2)
 refine sq (o_stB (o := 10) (v := (.slice t6 s4.length t7)) [(.map (some z4)), (.map (some z3)), (.slice v4 v5 v6), (.int .i64 f_.quota), (.int .i64 f_.now), (.int .i64 f_.inodes), (.int .i64 f_.ops_), (.bool f_.off), (.bool true), (.int .i64 (max n_ (1 : Int))), (.slice t6 s4.length t7)] rfl s1 (by kernel_rfl) (by kernel_rfl) Tryz.sizeOf29 rfl rfl rfl ?_)
 intro j5 y4 s2
 refine nil_ ?_
 have s3 := (OS.step k2 y4 u9)
 have r1 := (Sub.trans (Sub.trans (Sub.trans (Sub.trans hS (Step.up u3)) (Step.up y2)) (Step.up y3)) (Step.up y4))
 have k4 := (Evo.thenW k3 (Step.evo y4) s1.2.2)
 have r2 := (News.step (News.step (News.step (News.step hN u3) y2) y3) y4)
 have y5 := (OM.step u1 y4 (Ap.symm u5))
 have z8 := (OM.step v1 y4 (Ap.symm u6))
 have t3 := (OS.step r0 y4 (Ap.symm u7))
 have r3 := OS.apold s3 t5
 obtain ⟨k5, t0, k6, y6⟩ := OS.release s3
 have k7 := k4
 have r4 := (y6 _ r3 r1)
 have r5 := (News.less r2 t0)
 have k8 := (OB.less s2 (y6 _ (Ap.symm u9) (OB.mem s2)))
 have u2 := (OM.less y5 t0 (y6 _ (Ap.symm q6) (OM.mem y5)))
 have v2 := (OM.less z8 t0 (y6 _ (Ap.symm q7) (OM.mem z8)))
 have r6 := (OS.less t3 t0 (y6 _ (Ap.symm q8) (OS.mem t3)))
 obtain ⟨k9, j0, j1⟩ := MO.pack (o_simfs_FS_mk k8 u2 v2 r6 z7 y7 z5 y1 (inR_max t1 (by decide : inR .i64 (1 : Int))) k6 rfl u5 u6 u7 q3 q4 q5)
 refine end_normal hQ (.tuple #[]) (by kernel_rfl) ?_
 exact ⟨(S_simfs_FS.mk f_.kept f_.files f_.pending f_.quota f_.now f_.inodes f_.ops_ f_.off true (max n_ (1 : Int)) s4), hp, k5, k9, step_of k7 r9 r4 r5, rfl, j0⟩
end Go.Proofs.YtaolmfepdmgohaaGreatDoor
