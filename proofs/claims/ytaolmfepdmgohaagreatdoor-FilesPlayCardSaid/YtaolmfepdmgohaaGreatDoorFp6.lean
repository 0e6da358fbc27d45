/- Walks of functions: what each asks and computes, as a plain predicate, and the contract from it. -/
import Derived.Test.YtaolmfepdmgohaaGreatDoorChecked
import Derived.Test.YtaolmfepdmgohaaGreatDoorFp5
namespace Go.Proofs.YtaolmfepdmgohaaGreatDoor
open Go
theorem elT27 : ElemT Tryz.prog 27 90 5 56 := elemT_mk (i := Tryz.t90) (z := (.agg #[(.string (ByteArray.mk #[])), (.string (ByteArray.mk #[])), (.int .i64 0), (.int .i64 0), (.int .i64 0)])) (by kernel_rfl) (by kernel_rfl) (by kernel_rfl) (by kernel_rfl) Tryz.underlying27 Tryz.sizeOf90 (by decide) (by decide)
def rectolaw5_Disk_cause_p (d : S_rectolaw5_Disk) (p : ByteArray) (mode : Int) (n_ : Int) (Q : S_rectolaw5_Disk → Int → Prop) : Prop :=
 ((p.size ≤ maxLen) → ((inR .i64 mode) → ((inR .i64 n_) → ((d.kept.length ≤ 9223372036854775807) → ((d.now.length ≤ 9223372036854775807) → ((d.wait.length ≤ 9223372036854775807) → ((inR .i64 d.quota) → ((inR .i64 d.time) → ((inR .i64 d.inode) → ((inR .i64 d.left) → ((d.keep.length ≤ 9223372036854775807) → ((inR .i64 d.ops_) → (((d.off = true) → Q d (13 : Int)) ∧ ((d.off = false) → (rectoref1_Check_p p (fun (z5 : Int) => ((inR .i64 z5) → (((¬ (z5 = (0 : Int))) → Q d z5) ∧ ((z5 = (0 : Int)) → (rectolaw5_get_p d.now p (fun (z1 : Int) => ((inR .i64 z1) → (∃ z6 : Int → Prop, (∀ (z0 : Int), z6 z0 → (inR .i64 z0) → (((n_ > (65536 : Int)) → Q d (4 : Int)) ∧ ((¬ (n_ > (65536 : Int))) → ((((¬ (mode = (1 : Int))) ∧ (¬ (mode = (2 : Int)))) → Q d (1 : Int)) ∧ ((¬ ((¬ (mode = (1 : Int))) ∧ (¬ (mode = (2 : Int))))) → (rectolaw5_clash_p d.now p p (fun (z7 : Bool) => (((z7 = true) → Q d (11 : Int)) ∧ ((z7 = false) → (∃ z3 : Bool → Prop, (∀ (z4 : Bool), z3 z4 → (((z4 = true) → Q d (14 : Int)) ∧ ((z4 = false) → Q d (0 : Int)))) ∧ (((d.quota > (0 : Int)) → (rectolaw5_used_p d.now (fun (z2 : Int) => ((inR .i64 z2) → ((inR .i64 (z2 - z0)) ∧ ((inR .i64 ((z2 - z0) + n_)) ∧ (((((z2 - z0) + n_) > d.quota) → (z3 (decide (n_ > z0)))) ∧ ((¬ (((z2 - z0) + n_) > d.quota)) → (z3 false))))))))) ∧ ((¬ (d.quota > (0 : Int))) → (z3 false))))))))))))) ∧ (((z1 ≥ (0 : Int)) → ((inL d.now z1) ∧ ((((lget d.now z1).path).size ≤ maxLen) → ((((lget d.now z1).data).size ≤ maxLen) → ((inR .i64 ((lget d.now z1).mode)) → ((inR .i64 ((lget d.now z1).time)) → ((inR .i64 ((lget d.now z1).inode)) → (z6 (((lget d.now z1).data).size : Int))))))))) ∧ ((¬ (z1 ≥ (0 : Int))) → (z6 (0 : Int)))))))))))))))))))))))))))
set_option maxRecDepth 20000 in
set_option maxHeartbeats 4000000 in
theorem rectolaw5_Disk_cause_w {X : List Nat} {w : World} {d : S_rectolaw5_Disk} {p : ByteArray} {mode : Int} {n_ : Int} {z2 : Nat} {u7 : List Nat} {Q : S_rectolaw5_Disk → Int → Prop} (e8 : Old X w) (n3 : MO o_rectolaw5_Disk 31 u7 w.heap.size X w u7 z2 d) (q0 : p.size ≤ maxLen) (g7 : inR .i64 mode) (n7 : inR .i64 n_) (hp : rectolaw5_Disk_cause_p d p mode n_ Q) :
  Calls Tryz.prog 39 #[(.pointer (some ⟨z2, 0, none⟩)), (.string p), (.int .i64 mode), (.int .i64 n_)] w (Ret fun v w' => ∃ (e9 : S_rectolaw5_Disk) (n8 : Int), Q e9 n8 ∧ ∃ (X' : List Nat) (i0 : List Nat), Step X w u7 X' w' ∧ v = (.int .i64 n8) ∧ MO o_rectolaw5_Disk 31 u7 w.heap.size X' w' i0 z2 e9 ∧ inR .i64 n8) := by
 have hXo := e8
 have E0 : Evo u7 w w := RB.refl _ _ _
 have hS : Sub X X := Sub.refl _
 have hN : News X w X w := News.refl _ _
 have s2 : Sub u7 X := MO.mem n3
 unfold rectolaw5_Disk_cause_p at hp
 refine enter_ Tryz.func39 rfl 83 [(0, (.pointer (some ⟨z2, 0, none⟩))), (1, (.string p)), (2, (.int .i64 mode)), (3, (.int .i64 n_))] (by kernel_rfl) (fun Qe hQ => ?_)
 replace hp := hp q0
 replace hp := hp g7
 replace hp := hp n7
 refine seq_ (fun _ b9 => ?_)
 refine reg_ ?_
 refine sq (o_pv (.int .i64 (0 : Int)) rfl (by kernel_rfl) ?_)
 refine nil_ ?_
 refine then_normal (b9 _ _ _ _ ?_)
 refine seq_ (fun _ f0 => ?_)
 refine seq_ (fun _ f1 => ?_)
 refine reg_ ?_
 refine sq (o_pv (.pointer (some ⟨z2, 0, none⟩)) rfl (by kernel_rfl) ?_)
 refine sq (o_pv (.pointer (some ⟨z2, 0, none⟩)) rfl (by kernel_rfl) ?_)
 obtain ⟨y9, v0, z3, z1, v1, v2, v3, v4, g1, v5, u6, v6, z4, z6, z5, z7, v7, z8, f2⟩ := o_rectolaw5_Disk_open n3
 replace hp := hp (Sl.len v5)
 replace hp := hp (Sl.len u6)
 replace hp := hp (Sl.len v6)
 replace hp := hp z4
 replace hp := hp z6
 replace hp := hp z5
 replace hp := hp z7
 replace hp := hp (Sl.len v7)
 replace hp := hp z8
 refine sq (o_pv (.pointer (some ⟨z2, 6, none⟩)) rfl (by kernel_rfl) ?_)
 refine sq (o_pv (.bool d.off) rfl (x_load1 (by kernel_rfl) Tryz.isAgg4 (g1.2.1.cell' 6 rfl)) ?_)
 refine nil_ ?_
 refine then_normal (f1 _ _ _ _ ?_)
 refine cond_b d.off (by kernel_rfl) (fun g8 => ?_) (fun g8 => ?_)
 ·
  replace hp := hp.1 g8
  refine seq_ (fun _ i1 => ?_)
  refine reg_ ?_
  refine sq (o_pv (.int .i64 (13 : Int)) rfl (by kernel_rfl) ?_)
  refine nil_ ?_
  refine then_normal (i1 _ _ _ _ ?_)
  refine wp_ret ?_
  refine then_ret ?_
  obtain ⟨i2, i3, f3⟩ := MO.pack (o_rectolaw5_Disk_mk g1 v5 rfl u6 rfl v6 rfl z4 z6 z5 z7 v7 rfl z8)
  refine end_ret hQ (.int .i64 (13 : Int)) (by kernel_rfl) ?_
  exact ⟨d, (13 : Int), hp, X, i2, step_of E0 s2 hS hN, rfl, i3, (by decide : inR .i64 (13 : Int))⟩
 ·
  replace hp := hp.2 g8
  refine wp_skip ?_
  refine then_normal (f0 _ _ _ _ ?_)
  refine seq_ (fun _ i4 => ?_)
  refine seq_ (fun _ i5 => ?_)
  refine reg_ ?_
  refine sq (o_pv (.string p) rfl (by kernel_rfl) ?_)
  refine sq (o_call 44 #[(.string p)] rfl (x_call Tryz.call44 (by kernel_rfl)) (rectoref1_Check_w (X := []) (p := p) (Old.nil _) q0 hp) ?_)
  rintro _ p1 ⟨t1, hp, g9, rfl, d0⟩
  have y2 := Step.of0 X g9
  replace hp := hp d0
  refine sq (o_pv (.int .i64 t1) rfl (by kernel_rfl) ?_)
  refine nil_ ?_
  refine then_normal (i5 _ _ _ _ ?_)
  refine seq_ (fun _ i6 => ?_)
  refine reg_ ?_
  refine sq (o_pv (.int .i64 t1) rfl (by kernel_rfl) ?_)
  refine sq (o_pv (.bool (!decide (t1 = (0 : Int)))) rfl (by kernel_rfl) ?_)
  refine nil_ ?_
  refine then_normal (i6 _ _ _ _ ?_)
  refine cond_nd (t1 = (0 : Int)) (by kernel_rfl) (fun d1 => ?_) (fun d1 => ?_)
  ·
   replace hp := hp.1 d1
   refine seq_ (fun _ i7 => ?_)
   refine reg_ ?_
   refine sq (o_pv (.int .i64 t1) rfl (by kernel_rfl) ?_)
   refine sq (o_pv (.int .i64 t1) rfl (by kernel_rfl) ?_)
   refine nil_ ?_
   refine then_normal (i7 _ _ _ _ ?_)
   refine wp_ret ?_
   refine then_ret ?_
   have i9 := (Evo.then0 E0 g9)
   have n9 := (Sub.trans hS (Step.up y2))
   have o0 := (News.step hN y2)
   have h0 := (OB.step0 g1 y2)
   have k6 := (Sl.step v5 y2)
   have g6 := (Sl.step u6 y2)
   have k7 := (Sl.step v6 y2)
   have k8 := (Sl.step v7 y2)
   obtain ⟨h1, h2, f4⟩ := MO.pack (o_rectolaw5_Disk_mk h0 k6 rfl g6 rfl k7 rfl z4 z6 z5 z7 k8 rfl z8)
   refine end_ret hQ (.int .i64 t1) (by kernel_rfl) ?_
   exact ⟨d, t1, hp, X, h1, step_of i9 s2 n9 o0, rfl, h2, d0⟩
  ·
   replace hp := hp.2 d1
   refine wp_skip ?_
   refine then_normal (i4 _ _ _ _ ?_)
   refine seq_ (fun _ h3 => ?_)
   refine reg_ ?_
   refine sq (o_pv (.pointer (some ⟨z2, 0, none⟩)) rfl (by kernel_rfl) ?_)
   refine sq (o_pv (.pointer (some ⟨z2, 0, none⟩)) rfl (by kernel_rfl) ?_)
   refine sq (o_pv (.pointer (some ⟨z2, 1, none⟩)) rfl (by kernel_rfl) ?_)
   have n4 := (OB.step0 g1 y2)
   refine sq (o_pv (.slice z3 d.now.length z1) rfl (x_load1 (by kernel_rfl) Tryz.isAgg27 (n4.2.1.cell' 1 rfl)) ?_)
   refine sq (o_pv (.string p) rfl (by kernel_rfl) ?_)
   have s8 := (Sl.step u6 y2)
   refine sq (o_call 43 #[(.slice z3 d.now.length z1), (.string p)] rfl (x_call Tryz.call43 (by kernel_rfl)) (rectolaw5_get_w (X := []) (l := d.now) (p := p) (Old.nil _) (Sl.less s8 (Sub.nil _)) q0 hp) ?_)
   rintro _ p2 ⟨y5, hp, n5, rfl, o3⟩
   have t2 := Step.of0 X n5
   replace hp := hp o3
   refine sq (o_pv (.int .i64 y5) rfl (by kernel_rfl) ?_)
   refine nil_ ?_
   refine then_normal (h3 _ _ _ _ ?_)
   refine seq_ (fun _ h4 => ?_)
   refine reg_ ?_
   refine sq (o_pv (.int .i64 (0 : Int)) rfl (by kernel_rfl) ?_)
   refine nil_ ?_
   refine then_normal (h4 _ _ _ _ ?_)
   refine seq_ (fun _ h5 => ?_)
   refine seq_ (fun _ h6 => ?_)
   refine reg_ ?_
   refine sq (o_pv (.int .i64 y5) rfl (by kernel_rfl) ?_)
   refine sq (o_pv (.bool (decide (y5 ≥ (0 : Int)))) rfl (by kernel_rfl) ?_)
   refine nil_ ?_
   refine then_normal (h6 _ _ _ _ ?_)
   have g2 := (Old.step (Old.step hXo y2) t2)
   have n6 := (Evo.then0 (Evo.then0 E0 g9) n5)
   have d2 := (Sub.trans (Sub.trans hS (Step.up y2)) (Step.up t2))
   have d3 := (News.step (News.step hN y2) t2)
   have d4 := (OB.step0 n4 t2)
   have s3 := (Sl.step (Sl.step v5 y2) t2)
   have t0 := (Sl.step s8 t2)
   have t3 := (Sl.step (Sl.step v6 y2) t2)
   have t4 := (Sl.step (Sl.step v7 y2) t2)
   obtain ⟨h7, o4, hp⟩ := hp
   refine ground_ ?_
   refine join_ 274341038080 (fun lq u9 => ∃ (y1 : List Nat) (z0 : Int), (lq = [(11, (.int .i64 z0))]) ∧ (Evo u7 w u9) ∧ (Old y1 u9) ∧ (Sub X y1) ∧ (News X w y1 u9) ∧ (Sl r_rectolaw5_one y1 u9 y9 v0 d.kept) ∧ (Sl r_rectolaw5_one y1 u9 z3 z1 d.now) ∧ (Sl r_rectolaw5_op y1 u9 v1 v2 d.wait) ∧ (Sl rBool y1 u9 v3 v4 d.keep) ∧ (OB u7 w.heap.size y1 u9 z2 [(.slice y9 d.kept.length v0), (.slice z3 d.now.length z1), (.slice v1 d.wait.length v2), (.int .i64 d.quota), (.int .i64 d.time), (.int .i64 d.inode), (.bool d.off), (.bool d.armed), (.int .i64 d.left), (.slice v3 d.keep.length v4), (.int .i64 d.ops_)] 31) ∧ (inR .i64 z0) ∧ (h7 z0)) (fun f5 d5 => ?_) ?_
   ·
    refine cond_d (y5 ≥ (0 : Int)) (by kernel_rfl) (fun k9 => ?_) (fun k9 => ?_)
    ·
     replace hp := hp.1 k9
     refine reg_ ?_
     refine sq (o_pv (.pointer (some ⟨z2, 0, none⟩)) rfl (by kernel_rfl) ?_)
     refine sq (o_pv (.pointer (some ⟨z2, 0, none⟩)) rfl (by kernel_rfl) ?_)
     refine sq (o_pv (.pointer (some ⟨z2, 1, none⟩)) rfl (by kernel_rfl) ?_)
     refine sq (o_pv (.slice z3 d.now.length z1) rfl (x_load1 (by kernel_rfl) Tryz.isAgg27 (d4.2.1.cell' 1 rfl)) ?_)
     refine sq (o_pv (.int .i64 y5) rfl (by kernel_rfl) ?_)
     obtain ⟨d6, hp⟩ := hp
     obtain ⟨d7, d8, h9, l9, b0, b1, m0, m1⟩ := Sl.atI t0 y5 d6
     obtain ⟨rfl, q1, t5, q2, q3, s9⟩ := r_rectolaw5_one_open m0
     replace hp := hp q1
     replace hp := hp t5
     replace hp := hp q2
     replace hp := hp q3
     replace hp := hp s9
     refine sq (o_pv (.pointer (some ⟨d7, d8 + y5.toNat * 5, none⟩)) rfl (x_ixA (m := d.now.length) (c := z1) (k := .i64) (i := y5) Tryz.underlying27 Tryz.sizeOf90 (by rw [← l9]; kernel_rfl) (by kernel_rfl) d6) ?_)
     refine sq (o_pv (.pointer (some ⟨d7, d8 + y5.toNat * 5 + 1, none⟩)) rfl (by kernel_rfl) ?_)
     refine sq (o_pv (.string ((lget d.now y5).data)) rfl (x_load1 (by kernel_rfl) Tryz.isAgg9 (m1 1 _ rfl)) ?_)
     refine sq (o_pv (.int .i64 (((lget d.now y5).data).size : Int)) rfl (by kernel_rfl) ?_)
     refine sq (o_pv (.int .i64 (((lget d.now y5).data).size : Int)) rfl (by kernel_rfl) ?_)
     refine nil_ ?_
     refine then_normal (d5 _ _ _ ⟨[(11, (.int .i64 (((lget d.now y5).data).size : Int)))], fit_mk (fun _ _ => rfl) (by kernel_rfl) (vs_cons (by kernel_rfl) vs_nil), ?_⟩)
     exact ⟨X, (((lget d.now y5).data).size : Int), rfl, n6, g2, d2, d3, s3, t0, t3, t4, d4, (inR_size t5), hp⟩
    ·
     replace hp := hp.2 k9
     refine wp_skip ?_
     refine then_normal (d5 _ _ _ ⟨[(11, (.int .i64 (0 : Int)))], fit_mk (fun _ _ => rfl) (by kernel_rfl) (vs_cons (by kernel_rfl) vs_nil), ?_⟩)
     exact ⟨X, (0 : Int), rfl, n6, g2, d2, d3, s3, t0, t3, t4, d4, (by decide : inR .i64 (0 : Int)), hp⟩
   ·
    rintro _ u9 f6 ⟨y1, z0, rfl, r0, d9, t9, s0, y6, y3, y7, y8, s4, l0, o5⟩
    replace hp := o4 z0 o5 l0
    refine then_normal (h5 _ _ _ _ ?_)
    refine seq_ (fun _ o6 => ?_)
    refine wp_block ?_
    refine seq_ (fun _ o7 => ?_)
    refine reg_ ?_
    refine sq (o_pv (.int .i64 n_) rfl (by kernel_rfl) ?_)
    refine sq (o_pv (.bool (decide (n_ > (65536 : Int)))) rfl (by kernel_rfl) ?_)
    refine sq (o_pv (.bool (decide (n_ > (65536 : Int)))) rfl (by kernel_rfl) ?_)
    refine nil_ ?_
    refine then_normal (o7 _ _ _ _ ?_)
    refine cond_d (n_ > (65536 : Int)) (by kernel_rfl) (fun j0 => ?_) (fun j0 => ?_)
    ·
     replace hp := hp.1 j0
     refine seq_ (fun _ o8 => ?_)
     refine reg_ ?_
     refine sq (o_pv (.int .i64 (4 : Int)) rfl (by kernel_rfl) ?_)
     refine nil_ ?_
     refine then_normal (o8 _ _ _ _ ?_)
     refine wp_ret ?_
     refine blk_ret ?_
     refine then_ret ?_
     obtain ⟨o9, c0, b2⟩ := MO.pack (o_rectolaw5_Disk_mk s4 y6 rfl y3 rfl y7 rfl z4 z6 z5 z7 y8 rfl z8)
     refine end_ret hQ (.int .i64 (4 : Int)) (by kernel_rfl) ?_
     exact ⟨d, (4 : Int), hp, y1, o9, step_of r0 s2 t9 s0, rfl, c0, (by decide : inR .i64 (4 : Int))⟩
    ·
     replace hp := hp.2 j0
     refine seq_ (fun _ c1 => ?_)
     refine ground_ ?_
     refine join_ 279275953455104 (fun lq l1 => lq = [(41, (.bool (decide ((¬ (mode = (1 : Int))) ∧ (¬ (mode = (2 : Int)))))))] ∧ u9 = l1) (fun b3 g3 => ?_) ?_
     ·
      refine reg_ ?_
      refine sq (o_pv (.int .i64 mode) rfl (by kernel_rfl) ?_)
      by_cases r1 : mode = (1 : Int)
      ·
       refine sq (o_pv (.bool false) rfl (x_ndf (p := mode = (1 : Int)) (by kernel_rfl) r1) ?_)
       refine sq (o_pv (.bool false) rfl (by kernel_rfl) ?_)
       refine sq (o_not (by kernel_rfl) ?_)
       refine sq (o_not (by kernel_rfl) ?_)
       refine sq (o_pv (.bool false) rfl (by kernel_rfl) ?_)
       refine sq (o_pv (.bool false) rfl (by kernel_rfl) ?_)
       refine nil_ ?_
       refine then_normal (g3 _ _ _ ⟨[(41, (.bool (decide ((¬ (mode = (1 : Int))) ∧ (¬ (mode = (2 : Int)))))))], fit_mk (fun _ _ => rfl) (by kernel_rfl) (vs_cons (Eq.trans (b := (.bool false)) (by kernel_rfl) (dec_f (iff_false_intro (fun h => (fun f7 => f7 r1) h.1))).symm) vs_nil), rfl, rfl⟩)
      ·
       refine sq (o_pv (.bool true) rfl (x_ndt (p := mode = (1 : Int)) (by kernel_rfl) r1) ?_)
       refine sq (o_pv (.bool true) rfl (by kernel_rfl) ?_)
       refine sq (o_pv (.int .i64 mode) (by kernel_rfl) (by kernel_rfl) ?_)
       refine sq (o_pv (.bool (!decide (mode = (2 : Int)))) (by kernel_rfl) (by kernel_rfl) ?_)
       refine sq (o_pv (.bool (!decide (mode = (2 : Int)))) rfl (by kernel_rfl) ?_)
       refine sq (o_pv (.bool (!decide (mode = (2 : Int)))) rfl (by kernel_rfl) ?_)
       refine nil_ ?_
       refine then_normal (g3 _ _ _ ⟨[(41, (.bool (decide ((¬ (mode = (1 : Int))) ∧ (¬ (mode = (2 : Int)))))))], fit_mk (fun _ _ => rfl) (by kernel_rfl) (vs_cons (Eq.trans (b := (.bool (!decide (mode = (2 : Int))))) (by kernel_rfl) (dec_n ((and_iff_right r1).trans Iff.rfl)).symm) vs_nil), rfl, rfl⟩)
     ·
      rintro _ l1 f8 ⟨rfl, hw⟩
      subst hw
      refine then_normal (c1 _ _ _ _ ?_)
      refine cond_d ((¬ (mode = (1 : Int))) ∧ (¬ (mode = (2 : Int)))) (by kernel_rfl) (fun j1 => ?_) (fun j1 => ?_)
      ·
       replace hp := hp.1 j1
       refine seq_ (fun _ c2 => ?_)
       refine reg_ ?_
       refine sq (o_pv (.int .i64 (1 : Int)) rfl (by kernel_rfl) ?_)
       refine nil_ ?_
       refine then_normal (c2 _ _ _ _ ?_)
       refine wp_ret ?_
       refine blk_ret ?_
       refine then_ret ?_
       obtain ⟨c3, c4, b4⟩ := MO.pack (o_rectolaw5_Disk_mk s4 y6 rfl y3 rfl y7 rfl z4 z6 z5 z7 y8 rfl z8)
       refine end_ret hQ (.int .i64 (1 : Int)) (by kernel_rfl) ?_
       exact ⟨d, (1 : Int), hp, y1, c3, step_of r0 s2 t9 s0, rfl, c4, (by decide : inR .i64 (1 : Int))⟩
      ·
       replace hp := hp.2 j1
       refine seq_ (fun _ c5 => ?_)
       refine reg_ ?_
       refine sq (o_pv (.pointer (some ⟨z2, 0, none⟩)) rfl (by kernel_rfl) ?_)
       refine sq (o_pv (.pointer (some ⟨z2, 0, none⟩)) rfl (by kernel_rfl) ?_)
       refine sq (o_pv (.pointer (some ⟨z2, 1, none⟩)) rfl (by kernel_rfl) ?_)
       refine sq (o_pv (.slice z3 d.now.length z1) rfl (x_load1 (by kernel_rfl) Tryz.isAgg27 (s4.2.1.cell' 1 rfl)) ?_)
       refine sq (o_pv (.string p) rfl (by kernel_rfl) ?_)
       refine sq (o_pv (.string p) rfl (by kernel_rfl) ?_)
       refine sq (o_call 45 #[(.slice z3 d.now.length z1), (.string p), (.string p)] rfl (x_call Tryz.call45 (by kernel_rfl)) (rectolaw5_clash_w (X := []) (l := d.now) (p := p) (but := p) (Old.nil _) (Sl.less y3 (Sub.nil _)) q0 q0 hp) ?_)
       rintro _ j2 ⟨l2, hp, j3, rfl⟩
       have y0 := Step.of0 y1 j3
       refine sq (o_pv (.bool l2) rfl (by kernel_rfl) ?_)
       refine nil_ ?_
       refine then_normal (c5 _ _ _ _ ?_)
       refine cond_b l2 (by kernel_rfl) (fun j4 => ?_) (fun j4 => ?_)
       ·
        replace hp := hp.1 j4
        refine seq_ (fun _ c6 => ?_)
        refine reg_ ?_
        refine sq (o_pv (.int .i64 (11 : Int)) rfl (by kernel_rfl) ?_)
        refine nil_ ?_
        refine then_normal (c6 _ _ _ _ ?_)
        refine wp_ret ?_
        refine blk_ret ?_
        refine then_ret ?_
        have c7 := (Evo.then0 r0 j3)
        have m2 := (Sub.trans t9 (Step.up y0))
        have m3 := (News.step s0 y0)
        have q4 := (Sl.step y6 y0)
        have j5 := (Sl.step y3 y0)
        have q5 := (Sl.step y7 y0)
        have q6 := (Sl.step y8 y0)
        have c8 := (OB.step0 s4 y0)
        obtain ⟨c9, a0, b5⟩ := MO.pack (o_rectolaw5_Disk_mk c8 q4 rfl j5 rfl q5 rfl z4 z6 z5 z7 q6 rfl z8)
        refine end_ret hQ (.int .i64 (11 : Int)) (by kernel_rfl) ?_
        exact ⟨d, (11 : Int), hp, y1, c9, step_of c7 s2 m2 m3, rfl, a0, (by decide : inR .i64 (11 : Int))⟩
       ·
        replace hp := hp.2 j4
        refine seq_ (fun _ a1 => ?_)
        have a2 := (Evo.then0 r0 j3)
        have l3 := (Old.step d9 y0)
        have m4 := (Sub.trans t9 (Step.up y0))
        have m5 := (News.step s0 y0)
        have q7 := (Sl.step y6 y0)
        have j6 := (Sl.step y3 y0)
        have q8 := (Sl.step y7 y0)
        have q9 := (Sl.step y8 y0)
        have a3 := (OB.step0 s4 y0)
        obtain ⟨a4, m6, hp⟩ := hp
        refine ground_ ?_
        refine join_ 9671406484859439359721472 (fun lq v8 => ∃ (y4 : List Nat) (s5 : Bool), (lq = [(56, (.bool s5))]) ∧ (Evo u7 w v8) ∧ (Old y4 v8) ∧ (Sub X y4) ∧ (News X w y4 v8) ∧ (Sl r_rectolaw5_one y4 v8 y9 v0 d.kept) ∧ (Sl r_rectolaw5_one y4 v8 z3 z1 d.now) ∧ (Sl r_rectolaw5_op y4 v8 v1 v2 d.wait) ∧ (Sl rBool y4 v8 v3 v4 d.keep) ∧ (OB u7 w.heap.size y4 v8 z2 [(.slice y9 d.kept.length v0), (.slice z3 d.now.length z1), (.slice v1 d.wait.length v2), (.int .i64 d.quota), (.int .i64 d.time), (.int .i64 d.inode), (.bool d.off), (.bool d.armed), (.int .i64 d.left), (.slice v3 d.keep.length v4), (.int .i64 d.ops_)] 31) ∧ (a4 s5)) (fun b6 r2 => ?_) ?_
        ·
         refine reg_drawn (RB j2.heap.size []) 26 (by kernel_rfl) (fun l4 r3 => ?_)
         have a5 := Evo.of_drew r3
         have r4 : l4.heap.size = j2.heap.size := by rw [r3]
         clear r3
         have v9 := Step.of0 y1 a5
         have s1 := RB.refl j2.heap.size [] l4
         have j7 := (Evo.then0 a2 (Step.evo v9))
         have s6 := (Old.step l3 v9)
         have r5 := (Sub.trans m4 (Step.up v9))
         have r6 := (News.step m5 v9)
         have u3 := (Sl.step q7 v9)
         have u0 := (Sl.step j6 v9)
         have u4 := (Sl.step q8 v9)
         have u5 := (Sl.step q9 v9)
         have u1 := (OB.step0 a3 v9)
         refine r_take 0 (.pointer (some ⟨z2, 0, none⟩)) (RB.pre _ _) rfl (by kernel_rfl) (fun _ _ _ h => hQ.panic _ _ _ _ _ h) (.inl ⟨rfl, fun wq hq => (by kernel_rfl)⟩) ?_
         refine r_take 1 (.pointer (some ⟨z2, 0, none⟩)) (RB.pre _ _) rfl (by kernel_rfl) (fun _ _ _ h => hQ.panic _ _ _ _ _ h) (.inl ⟨rfl, fun wq hq => (by kernel_rfl)⟩) ?_
         refine r_take 2 (.pointer (some ⟨z2, 3, none⟩)) (RB.pre _ _) rfl (by kernel_rfl) (fun _ _ _ h => hQ.panic _ _ _ _ _ h) (.inl ⟨rfl, fun wq hq => (by kernel_rfl)⟩) ?_
         refine r_take 3 (.int .i64 d.quota) (RB.pre _ _) rfl (by kernel_rfl) (fun _ _ _ h => hQ.panic _ _ _ _ _ h) (.inl ⟨rfl, fun wq hq => (x_load1 (by kernel_rfl) Tryz.isAgg3 ((Blk.rb u1.2.1 (RB.trans s1 hq) (Nat.lt_of_lt_of_eq (Blk.lt u1.2.1) r4) (fun h => by cases h)).cell' 3 rfl))⟩) ?_
         by_cases r7 : d.quota > (0 : Int)
         ·
          replace hp := hp.1 r7
          refine r_take 4 (.bool true) (RB.pre _ _) rfl (by kernel_rfl) (fun _ _ _ h => hQ.panic _ _ _ _ _ h) (.inl ⟨rfl, fun wq hq => (x_dt (p := d.quota > (0 : Int)) (by kernel_rfl) r7)⟩) ?_
          refine r_take 5 (.bool true) (RB.pre _ _) rfl (by kernel_rfl) (fun _ _ _ h => hQ.panic _ _ _ _ _ h) (.inl ⟨rfl, fun wq hq => (by kernel_rfl)⟩) ?_
          refine r_take 6 (.pointer (some ⟨z2, 0, none⟩)) (RB.pre _ _) rfl (by kernel_rfl) (fun _ _ _ h => hQ.panic _ _ _ _ _ h) (.inl ⟨(by kernel_rfl), fun wq hq => (by kernel_rfl)⟩) ?_
          refine r_take 7 (.pointer (some ⟨z2, 0, none⟩)) (RB.pre _ _) rfl (by kernel_rfl) (fun _ _ _ h => hQ.panic _ _ _ _ _ h) (.inl ⟨(by kernel_rfl), fun wq hq => (by kernel_rfl)⟩) ?_
          refine r_take 8 (.pointer (some ⟨z2, 1, none⟩)) (RB.pre _ _) rfl (by kernel_rfl) (fun _ _ _ h => hQ.panic _ _ _ _ _ h) (.inl ⟨(by kernel_rfl), fun wq hq => (by kernel_rfl)⟩) ?_
          refine r_take 9 (.slice z3 d.now.length z1) (RB.pre _ _) rfl (by kernel_rfl) (fun _ _ _ h => hQ.panic _ _ _ _ _ h) (.inl ⟨(by kernel_rfl), fun wq hq => (x_load1 (by kernel_rfl) Tryz.isAgg27 ((Blk.rb u1.2.1 (RB.trans s1 hq) (Nat.lt_of_lt_of_eq (Blk.lt u1.2.1) r4) (fun h => by cases h)).cell' 1 rfl))⟩) ?_
          refine r_take 11 (.int .i64 z0) (RB.pre _ _) rfl (by kernel_rfl) (fun _ _ _ h => hQ.panic _ _ _ _ _ h) (.inl ⟨(by kernel_rfl), fun wq hq => (by kernel_rfl)⟩) ?_
          refine r_take 13 (.int .i64 n_) (RB.pre _ _) rfl (by kernel_rfl) (fun _ _ _ h => hQ.panic _ _ _ _ _ h) (.inl ⟨(by kernel_rfl), fun wq hq => (by kernel_rfl)⟩) ?_
          refine r_take 15 (.pointer (some ⟨z2, 0, none⟩)) (RB.pre _ _) rfl (by kernel_rfl) (fun _ _ _ h => hQ.panic _ _ _ _ _ h) (.inl ⟨(by kernel_rfl), fun wq hq => (by kernel_rfl)⟩) ?_
          refine r_take 16 (.pointer (some ⟨z2, 0, none⟩)) (RB.pre _ _) rfl (by kernel_rfl) (fun _ _ _ h => hQ.panic _ _ _ _ _ h) (.inl ⟨(by kernel_rfl), fun wq hq => (by kernel_rfl)⟩) ?_
          refine r_take 17 (.pointer (some ⟨z2, 3, none⟩)) (RB.pre _ _) rfl (by kernel_rfl) (fun _ _ _ h => hQ.panic _ _ _ _ _ h) (.inl ⟨(by kernel_rfl), fun wq hq => (by kernel_rfl)⟩) ?_
          refine r_take 18 (.int .i64 d.quota) (RB.pre _ _) rfl (by kernel_rfl) (fun _ _ _ h => hQ.panic _ _ _ _ _ h) (.inl ⟨(by kernel_rfl), fun wq hq => (x_load1 (by kernel_rfl) Tryz.isAgg3 ((Blk.rb u1.2.1 (RB.trans s1 hq) (Nat.lt_of_lt_of_eq (Blk.lt u1.2.1) r4) (fun h => by cases h)).cell' 3 rfl))⟩) ?_
          refine r_ready [10] (by kernel_rfl) rfl (all_cons ⟨_, _, _, _, _, _, rfl, ?_⟩ all_nil)
          refine o_call 55 #[(.slice z3 d.now.length z1)] (by kernel_rfl) (x_call Tryz.call55 (by kernel_rfl)) (rectolaw5_used_w (X := []) (l := d.now) (Old.nil _) (Sl.less u0 (Sub.nil _)) hp) ?_
          rintro _ f9 ⟨u2, hp, r8, rfl, m7⟩
          have rm := RB.mono (F' := []) r8 (Nat.le_trans (Nat.le_of_eq r4.symm) (RB.size s1)) (fun _ h => by cases h)
          refine ⟨fun _ => rm, ?_⟩
          have z9 := Step.of0 y1 r8
          replace hp := hp m7
          obtain ⟨a6, hp⟩ := hp
          refine r_take 12 (.int .i64 (u2 - z0)) (RB.pre _ _) rfl (by kernel_rfl) (fun _ _ _ h => hQ.panic _ _ _ _ _ h) (.inl ⟨(by kernel_rfl), fun wq hq => (x_sub2 (k := .i64) (a := u2) (b := z0) (u2 - z0) (by kernel_rfl) (by kernel_rfl) (wrap_inR a6))⟩) ?_
          obtain ⟨a7, hp⟩ := hp
          refine r_take 14 (.int .i64 ((u2 - z0) + n_)) (RB.pre _ _) rfl (by kernel_rfl) (fun _ _ _ h => hQ.panic _ _ _ _ _ h) (.inl ⟨(by kernel_rfl), fun wq hq => (x_add2 (k := .i64) (a := u2 - z0) (b := n_) ((u2 - z0) + n_) (by kernel_rfl) (by kernel_rfl) (wrap_inR a7))⟩) ?_
          by_cases r9 : ((u2 - z0) + n_) > d.quota
          ·
           replace hp := hp.1 r9
           refine r_take 19 (.bool true) (RB.pre _ _) rfl (by kernel_rfl) (fun _ _ _ h => hQ.panic _ _ _ _ _ h) (.inl ⟨(by kernel_rfl), fun wq hq => (x_dt (p := ((u2 - z0) + n_) > d.quota) (by kernel_rfl) r9)⟩) ?_
           refine r_take 20 (.bool true) (RB.pre _ _) rfl (by kernel_rfl) (fun _ _ _ h => hQ.panic _ _ _ _ _ h) (.inl ⟨rfl, fun wq hq => (by kernel_rfl)⟩) ?_
           refine r_take 21 (.bool true) (RB.pre _ _) rfl (by kernel_rfl) (fun _ _ _ h => hQ.panic _ _ _ _ _ h) (.inl ⟨rfl, fun wq hq => (by kernel_rfl)⟩) ?_
           refine r_take 22 (.int .i64 n_) (RB.pre _ _) rfl (by kernel_rfl) (fun _ _ _ h => hQ.panic _ _ _ _ _ h) (.inl ⟨(by kernel_rfl), fun wq hq => (by kernel_rfl)⟩) ?_
           refine r_take 23 (.int .i64 z0) (RB.pre _ _) rfl (by kernel_rfl) (fun _ _ _ h => hQ.panic _ _ _ _ _ h) (.inl ⟨(by kernel_rfl), fun wq hq => (by kernel_rfl)⟩) ?_
           refine r_take 24 (.bool (decide (n_ > z0))) (RB.pre _ _) rfl (by kernel_rfl) (fun _ _ _ h => hQ.panic _ _ _ _ _ h) (.inl ⟨(by kernel_rfl), fun wq hq => (by kernel_rfl)⟩) ?_
           refine r_take 25 (.bool (decide (n_ > z0))) (RB.pre _ _) rfl (by kernel_rfl) (fun _ _ _ h => hQ.panic _ _ _ _ _ h) (.inl ⟨rfl, fun wq hq => (by kernel_rfl)⟩) ?_
           refine r_ready [26] (by kernel_rfl) rfl (all_cons ⟨_, _, _, _, _, _, rfl, ?_⟩ all_nil)
           refine o_pv (.bool (decide (n_ > z0))) rfl (by kernel_rfl) ?_
           refine ⟨fun h => absurd h (by decide), ?_⟩
           refine r_done (by kernel_rfl) ?_
           have a8 := (Evo.then0 j7 r8)
           have l5 := (Old.step s6 z9)
           have m8 := (Sub.trans r5 (Step.up z9))
           have m9 := (News.step r6 z9)
           have k0 := (Sl.step u3 z9)
           have j8 := (Sl.step u0 z9)
           have k1 := (Sl.step u4 z9)
           have k2 := (Sl.step u5 z9)
           have a9 := (OB.step0 u1 z9)
           refine then_normal (r2 _ _ _ ⟨[(56, (.bool (decide (n_ > z0))))], fit_mk (fun _ _ => rfl) (by kernel_rfl) (vs_cons (by kernel_rfl) vs_nil), ?_⟩)
           exact ⟨y1, (decide (n_ > z0)), rfl, a8, l5, m8, m9, k0, j8, k1, k2, a9, hp⟩
          ·
           replace hp := hp.2 r9
           refine r_take 19 (.bool false) (RB.pre _ _) rfl (by kernel_rfl) (fun _ _ _ h => hQ.panic _ _ _ _ _ h) (.inl ⟨(by kernel_rfl), fun wq hq => (x_df (p := ((u2 - z0) + n_) > d.quota) (by kernel_rfl) r9)⟩) ?_
           refine r_take 20 (.bool false) (RB.pre _ _) rfl (by kernel_rfl) (fun _ _ _ h => hQ.panic _ _ _ _ _ h) (.inl ⟨rfl, fun wq hq => (by kernel_rfl)⟩) ?_
           refine r_take 21 (.bool false) (RB.pre _ _) rfl (by kernel_rfl) (fun _ _ _ h => hQ.panic _ _ _ _ _ h) (.inl ⟨rfl, fun wq hq => (by kernel_rfl)⟩) ?_
           refine r_take 22 undef (RB.pre _ _) rfl (by kernel_rfl) (fun _ _ _ h => hQ.panic _ _ _ _ _ h) (.inr ⟨by kernel_rfl, rfl⟩) ?_
           refine r_take 23 undef (RB.pre _ _) rfl (by kernel_rfl) (fun _ _ _ h => hQ.panic _ _ _ _ _ h) (.inr ⟨by kernel_rfl, rfl⟩) ?_
           refine r_take 24 undef (RB.pre _ _) rfl (by kernel_rfl) (fun _ _ _ h => hQ.panic _ _ _ _ _ h) (.inr ⟨by kernel_rfl, rfl⟩) ?_
           refine r_take 25 (.bool false) (RB.pre _ _) rfl (by kernel_rfl) (fun _ _ _ h => hQ.panic _ _ _ _ _ h) (.inl ⟨rfl, fun wq hq => (by kernel_rfl)⟩) ?_
           refine r_ready [26] (by kernel_rfl) rfl (all_cons ⟨_, _, _, _, _, _, rfl, ?_⟩ all_nil)
           refine o_pv (.bool false) rfl (by kernel_rfl) ?_
           refine ⟨fun h => absurd h (by decide), ?_⟩
           refine r_done (by kernel_rfl) ?_
           have e0 := (Evo.then0 j7 r8)
           have l6 := (Old.step s6 z9)
           have n0 := (Sub.trans r5 (Step.up z9))
           have n1 := (News.step r6 z9)
           have k3 := (Sl.step u3 z9)
           have j9 := (Sl.step u0 z9)
           have k4 := (Sl.step u4 z9)
           have k5 := (Sl.step u5 z9)
           have e1 := (OB.step0 u1 z9)
           refine then_normal (r2 _ _ _ ⟨[(56, (.bool false))], fit_mk (fun _ _ => rfl) (by kernel_rfl) (vs_cons (by kernel_rfl) vs_nil), ?_⟩)
           exact ⟨y1, false, rfl, e0, l6, n0, n1, k3, j9, k4, k5, e1, hp⟩
         ·
          replace hp := hp.2 r7
          refine r_take 4 (.bool false) (RB.pre _ _) rfl (by kernel_rfl) (fun _ _ _ h => hQ.panic _ _ _ _ _ h) (.inl ⟨rfl, fun wq hq => (x_df (p := d.quota > (0 : Int)) (by kernel_rfl) r7)⟩) ?_
          refine r_take 5 (.bool false) (RB.pre _ _) rfl (by kernel_rfl) (fun _ _ _ h => hQ.panic _ _ _ _ _ h) (.inl ⟨rfl, fun wq hq => (by kernel_rfl)⟩) ?_
          refine r_take 6 undef (RB.pre _ _) rfl (by kernel_rfl) (fun _ _ _ h => hQ.panic _ _ _ _ _ h) (.inr ⟨by kernel_rfl, rfl⟩) ?_
          refine r_take 7 undef (RB.pre _ _) rfl (by kernel_rfl) (fun _ _ _ h => hQ.panic _ _ _ _ _ h) (.inr ⟨by kernel_rfl, rfl⟩) ?_
          refine r_take 8 undef (RB.pre _ _) rfl (by kernel_rfl) (fun _ _ _ h => hQ.panic _ _ _ _ _ h) (.inr ⟨by kernel_rfl, rfl⟩) ?_
          refine r_take 9 undef (RB.pre _ _) rfl (by kernel_rfl) (fun _ _ _ h => hQ.panic _ _ _ _ _ h) (.inr ⟨by kernel_rfl, rfl⟩) ?_
          refine r_take 10 undef (RB.pre _ _) rfl (by kernel_rfl) (fun _ _ _ h => hQ.panic _ _ _ _ _ h) (.inr ⟨by kernel_rfl, rfl⟩) ?_
          refine r_take 11 undef (RB.pre _ _) rfl (by kernel_rfl) (fun _ _ _ h => hQ.panic _ _ _ _ _ h) (.inr ⟨by kernel_rfl, rfl⟩) ?_
          refine r_take 12 undef (RB.pre _ _) rfl (by kernel_rfl) (fun _ _ _ h => hQ.panic _ _ _ _ _ h) (.inr ⟨by kernel_rfl, rfl⟩) ?_
          refine r_take 13 undef (RB.pre _ _) rfl (by kernel_rfl) (fun _ _ _ h => hQ.panic _ _ _ _ _ h) (.inr ⟨by kernel_rfl, rfl⟩) ?_
          refine r_take 14 undef (RB.pre _ _) rfl (by kernel_rfl) (fun _ _ _ h => hQ.panic _ _ _ _ _ h) (.inr ⟨by kernel_rfl, rfl⟩) ?_
          refine r_take 15 undef (RB.pre _ _) rfl (by kernel_rfl) (fun _ _ _ h => hQ.panic _ _ _ _ _ h) (.inr ⟨by kernel_rfl, rfl⟩) ?_
          refine r_take 16 undef (RB.pre _ _) rfl (by kernel_rfl) (fun _ _ _ h => hQ.panic _ _ _ _ _ h) (.inr ⟨by kernel_rfl, rfl⟩) ?_
          refine r_take 17 undef (RB.pre _ _) rfl (by kernel_rfl) (fun _ _ _ h => hQ.panic _ _ _ _ _ h) (.inr ⟨by kernel_rfl, rfl⟩) ?_
          refine r_take 18 undef (RB.pre _ _) rfl (by kernel_rfl) (fun _ _ _ h => hQ.panic _ _ _ _ _ h) (.inr ⟨by kernel_rfl, rfl⟩) ?_
          refine r_take 19 undef (RB.pre _ _) rfl (by kernel_rfl) (fun _ _ _ h => hQ.panic _ _ _ _ _ h) (.inr ⟨by kernel_rfl, rfl⟩) ?_
          refine r_take 20 (.bool false) (RB.pre _ _) rfl (by kernel_rfl) (fun _ _ _ h => hQ.panic _ _ _ _ _ h) (.inl ⟨rfl, fun wq hq => (by kernel_rfl)⟩) ?_
          refine r_take 21 (.bool false) (RB.pre _ _) rfl (by kernel_rfl) (fun _ _ _ h => hQ.panic _ _ _ _ _ h) (.inl ⟨rfl, fun wq hq => (by kernel_rfl)⟩) ?_
          refine r_take 22 undef (RB.pre _ _) rfl (by kernel_rfl) (fun _ _ _ h => hQ.panic _ _ _ _ _ h) (.inr ⟨by kernel_rfl, rfl⟩) ?_
          refine r_take 23 undef (RB.pre _ _) rfl (by kernel_rfl) (fun _ _ _ h => hQ.panic _ _ _ _ _ h) (.inr ⟨by kernel_rfl, rfl⟩) ?_
          refine r_take 24 undef (RB.pre _ _) rfl (by kernel_rfl) (fun _ _ _ h => hQ.panic _ _ _ _ _ h) (.inr ⟨by kernel_rfl, rfl⟩) ?_
          refine r_take 25 (.bool false) (RB.pre _ _) rfl (by kernel_rfl) (fun _ _ _ h => hQ.panic _ _ _ _ _ h) (.inl ⟨rfl, fun wq hq => (by kernel_rfl)⟩) ?_
          refine r_ready [26] (by kernel_rfl) rfl (all_cons ⟨_, _, _, _, _, _, rfl, ?_⟩ all_nil)
          refine o_pv (.bool false) rfl (by kernel_rfl) ?_
          refine ⟨fun h => absurd h (by decide), ?_⟩
          refine r_done (by kernel_rfl) ?_
          refine then_normal (r2 _ _ _ ⟨[(56, (.bool false))], fit_mk (fun _ _ => rfl) (by kernel_rfl) (vs_cons (by kernel_rfl) vs_nil), ?_⟩)
          exact ⟨y1, false, rfl, j7, s6, r5, r6, u3, u0, u4, u5, u1, hp⟩
        ·
         rintro _ v8 p0 ⟨y4, s5, rfl, l7, h8, g4, g5, t6, s7, t7, t8, l8, n2⟩
         replace hp := m6 s5 n2
         refine then_normal (a1 _ _ _ _ ?_)
         refine cond_b s5 (by kernel_rfl) (fun g0 => ?_) (fun g0 => ?_)
         ·
          replace hp := hp.1 g0
          refine seq_ (fun _ e2 => ?_)
          refine reg_ ?_
          refine sq (o_pv (.int .i64 (14 : Int)) rfl (by kernel_rfl) ?_)
          refine nil_ ?_
          refine then_normal (e2 _ _ _ _ ?_)
          refine wp_ret ?_
          refine blk_ret ?_
          refine then_ret ?_
          obtain ⟨e3, e4, b7⟩ := MO.pack (o_rectolaw5_Disk_mk l8 t6 rfl s7 rfl t7 rfl z4 z6 z5 z7 t8 rfl z8)
          refine end_ret hQ (.int .i64 (14 : Int)) (by kernel_rfl) ?_
          exact ⟨d, (14 : Int), hp, y4, e3, step_of l7 s2 g4 g5, rfl, e4, (by decide : inR .i64 (14 : Int))⟩
         ·
          replace hp := hp.2 g0
          refine wp_skip ?_
          refine blk_normal ?_
          refine then_normal (o6 _ _ _ _ ?_)
          refine seq_ (fun _ e5 => ?_)
          refine reg_ ?_
          refine sq (o_pv (.int .i64 (0 : Int)) rfl (by kernel_rfl) ?_)
          refine nil_ ?_
          refine then_normal (e5 _ _ _ _ ?_)
          refine wp_ret ?_
          obtain ⟨e6, e7, b8⟩ := MO.pack (o_rectolaw5_Disk_mk l8 t6 rfl s7 rfl t7 rfl z4 z6 z5 z7 t8 rfl z8)
          refine end_ret hQ (.int .i64 (0 : Int)) (by kernel_rfl) ?_
          exact ⟨d, (0 : Int), hp, y4, e6, step_of l7 s2 g4 g5, rfl, e7, (by decide : inR .i64 (0 : Int))⟩
def rectolaw5_Disk_file_p (d : S_rectolaw5_Disk) (p : ByteArray) (mode : Int) (b : ByteArray) (Q : S_rectolaw5_Disk → S_rectolaw5_one → Prop) : Prop :=
 ((p.size ≤ maxLen) → ((inR .i64 mode) → ((b.size ≤ maxLen) → ((d.kept.length ≤ 9223372036854775807) → ((d.now.length ≤ 9223372036854775807) → ((d.wait.length ≤ 9223372036854775807) → ((inR .i64 d.quota) → ((inR .i64 d.time) → ((inR .i64 d.inode) → ((inR .i64 d.left) → ((d.keep.length ≤ 9223372036854775807) → ((inR .i64 d.ops_) → (rectolaw5_get_p d.now p (fun (z0 : Int) => ((inR .i64 z0) → (∃ z1 : Int → Int → Prop, (∀ (z2 : Int) (z3 : Int), z1 z2 z3 → (inR .i64 z2) → (inR .i64 z3) → Q (S_rectolaw5_Disk.mk d.kept d.now d.wait d.quota d.time z3 d.off d.armed d.left d.keep d.ops_) (S_rectolaw5_one.mk p b mode d.time z2)) ∧ (((z0 ≥ (0 : Int)) → ((inL d.now z0) ∧ ((((lget d.now z0).path).size ≤ maxLen) → ((((lget d.now z0).data).size ≤ maxLen) → ((inR .i64 ((lget d.now z0).mode)) → ((inR .i64 ((lget d.now z0).time)) → ((inR .i64 ((lget d.now z0).inode)) → (z1 ((lget d.now z0).inode) d.inode)))))))) ∧ ((¬ (z0 ≥ (0 : Int))) → ((inR .i64 (d.inode + (1 : Int))) ∧ (z1 (d.inode + (1 : Int)) (d.inode + (1 : Int))))))))))))))))))))))
set_option maxRecDepth 20000 in
set_option maxHeartbeats 4000000 in
theorem rectolaw5_Disk_file_w {X : List Nat} {w : World} {d : S_rectolaw5_Disk} {p : ByteArray} {mode : Int} {b : ByteArray} {z0 : Nat} {v4 : List Nat} {Q : S_rectolaw5_Disk → S_rectolaw5_one → Prop} (m3 : Old X w) (q2 : MO o_rectolaw5_Disk 31 v4 w.heap.size X w v4 z0 d) (q3 : p.size ≤ maxLen) (t0 : inR .i64 mode) (g1 : b.size ≤ maxLen) (hp : rectolaw5_Disk_file_p d p mode b Q) :
  Calls Tryz.prog 41 #[(.pointer (some ⟨z0, 0, none⟩)), (.string p), (.int .i64 mode), (.string b)] w (Ret fun v w' => ∃ (m4 : S_rectolaw5_Disk) (u0 : S_rectolaw5_one), Q m4 u0 ∧ ∃ (X' : List Nat) (m5 : List Nat), Step X w v4 X' w' ∧ v = (.agg #[(.string u0.path), (.string u0.data), (.int .i64 u0.mode), (.int .i64 u0.time), (.int .i64 u0.inode)]) ∧ MO o_rectolaw5_Disk 31 v4 w.heap.size X' w' m5 z0 m4 ∧ u0.path.size ≤ maxLen ∧ u0.data.size ≤ maxLen ∧ inR .i64 u0.mode ∧ inR .i64 u0.time ∧ inR .i64 u0.inode) := by
 have hXo := m3
 have E0 : Evo v4 w w := RB.refl _ _ _
 have hS : Sub X X := Sub.refl _
 have hN : News X w X w := News.refl _ _
 have m6 : Sub v4 X := MO.mem q2
 unfold rectolaw5_Disk_file_p at hp
 refine enter_ Tryz.func41 rfl 49 [(0, (.pointer (some ⟨z0, 0, none⟩))), (1, (.string p)), (2, (.int .i64 mode)), (3, (.string b))] (by kernel_rfl) (fun Qe hQ => ?_)
 replace hp := hp q3
 replace hp := hp t0
 replace hp := hp g1
 refine seq_ (fun _ o6 => ?_)
 refine reg_ ?_
 refine sq (o_newX [(.string (ByteArray.mk #[])), (.string (ByteArray.mk #[])), (.int .i64 (0 : Int)), (.int .i64 (0 : Int)), (.int .i64 (0 : Int))] 90 (X := X) (B := w.heap.size) E0.size rfl (by kernel_rfl) ?_)
 intro o7 c6 m7 t1 g2 m8
 have m9 := m8 _ (MO.old q2)
 refine nil_ ?_
 refine then_normal (o6 _ _ _ _ ?_)
 refine seq_ (fun _ n0 => ?_)
 refine reg_ ?_
 refine sq (o_pv (.string p) rfl (by kernel_rfl) ?_)
 refine sq (o_pv (.string b) rfl (by kernel_rfl) ?_)
 refine sq (o_pv (.int .i64 mode) rfl (by kernel_rfl) ?_)
 refine sq (o_pv (.pointer (some ⟨z0, 0, none⟩)) rfl (by kernel_rfl) ?_)
 refine sq (o_pv (.pointer (some ⟨z0, 0, none⟩)) rfl (by kernel_rfl) ?_)
 have g9 := (MO.step0 q2 t1)
 obtain ⟨y4, y5, z4, z1, y6, y7, y8, y9, q4, u1, u7, u2, v5, v0, v6, u3, u4, u5, d0⟩ := o_rectolaw5_Disk_open g9
 have g3 := Ap.subr (Ap.symm m9) d0
 replace hp := hp (Sl.len u1)
 replace hp := hp (Sl.len u7)
 replace hp := hp (Sl.len u2)
 replace hp := hp v5
 replace hp := hp v0
 replace hp := hp v6
 replace hp := hp u3
 replace hp := hp (Sl.len u4)
 replace hp := hp u5
 refine sq (o_pv (.pointer (some ⟨z0, 4, none⟩)) rfl (by kernel_rfl) ?_)
 refine sq (o_pv (.int .i64 d.time) rfl (x_load1 (by kernel_rfl) Tryz.isAgg3 (q4.2.1.cell' 4 rfl)) ?_)
 refine sq (o_pv (.agg #[(.string p), (.string b), (.int .i64 mode), (.int .i64 d.time), (.int .i64 (0 : Int))]) rfl (by kernel_rfl) ?_)
 have g4 := (Evo.then0 E0 (Step.evo t1))
 refine sq (o_newX [(.string (ByteArray.mk #[])), (.string (ByteArray.mk #[])), (.int .i64 (0 : Int)), (.int .i64 (0 : Int)), (.int .i64 (0 : Int))] 90 (X := m7) (B := w.heap.size) g4.size rfl (by kernel_rfl) ?_)
 intro q5 c3 q6 y1 g5 g6
 have q7 := g6 _ (OB.old g2)
 have r6 := g6 _ (OB.old q4)
 have n1 := (OB.step0 g2 y1)
 have n2 := (OB.step0 q4 y1)
 have n3 := (Evo.then0 g4 (Step.evo y1))
 refine sq (o_stB (o := 0) (v := (.agg #[(.string p), (.string b), (.int .i64 mode), (.int .i64 d.time), (.int .i64 (0 : Int))])) [(.string p), (.string b), (.int .i64 mode), (.int .i64 d.time), (.int .i64 (0 : Int))] rfl g5 (by kernel_rfl) (by kernel_rfl) Tryz.sizeOf90 rfl rfl rfl ?_)
 intro c4 y2 n4
 refine nil_ ?_
 refine then_normal (n0 _ _ _ _ ?_)
 refine seq_ (fun _ n5 => ?_)
 refine reg_ ?_
 refine sq (o_pv (.pointer (some ⟨z0, 0, none⟩)) rfl (by kernel_rfl) ?_)
 refine sq (o_pv (.pointer (some ⟨z0, 0, none⟩)) rfl (by kernel_rfl) ?_)
 refine sq (o_pv (.pointer (some ⟨z0, 1, none⟩)) rfl (by kernel_rfl) ?_)
 have g7 := (OB.step n2 y2 r6)
 refine sq (o_pv (.slice z4 d.now.length z1) rfl (x_load1 (by kernel_rfl) Tryz.isAgg27 (g7.2.1.cell' 1 rfl)) ?_)
 refine sq (o_pv (.string p) rfl (by kernel_rfl) ?_)
 have u9 := (Sl.step (Sl.step u7 y1) y2)
 refine sq (o_call 43 #[(.slice z4 d.now.length z1), (.string p)] rfl (x_call Tryz.call43 (by kernel_rfl)) (rectolaw5_get_w (X := []) (l := d.now) (p := p) (Old.nil _) (Sl.less u9 (Sub.nil _)) q3 hp) ?_)
 rintro _ c5 ⟨z9, hp, g8, rfl, d1⟩
 have y3 := Step.of0 q6 g8
 replace hp := hp d1
 refine sq (o_pv (.int .i64 z9) rfl (by kernel_rfl) ?_)
 refine nil_ ?_
 refine then_normal (n5 _ _ _ _ ?_)
 refine seq_ (fun _ n6 => ?_)
 refine seq_ (fun _ n7 => ?_)
 refine reg_ ?_
 refine sq (o_pv (.int .i64 z9) rfl (by kernel_rfl) ?_)
 refine sq (o_pv (.bool (decide (z9 ≥ (0 : Int)))) rfl (by kernel_rfl) ?_)
 refine nil_ ?_
 refine then_normal (n7 _ _ _ _ ?_)
 have t2 := (Old.step (Old.step (Old.step (Old.step hXo t1) y1) y2) y3)
 have q8 := (Evo.then0 (Evo.thenW n3 (Step.evo y2) (Wr.of g5.2.2)) g8)
 have r7 := (Sub.trans (Sub.trans (Sub.trans (Sub.trans hS (Step.up t1)) (Step.up y1)) (Step.up y2)) (Step.up y3))
 have r8 := (News.step (News.step (News.step (News.step hN t1) y1) y2) y3)
 have q9 := (OB.step0 (OB.step n1 y2 q7) y3)
 have u6 := (OB.step0 g7 y3)
 have v7 := (Sl.step (Sl.step (Sl.step u1 y1) y2) y3)
 have v1 := (Sl.step u9 y3)
 have v8 := (Sl.step (Sl.step (Sl.step u2 y1) y2) y3)
 have v9 := (Sl.step (Sl.step (Sl.step u4 y1) y2) y3)
 have s9 := (OB.step0 n4 y3)
 obtain ⟨d2, k8, hp⟩ := hp
 refine ground_ ?_
 refine join_ 281474842492928 (fun lq z5 => ∃ (z2 : List Nat) (z3 : Int) (v3 : Int), (lq = []) ∧ (Evo v4 w z5) ∧ (Old z2 z5) ∧ (Sub X z2) ∧ (News X w z2 z5) ∧ (OB ([]) w.heap.size z2 z5 o7 [(.string (ByteArray.mk #[])), (.string (ByteArray.mk #[])), (.int .i64 (0 : Int)), (.int .i64 (0 : Int)), (.int .i64 (0 : Int))] 90) ∧ (Sl r_rectolaw5_one z2 z5 y4 y5 d.kept) ∧ (Sl r_rectolaw5_one z2 z5 z4 z1 d.now) ∧ (Sl r_rectolaw5_op z2 z5 y6 y7 d.wait) ∧ (Sl rBool z2 z5 y8 y9 d.keep) ∧ (OB ([]) w.heap.size z2 z5 q5 [(.string p), (.string b), (.int .i64 mode), (.int .i64 d.time), (.int .i64 z3)] 90) ∧ (OB v4 w.heap.size z2 z5 z0 [(.slice y4 d.kept.length y5), (.slice z4 d.now.length z1), (.slice y6 d.wait.length y7), (.int .i64 d.quota), (.int .i64 d.time), (.int .i64 v3), (.bool d.off), (.bool d.armed), (.int .i64 d.left), (.slice y8 d.keep.length y9), (.int .i64 d.ops_)] 31) ∧ (inR .i64 z3) ∧ (inR .i64 v3) ∧ (d2 z3 v3)) (fun n9 r9 => ?_) ?_
 ·
  refine cond_d (z9 ≥ (0 : Int)) (by kernel_rfl) (fun r0 => ?_) (fun r0 => ?_)
  ·
   replace hp := hp.1 r0
   refine reg_ ?_
   refine sq (o_pv (.pointer (some ⟨z0, 0, none⟩)) rfl (by kernel_rfl) ?_)
   refine sq (o_pv (.pointer (some ⟨z0, 0, none⟩)) rfl (by kernel_rfl) ?_)
   refine sq (o_pv (.pointer (some ⟨z0, 1, none⟩)) rfl (by kernel_rfl) ?_)
   refine sq (o_pv (.slice z4 d.now.length z1) rfl (x_load1 (by kernel_rfl) Tryz.isAgg27 (u6.2.1.cell' 1 rfl)) ?_)
   refine sq (o_pv (.int .i64 z9) rfl (by kernel_rfl) ?_)
   obtain ⟨k0, hp⟩ := hp
   obtain ⟨k1, k2, o0, k9, o3, o4, j0, j1⟩ := Sl.atI v1 z9 k0
   obtain ⟨rfl, t3, t4, t5, t6, v2⟩ := r_rectolaw5_one_open j0
   replace hp := hp t3
   replace hp := hp t4
   replace hp := hp t5
   replace hp := hp t6
   replace hp := hp v2
   refine sq (o_pv (.pointer (some ⟨k1, k2 + z9.toNat * 5, none⟩)) rfl (x_ixA (m := d.now.length) (c := z1) (k := .i64) (i := z9) Tryz.underlying27 Tryz.sizeOf90 (by rw [← k9]; kernel_rfl) (by kernel_rfl) k0) ?_)
   refine sq (o_pv (.pointer (some ⟨k1, k2 + z9.toNat * 5 + 4, none⟩)) rfl (by kernel_rfl) ?_)
   refine sq (o_pv (.int .i64 ((lget d.now z9).inode)) rfl (x_load1 (by kernel_rfl) Tryz.isAgg3 (j1 4 _ rfl)) ?_)
   refine sq (o_pv (.pointer (some ⟨q5, 4, none⟩)) rfl (by kernel_rfl) ?_)
   refine sq (o_stB (o := 4) (v := (.int .i64 ((lget d.now z9).inode))) [(.string p), (.string b), (.int .i64 mode), (.int .i64 d.time), (.int .i64 ((lget d.now z9).inode))] rfl s9 (by kernel_rfl) (by kernel_rfl) Tryz.sizeOf3 rfl rfl rfl ?_)
   intro o8 z6 d3
   refine nil_ ?_
   have d4 := (Evo.thenW q8 (Step.evo z6) (Wr.of s9.2.2))
   have k3 := (Old.step t2 z6)
   have j2 := (Sub.trans r7 (Step.up z6))
   have j3 := (News.step r8 z6)
   have d5 := (OB.step q9 z6 q7)
   have t7 := (Sl.step v7 z6)
   have r1 := (Sl.step v1 z6)
   have t8 := (Sl.step v8 z6)
   have t9 := (Sl.step v9 z6)
   have d6 := (OB.step u6 z6 r6)
   refine then_normal (r9 _ _ _ ⟨[], fit_mk (fun _ _ => rfl) (by kernel_rfl) vs_nil, ?_⟩)
   exact ⟨q6, ((lget d.now z9).inode), d.inode, rfl, d4, k3, j2, j3, d5, t7, r1, t8, t9, d3, d6, v2, v6, hp⟩
  ·
   replace hp := hp.2 r0
   refine seq_ (fun _ d7 => ?_)
   refine reg_ ?_
   refine sq (o_pv (.pointer (some ⟨z0, 0, none⟩)) rfl (by kernel_rfl) ?_)
   refine sq (o_pv (.pointer (some ⟨z0, 0, none⟩)) rfl (by kernel_rfl) ?_)
   refine sq (o_pv (.pointer (some ⟨z0, 5, none⟩)) rfl (by kernel_rfl) ?_)
   refine sq (o_pv (.int .i64 d.inode) rfl (x_load1 (by kernel_rfl) Tryz.isAgg3 (u6.2.1.cell' 5 rfl)) ?_)
   obtain ⟨r2, hp⟩ := hp
   refine sq (o_pv (.int .i64 (d.inode + (1 : Int))) rfl (x_add2 (k := .i64) (a := d.inode) (b := (1 : Int)) (d.inode + (1 : Int)) (by kernel_rfl) (by kernel_rfl) (wrap_inR r2)) ?_)
   refine sq (o_pv (.pointer (some ⟨z0, 0, none⟩)) rfl (by kernel_rfl) ?_)
   refine sq (o_pv (.pointer (some ⟨z0, 5, none⟩)) rfl (by kernel_rfl) ?_)
   refine sq (o_stB (o := 5) (v := (.int .i64 (d.inode + (1 : Int)))) [(.slice y4 d.kept.length y5), (.slice z4 d.now.length z1), (.slice y6 d.wait.length y7), (.int .i64 d.quota), (.int .i64 d.time), (.int .i64 (d.inode + (1 : Int))), (.bool d.off), (.bool d.armed), (.int .i64 d.left), (.slice y8 d.keep.length y9), (.int .i64 d.ops_)] rfl u6 (by kernel_rfl) (by kernel_rfl) Tryz.sizeOf3 rfl rfl rfl ?_)
   intro o9 z7 k4
   refine nil_ ?_
   refine then_normal (d7 _ _ _ _ ?_)
   refine reg_ ?_
   refine sq (o_pv (.pointer (some ⟨z0, 0, none⟩)) rfl (by kernel_rfl) ?_)
   refine sq (o_pv (.pointer (some ⟨z0, 0, none⟩)) rfl (by kernel_rfl) ?_)
   refine sq (o_pv (.pointer (some ⟨z0, 5, none⟩)) rfl (by kernel_rfl) ?_)
   refine sq (o_pv (.int .i64 (d.inode + (1 : Int))) rfl (x_load1 (by kernel_rfl) Tryz.isAgg3 (k4.2.1.cell' 5 rfl)) ?_)
   refine sq (o_pv (.pointer (some ⟨q5, 4, none⟩)) rfl (by kernel_rfl) ?_)
   have d8 := (OB.step q9 z7 g3)
   have k5 := (OB.step s9 z7 (Ap.symm r6))
   have d9 := (Evo.thenW q8 (Step.evo z7) u6.2.2)
   refine sq (o_stB (o := 4) (v := (.int .i64 (d.inode + (1 : Int)))) [(.string p), (.string b), (.int .i64 mode), (.int .i64 d.time), (.int .i64 (d.inode + (1 : Int)))] rfl k5 (by kernel_rfl) (by kernel_rfl) Tryz.sizeOf3 rfl rfl rfl ?_)
   intro c0 z8 l0
   refine nil_ ?_
   have l1 := (Evo.thenW d9 (Step.evo z8) (Wr.of k5.2.2))
   have k6 := (Old.step (Old.step t2 z7) z8)
   have j4 := (Sub.trans (Sub.trans r7 (Step.up z7)) (Step.up z8))
   have j5 := (News.step (News.step r8 z7) z8)
   have l2 := (OB.step d8 z8 q7)
   have s0 := (Sl.step (Sl.step v7 z7) z8)
   have r3 := (Sl.step (Sl.step v1 z7) z8)
   have s1 := (Sl.step (Sl.step v8 z7) z8)
   have s2 := (Sl.step (Sl.step v9 z7) z8)
   have l3 := (OB.step k4 z8 r6)
   refine then_normal (r9 _ _ _ ⟨[], fit_mk (fun _ _ => rfl) (by kernel_rfl) vs_nil, ?_⟩)
   exact ⟨q6, (d.inode + (1 : Int)), (d.inode + (1 : Int)), rfl, l1, k6, j4, j5, l2, s0, r3, s1, s2, l0, l3, r2, r2, hp⟩
 ·
  rintro _ z5 c1 ⟨z2, z3, v3, rfl, l4, n8, j6, j7, k7, s3, r4, s4, s5, l5, l6, q0, q1, j8⟩
  replace hp := k8 z3 v3 j8 q0 q1
  refine then_normal (n6 _ _ _ _ ?_)
  refine seq_ (fun _ l7 => ?_)
  refine reg_ ?_
  refine sq (o_pv (.agg #[(.string p), (.string b), (.int .i64 mode), (.int .i64 d.time), (.int .i64 z3)]) rfl (x_loadN [(.string p), (.string b), (.int .i64 mode), (.int .i64 d.time), (.int .i64 z3)] (by kernel_rfl) Tryz.isAgg90 Tryz.sizeOf90 (l5.2.1.cells' 0 rfl)) ?_)
  refine sq (o_stB (o := 0) (v := (.agg #[(.string p), (.string b), (.int .i64 mode), (.int .i64 d.time), (.int .i64 z3)])) [(.string p), (.string b), (.int .i64 mode), (.int .i64 d.time), (.int .i64 z3)] rfl k7 (by kernel_rfl) (by kernel_rfl) Tryz.sizeOf90 rfl rfl rfl ?_)
  intro c2 y0 l8
  refine nil_ ?_
  refine then_normal (l7 _ _ _ _ ?_)
  refine wp_ret ?_
  have l9 := (Evo.thenW l4 (Step.evo y0) (Wr.of k7.2.2))
  have j9 := (Sub.trans j6 (Step.up y0))
  have g0 := (News.step j7 y0)
  have s6 := (Sl.step s3 y0)
  have r5 := (Sl.step r4 y0)
  have s7 := (Sl.step s4 y0)
  have s8 := (Sl.step s5 y0)
  have m0 := (OB.step l6 y0 (Ap.symm g3))
  obtain ⟨m1, m2, o5⟩ := MO.pack (o_rectolaw5_Disk_mk m0 s6 rfl r5 rfl s7 rfl v5 v0 q1 u3 s8 rfl u5)
  refine end_ret hQ (.agg #[(.string p), (.string b), (.int .i64 mode), (.int .i64 d.time), (.int .i64 z3)]) (rs_single Tryz.results41 (rs_agg [(.string p), (.string b), (.int .i64 mode), (.int .i64 d.time), (.int .i64 z3)] (by kernel_rfl) Tryz.isAgg90 Tryz.sizeOf90 (l8.2.1.cells' 0 rfl))) ?_
  exact ⟨(S_rectolaw5_Disk.mk d.kept d.now d.wait d.quota d.time v3 d.off d.armed d.left d.keep d.ops_), (S_rectolaw5_one.mk p b mode d.time z3), hp, z2, m1, step_of l9 m6 j9 g0, rfl, m2, q3, g1, t0, v0, q0⟩
def rectolaw5_cut_p (l : (List S_rectolaw5_one)) (p : ByteArray) (Q : (List S_rectolaw5_one) → Prop) : Prop :=
 ((l.length ≤ 9223372036854775807) → ((p.size ≤ maxLen) → (∃ (z3 : (List S_rectolaw5_one) → Int → Prop) (z5 : (List S_rectolaw5_one) → Int → Nat), (z3 ([] : List S_rectolaw5_one) (0 : Int)) ∧ (∀ (z1 : (List S_rectolaw5_one)) (z0 : Int), (z3 z1 z0) → (z1.length ≤ 9223372036854775807) → (inR .i64 z0) → (((z0 < (l.length : Int)) → (∃ z4 : (List S_rectolaw5_one) → Prop, (∀ (z2 : (List S_rectolaw5_one)), z4 z2 → (z2.length ≤ 9223372036854775807) → ((inR .i64 (z0 + (1 : Int))) ∧ ((z3 z2 (z0 + (1 : Int))) ∧ z5 z2 (z0 + (1 : Int)) < z5 z1 z0))) ∧ ((inL l z0) ∧ ((((lget l z0).path).size ≤ maxLen) → ((((lget l z0).data).size ≤ maxLen) → ((inR .i64 ((lget l z0).mode)) → ((inR .i64 ((lget l z0).time)) → ((inR .i64 ((lget l z0).inode)) → (((¬ (((lget l z0).path : ByteArray) = p)) → ((inL l z0) ∧ ((((lget l z0).path).size ≤ maxLen) → ((((lget l z0).data).size ≤ maxLen) → ((inR .i64 ((lget l z0).mode)) → ((inR .i64 ((lget l z0).time)) → ((inR .i64 ((lget l z0).inode)) → (((z1.length + ([(lget l z0)]).length) * 56 ≤ 140737488355328) ∧ (z4 (z1 ++ ([(lget l z0)]))))))))))) ∧ ((((lget l z0).path : ByteArray) = p) → (z4 z1))))))))))) ∧ ((¬ (z0 < (l.length : Int))) → Q z1))))))
set_option maxRecDepth 20000 in
set_option maxHeartbeats 4000000 in
theorem rectolaw5_cut_w {X : List Nat} {w : World} {l : (List S_rectolaw5_one)} {p : ByteArray} {y0 : Option Addr} {z6 : Nat} {Q : (List S_rectolaw5_one) → Prop} (r9 : Old X w) (q0 : Sl r_rectolaw5_one X w y0 z6 l) (k7 : p.size ≤ maxLen) (hp : rectolaw5_cut_p l p Q) :
  Calls Tryz.prog 53 #[(.slice y0 l.length z6), (.string p)] w (Ret fun v w' => ∃ (q1 : (List S_rectolaw5_one)), Q q1 ∧ Evo [] w w' ∧ ∃ (u9 : Option Addr) (t0 : Nat), v = (.slice u9 q1.length t0) ∧ Sl r_rectolaw5_one X w' u9 t0 q1) := by
 have hXo := r9
 have E0 : Evo [] w w := RB.refl _ _ _
 have hS : Sub X X := Sub.refl _
 unfold rectolaw5_cut_p at hp
 refine enter_ Tryz.func53 rfl 28 [(0, (.slice y0 l.length z6)), (1, (.string p))] (by kernel_rfl) (fun Qe hQ => ?_)
 replace hp := hp (Sl.len q0)
 replace hp := hp k7
 refine seq_ (fun _ j7 => ?_)
 refine reg_ ?_
 refine sq (o_pv (.slice none 0 0) rfl (by kernel_rfl) ?_)
 refine nil_ ?_
 refine then_normal (j7 _ _ _ _ ?_)
 refine seq_ (fun _ j8 => ?_)
 refine reg_ ?_
 refine sq (o_pv (.slice none 0 0) rfl (by kernel_rfl) ?_)
 refine nil_ ?_
 refine then_normal (j8 _ _ _ _ ?_)
 refine seq_ (fun _ j9 => ?_)
 refine seq_ (fun _ g0 => ?_)
 refine reg_ ?_
 refine sq (o_pv (.int .i64 (0 : Int)) rfl (by kernel_rfl) ?_)
 refine nil_ ?_
 refine then_normal (g0 _ _ _ _ ?_)
 refine wp_block ?_
 obtain ⟨q2, t1, s3, hp⟩ := hp
 refine loop_ 134217696 (fun kq lq y6 => ∃ (z7 : List Nat) (z1 : (List S_rectolaw5_one)) (z0 : Int) (z2 : Option Addr) (z3 : Nat) (z4 : Nat), (lq = [(5, (.slice z2 z3 z4)), (6, (.int .i64 z0))]) ∧ (kq = t1 z1 z0) ∧ (Evo [] w y6) ∧ (Old z7 y6) ∧ (Sub X z7) ∧ (Sl r_rectolaw5_one z7 y6 y0 z6 l) ∧ (OS r_rectolaw5_one ([]) w.heap.size z7 y6 90 z2 z3 z4 z1) ∧ (inR .i64 z0) ∧ (q2 z1 z0)) (t1 ([] : List S_rectolaw5_one) (0 : Int)) [(5, (.slice none 0 0)), (6, (.int .i64 (0 : Int)))] (vs_cons (by kernel_rfl) (vs_cons (by kernel_rfl) vs_nil)) ⟨X, ([] : List S_rectolaw5_one), (0 : Int), none, 0, 0, rfl, rfl, E0, hXo, hS, q0, (OS.nil _ _ _ _), (by decide : inR .i64 (0 : Int)), s3⟩ ?_
 rintro _ _ y6 g1 ⟨z7, z1, z0, z2, z3, z4, rfl, rfl, v3, v7, v4, y5, y7, s4, s5⟩ k8 s6
 replace hp := hp z1 z0 s5 (OS.len y7) s4
 refine seq_ (fun _ q3 => ?_)
 refine seq_ (fun _ q4 => ?_)
 refine reg_ ?_
 refine sq (o_pv (.int .i64 z0) rfl (by kernel_rfl) ?_)
 refine sq (o_pv (.slice y0 l.length z6) rfl (by kernel_rfl) ?_)
 refine sq (o_pv (.int .i64 (l.length : Int)) rfl (by kernel_rfl) ?_)
 refine sq (o_pv (.bool (decide (z0 < (l.length : Int)))) rfl (by kernel_rfl) ?_)
 refine nil_ ?_
 refine then_normal (q4 _ _ _ _ ?_)
 refine cond_d (z0 < (l.length : Int)) (by kernel_rfl) (fun u2 => ?_) (fun u2 => ?_)
 ·
  replace hp := hp.1 u2
  refine wp_skip ?_
  refine then_normal (q3 _ _ _ _ ?_)
  refine seq_ (fun _ q5 => ?_)
  obtain ⟨q6, s7, hp⟩ := hp
  refine ground_ ?_
  refine join_ 134209568 (fun lq y8 => ∃ (z9 : List Nat) (z5 : (List S_rectolaw5_one)) (y9 : Option Addr) (v0 : Nat) (v1 : Nat), (lq = [(5, (.slice y9 v0 v1))]) ∧ (Evo [] w y8) ∧ (Old z9 y8) ∧ (Sub X z9) ∧ (Sl r_rectolaw5_one z9 y8 y0 z6 l) ∧ (OS r_rectolaw5_one ([]) w.heap.size z9 y8 90 y9 v0 v1 z5) ∧ (q6 z5)) (fun k9 u7 => ?_) ?_
  ·
   refine wp_block ?_
   refine seq_ (fun _ q7 => ?_)
   refine reg_ ?_
   refine sq (o_pv (.slice y0 l.length z6) rfl (by kernel_rfl) ?_)
   refine sq (o_pv (.int .i64 z0) rfl (by kernel_rfl) ?_)
   obtain ⟨t2, hp⟩ := hp
   obtain ⟨t3, t4, j0, s8, j1, j2, s9, r0⟩ := Sl.atI y5 z0 t2
   obtain ⟨rfl, v8, v9, u0, u1, v5⟩ := r_rectolaw5_one_open s9
   replace hp := hp v8
   replace hp := hp v9
   replace hp := hp u0
   replace hp := hp u1
   replace hp := hp v5
   refine sq (o_pv (.pointer (some ⟨t3, t4 + z0.toNat * 5, none⟩)) rfl (x_ixA (m := l.length) (c := z6) (k := .i64) (i := z0) Tryz.underlying27 Tryz.sizeOf90 (by rw [← s8]; kernel_rfl) (by kernel_rfl) t2) ?_)
   refine sq (o_pv (.pointer (some ⟨t3, t4 + z0.toNat * 5, none⟩)) rfl (by kernel_rfl) ?_)
   refine sq (o_pv (.string ((lget l z0).path)) rfl (x_load1 (by kernel_rfl) Tryz.isAgg9 (r0 0 _ rfl)) ?_)
   refine sq (o_pv (.string p) rfl (by kernel_rfl) ?_)
   refine sq (o_pv (.bool (!decide (((lget l z0).path : ByteArray) = p))) rfl (x_strne (by kernel_rfl) (by kernel_rfl)) ?_)
   refine nil_ ?_
   refine then_normal (q7 _ _ _ _ ?_)
   refine cond_nd (((lget l z0).path : ByteArray) = p) (by kernel_rfl) (fun u3 => ?_) (fun u3 => ?_)
   ·
    replace hp := hp.1 u3
    refine reg_ ?_
    refine sq (o_pv (.slice z2 z3 z4) rfl (by kernel_rfl) ?_)
    refine sq (o_pv (.slice y0 l.length z6) rfl (by kernel_rfl) ?_)
    refine sq (o_pv (.int .i64 z0) rfl (by kernel_rfl) ?_)
    obtain ⟨t5, hp⟩ := hp
    obtain ⟨q8, q9, j3, r1, j4, j5, r2, r3⟩ := Sl.atI y5 z0 t5
    obtain ⟨rfl, y1, y2, y3, y4, z8⟩ := r_rectolaw5_one_open r2
    replace hp := hp y1
    replace hp := hp y2
    replace hp := hp y3
    replace hp := hp y4
    replace hp := hp z8
    refine sq (o_pv (.pointer (some ⟨q8, q9 + z0.toNat * 5, none⟩)) rfl (x_ixA (m := l.length) (c := z6) (k := .i64) (i := z0) Tryz.underlying27 Tryz.sizeOf90 (by rw [← r1]; kernel_rfl) (by kernel_rfl) t5) ?_)
    refine sq (o_pv (.agg #[(.string ((lget l z0).path)), (.string ((lget l z0).data)), (.int .i64 ((lget l z0).mode)), (.int .i64 ((lget l z0).time)), (.int .i64 ((lget l z0).inode))]) rfl (x_loadN [(.string ((lget l z0).path)), (.string ((lget l z0).data)), (.int .i64 ((lget l z0).mode)), (.int .i64 ((lget l z0).time)), (.int .i64 ((lget l z0).inode))] (by kernel_rfl) Tryz.isAgg90 Tryz.sizeOf90 r3) ?_)
    refine sq (o_rowX (R := r_rectolaw5_one) [(.string ((lget l z0).path)), (.string ((lget l z0).data)), (.int .i64 ((lget l z0).mode)), (.int .i64 ((lget l z0).time)), (.int .i64 ((lget l z0).inode))] [(lget l z0)] 90 1 (X := z7) (B := w.heap.size) v3.size rfl (by kernel_rfl) (Flat.cons (cs := [(.string ((lget l z0).path)), (.string ((lget l z0).data)), (.int .i64 ((lget l z0).mode)), (.int .i64 ((lget l z0).time)), (.int .i64 ((lget l z0).inode))]) (r_rectolaw5_one_mk y1 y2 y3 y4 z8) Flat.nil) rfl (by decide) ?_)
    intro g2 g3 k0 v2 t6 g4
    obtain ⟨k1, hp⟩ := hp
    have t7 := (OS.step0 y7 v2)
    have t8 := (Evo.then0 v3 (Step.evo v2))
    refine sq (o_appX (R := r_rectolaw5_one) (X := k0) (B := w.heap.size) (L := z1) (M := [(lget l z0)]) rfl elT27 rfl t8.size t7 (OS.src t6) t6.1 (by kernel_rfl) (by kernel_rfl) k1 ?_)
    intro u4 u5 u6 g5 k2 v6 k3 j6
    refine sq (o_pv (.slice u4 u5 u6) rfl (by kernel_rfl) ?_)
    refine nil_ ?_
    refine blk_normal ?_
    have k4 := (Evo.thenW t8 (Step.evo v6) t7.2.2)
    have t9 := (Old.step (Old.step v7 v2) v6)
    have r4 := (Sub.trans (Sub.trans v4 (Step.up v2)) (Step.up v6))
    have r5 := (Sl.step (Sl.step y5 v2) v6)
    refine then_normal (u7 _ _ _ ⟨[(5, (.slice u4 u5 u6))], fit_mk (fun _ _ => rfl) (by kernel_rfl) (vs_cons (by kernel_rfl) vs_nil), ?_⟩)
    exact ⟨k2, (z1 ++ ([(lget l z0)])), u4, u5, u6, rfl, k4, t9, r4, r5, k3, hp⟩
   ·
    replace hp := hp.2 u3
    refine wp_skip ?_
    refine blk_normal ?_
    refine then_normal (u7 _ _ _ ⟨[(5, (.slice z2 z3 z4))], fit_mk (fun _ _ => rfl) (by kernel_rfl) (vs_cons (by kernel_rfl) vs_nil), ?_⟩)
    exact ⟨z7, z1, z2, z3, z4, rfl, v3, v7, v4, y5, y7, hp⟩
  ·
   rintro _ y8 g6 ⟨z9, z5, y9, v0, v1, rfl, k5, s0, r6, r7, s1, r8⟩
   replace hp := s7 z5 r8 (OS.len s1)
   refine then_normal (q5 _ _ _ _ ?_)
   refine reg_ ?_
   refine sq (o_pv (.int .i64 z0) rfl (by kernel_rfl) ?_)
   obtain ⟨s2, hp⟩ := hp
   refine sq (o_pv (.int .i64 (z0 + (1 : Int))) rfl (x_add2 (k := .i64) (a := z0) (b := (1 : Int)) (z0 + (1 : Int)) (by kernel_rfl) (by kernel_rfl) (wrap_inR s2)) ?_)
   refine sq (o_pv (.int .i64 (z0 + (1 : Int))) rfl (by kernel_rfl) ?_)
   refine nil_ ?_
   refine then_normal (s6 _ _ _ ⟨_, [(5, (.slice y9 v0 v1)), (6, (.int .i64 (z0 + (1 : Int))))], hp.2, fit_mk (AgB.nest (AgB.look (AgB.mix _ _ _) (by kernel_rfl)) (by kernel_rfl) (by kernel_rfl)) (by kernel_rfl) (vs_cons (by kernel_rfl) (vs_cons (by kernel_rfl) vs_nil)), ?_⟩)
   exact ⟨z9, z5, (z0 + (1 : Int)), y9, v0, v1, rfl, rfl, k5, s0, r6, r7, s1, s2, hp.1⟩
 ·
  replace hp := hp.2 u2
  refine wp_exit ?_
  refine then_exit ?_
  refine then_exit ?_
  refine blk_exit ?_
  refine then_normal (j9 _ _ _ _ ?_)
  refine seq_ (fun _ k6 => ?_)
  refine reg_ ?_
  refine sq (o_pv (.slice z2 z3 z4) rfl (by kernel_rfl) ?_)
  refine sq (o_pv (.slice z2 z3 z4) rfl (by kernel_rfl) ?_)
  refine nil_ ?_
  refine then_normal (k6 _ _ _ _ ?_)
  refine wp_ret ?_
  refine end_ret hQ (.slice z2 z3 z4) (by kernel_rfl) ?_
  exact ⟨z1, hp, v3, z2, z4, (by (rw [show z3 = z1.length from y7.1]); first | done | rfl), (OS.out y7 v4 r9)⟩
def rectolaw5_put_p (l : (List S_rectolaw5_one)) (f_ : S_rectolaw5_one) (Q : (List S_rectolaw5_one) → Prop) : Prop :=
 ((l.length ≤ 9223372036854775807) → ((f_.path.size ≤ maxLen) → ((f_.data.size ≤ maxLen) → ((inR .i64 f_.mode) → ((inR .i64 f_.time) → ((inR .i64 f_.inode) → (rectolaw5_cut_p l f_.path (fun (z1 : (List S_rectolaw5_one)) => ((z1.length ≤ 9223372036854775807) → (∃ (z3 : Int → Prop) (z6 : Int → Nat), (z3 (0 : Int)) ∧ (∀ (z0 : Int), (z3 z0) → (inR .i64 z0) → (∃ z4 : Bool → Prop, (∀ (z5 : Bool), z4 z5 → (((z5 = true) → ((inR .i64 (z0 + (1 : Int))) ∧ ((z3 (z0 + (1 : Int))) ∧ z6 (z0 + (1 : Int)) < z6 z0))) ∧ ((z5 = false) → (∀ z7 : (List S_rectolaw5_one) → Prop, (∀ (z2 : (List S_rectolaw5_one)), ((z2.length ≤ 9223372036854775807) → ((0 ≤ z0 ∧ z0 ≤ (z1.length : Int)) ∧ (((z2.length + (z1.drop z0.toNat).length) * 56 ≤ 140737488355328) ∧ Q (z2 ++ (z1.drop z0.toNat))))) → z7 z2) → (((0 : Int) ≤ z0 ∧ z0 ≤ (z1.length : Int)) ∧ (((z1.take z0.toNat).length * 56 ≤ 140737488355328) ∧ ((((z1.take z0.toNat).length + ([f_]).length) * 56 ≤ 140737488355328) ∧ (z7 ((z1.take z0.toNat) ++ ([f_])))))))))) ∧ (((z0 < (z1.length : Int)) → ((inL z1 z0) ∧ ((((lget z1 z0).path).size ≤ maxLen) → ((((lget z1 z0).data).size ≤ maxLen) → ((inR .i64 ((lget z1 z0).mode)) → ((inR .i64 ((lget z1 z0).time)) → ((inR .i64 ((lget z1 z0).inode)) → (z4 (sless ((lget z1 z0).path) f_.path))))))))) ∧ ((¬ (z0 < (z1.length : Int))) → (z4 false)))))))))))))))
set_option maxRecDepth 20000 in
set_option maxHeartbeats 4000000 in
theorem rectolaw5_put_w {X : List Nat} {w : World} {l : (List S_rectolaw5_one)} {f_ : S_rectolaw5_one} {s1 : Option Addr} {s2 : Nat} {Q : (List S_rectolaw5_one) → Prop} (c1 : Old X w) (c2 : Sl r_rectolaw5_one X w s1 s2 l) (z3 : f_.path.size ≤ maxLen) (z7 : f_.data.size ≤ maxLen) (z8 : inR .i64 f_.mode) (z9 : inR .i64 f_.time) (z5 : inR .i64 f_.inode) (hp : rectolaw5_put_p l f_ Q) :
  Calls Tryz.prog 51 #[(.slice s1 l.length s2), (.agg #[(.string f_.path), (.string f_.data), (.int .i64 f_.mode), (.int .i64 f_.time), (.int .i64 f_.inode)])] w (Ret fun v w' => ∃ (c5 : (List S_rectolaw5_one)), Q c5 ∧ Evo [] w w' ∧ ∃ (k8 : Option Addr) (k9 : Nat), v = (.slice k8 c5.length k9) ∧ Sl r_rectolaw5_one X w' k8 k9 c5) := by
 have hXo := c1
 have E0 : Evo [] w w := RB.refl _ _ _
 have hS : Sub X X := Sub.refl _
 unfold rectolaw5_put_p at hp
 refine enter_ Tryz.func51 rfl 40 [(0, (.slice s1 l.length s2)), (1, (.agg #[(.string f_.path), (.string f_.data), (.int .i64 f_.mode), (.int .i64 f_.time), (.int .i64 f_.inode)]))] (by kernel_rfl) (fun Qe hQ => ?_)
 replace hp := hp (Sl.len c2)
 replace hp := hp z3
 replace hp := hp z7
 replace hp := hp z8
 replace hp := hp z9
 replace hp := hp z5
 refine seq_ (fun _ p6 => ?_)
 refine reg_ ?_
 refine sq (o_newX [(.string f_.path), (.string f_.data), (.int .i64 f_.mode), (.int .i64 f_.time), (.int .i64 f_.inode)] 90 (X := X) (B := w.heap.size) E0.size rfl (by kernel_rfl) ?_)
 intro q6 U3 j0 q7 c3 U4
 refine sq (o_pv (.slice none 0 0) rfl (by kernel_rfl) ?_)
 refine nil_ ?_
 refine then_normal (p6 _ _ _ _ ?_)
 refine seq_ (fun _ b7 => ?_)
 refine reg_ ?_
 refine sq (o_pv (.slice s1 l.length s2) rfl (by kernel_rfl) ?_)
 refine sq (o_pv (.pointer (some ⟨q6, 0, none⟩)) rfl (by kernel_rfl) ?_)
 refine sq (o_pv (.string f_.path) rfl (x_load1 (by kernel_rfl) Tryz.isAgg9 (c3.2.1.cell' 0 rfl)) ?_)
 have c6 := (Sl.step c2 q7)
 have q8 := (Old.step hXo q7)
 refine sq (o_call 53 #[(.slice s1 l.length s2), (.string f_.path)] rfl (x_call Tryz.call53 (by kernel_rfl)) (rectolaw5_cut_w (X := j0) (l := l) (p := f_.path) q8 c6 z3 hp) ?_)
 rintro _ U5 ⟨z1, hp, c4, y2, y0, rfl, j1⟩
 have j2 := Step.of0 j0 c4
 replace hp := hp (Sl.len j1)
 refine sq (o_pv (.slice y2 z1.length y0) rfl (by kernel_rfl) ?_)
 refine nil_ ?_
 refine then_normal (b7 _ _ _ _ ?_)
 refine seq_ (fun _ b8 => ?_)
 refine reg_ ?_
 refine sq (o_pv (.int .i64 (0 : Int)) rfl (by kernel_rfl) ?_)
 refine nil_ ?_
 refine then_normal (b8 _ _ _ _ ?_)
 refine seq_ (fun _ b9 => ?_)
 refine wp_block ?_
 have j3 := (Old.step q8 j2)
 have c7 := (Evo.then0 (Evo.then0 E0 (Step.evo q7)) c4)
 have m3 := (Sub.trans (Sub.trans hS (Step.up q7)) (Step.up j2))
 have c8 := (OB.step0 c3 j2)
 obtain ⟨c9, j4, m4, hp⟩ := hp
 refine loop_ 134215712 (fun kq lq y3 => ∃ (y4 : List Nat) (z0 : Int), (lq = [(5, (.int .i64 z0))]) ∧ (kq = j4 z0) ∧ (Evo [] w y3) ∧ (Old y4 y3) ∧ (Sub X y4) ∧ (Sl r_rectolaw5_one y4 y3 y2 y0 z1) ∧ (OB ([]) w.heap.size y4 y3 q6 [(.string f_.path), (.string f_.data), (.int .i64 f_.mode), (.int .i64 f_.time), (.int .i64 f_.inode)] 90) ∧ (inR .i64 z0) ∧ (c9 z0)) (j4 (0 : Int)) [(5, (.int .i64 (0 : Int)))] (vs_cons (by kernel_rfl) vs_nil) ⟨j0, (0 : Int), rfl, rfl, c7, j3, m3, j1, c8, (by decide : inR .i64 (0 : Int)), m4⟩ ?_
 rintro _ _ y3 p7 ⟨y4, z0, rfl, rfl, a0, j5, m5, m6, a1, a2, m7⟩ f1 m8
 replace hp := hp z0 m7 a2
 refine seq_ (fun _ a3 => ?_)
 refine seq_ (fun _ a4 => ?_)
 obtain ⟨a5, m9, hp⟩ := hp
 refine ground_ ?_
 refine join_ 33552384 (fun lq y5 => ∃ (z6 : List Nat) (v7 : Bool), (lq = [(24, (.bool v7))]) ∧ (Evo [] w y5) ∧ (Old z6 y5) ∧ (Sub X z6) ∧ (Sl r_rectolaw5_one z6 y5 y2 y0 z1) ∧ (OB ([]) w.heap.size z6 y5 q6 [(.string f_.path), (.string f_.data), (.int .i64 f_.mode), (.int .i64 f_.time), (.int .i64 f_.inode)] 90) ∧ (a5 v7)) (fun f2 q9 => ?_) ?_
 ·
  refine reg_drawn (RB y3.heap.size []) 14 (by kernel_rfl) (fun j6 u4 => ?_)
  have a6 := Evo.of_drew u4
  have j7 : j6.heap.size = y3.heap.size := by rw [u4]
  clear u4
  have v8 := Step.of0 y4 a6
  have k0 := RB.refl y3.heap.size [] j6
  have j8 := (Evo.then0 a0 (Step.evo v8))
  have s3 := (Old.step j5 v8)
  have k1 := (Sub.trans m5 (Step.up v8))
  have u5 := (Sl.step m6 v8)
  have u6 := (OB.step0 a1 v8)
  refine r_take 0 (.int .i64 z0) (RB.pre _ _) rfl (by kernel_rfl) (fun _ _ _ h => hQ.panic _ _ _ _ _ h) (.inl ⟨rfl, fun wq hq => (by kernel_rfl)⟩) ?_
  refine r_take 1 (.slice y2 z1.length y0) (RB.pre _ _) rfl (by kernel_rfl) (fun _ _ _ h => hQ.panic _ _ _ _ _ h) (.inl ⟨rfl, fun wq hq => (by kernel_rfl)⟩) ?_
  refine r_take 2 (.int .i64 (z1.length : Int)) (RB.pre _ _) rfl (by kernel_rfl) (fun _ _ _ h => hQ.panic _ _ _ _ _ h) (.inl ⟨rfl, fun wq hq => (by kernel_rfl)⟩) ?_
  by_cases u7 : z0 < (z1.length : Int)
  ·
   replace hp := hp.1 u7
   refine r_take 3 (.bool true) (RB.pre _ _) rfl (by kernel_rfl) (fun _ _ _ h => hQ.panic _ _ _ _ _ h) (.inl ⟨rfl, fun wq hq => (x_dt (p := z0 < (z1.length : Int)) (by kernel_rfl) u7)⟩) ?_
   refine r_take 4 (.bool true) (RB.pre _ _) rfl (by kernel_rfl) (fun _ _ _ h => hQ.panic _ _ _ _ _ h) (.inl ⟨rfl, fun wq hq => (by kernel_rfl)⟩) ?_
   refine r_take 5 (.slice y2 z1.length y0) (RB.pre _ _) rfl (by kernel_rfl) (fun _ _ _ h => hQ.panic _ _ _ _ _ h) (.inl ⟨(by kernel_rfl), fun wq hq => (by kernel_rfl)⟩) ?_
   refine r_take 6 (.int .i64 z0) (RB.pre _ _) rfl (by kernel_rfl) (fun _ _ _ h => hQ.panic _ _ _ _ _ h) (.inl ⟨(by kernel_rfl), fun wq hq => (by kernel_rfl)⟩) ?_
   obtain ⟨j9, hp⟩ := hp
   obtain ⟨g0, g1, f3, n0, f4, n1, n2, n3⟩ := Sl.atI u5 z0 j9
   obtain ⟨rfl, s4, s5, s6, s7, u9⟩ := r_rectolaw5_one_open n2
   replace hp := hp s4
   replace hp := hp s5
   replace hp := hp s6
   replace hp := hp s7
   replace hp := hp u9
   refine r_take 7 (.pointer (some ⟨g0, g1 + z0.toNat * 5, none⟩)) (RB.pre _ _) rfl (by kernel_rfl) (fun _ _ _ h => hQ.panic _ _ _ _ _ h) (.inl ⟨(by kernel_rfl), fun wq hq => (x_ixA (m := z1.length) (c := y0) (k := .i64) (i := z0) Tryz.underlying27 Tryz.sizeOf90 (by rw [← n0]; kernel_rfl) (by kernel_rfl) j9)⟩) ?_
   refine r_take 8 (.pointer (some ⟨g0, g1 + z0.toNat * 5, none⟩)) (RB.pre _ _) rfl (by kernel_rfl) (fun _ _ _ h => hQ.panic _ _ _ _ _ h) (.inl ⟨(by kernel_rfl), fun wq hq => (by kernel_rfl)⟩) ?_
   refine r_take 9 (.string ((lget z1 z0).path)) (RB.pre _ _) rfl (by kernel_rfl) (fun _ _ _ h => hQ.panic _ _ _ _ _ h) (.inl ⟨(by kernel_rfl), fun wq hq => (x_load1 (by kernel_rfl) Tryz.isAgg9 ((CellsAt.rb n3 (RB.trans k0 hq) (Nat.lt_of_lt_of_eq n1 j7) (fun h => by cases h)) 0 _ rfl))⟩) ?_
   refine r_take 10 (.pointer (some ⟨q6, 0, none⟩)) (RB.pre _ _) rfl (by kernel_rfl) (fun _ _ _ h => hQ.panic _ _ _ _ _ h) (.inl ⟨(by kernel_rfl), fun wq hq => (by kernel_rfl)⟩) ?_
   refine r_take 11 (.string f_.path) (RB.pre _ _) rfl (by kernel_rfl) (fun _ _ _ h => hQ.panic _ _ _ _ _ h) (.inl ⟨(by kernel_rfl), fun wq hq => (x_load1 (by kernel_rfl) Tryz.isAgg9 ((Blk.rb u6.2.1 (RB.trans k0 hq) (Nat.lt_of_lt_of_eq (Blk.lt u6.2.1) j7) (fun h => by cases h)).cell' 0 rfl))⟩) ?_
   refine r_take 12 (.bool (sless ((lget z1 z0).path) f_.path)) (RB.pre _ _) rfl (by kernel_rfl) (fun _ _ _ h => hQ.panic _ _ _ _ _ h) (.inl ⟨(by kernel_rfl), fun wq hq => (x_strlss (by kernel_rfl) (by kernel_rfl))⟩) ?_
   refine r_take 13 (.bool (sless ((lget z1 z0).path) f_.path)) (RB.pre _ _) rfl (by kernel_rfl) (fun _ _ _ h => hQ.panic _ _ _ _ _ h) (.inl ⟨rfl, fun wq hq => (by kernel_rfl)⟩) ?_
   refine r_done (by kernel_rfl) ?_
   refine then_normal (q9 _ _ _ ⟨[(24, (.bool (sless ((lget z1 z0).path) f_.path)))], fit_mk (fun _ _ => rfl) (by kernel_rfl) (vs_cons (by kernel_rfl) vs_nil), ?_⟩)
   exact ⟨y4, (sless ((lget z1 z0).path) f_.path), rfl, j8, s3, k1, u5, u6, hp⟩
  ·
   replace hp := hp.2 u7
   refine r_take 3 (.bool false) (RB.pre _ _) rfl (by kernel_rfl) (fun _ _ _ h => hQ.panic _ _ _ _ _ h) (.inl ⟨rfl, fun wq hq => (x_df (p := z0 < (z1.length : Int)) (by kernel_rfl) u7)⟩) ?_
   refine r_take 4 (.bool false) (RB.pre _ _) rfl (by kernel_rfl) (fun _ _ _ h => hQ.panic _ _ _ _ _ h) (.inl ⟨rfl, fun wq hq => (by kernel_rfl)⟩) ?_
   refine r_take 5 undef (RB.pre _ _) rfl (by kernel_rfl) (fun _ _ _ h => hQ.panic _ _ _ _ _ h) (.inr ⟨by kernel_rfl, rfl⟩) ?_
   refine r_take 6 undef (RB.pre _ _) rfl (by kernel_rfl) (fun _ _ _ h => hQ.panic _ _ _ _ _ h) (.inr ⟨by kernel_rfl, rfl⟩) ?_
   refine r_take 7 undef (RB.pre _ _) rfl (by kernel_rfl) (fun _ _ _ h => hQ.panic _ _ _ _ _ h) (.inr ⟨by kernel_rfl, rfl⟩) ?_
   refine r_take 8 undef (RB.pre _ _) rfl (by kernel_rfl) (fun _ _ _ h => hQ.panic _ _ _ _ _ h) (.inr ⟨by kernel_rfl, rfl⟩) ?_
   refine r_take 9 undef (RB.pre _ _) rfl (by kernel_rfl) (fun _ _ _ h => hQ.panic _ _ _ _ _ h) (.inr ⟨by kernel_rfl, rfl⟩) ?_
   refine r_take 10 undef (RB.pre _ _) rfl (by kernel_rfl) (fun _ _ _ h => hQ.panic _ _ _ _ _ h) (.inr ⟨by kernel_rfl, rfl⟩) ?_
   refine r_take 11 undef (RB.pre _ _) rfl (by kernel_rfl) (fun _ _ _ h => hQ.panic _ _ _ _ _ h) (.inr ⟨by kernel_rfl, rfl⟩) ?_
   refine r_take 12 undef (RB.pre _ _) rfl (by kernel_rfl) (fun _ _ _ h => hQ.panic _ _ _ _ _ h) (.inr ⟨by kernel_rfl, rfl⟩) ?_
   refine r_take 13 (.bool false) (RB.pre _ _) rfl (by kernel_rfl) (fun _ _ _ h => hQ.panic _ _ _ _ _ h) (.inl ⟨rfl, fun wq hq => (by kernel_rfl)⟩) ?_
   refine r_done (by kernel_rfl) ?_
   refine then_normal (q9 _ _ _ ⟨[(24, (.bool false))], fit_mk (fun _ _ => rfl) (by kernel_rfl) (vs_cons (by kernel_rfl) vs_nil), ?_⟩)
   exact ⟨y4, false, rfl, j8, s3, k1, u5, u6, hp⟩
 ·
  rintro _ y5 p8 ⟨z6, v7, rfl, g2, s8, k2, k3, g3, n4⟩
  replace hp := m9 v7 n4
  refine then_normal (a4 _ _ _ _ ?_)
  refine cond_b v7 (by kernel_rfl) (fun s9 => ?_) (fun s9 => ?_)
  ·
   replace hp := hp.1 s9
   refine wp_skip ?_
   refine then_normal (a3 _ _ _ _ ?_)
   refine wp_block ?_
   refine reg_ ?_
   refine sq (o_pv (.int .i64 z0) rfl (by kernel_rfl) ?_)
   obtain ⟨g4, hp⟩ := hp
   refine sq (o_pv (.int .i64 (z0 + (1 : Int))) rfl (x_add2 (k := .i64) (a := z0) (b := (1 : Int)) (z0 + (1 : Int)) (by kernel_rfl) (by kernel_rfl) (wrap_inR g4)) ?_)
   refine sq (o_pv (.int .i64 (z0 + (1 : Int))) rfl (by kernel_rfl) ?_)
   refine nil_ ?_
   refine blk_normal ?_
   refine then_normal (m8 _ _ _ ⟨_, [(5, (.int .i64 (z0 + (1 : Int))))], hp.2, fit_mk (AgB.nest (AgB.look (AgB.mix _ _ _) (by kernel_rfl)) (by kernel_rfl) (by kernel_rfl)) (by kernel_rfl) (vs_cons (by kernel_rfl) vs_nil), ?_⟩)
   exact ⟨z6, (z0 + (1 : Int)), rfl, rfl, g2, s8, k2, k3, g3, g4, hp.1⟩
  ·
   replace hp := hp.2 s9
   refine wp_exit ?_
   refine then_exit ?_
   refine then_exit ?_
   refine blk_exit ?_
   refine then_normal (b9 _ _ _ _ ?_)
   refine seq_ (fun _ a7 => ?_)
   obtain ⟨a8, n5, hp⟩ := yon1 hp
   refine ground_ ?_
   refine join_ 34225520704 (fun lq v9 => ∃ (y7 : List Nat) (y8 : (List S_rectolaw5_one)) (t0 : Option Addr) (t1 : Nat) (t2 : Nat), (lq = [(6, (.slice t0 t1 t2))]) ∧ (Evo [] w v9) ∧ (Old y7 v9) ∧ (Sub X y7) ∧ (Sl r_rectolaw5_one y7 v9 y2 y0 z1) ∧ (OS r_rectolaw5_one ([]) w.heap.size y7 v9 90 t0 t1 t2 y8) ∧ (a8 y8)) (fun f5 t3 => ?_) ?_
   ·
    refine reg_drawn (RB y5.heap.size []) 7 (by kernel_rfl) (fun g5 t4 => ?_)
    have a9 := Evo.of_drew t4
    have z2 : g5.heap.size = y5.heap.size := by rw [t4]
    clear t4
    have u0 := Step.of0 z6 a9
    have y1 := RB.refl y5.heap.size [] g5
    have u1 := (Evo.then0 g2 (Step.evo u0))
    have u2 := (Old.step s8 u0)
    have t5 := (Sub.trans k2 (Step.up u0))
    have v5 := (Sl.step k3 u0)
    have g6 := (OB.step0 g3 u0)
    refine r_take 1 (.slice y2 z1.length y0) (RB.pre _ _) rfl (by kernel_rfl) (fun _ _ _ h => hQ.panic _ _ _ _ _ h) (.inl ⟨rfl, fun wq hq => (by kernel_rfl)⟩) ?_
    refine r_take 2 (.int .i64 z0) (RB.pre _ _) rfl (by kernel_rfl) (fun _ _ _ h => hQ.panic _ _ _ _ _ h) (.inl ⟨rfl, fun wq hq => (by kernel_rfl)⟩) ?_
    obtain ⟨p9, hp⟩ := hp
    refine r_slice (R := r_rectolaw5_one) (X := z6) (L := z1) 3 (RB.pre _ _) rfl (by kernel_rfl) (fun _ _ _ _ h => hQ.panic _ _ _ _ _ h) 0 z0.toNat (z1.take z0.toNat) rfl Tryz.underlying27 Tryz.sizeOf90 v5 (by kernel_rfl) rfl (.inl ⟨rfl, rfl⟩) (.inr ⟨.i64, by rw [show ((z0.toNat : Nat) : Int) = z0 from by omega]; kernel_rfl⟩) (by omega) (by omega) (by rw [List.drop_zero]) ?_
    intro Z0 Z1 r0
    refine r_take 5 (.agg #[(.string f_.path), (.string f_.data), (.int .i64 f_.mode), (.int .i64 f_.time), (.int .i64 f_.inode)]) (RB.pre _ _) rfl (by kernel_rfl) (fun _ _ _ h => hQ.panic _ _ _ _ _ h) (.inl ⟨rfl, fun wq hq => (x_loadN [(.string f_.path), (.string f_.data), (.int .i64 f_.mode), (.int .i64 f_.time), (.int .i64 f_.inode)] (by kernel_rfl) Tryz.isAgg90 Tryz.sizeOf90 ((Blk.rb g6.2.1 (RB.trans y1 hq) (Nat.lt_of_lt_of_eq (Blk.lt g6.2.1) z2) (fun h => by cases h)).cells' 0 rfl))⟩) ?_
    refine r_ready [0, 6] (by kernel_rfl) rfl (all_cons ⟨_, _, _, _, _, _, rfl, ?_⟩ (all_cons ⟨_, _, _, _, _, _, rfl, ?_⟩ all_nil))
    ·
     refine o_rowX (R := r_rectolaw5_one) [] ([] : List S_rectolaw5_one) 90 0 (X := z6) (B := w.heap.size) u1.size rfl (by kernel_rfl) Flat.nil rfl (by decide) ?_
     intro Z2 Z3 g7 z4 t6 e0
     have v6 := new_of (Nat.le_trans (Nat.le_of_eq z2.symm) (RB.size y1)) e0
     have rm := RB.mono (F' := []) (Step.evo z4) (Nat.le_trans (Nat.le_of_eq z2.symm) (RB.size y1)) (fun _ h => by cases h)
     have y6 := RB.trans y1 rm
     refine ⟨fun _ => rm, ?_⟩
     refine r_ready [4, 6] (by kernel_rfl) rfl (all_cons ⟨_, _, _, _, _, _, rfl, ?_⟩ (all_cons ⟨_, _, _, _, _, _, rfl, ?_⟩ all_nil))
     ·
      obtain ⟨e1, hp⟩ := hp
      have e2 := (Sl.step r0 z4)
      have g8 := (Evo.then0 u1 (Step.evo z4))
      refine o_appX (R := r_rectolaw5_one) (X := g7) (B := w.heap.size) (L := ([] : List S_rectolaw5_one)) (M := z1.take z0.toNat) rfl elT27 rfl g8.size t6 (Sl.src e2) rfl (by kernel_rfl) (by kernel_rfl) (by simpa using e1) ?_
      intro Z4 Z5 Z6 Z7 e3 u3 g9 n6
      have rm := RB.mono (F' := []) (Step.evo u3) (Nat.le_trans (Nat.le_of_eq z2.symm) (RB.size y6)) (fun x hx => .inr (v6 x hx))
      have f6 := new_app (Nat.le_trans (Nat.le_of_eq z2.symm) (RB.size y6)) v6 n6
      have k4 := RB.trans y6 rm
      refine ⟨fun _ => rm, ?_⟩
      rw [List.nil_append] at g9
      refine r_ready [6] (by kernel_rfl) rfl (all_cons ⟨_, _, _, _, _, _, rfl, ?_⟩ all_nil)
      have d0 := (Evo.thenW g8 (Step.evo u3) t6.2.2)
      refine o_rowX (R := r_rectolaw5_one) [(.string f_.path), (.string f_.data), (.int .i64 f_.mode), (.int .i64 f_.time), (.int .i64 f_.inode)] [f_] 90 1 (X := e3) (B := w.heap.size) d0.size rfl (by kernel_rfl) (Flat.cons (cs := [(.string f_.path), (.string f_.data), (.int .i64 f_.mode), (.int .i64 f_.time), (.int .i64 f_.inode)]) (r_rectolaw5_one_mk z3 z7 z8 z9 z5) Flat.nil) rfl (by decide) ?_
      intro Z8 Z9 e4 v1 d1 e5
      have f7 := new_of (Nat.le_trans (Nat.le_of_eq z2.symm) (RB.size k4)) e5
      have rm := RB.mono (F' := []) (Step.evo v1) (Nat.le_trans (Nat.le_of_eq z2.symm) (RB.size k4)) (fun _ h => by cases h)
      refine ⟨fun _ => rm, ?_⟩
      refine r_ready [7] (by kernel_rfl) rfl (all_cons ⟨_, _, _, _, _, _, rfl, ?_⟩ all_nil)
      obtain ⟨e6, hp⟩ := hp
      have d2 := (OS.step0 g9 v1)
      have d3 := (Evo.then0 d0 (Step.evo v1))
      refine o_appX (R := r_rectolaw5_one) (X := e4) (B := w.heap.size) (L := z1.take z0.toNat) (M := [f_]) rfl elT27 rfl d3.size d2 (OS.src d1) d1.1 (by kernel_rfl) (by kernel_rfl) e6 ?_
      intro r1 r2 r3 Y0 e7 t7 e8 f8
      refine ⟨fun h => absurd h (by decide), ?_⟩
      refine r_ready [8] (by kernel_rfl) rfl (all_cons ⟨_, _, _, _, _, _, rfl, ?_⟩ all_nil)
      refine o_pv (.slice r1 r2 r3) rfl (by kernel_rfl) ?_
      refine ⟨fun h => absurd h (by decide), ?_⟩
      refine r_done (by kernel_rfl) ?_
      have e9 := (Evo.thenW d3 (Step.evo t7) d2.2.2)
      have d4 := (Old.step (Old.step (Old.step (Old.step u2 z4) u3) v1) t7)
      have n7 := (Sub.trans (Sub.trans (Sub.trans (Sub.trans t5 (Step.up z4)) (Step.up u3)) (Step.up v1)) (Step.up t7))
      have n8 := (Sl.step (Sl.step (Sl.step (Sl.step v5 z4) u3) v1) t7)
      refine then_normal (t3 _ _ _ ⟨[(6, (.slice r1 r2 r3))], fit_mk (fun _ _ => rfl) (by kernel_rfl) (vs_cons (by kernel_rfl) vs_nil), ?_⟩)
      exact ⟨e7, ((z1.take z0.toNat) ++ ([f_])), r1, r2, r3, rfl, e9, d4, n7, n8, e8, hp⟩
     ·
      have d5 := (Evo.then0 u1 (Step.evo z4))
      refine o_rowX (R := r_rectolaw5_one) [(.string f_.path), (.string f_.data), (.int .i64 f_.mode), (.int .i64 f_.time), (.int .i64 f_.inode)] [f_] 90 1 (X := g7) (B := w.heap.size) d5.size rfl (by kernel_rfl) (Flat.cons (cs := [(.string f_.path), (.string f_.data), (.int .i64 f_.mode), (.int .i64 f_.time), (.int .i64 f_.inode)]) (r_rectolaw5_one_mk z3 z7 z8 z9 z5) Flat.nil) rfl (by decide) ?_
      intro Y1 Y2 i0 y9 i1 d6
      have f9 := new_of (Nat.le_trans (Nat.le_of_eq z2.symm) (RB.size y6)) d6
      have rm := RB.mono (F' := []) (Step.evo y9) (Nat.le_trans (Nat.le_of_eq z2.symm) (RB.size y6)) (fun _ h => by cases h)
      have k5 := RB.trans y6 rm
      refine ⟨fun _ => rm, ?_⟩
      have i2 := d6 _ (OS.old t6)
      refine r_ready [4] (by kernel_rfl) rfl (all_cons ⟨_, _, _, _, _, _, rfl, ?_⟩ all_nil)
      obtain ⟨i3, hp⟩ := hp
      have i4 := (Sl.step (Sl.step r0 z4) y9)
      have d7 := (OS.step0 t6 y9)
      have d8 := (Evo.then0 d5 (Step.evo y9))
      refine o_appX (R := r_rectolaw5_one) (X := i0) (B := w.heap.size) (L := ([] : List S_rectolaw5_one)) (M := z1.take z0.toNat) rfl elT27 rfl d8.size d7 (Sl.src i4) rfl (by kernel_rfl) (by kernel_rfl) (by simpa using i3) ?_
      intro Y3 Y4 Y5 Y6 i5 v2 r4 n9
      have rm := RB.mono (F' := []) (Step.evo v2) (Nat.le_trans (Nat.le_of_eq z2.symm) (RB.size k5)) (fun x hx => .inr (v6 x hx))
      have p0 := new_app (Nat.le_trans (Nat.le_of_eq z2.symm) (RB.size k5)) v6 n9
      refine ⟨fun _ => rm, ?_⟩
      rw [List.nil_append] at r4
      refine r_ready [7] (by kernel_rfl) rfl (all_cons ⟨_, _, _, _, _, _, rfl, ?_⟩ all_nil)
      obtain ⟨i6, hp⟩ := hp
      have d9 := (OS.step i1 v2 (Ap.symm i2))
      have l0 := (Evo.thenW d8 (Step.evo v2) d7.2.2)
      refine o_appX (R := r_rectolaw5_one) (X := i5) (B := w.heap.size) (L := z1.take z0.toNat) (M := [f_]) rfl elT27 rfl l0.size r4 (OS.src d9) d9.1 (by kernel_rfl) (by kernel_rfl) i6 ?_
      intro r5 r6 r7 Y7 i7 t8 i9 p1
      refine ⟨fun h => absurd h (by decide), ?_⟩
      refine r_ready [8] (by kernel_rfl) rfl (all_cons ⟨_, _, _, _, _, _, rfl, ?_⟩ all_nil)
      refine o_pv (.slice r5 r6 r7) rfl (by kernel_rfl) ?_
      refine ⟨fun h => absurd h (by decide), ?_⟩
      refine r_done (by kernel_rfl) ?_
      have h0 := (Evo.thenW l0 (Step.evo t8) r4.2.2)
      have l1 := (Old.step (Old.step (Old.step (Old.step u2 z4) y9) v2) t8)
      have o0 := (Sub.trans (Sub.trans (Sub.trans (Sub.trans t5 (Step.up z4)) (Step.up y9)) (Step.up v2)) (Step.up t8))
      have o3 := (Sl.step (Sl.step (Sl.step (Sl.step v5 z4) y9) v2) t8)
      refine then_normal (t3 _ _ _ ⟨[(6, (.slice r5 r6 r7))], fit_mk (fun _ _ => rfl) (by kernel_rfl) (vs_cons (by kernel_rfl) vs_nil), ?_⟩)
      exact ⟨i7, ((z1.take z0.toNat) ++ ([f_])), r5, r6, r7, rfl, h0, l1, o0, o3, i9, hp⟩
    ·
     refine o_rowX (R := r_rectolaw5_one) [(.string f_.path), (.string f_.data), (.int .i64 f_.mode), (.int .i64 f_.time), (.int .i64 f_.inode)] [f_] 90 1 (X := z6) (B := w.heap.size) u1.size rfl (by kernel_rfl) (Flat.cons (cs := [(.string f_.path), (.string f_.data), (.int .i64 f_.mode), (.int .i64 f_.time), (.int .i64 f_.inode)]) (r_rectolaw5_one_mk z3 z7 z8 z9 z5) Flat.nil) rfl (by decide) ?_
     intro Y8 Y9 h1 v3 l2 h2
     have p2 := new_of (Nat.le_trans (Nat.le_of_eq z2.symm) (RB.size y1)) h2
     have rm := RB.mono (F' := []) (Step.evo v3) (Nat.le_trans (Nat.le_of_eq z2.symm) (RB.size y1)) (fun _ h => by cases h)
     have t9 := RB.trans y1 rm
     refine ⟨fun _ => rm, ?_⟩
     refine r_ready [0] (by kernel_rfl) rfl (all_cons ⟨_, _, _, _, _, _, rfl, ?_⟩ all_nil)
     have l3 := (Evo.then0 u1 (Step.evo v3))
     refine o_rowX (R := r_rectolaw5_one) [] ([] : List S_rectolaw5_one) 90 0 (X := h1) (B := w.heap.size) l3.size rfl (by kernel_rfl) Flat.nil rfl (by decide) ?_
     intro V0 V1 h3 v0 l4 l5
     have k6 := new_of (Nat.le_trans (Nat.le_of_eq z2.symm) (RB.size t9)) l5
     have rm := RB.mono (F' := []) (Step.evo v0) (Nat.le_trans (Nat.le_of_eq z2.symm) (RB.size t9)) (fun _ h => by cases h)
     have k7 := RB.trans t9 rm
     refine ⟨fun _ => rm, ?_⟩
     have h4 := l5 _ (OS.old l2)
     refine r_ready [4] (by kernel_rfl) rfl (all_cons ⟨_, _, _, _, _, _, rfl, ?_⟩ all_nil)
     obtain ⟨h5, hp⟩ := hp
     have h6 := (Sl.step (Sl.step r0 v3) v0)
     have h7 := (OS.step0 l2 v0)
     have l6 := (Evo.then0 l3 (Step.evo v0))
     refine o_appX (R := r_rectolaw5_one) (X := h3) (B := w.heap.size) (L := ([] : List S_rectolaw5_one)) (M := z1.take z0.toNat) rfl elT27 rfl l6.size l4 (Sl.src h6) rfl (by kernel_rfl) (by kernel_rfl) (by simpa using h5) ?_
     intro V2 V3 V4 V5 h8 v4 r8 o4
     have rm := RB.mono (F' := []) (Step.evo v4) (Nat.le_trans (Nat.le_of_eq z2.symm) (RB.size k7)) (fun x hx => .inr (k6 x hx))
     have p3 := new_app (Nat.le_trans (Nat.le_of_eq z2.symm) (RB.size k7)) k6 o4
     refine ⟨fun _ => rm, ?_⟩
     rw [List.nil_append] at r8
     refine r_ready [7] (by kernel_rfl) rfl (all_cons ⟨_, _, _, _, _, _, rfl, ?_⟩ all_nil)
     obtain ⟨h9, hp⟩ := hp
     have l7 := (OS.step h7 v4 h4)
     have l8 := (Evo.thenW l6 (Step.evo v4) l4.2.2)
     refine o_appX (R := r_rectolaw5_one) (X := h8) (B := w.heap.size) (L := z1.take z0.toNat) (M := [f_]) rfl elT27 rfl l8.size r8 (OS.src l7) l7.1 (by kernel_rfl) (by kernel_rfl) h9 ?_
     intro r9 q0 q1 V6 b0 s0 b1 p4
     refine ⟨fun h => absurd h (by decide), ?_⟩
     refine r_ready [8] (by kernel_rfl) rfl (all_cons ⟨_, _, _, _, _, _, rfl, ?_⟩ all_nil)
     refine o_pv (.slice r9 q0 q1) rfl (by kernel_rfl) ?_
     refine ⟨fun h => absurd h (by decide), ?_⟩
     refine r_done (by kernel_rfl) ?_
     have b2 := (Evo.thenW l8 (Step.evo s0) r8.2.2)
     have l9 := (Old.step (Old.step (Old.step (Old.step u2 v3) v0) v4) s0)
     have o5 := (Sub.trans (Sub.trans (Sub.trans (Sub.trans t5 (Step.up v3)) (Step.up v0)) (Step.up v4)) (Step.up s0))
     have o6 := (Sl.step (Sl.step (Sl.step (Sl.step v5 v3) v0) v4) s0)
     refine then_normal (t3 _ _ _ ⟨[(6, (.slice r9 q0 q1))], fit_mk (fun _ _ => rfl) (by kernel_rfl) (vs_cons (by kernel_rfl) vs_nil), ?_⟩)
     exact ⟨b0, ((z1.take z0.toNat) ++ ([f_])), r9, q0, q1, rfl, b2, l9, o5, o6, b1, hp⟩
   ·
    rintro _ v9 V7 ⟨y7, y8, t0, t1, t2, rfl, m0, f0, o7, o8, q2, o9⟩
    replace hp := n5 y8 o9 (OS.len q2)
    refine then_normal (a7 _ _ _ _ ?_)
    refine seq_ (fun _ b3 => ?_)
    refine reg_ ?_
    refine sq (o_pv (.slice t0 t1 t2) rfl (by kernel_rfl) ?_)
    refine sq (o_pv (.slice y2 z1.length y0) rfl (by kernel_rfl) ?_)
    refine sq (o_pv (.int .i64 z0) rfl (by kernel_rfl) ?_)
    obtain ⟨V8, hp⟩ := hp
    refine sq (o_slice (R := r_rectolaw5_one) (X := y7) (L := z1) z0.toNat z1.length (z1.drop z0.toNat) rfl Tryz.underlying27 Tryz.sizeOf90 o8 (by kernel_rfl) rfl (.inr ⟨.i64, by rw [show ((z0.toNat : Nat) : Int) = z0 from by omega]; kernel_rfl⟩) (.inl ⟨rfl, rfl, rfl⟩) (by omega) (by omega) (by rw [List.take_length]) ?_)
    intro V9 U0 b4
    obtain ⟨b5, hp⟩ := hp
    refine sq (o_appX (R := r_rectolaw5_one) (X := y7) (B := w.heap.size) (L := y8) (M := z1.drop z0.toNat) rfl elT27 rfl m0.size q2 (Sl.src b4) rfl (by kernel_rfl) (by kernel_rfl) b5 ?_)
    intro q3 q4 q5 U1 U2 m1 m2 p5
    refine sq (o_pv (.slice q3 q4 q5) rfl (by kernel_rfl) ?_)
    refine nil_ ?_
    refine then_normal (b3 _ _ _ _ ?_)
    refine wp_ret ?_
    have c0 := (Sub.trans o7 (Step.up m1))
    have b6 := (Evo.thenW m0 (Step.evo m1) q2.2.2)
    refine end_ret hQ (.slice q3 q4 q5) (by kernel_rfl) ?_
    exact ⟨(y8 ++ (z1.drop z0.toNat)), hp, b6, q3, q5, (by (rw [show q4 = (y8 ++ (z1.drop z0.toNat)).length from m2.1]); first | done | rfl), (OS.out m2 c0 c1)⟩
def rectolaw5_laid_p (l : (List S_rectolaw5_one)) (o : S_rectolaw5_op) (Q : (List S_rectolaw5_one) → Prop) : Prop :=
 ((l.length ≤ 9223372036854775807) → ((inR .i64 o.kind) → ((o.f.path.size ≤ maxLen) → ((o.f.data.size ≤ maxLen) → ((inR .i64 o.f.mode) → ((inR .i64 o.f.time) → ((inR .i64 o.f.inode) → ((o.from_.size ≤ maxLen) → ((o.to_.size ≤ maxLen) → (((o.kind = (1 : Int)) → (rectolaw5_clash_p l o.f.path o.f.path (fun (z6 : Bool) => (((z6 = true) → Q l) ∧ ((z6 = false) → (rectolaw5_put_p l o.f (fun (z7 : (List S_rectolaw5_one)) => ((z7.length ≤ 9223372036854775807) → Q z7)))))))) ∧ ((¬ (o.kind = (1 : Int))) → (((o.kind = (2 : Int)) → (rectolaw5_get_p l o.from_ (fun (z0 : Int) => ((inR .i64 z0) → (∃ z1 : Bool → Prop, (∀ (z2 : Bool), z1 z2 → (((z2 = true) → Q l) ∧ ((z2 = false) → ((inL l z0) ∧ ((((lget l z0).path).size ≤ maxLen) → ((((lget l z0).data).size ≤ maxLen) → ((inR .i64 ((lget l z0).mode)) → ((inR .i64 ((lget l z0).time)) → ((inR .i64 ((lget l z0).inode)) → (rectolaw5_cut_p l o.from_ (fun (z3 : (List S_rectolaw5_one)) => ((z3.length ≤ 9223372036854775807) → (rectolaw5_put_p z3 (S_rectolaw5_one.mk o.to_ ((lget l z0).data) ((lget l z0).mode) ((lget l z0).time) ((lget l z0).inode)) (fun (z4 : (List S_rectolaw5_one)) => ((z4.length ≤ 9223372036854775807) → Q z4))))))))))))))) ∧ (((z0 < (0 : Int)) → (z1 true)) ∧ ((¬ (z0 < (0 : Int))) → (rectolaw5_clash_p l o.to_ o.from_ (fun (z8 : Bool) => (z1 z8)))))))))) ∧ ((¬ (o.kind = (2 : Int))) → (rectolaw5_cut_p l o.from_ (fun (z5 : (List S_rectolaw5_one)) => ((z5.length ≤ 9223372036854775807) → Q z5))))))))))))))))
set_option maxRecDepth 20000 in
set_option maxHeartbeats 4000000 in
theorem rectolaw5_laid_w {X : List Nat} {w : World} {l : (List S_rectolaw5_one)} {o : S_rectolaw5_op} {z2 : Option Addr} {z1 : Nat} {Q : (List S_rectolaw5_one) → Prop} (m5 : Old X w) (t7 : Sl r_rectolaw5_one X w z2 z1 l) (s6 : inR .i64 o.kind) (z6 : o.f.path.size ≤ maxLen) (y6 : o.f.data.size ≤ maxLen) (y7 : inR .i64 o.f.mode) (y8 : inR .i64 o.f.time) (y1 : inR .i64 o.f.inode) (z3 : o.from_.size ≤ maxLen) (z9 : o.to_.size ≤ maxLen) (hp : rectolaw5_laid_p l o Q) :
  Calls Tryz.prog 81 #[(.slice z2 l.length z1), (.agg #[(.int .i64 o.kind), (.string o.f.path), (.string o.f.data), (.int .i64 o.f.mode), (.int .i64 o.f.time), (.int .i64 o.f.inode), (.string o.from_), (.string o.to_)])] w (Ret fun v w' => ∃ (g7 : (List S_rectolaw5_one)), Q g7 ∧ Evo [] w w' ∧ ∃ (s7 : Option Addr) (s8 : Nat), v = (.slice s7 g7.length s8) ∧ Sl r_rectolaw5_one X w' s7 s8 g7) := by
 have hXo := m5
 have E0 : Evo [] w w := RB.refl _ _ _
 have hS : Sub X X := Sub.refl _
 unfold rectolaw5_laid_p at hp
 refine enter_ Tryz.func81 rfl 58 [(0, (.slice z2 l.length z1)), (1, (.agg #[(.int .i64 o.kind), (.string o.f.path), (.string o.f.data), (.int .i64 o.f.mode), (.int .i64 o.f.time), (.int .i64 o.f.inode), (.string o.from_), (.string o.to_)]))] (by kernel_rfl) (fun Qe hQ => ?_)
 replace hp := hp (Sl.len t7)
 replace hp := hp s6
 replace hp := hp z6
 replace hp := hp y6
 replace hp := hp y7
 replace hp := hp y8
 replace hp := hp y1
 replace hp := hp z3
 replace hp := hp z9
 refine seq_ (fun _ m6 => ?_)
 refine reg_ ?_
 refine sq (o_newX [(.int .i64 o.kind), (.string o.f.path), (.string o.f.data), (.int .i64 o.f.mode), (.int .i64 o.f.time), (.int .i64 o.f.inode), (.string o.from_), (.string o.to_)] 93 (X := X) (B := w.heap.size) E0.size rfl (by kernel_rfl) ?_)
 intro z5 a0 z7 z4 y9 a1
 refine sq (o_pv (.slice none 0 0) rfl (by kernel_rfl) ?_)
 refine nil_ ?_
 refine then_normal (m6 _ _ _ _ ?_)
 refine seq_ (fun _ m7 => ?_)
 refine seq_ (fun _ m8 => ?_)
 refine reg_ ?_
 refine sq (o_pv (.pointer (some ⟨z5, 0, none⟩)) rfl (by kernel_rfl) ?_)
 refine sq (o_pv (.int .i64 o.kind) rfl (x_load1 (by kernel_rfl) Tryz.isAgg3 (y9.2.1.cell' 0 rfl)) ?_)
 refine nil_ ?_
 refine then_normal (m8 _ _ _ _ ?_)
 refine wp_block ?_
 refine seq_ (fun _ m9 => ?_)
 refine reg_ ?_
 refine sq (o_pv (.bool (decide (o.kind = (1 : Int)))) rfl (by kernel_rfl) ?_)
 refine sq (o_pv (.bool (decide (o.kind = (1 : Int)))) rfl (by kernel_rfl) ?_)
 refine nil_ ?_
 refine then_normal (m9 _ _ _ _ ?_)
 refine cond_d (o.kind = (1 : Int)) (by kernel_rfl) (fun s9 => ?_) (fun s9 => ?_)
 ·
  replace hp := hp.1 s9
  refine seq_ (fun _ n0 => ?_)
  refine seq_ (fun _ n1 => ?_)
  refine reg_ ?_
  refine sq (o_pv (.slice z2 l.length z1) rfl (by kernel_rfl) ?_)
  refine sq (o_pv (.pointer (some ⟨z5, 1, none⟩)) rfl (by kernel_rfl) ?_)
  refine sq (o_pv (.pointer (some ⟨z5, 1, none⟩)) rfl (by kernel_rfl) ?_)
  refine sq (o_pv (.string o.f.path) rfl (x_load1 (by kernel_rfl) Tryz.isAgg9 (y9.2.1.cell' 1 rfl)) ?_)
  refine sq (o_pv (.pointer (some ⟨z5, 1, none⟩)) rfl (by kernel_rfl) ?_)
  refine sq (o_pv (.pointer (some ⟨z5, 1, none⟩)) rfl (by kernel_rfl) ?_)
  refine sq (o_pv (.string o.f.path) rfl (x_load1 (by kernel_rfl) Tryz.isAgg9 (y9.2.1.cell' 1 rfl)) ?_)
  have u6 := (Sl.step t7 z4)
  refine sq (o_call 45 #[(.slice z2 l.length z1), (.string o.f.path), (.string o.f.path)] rfl (x_call Tryz.call45 (by kernel_rfl)) (rectolaw5_clash_w (X := []) (l := l) (p := o.f.path) (but := o.f.path) (Old.nil _) (Sl.less u6 (Sub.nil _)) z6 z6 hp) ?_)
  rintro _ a2 ⟨n2, hp, r0, rfl⟩
  have v4 := Step.of0 z7 r0
  refine nil_ ?_
  refine then_normal (n1 _ _ _ _ ?_)
  refine cond_b n2 (by kernel_rfl) (fun r1 => ?_) (fun r1 => ?_)
  ·
   replace hp := hp.1 r1
   refine seq_ (fun _ n3 => ?_)
   refine reg_ ?_
   refine sq (o_pv (.slice z2 l.length z1) rfl (by kernel_rfl) ?_)
   refine sq (o_pv (.slice z2 l.length z1) rfl (by kernel_rfl) ?_)
   refine nil_ ?_
   refine then_normal (n3 _ _ _ _ ?_)
   refine wp_ret ?_
   refine then_ret ?_
   refine blk_ret ?_
   refine then_ret ?_
   have g8 := (Sl.step u6 v4)
   have g9 := (Sub.trans (Sub.trans hS (Step.up z4)) (Step.up v4))
   have n4 := (Evo.then0 (Evo.then0 E0 (Step.evo z4)) r0)
   refine end_ret hQ (.slice z2 l.length z1) (by kernel_rfl) ?_
   exact ⟨l, hp, n4, z2, z1, rfl, (Sl.less g8 g9)⟩
  ·
   replace hp := hp.2 r1
   refine wp_skip ?_
   refine then_normal (n0 _ _ _ _ ?_)
   refine seq_ (fun _ n5 => ?_)
   refine reg_ ?_
   refine sq (o_pv (.slice z2 l.length z1) rfl (by kernel_rfl) ?_)
   refine sq (o_pv (.pointer (some ⟨z5, 1, none⟩)) rfl (by kernel_rfl) ?_)
   have n6 := (OB.step0 y9 v4)
   refine sq (o_pv (.agg #[(.string o.f.path), (.string o.f.data), (.int .i64 o.f.mode), (.int .i64 o.f.time), (.int .i64 o.f.inode)]) rfl (x_loadN [(.string o.f.path), (.string o.f.data), (.int .i64 o.f.mode), (.int .i64 o.f.time), (.int .i64 o.f.inode)] (by kernel_rfl) Tryz.isAgg90 Tryz.sizeOf90 (n6.2.1.cells' 1 rfl)) ?_)
   have d0 := (Sl.step u6 v4)
   have k5 := (Old.step (Old.step hXo z4) v4)
   refine sq (o_call 51 #[(.slice z2 l.length z1), (.agg #[(.string o.f.path), (.string o.f.data), (.int .i64 o.f.mode), (.int .i64 o.f.time), (.int .i64 o.f.inode)])] rfl (x_call Tryz.call51 (by kernel_rfl)) (rectolaw5_put_w (X := z7) (l := l) (f_ := o.f) k5 d0 z6 y6 y7 y8 y1 hp) ?_)
   rintro _ a3 ⟨r2, hp, g1, u7, u9, rfl, r3⟩
   have n7 := Step.of0 z7 g1
   replace hp := hp (Sl.len r3)
   refine sq (o_pv (.slice u7 r2.length u9) rfl (by kernel_rfl) ?_)
   refine nil_ ?_
   refine then_normal (n5 _ _ _ _ ?_)
   refine wp_ret ?_
   refine blk_ret ?_
   refine then_ret ?_
   have d1 := (Sub.trans (Sub.trans (Sub.trans hS (Step.up z4)) (Step.up v4)) (Step.up n7))
   have n8 := (Evo.then0 (Evo.then0 (Evo.then0 E0 (Step.evo z4)) r0) g1)
   refine end_ret hQ (.slice u7 r2.length u9) (by kernel_rfl) ?_
   exact ⟨r2, hp, n8, u7, u9, rfl, (Sl.less r3 d1)⟩
 ·
  replace hp := hp.2 s9
  refine seq_ (fun _ n9 => ?_)
  refine reg_ ?_
  refine sq (o_pv (.bool (decide (o.kind = (2 : Int)))) rfl (by kernel_rfl) ?_)
  refine sq (o_pv (.bool (decide (o.kind = (2 : Int)))) rfl (by kernel_rfl) ?_)
  refine nil_ ?_
  refine then_normal (n9 _ _ _ _ ?_)
  refine cond_d (o.kind = (2 : Int)) (by kernel_rfl) (fun r4 => ?_) (fun r4 => ?_)
  ·
   replace hp := hp.1 r4
   refine seq_ (fun _ o0 => ?_)
   refine reg_ ?_
   refine sq (o_pv (.slice z2 l.length z1) rfl (by kernel_rfl) ?_)
   refine sq (o_pv (.pointer (some ⟨z5, 6, none⟩)) rfl (by kernel_rfl) ?_)
   refine sq (o_pv (.string o.from_) rfl (x_load1 (by kernel_rfl) Tryz.isAgg9 (y9.2.1.cell' 6 rfl)) ?_)
   have r5 := (Sl.step t7 z4)
   refine sq (o_call 43 #[(.slice z2 l.length z1), (.string o.from_)] rfl (x_call Tryz.call43 (by kernel_rfl)) (rectolaw5_get_w (X := []) (l := l) (p := o.from_) (Old.nil _) (Sl.less r5 (Sub.nil _)) z3 hp) ?_)
   rintro _ a4 ⟨z0, hp, g2, rfl, d2⟩
   have t8 := Step.of0 z7 g2
   replace hp := hp d2
   refine sq (o_pv (.int .i64 z0) rfl (by kernel_rfl) ?_)
   refine nil_ ?_
   refine then_normal (o0 _ _ _ _ ?_)
   refine seq_ (fun _ o3 => ?_)
   refine seq_ (fun _ o4 => ?_)
   have t0 := (Sl.step r5 t8)
   have t9 := (Old.step (Old.step hXo z4) t8)
   have g3 := (Evo.then0 (Evo.then0 E0 (Step.evo z4)) g2)
   have r6 := (Sub.trans (Sub.trans hS (Step.up z4)) (Step.up t8))
   have s0 := (OB.step0 y9 t8)
   obtain ⟨o5, d3, hp⟩ := hp
   refine ground_ ?_
   refine join_ 1098437885952 (fun lq u2 => ∃ (v5 : List Nat) (u3 : Bool), (lq = [(39, (.bool u3))]) ∧ (Evo [] w u2) ∧ (Old v5 u2) ∧ (Sub X v5) ∧ (Sl r_rectolaw5_one v5 u2 z2 z1 l) ∧ (OB ([]) w.heap.size v5 u2 z5 [(.int .i64 o.kind), (.string o.f.path), (.string o.f.data), (.int .i64 o.f.mode), (.int .i64 o.f.time), (.int .i64 o.f.inode), (.string o.from_), (.string o.to_)] 93) ∧ (o5 u3)) (fun c4 r7 => ?_) ?_
   ·
    refine reg_ ?_
    refine sq (o_pv (.int .i64 z0) rfl (by kernel_rfl) ?_)
    by_cases s1 : z0 < (0 : Int)
    ·
     replace hp := hp.1 s1
     refine sq (o_pv (.bool true) rfl (x_dt (p := z0 < (0 : Int)) (by kernel_rfl) s1) ?_)
     refine sq (o_pv (.bool true) rfl (by kernel_rfl) ?_)
     refine sq (o_not (by kernel_rfl) ?_)
     refine sq (o_not (by kernel_rfl) ?_)
     refine sq (o_not (by kernel_rfl) ?_)
     refine sq (o_not (by kernel_rfl) ?_)
     refine sq (o_not (by kernel_rfl) ?_)
     refine sq (o_not (by kernel_rfl) ?_)
     refine sq (o_pv (.bool true) rfl (by kernel_rfl) ?_)
     refine nil_ ?_
     refine then_normal (r7 _ _ _ ⟨[(39, (.bool true))], fit_mk (fun _ _ => rfl) (by kernel_rfl) (vs_cons (by kernel_rfl) vs_nil), ?_⟩)
     exact ⟨z7, true, rfl, g3, t9, r6, t0, s0, hp⟩
    ·
     replace hp := hp.2 s1
     refine sq (o_pv (.bool false) rfl (x_df (p := z0 < (0 : Int)) (by kernel_rfl) s1) ?_)
     refine sq (o_pv (.bool false) rfl (by kernel_rfl) ?_)
     refine sq (o_pv (.slice z2 l.length z1) (by kernel_rfl) (by kernel_rfl) ?_)
     refine sq (o_pv (.pointer (some ⟨z5, 7, none⟩)) (by kernel_rfl) (by kernel_rfl) ?_)
     refine sq (o_pv (.string o.to_) (by kernel_rfl) (x_load1 (by kernel_rfl) Tryz.isAgg9 (s0.2.1.cell' 7 rfl)) ?_)
     refine sq (o_pv (.pointer (some ⟨z5, 6, none⟩)) (by kernel_rfl) (by kernel_rfl) ?_)
     refine sq (o_pv (.string o.from_) (by kernel_rfl) (x_load1 (by kernel_rfl) Tryz.isAgg9 (s0.2.1.cell' 6 rfl)) ?_)
     refine sq (o_call 45 #[(.slice z2 l.length z1), (.string o.to_), (.string o.from_)] (by kernel_rfl) (x_call Tryz.call45 (by kernel_rfl)) (rectolaw5_clash_w (X := []) (l := l) (p := o.to_) (but := o.from_) (Old.nil _) (Sl.less t0 (Sub.nil _)) z9 z3 hp) ?_)
     rintro _ a5 ⟨r8, hp, g4, rfl⟩
     have s2 := Step.of0 z7 g4
     refine sq (o_pv (.bool r8) rfl (by kernel_rfl) ?_)
     refine nil_ ?_
     have o6 := (Evo.then0 g3 g4)
     have k6 := (Old.step t9 s2)
     have d4 := (Sub.trans r6 (Step.up s2))
     have d5 := (Sl.step t0 s2)
     have o7 := (OB.step0 s0 s2)
     refine then_normal (r7 _ _ _ ⟨[(39, (.bool r8))], fit_mk (fun _ _ => rfl) (by kernel_rfl) (vs_cons (by kernel_rfl) vs_nil), ?_⟩)
     exact ⟨z7, r8, rfl, o6, k6, d4, d5, o7, hp⟩
   ·
    rintro _ u2 a6 ⟨v5, u3, rfl, r9, k7, q0, t1, g5, d6⟩
    replace hp := d3 u3 d6
    refine then_normal (o4 _ _ _ _ ?_)
    refine cond_b u3 (by kernel_rfl) (fun q1 => ?_) (fun q1 => ?_)
    ·
     replace hp := hp.1 q1
     refine seq_ (fun _ o8 => ?_)
     refine reg_ ?_
     refine sq (o_pv (.slice z2 l.length z1) rfl (by kernel_rfl) ?_)
     refine sq (o_pv (.slice z2 l.length z1) rfl (by kernel_rfl) ?_)
     refine nil_ ?_
     refine then_normal (o8 _ _ _ _ ?_)
     refine wp_ret ?_
     refine then_ret ?_
     refine blk_ret ?_
     refine then_ret ?_
     refine end_ret hQ (.slice z2 l.length z1) (by kernel_rfl) ?_
     exact ⟨l, hp, r9, z2, z1, rfl, (Sl.less t1 q0)⟩
    ·
     replace hp := hp.2 q1
     refine wp_skip ?_
     refine then_normal (o3 _ _ _ _ ?_)
     refine seq_ (fun _ o9 => ?_)
     refine reg_ ?_
     refine sq (o_pv (.slice z2 l.length z1) rfl (by kernel_rfl) ?_)
     refine sq (o_pv (.int .i64 z0) rfl (by kernel_rfl) ?_)
     obtain ⟨g6, hp⟩ := hp
     obtain ⟨c0, d7, c1, k8, c2, c3, k9, j0⟩ := Sl.atI t1 z0 g6
     obtain ⟨rfl, u4, y2, y3, y4, z8⟩ := r_rectolaw5_one_open k9
     replace hp := hp u4
     replace hp := hp y2
     replace hp := hp y3
     replace hp := hp y4
     replace hp := hp z8
     refine sq (o_pv (.pointer (some ⟨c0, d7 + z0.toNat * 5, none⟩)) rfl (x_ixA (m := l.length) (c := z1) (k := .i64) (i := z0) Tryz.underlying27 Tryz.sizeOf90 (by rw [← k8]; kernel_rfl) (by kernel_rfl) g6) ?_)
     refine sq (o_pv (.agg #[(.string ((lget l z0).path)), (.string ((lget l z0).data)), (.int .i64 ((lget l z0).mode)), (.int .i64 ((lget l z0).time)), (.int .i64 ((lget l z0).inode))]) rfl (x_loadN [(.string ((lget l z0).path)), (.string ((lget l z0).data)), (.int .i64 ((lget l z0).mode)), (.int .i64 ((lget l z0).time)), (.int .i64 ((lget l z0).inode))] (by kernel_rfl) Tryz.isAgg90 Tryz.sizeOf90 j0) ?_)
     refine sq (o_newX [(.string (ByteArray.mk #[])), (.string (ByteArray.mk #[])), (.int .i64 (0 : Int)), (.int .i64 (0 : Int)), (.int .i64 (0 : Int))] 90 (X := v5) (B := w.heap.size) r9.size rfl (by kernel_rfl) ?_)
     intro d8 c5 v0 v1 q2 d9
     have q3 := d9 _ (OB.old g5)
     have l0 := (OB.step0 g5 v1)
     have l1 := (Evo.then0 r9 (Step.evo v1))
     refine sq (o_stB (o := 0) (v := (.agg #[(.string ((lget l z0).path)), (.string ((lget l z0).data)), (.int .i64 ((lget l z0).mode)), (.int .i64 ((lget l z0).time)), (.int .i64 ((lget l z0).inode))])) [(.string ((lget l z0).path)), (.string ((lget l z0).data)), (.int .i64 ((lget l z0).mode)), (.int .i64 ((lget l z0).time)), (.int .i64 ((lget l z0).inode))] rfl q2 (by kernel_rfl) (by kernel_rfl) Tryz.sizeOf90 rfl rfl rfl ?_)
     intro c6 v2 q4
     refine nil_ ?_
     refine then_normal (o9 _ _ _ _ ?_)
     refine seq_ (fun _ l2 => ?_)
     refine reg_ ?_
     refine sq (o_pv (.pointer (some ⟨z5, 7, none⟩)) rfl (by kernel_rfl) ?_)
     have q5 := (OB.step l0 v2 q3)
     refine sq (o_pv (.string o.to_) rfl (x_load1 (by kernel_rfl) Tryz.isAgg9 (q5.2.1.cell' 7 rfl)) ?_)
     refine sq (o_pv (.pointer (some ⟨d8, 0, none⟩)) rfl (by kernel_rfl) ?_)
     have l3 := (Evo.thenW l1 (Step.evo v2) q2.2.2)
     refine sq (o_stB (o := 0) (v := (.string o.to_)) [(.string o.to_), (.string ((lget l z0).data)), (.int .i64 ((lget l z0).mode)), (.int .i64 ((lget l z0).time)), (.int .i64 ((lget l z0).inode))] rfl q4 (by kernel_rfl) (by kernel_rfl) Tryz.sizeOf9 rfl rfl rfl ?_)
     intro t2 v3 l4
     refine nil_ ?_
     refine then_normal (l2 _ _ _ _ ?_)
     refine seq_ (fun _ l5 => ?_)
     have l6 := (Evo.thenW l3 (Step.evo v3) q4.2.2)
     have q6 := (Old.step (Old.step (Old.step k7 v1) v2) v3)
     have j1 := (Sub.trans (Sub.trans (Sub.trans q0 (Step.up v1)) (Step.up v2)) (Step.up v3))
     have j2 := (Sl.step (Sl.step (Sl.step t1 v1) v2) v3)
     have l7 := (OB.step q5 v3 q3)
     refine reg_drawn (RB t2.heap.size []) 6 (by kernel_rfl) (fun q7 v6 => ?_)
     have l8 := Evo.of_drew v6
     have v7 : q7.heap.size = t2.heap.size := by rw [v6]
     clear v6
     have y0 := Step.of0 v0 l8
     have y5 := RB.refl t2.heap.size [] q7
     have l9 := (Evo.then0 l6 (Step.evo y0))
     have u5 := (Old.step q6 y0)
     have j3 := (Sub.trans j1 (Step.up y0))
     have j4 := (Sl.step j2 y0)
     have q8 := (OB.step0 l7 y0)
     have q9 := (OB.step0 l4 y0)
     refine r_take 0 (.slice z2 l.length z1) (RB.pre _ _) rfl (by kernel_rfl) (fun _ _ _ h => hQ.panic _ _ _ _ _ h) (.inl ⟨rfl, fun wq hq => (by kernel_rfl)⟩) ?_
     refine r_take 1 (.pointer (some ⟨z5, 6, none⟩)) (RB.pre _ _) rfl (by kernel_rfl) (fun _ _ _ h => hQ.panic _ _ _ _ _ h) (.inl ⟨rfl, fun wq hq => (by kernel_rfl)⟩) ?_
     refine r_take 2 (.string o.from_) (RB.pre _ _) rfl (by kernel_rfl) (fun _ _ _ h => hQ.panic _ _ _ _ _ h) (.inl ⟨rfl, fun wq hq => (x_load1 (by kernel_rfl) Tryz.isAgg9 ((Blk.rb q8.2.1 (RB.trans y5 hq) (Nat.lt_of_lt_of_eq (Blk.lt q8.2.1) v7) (fun h => by cases h)).cell' 6 rfl))⟩) ?_
     refine r_take 4 (.agg #[(.string o.to_), (.string ((lget l z0).data)), (.int .i64 ((lget l z0).mode)), (.int .i64 ((lget l z0).time)), (.int .i64 ((lget l z0).inode))]) (RB.pre _ _) rfl (by kernel_rfl) (fun _ _ _ h => hQ.panic _ _ _ _ _ h) (.inl ⟨rfl, fun wq hq => (x_loadN [(.string o.to_), (.string ((lget l z0).data)), (.int .i64 ((lget l z0).mode)), (.int .i64 ((lget l z0).time)), (.int .i64 ((lget l z0).inode))] (by kernel_rfl) Tryz.isAgg90 Tryz.sizeOf90 ((Blk.rb q9.2.1 (RB.trans y5 hq) (Nat.lt_of_lt_of_eq (Blk.lt q9.2.1) v7) (fun h => by cases h)).cells' 0 rfl))⟩) ?_
     refine r_ready [3] (by kernel_rfl) rfl (all_cons ⟨_, _, _, _, _, _, rfl, ?_⟩ all_nil)
     refine o_call 53 #[(.slice z2 l.length z1), (.string o.from_)] rfl (x_call Tryz.call53 (by kernel_rfl)) (rectolaw5_cut_w (X := v0) (l := l) (p := o.from_) u5 j4 z3 hp) ?_
     rintro _ c7 ⟨k0, hp, t3, j5, j6, rfl, s3⟩
     have rm := RB.mono (F' := []) t3 (Nat.le_trans (Nat.le_of_eq v7.symm) (RB.size y5)) (fun _ h => by cases h)
     have j7 := RB.trans y5 rm
     refine ⟨fun _ => rm, ?_⟩
     have k1 := Step.of0 v0 t3
     replace hp := hp (Sl.len s3)
     refine r_ready [5] (by kernel_rfl) rfl (all_cons ⟨_, _, _, _, _, _, rfl, ?_⟩ all_nil)
     have k2 := (Old.step u5 k1)
     refine o_call 51 #[(.slice j5 k0.length j6), (.agg #[(.string o.to_), (.string ((lget l z0).data)), (.int .i64 ((lget l z0).mode)), (.int .i64 ((lget l z0).time)), (.int .i64 ((lget l z0).inode))])] rfl (x_call Tryz.call51 (by kernel_rfl)) (rectolaw5_put_w (X := v0) (l := k0) (f_ := (S_rectolaw5_one.mk o.to_ ((lget l z0).data) ((lget l z0).mode) ((lget l z0).time) ((lget l z0).inode))) k2 s3 z9 y2 y3 y4 z8 hp) ?_
     rintro _ c8 ⟨t4, hp, t5, v8, v9, rfl, s4⟩
     have rm := RB.mono (F' := []) t5 (Nat.le_trans (Nat.le_of_eq v7.symm) (RB.size j7)) (fun _ h => by cases h)
     refine ⟨fun _ => rm, ?_⟩
     have m0 := Step.of0 v0 t5
     replace hp := hp (Sl.len s4)
     refine r_ready [6] (by kernel_rfl) rfl (all_cons ⟨_, _, _, _, _, _, rfl, ?_⟩ all_nil)
     refine o_pv (.slice v8 t4.length v9) rfl (by kernel_rfl) ?_
     refine ⟨fun h => absurd h (by decide), ?_⟩
     refine r_done (by kernel_rfl) ?_
     refine then_normal (l5 _ _ _ _ ?_)
     refine wp_ret ?_
     refine blk_ret ?_
     refine then_ret ?_
     have j8 := (Sub.trans (Sub.trans j3 (Step.up k1)) (Step.up m0))
     have m1 := (Evo.then0 (Evo.then0 l9 t3) t5)
     refine end_ret hQ (.slice v8 t4.length v9) (by kernel_rfl) ?_
     exact ⟨t4, hp, m1, v8, v9, rfl, (Sl.less s4 j8)⟩
  ·
   replace hp := hp.2 r4
   refine wp_skip ?_
   refine blk_normal ?_
   refine then_normal (m7 _ _ _ _ ?_)
   refine seq_ (fun _ m2 => ?_)
   refine reg_ ?_
   refine sq (o_pv (.slice z2 l.length z1) rfl (by kernel_rfl) ?_)
   refine sq (o_pv (.pointer (some ⟨z5, 6, none⟩)) rfl (by kernel_rfl) ?_)
   refine sq (o_pv (.string o.from_) rfl (x_load1 (by kernel_rfl) Tryz.isAgg9 (y9.2.1.cell' 6 rfl)) ?_)
   have j9 := (Sl.step t7 z4)
   have k3 := (Old.step hXo z4)
   refine sq (o_call 53 #[(.slice z2 l.length z1), (.string o.from_)] rfl (x_call Tryz.call53 (by kernel_rfl)) (rectolaw5_cut_w (X := z7) (l := l) (p := o.from_) k3 j9 z3 hp) ?_)
   rintro _ c9 ⟨t6, hp, k4, u0, u1, rfl, s5⟩
   have m3 := Step.of0 z7 k4
   replace hp := hp (Sl.len s5)
   refine sq (o_pv (.slice u0 t6.length u1) rfl (by kernel_rfl) ?_)
   refine nil_ ?_
   refine then_normal (m2 _ _ _ _ ?_)
   refine wp_ret ?_
   have g0 := (Sub.trans (Sub.trans hS (Step.up z4)) (Step.up m3))
   have m4 := (Evo.then0 (Evo.then0 E0 (Step.evo z4)) k4)
   refine end_ret hQ (.slice u0 t6.length u1) (by kernel_rfl) ?_
   exact ⟨t6, hp, m4, u0, u1, rfl, (Sl.less s5 g0)⟩
end Go.Proofs.YtaolmfepdmgohaaGreatDoor
