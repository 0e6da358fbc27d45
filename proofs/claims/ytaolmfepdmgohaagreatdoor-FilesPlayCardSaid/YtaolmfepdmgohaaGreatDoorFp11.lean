/- Walks of functions: what each asks and computes, as a plain predicate, and the contract from it. -/
import Derived.Test.YtaolmfepdmgohaaGreatDoorChecked
import Derived.Test.YtaolmfepdmgohaaGreatDoorFp10
namespace Go.Proofs.YtaolmfepdmgohaaGreatDoor
open Go
def rectolaw5_FilesPlay_p (quota : Int) (l : (List S_rectolaw5_Act)) (Q : Bool → Prop) : Prop :=
 ((inR .i64 quota) → ((l.length ≤ 9223372036854775807) → (rectolaw5_known_p  (fun (y8 : Bool) => ((((!y8) = true) → Q false) ∧ (((!y8) = false) → ((((l.length : Int) > (60 : Int)) → Q true) ∧ ((¬ ((l.length : Int) > (60 : Int))) → (simfs_New_p quota (fun (y9 : S_simfs_FS) => (∃ (z4 : S_simfs_FS → Int → S_rectolaw5_Disk → Prop) (z8 : S_simfs_FS → Int → S_rectolaw5_Disk → Nat), (z4 y9 (0 : Int) (S_rectolaw5_Disk.mk ([] : List S_rectolaw5_one) ([] : List S_rectolaw5_one) ([] : List S_rectolaw5_op) quota (0 : Int) (0 : Int) false false (0 : Int) ([] : List Bool) (0 : Int))) ∧ (∀ (z2 : S_simfs_FS) (z0 : Int) (z3 : S_rectolaw5_Disk), (z4 z2 z0 z3) → (inR .i64 z0) → (((z0 < (l.length : Int)) → ((inL l z0) ∧ ((inR .i64 ((lget l z0).Op)) → ((inR .i64 ((lget l z0).Mode)) → ((inR .i64 ((lget l z0).N)) → ((((lget l z0).P_).size ≤ maxLen) → ((((lget l z0).Q_).size ≤ maxLen) → ((((lget l z0).B).length ≤ 9223372036854775807) → ((((lget l z0).Keep).length ≤ 9223372036854775807) → (∃ z1 : Bool → Prop, (∀ (z5 : Bool), z1 z5 → (((z5 = true) → Q true) ∧ ((z5 = false) → (∃ z6 : S_simfs_FS → S_rectolaw5_Disk → Prop, (∀ (z9 : S_simfs_FS) (y0 : S_rectolaw5_Disk), z6 z9 y0 → (rectolaw5_Same_p z9 y0 (fun (z7 : S_simfs_FS) (y1 : S_rectolaw5_Disk) (y2 : Bool) => ((((!y2) = true) → Q false) ∧ (((!y2) = false) → ((inR .i64 (z0 + (1 : Int))) ∧ ((z4 z7 (z0 + (1 : Int)) y1) ∧ z8 z7 (z0 + (1 : Int)) y1 < z8 z2 z0 z3))))))) ∧ (((((lget l z0).Op) = (12 : Int)) → (simfs_FS_Twin_p z2 (fun (y4 : S_simfs_FS) (y6 : S_simfs_FS) => (simfs_FS_Cut_p y4 ([] : List Bool) (fun (v0 : S_simfs_FS) => (z6 y6 z3)))))) ∧ ((¬ (((lget l z0).Op) = (12 : Int))) → (rectolaw5_both_p z2 z3 (lget l z0) (fun (y5 : S_simfs_FS) (y7 : S_rectolaw5_Disk) (y3 : Bool) => ((((!y3) = true) → Q false) ∧ (((!y3) = false) → (z6 y5 y7))))))))))) ∧ ((((((lget l z0).P_).size : Int) > (100 : Int)) → (z1 true)) ∧ ((¬ ((((lget l z0).P_).size : Int) > (100 : Int))) → ((((((lget l z0).Q_).size : Int) > (100 : Int)) → (z1 true)) ∧ ((¬ ((((lget l z0).Q_).size : Int) > (100 : Int))) → ((((((lget l z0).B).length : Int) > (300 : Int)) → (z1 true)) ∧ ((¬ ((((lget l z0).B).length : Int) > (300 : Int))) → (z1 (decide ((((lget l z0).Keep).length : Int) > (100 : Int)))))))))))))))))))) ∧ ((¬ (z0 < (l.length : Int))) → Q true))))))))))))))
set_option maxRecDepth 20000 in
set_option maxHeartbeats 4000000 in
theorem rectolaw5_FilesPlay_w {X : List Nat} {w : World} {quota : Int} {l : (List S_rectolaw5_Act)} {v4 : Option Addr} {y9 : Nat} {Q : Bool → Prop} (b4 : Old X w) (v8 : inR .i64 quota) (n1 : Sl r_rectolaw5_Act X w v4 y9 l) (hp : rectolaw5_FilesPlay_p quota l Q) :
  Calls Tryz.prog 3 #[(.int .i64 quota), (.slice v4 l.length y9)] w (Ret fun v w' => ∃ (b5 : Bool), Q b5 ∧ Evo [] w w' ∧ v = (.bool b5)) := by
 have hXo := b4
 have E0 : Evo [] w w := RB.refl _ _ _
 have hS : Sub X X := Sub.refl _
 unfold rectolaw5_FilesPlay_p at hp
 refine enter_ Tryz.func3 rfl 71 [(0, (.int .i64 quota)), (1, (.slice v4 l.length y9))] (by kernel_rfl) (fun Qe hQ => ?_)
 replace hp := hp v8
 replace hp := hp (Sl.len n1)
 refine seq_ (fun _ p9 => ?_)
 refine reg_ ?_
 refine sq (o_pv (.bool false) rfl (by kernel_rfl) ?_)
 refine nil_ ?_
 refine then_normal (p9 _ _ _ _ ?_)
 refine seq_ (fun _ Z0 => ?_)
 refine seq_ (fun _ Z1 => ?_)
 refine reg_ ?_
 refine sq (o_call 8 #[] rfl (x_call Tryz.call8 (by kernel_rfl)) (rectolaw5_known_w (X := [])  (Old.nil _) hp) ?_)
 rintro _ Y8 ⟨b6, hp, k0, rfl⟩
 have k7 := Step.of0 X k0
 refine sq (o_pv (.bool (!b6)) rfl (by kernel_rfl) ?_)
 refine nil_ ?_
 refine then_normal (Z1 _ _ _ _ ?_)
 refine cond_b (!b6) (by kernel_rfl) (fun k8 => ?_) (fun k8 => ?_)
 ·
  replace hp := hp.1 k8
  refine seq_ (fun _ b7 => ?_)
  refine reg_ ?_
  refine sq (o_pv (.bool false) rfl (by kernel_rfl) ?_)
  refine nil_ ?_
  refine then_normal (b7 _ _ _ _ ?_)
  refine wp_ret ?_
  refine then_ret ?_
  have b8 := (Evo.then0 E0 k0)
  refine end_ret hQ (.bool false) (by kernel_rfl) ?_
  exact ⟨false, hp, b8, rfl⟩
 ·
  replace hp := hp.2 k8
  refine wp_skip ?_
  refine then_normal (Z0 _ _ _ _ ?_)
  refine seq_ (fun _ b9 => ?_)
  refine seq_ (fun _ f0 => ?_)
  refine reg_ ?_
  refine sq (o_pv (.slice v4 l.length y9) rfl (by kernel_rfl) ?_)
  refine sq (o_pv (.int .i64 (l.length : Int)) rfl (by kernel_rfl) ?_)
  refine sq (o_pv (.bool (decide ((l.length : Int) > (60 : Int)))) rfl (by kernel_rfl) ?_)
  refine nil_ ?_
  refine then_normal (f0 _ _ _ _ ?_)
  refine cond_d ((l.length : Int) > (60 : Int)) (by kernel_rfl) (fun k9 => ?_) (fun k9 => ?_)
  ·
   replace hp := hp.1 k9
   refine seq_ (fun _ f1 => ?_)
   refine reg_ ?_
   refine sq (o_pv (.bool true) rfl (by kernel_rfl) ?_)
   refine nil_ ?_
   refine then_normal (f1 _ _ _ _ ?_)
   refine wp_ret ?_
   refine then_ret ?_
   have f2 := (Evo.then0 E0 k0)
   refine end_ret hQ (.bool true) (by kernel_rfl) ?_
   exact ⟨true, hp, f2, rfl⟩
  ·
   replace hp := hp.2 k9
   refine wp_skip ?_
   refine then_normal (b9 _ _ _ _ ?_)
   refine seq_ (fun _ f3 => ?_)
   refine reg_ ?_
   refine sq (o_pv (.int .i64 quota) rfl (by kernel_rfl) ?_)
   have n6 := (Sl.step n1 k7)
   have k1 := (Old.step hXo k7)
   have n2 := (Evo.then0 E0 k0)
   have n7 := (Sub.trans hS (Step.up k7))
   refine sq (o_call 9 #[(.int .i64 quota)] rfl (x_call Tryz.call9 (by kernel_rfl)) (simfs_New_w (X := X) (quota := quota) k1 v8 hp) ?_)
   rintro _ Y6 ⟨n3, hp, f4, r9, n8, k2, rfl, j0⟩
   have n4 := MO.re j0 (Wr.trans j0.wr (Wr.nil [] _) n2.size)
   refine sq (o_pv (.pointer (some ⟨r9, 0, none⟩)) rfl (by kernel_rfl) ?_)
   refine nil_ ?_
   refine then_normal (f3 _ _ _ _ ?_)
   refine seq_ (fun _ f5 => ?_)
   refine reg_ ?_
   refine sq (o_pv (.int .i64 quota) rfl (by kernel_rfl) ?_)
   refine sq (o_pv (.agg #[(.slice none 0 0), (.slice none 0 0), (.slice none 0 0), (.int .i64 quota), (.int .i64 (0 : Int)), (.int .i64 (0 : Int)), (.bool false), (.bool false), (.int .i64 (0 : Int)), (.slice none 0 0), (.int .i64 (0 : Int))]) rfl (by kernel_rfl) ?_)
   have n5 := (Evo.then0 n2 (Step.evo k2))
   refine sq (o_newX [(.slice none 0 0), (.slice none 0 0), (.slice none 0 0), (.int .i64 quota), (.int .i64 (0 : Int)), (.int .i64 (0 : Int)), (.bool false), (.bool false), (.int .i64 (0 : Int)), (.slice none 0 0), (.int .i64 (0 : Int))] 31 (X := f4) (B := w.heap.size) n5.size rfl (by kernel_rfl) ?_)
   intro u3 Y7 f6 r3 f7 f8
   have f9 := f8 _ (MO.old n4)
   refine sq (o_pv (.pointer (some ⟨u3, 0, none⟩)) rfl (by kernel_rfl) ?_)
   refine nil_ ?_
   refine then_normal (f5 _ _ _ _ ?_)
   refine seq_ (fun _ p0 => ?_)
   refine seq_ (fun _ p1 => ?_)
   refine reg_ ?_
   refine sq (o_pv (.int .i64 (0 : Int)) rfl (by kernel_rfl) ?_)
   refine nil_ ?_
   refine then_normal (p1 _ _ _ _ ?_)
   refine wp_block ?_
   have d2 := (Sl.step (Sl.step n6 k2) r3)
   have j1 := (Old.step (Old.step k1 k2) r3)
   have n9 := (Evo.then0 n5 (Step.evo r3))
   have d3 := (Sub.trans (Sub.trans n7 (Step.up k2)) (Step.up r3))
   have o0 := (MO.step0 n4 r3)
   obtain ⟨o3, j2, d4, hp⟩ := hp
   obtain ⟨o4, o5, d5⟩ := MO.pack (o_rectolaw5_Disk_mk f7 (Sl.nil) rfl (Sl.nil) rfl (Sl.nil) rfl v8 (by decide : inR .i64 (0 : Int)) (by decide : inR .i64 (0 : Int)) (by decide : inR .i64 (0 : Int)) (Sl.nil) rfl (by decide : inR .i64 (0 : Int)))
   have o6 := d5 _ (Ap.cons f9 (Ap.app (Ap.nil_r _) (Ap.app (Ap.nil_r _) (Ap.app (Ap.nil_r _) (Ap.app (Ap.nil_r _) (Ap.app (Ap.nil_r _) (Ap.app (Ap.nil_r _) (Ap.app (Ap.nil_r _) (Ap.app (Ap.nil_r _) (Ap.app (Ap.nil_r _) (Ap.app (Ap.nil_r _) (Ap.nil_r _))))))))))))
   refine loop_ 2361183241434821559216 (fun kq lq v9 => ∃ (v0 : List Nat) (y0 : S_simfs_FS) (z0 : Int) (y1 : S_rectolaw5_Disk) (z5 : Nat) (u0 : List Nat) (v1 : List Nat), (lq = [(5, (.pointer (some ⟨z5, 0, none⟩))), (7, (.int .i64 z0))]) ∧ (kq = j2 y0 z0 y1) ∧ (Evo [] w v9) ∧ (Old v0 v9) ∧ (Sub X v0) ∧ (Sl r_rectolaw5_Act v0 v9 v4 y9 l) ∧ (MO o_simfs_FS 78 ([]) w.heap.size v0 v9 u0 z5 y0) ∧ (MO o_rectolaw5_Disk 31 ([]) w.heap.size v0 v9 v1 u3 y1) ∧ (Ap (u0) (v1)) ∧ (inR .i64 z0) ∧ (o3 y0 z0 y1)) (j2 n3 (0 : Int) (S_rectolaw5_Disk.mk ([] : List S_rectolaw5_one) ([] : List S_rectolaw5_one) ([] : List S_rectolaw5_op) quota (0 : Int) (0 : Int) false false (0 : Int) ([] : List Bool) (0 : Int))) [(5, (.pointer (some ⟨r9, 0, none⟩))), (7, (.int .i64 (0 : Int)))] (vs_cons (by kernel_rfl) (vs_cons (by kernel_rfl) vs_nil)) ⟨f6, n3, (0 : Int), (S_rectolaw5_Disk.mk ([] : List S_rectolaw5_one) ([] : List S_rectolaw5_one) ([] : List S_rectolaw5_op) quota (0 : Int) (0 : Int) false false (0 : Int) ([] : List Bool) (0 : Int)), r9, n8, o4, rfl, rfl, n9, j1, d3, d2, o0, o5, o6, (by decide : inR .i64 (0 : Int)), d4⟩ ?_
   rintro _ _ v9 Z2 ⟨v0, y0, z0, y1, z5, u0, v1, rfl, rfl, q0, j3, d6, k3, j4, j5, s3, d7, d8⟩ p2 d9
   replace hp := hp y0 z0 y1 d8 d7
   refine seq_ (fun _ o7 => ?_)
   refine seq_ (fun _ o8 => ?_)
   refine reg_ ?_
   refine sq (o_pv (.int .i64 z0) rfl (by kernel_rfl) ?_)
   refine sq (o_pv (.slice v4 l.length y9) rfl (by kernel_rfl) ?_)
   refine sq (o_pv (.int .i64 (l.length : Int)) rfl (by kernel_rfl) ?_)
   refine sq (o_pv (.bool (decide (z0 < (l.length : Int)))) rfl (by kernel_rfl) ?_)
   refine nil_ ?_
   refine then_normal (o8 _ _ _ _ ?_)
   refine cond_d (z0 < (l.length : Int)) (by kernel_rfl) (fun q1 => ?_) (fun q1 => ?_)
   ·
    replace hp := hp.1 q1
    refine wp_skip ?_
    refine then_normal (o7 _ _ _ _ ?_)
    refine seq_ (fun _ o9 => ?_)
    refine wp_block ?_
    refine seq_ (fun _ c0 => ?_)
    refine reg_ ?_
    refine sq (o_pv (.slice v4 l.length y9) rfl (by kernel_rfl) ?_)
    refine sq (o_pv (.int .i64 z0) rfl (by kernel_rfl) ?_)
    obtain ⟨j6, hp⟩ := hp
    obtain ⟨c1, c2, p3, l0, p4, p5, l1, l2⟩ := Sl.atI k3 z0 j6
    obtain ⟨z3, z4, z1, z2, rfl, s0, u4, r4, s1, s2, r5, u5⟩ := r_rectolaw5_Act_open l1
    replace hp := hp s0
    replace hp := hp u4
    replace hp := hp r4
    replace hp := hp s1
    replace hp := hp s2
    replace hp := hp (Sl.len r5)
    replace hp := hp (Sl.len u5)
    refine sq (o_pv (.pointer (some ⟨c1, c2 + z0.toNat * 7, none⟩)) rfl (x_ixA (m := l.length) (c := y9) (k := .i64) (i := z0) Tryz.underlying22 Tryz.sizeOf34 (by rw [← l0]; kernel_rfl) (by kernel_rfl) j6) ?_)
    refine sq (o_pv (.agg #[(.int .i64 ((lget l z0).Op)), (.int .i64 ((lget l z0).Mode)), (.int .i64 ((lget l z0).N)), (.string ((lget l z0).P_)), (.string ((lget l z0).Q_)), (.slice z3 (((lget l z0).B).length) z4), (.slice z1 (((lget l z0).Keep).length) z2)]) rfl (x_loadN [(.int .i64 ((lget l z0).Op)), (.int .i64 ((lget l z0).Mode)), (.int .i64 ((lget l z0).N)), (.string ((lget l z0).P_)), (.string ((lget l z0).Q_)), (.slice z3 (((lget l z0).B).length) z4), (.slice z1 (((lget l z0).Keep).length) z2)] (by kernel_rfl) Tryz.isAgg34 Tryz.sizeOf34 l2) ?_)
    refine sq (o_newX [(.int .i64 (0 : Int)), (.int .i64 (0 : Int)), (.int .i64 (0 : Int)), (.string (ByteArray.mk #[])), (.string (ByteArray.mk #[])), (.slice none 0 0), (.slice none 0 0)] 34 (X := v0) (B := w.heap.size) q0.size rfl (by kernel_rfl) ?_)
    intro y2 Z3 s4 y3 j7 j8
    have t0 := j8 _ (MO.old j4)
    have t1 := j8 _ (MO.old j5)
    have c3 := (MO.step0 j4 y3)
    have c4 := (MO.step0 j5 y3)
    have c5 := (Evo.then0 q0 (Step.evo y3))
    refine sq (o_stB (o := 0) (v := (.agg #[(.int .i64 ((lget l z0).Op)), (.int .i64 ((lget l z0).Mode)), (.int .i64 ((lget l z0).N)), (.string ((lget l z0).P_)), (.string ((lget l z0).Q_)), (.slice z3 (((lget l z0).B).length) z4), (.slice z1 (((lget l z0).Keep).length) z2)])) [(.int .i64 ((lget l z0).Op)), (.int .i64 ((lget l z0).Mode)), (.int .i64 ((lget l z0).N)), (.string ((lget l z0).P_)), (.string ((lget l z0).Q_)), (.slice z3 (((lget l z0).B).length) z4), (.slice z1 (((lget l z0).Keep).length) z2)] rfl j7 (by kernel_rfl) (by kernel_rfl) Tryz.sizeOf34 rfl rfl rfl ?_)
    intro Z4 y4 y5
    refine nil_ ?_
    refine then_normal (c0 _ _ _ _ ?_)
    refine seq_ (fun _ c6 => ?_)
    refine seq_ (fun _ c7 => ?_)
    have s5 := (Evo.thenW c5 (Step.evo y4) j7.2.2)
    have v5 := (Old.step (Old.step j3 y3) y4)
    have u6 := (Sub.trans (Sub.trans d6 (Step.up y3)) (Step.up y4))
    have u7 := (Sl.step (Sl.step k3 y3) y4)
    have s6 := (MO.step c3 y4 t0)
    have s7 := (MO.step c4 y4 t1)
    have v6 := (Sl.step (Sl.step r5 y3) y4)
    have z7 := (Sl.step (Sl.step u5 y3) y4)
    obtain ⟨c8, l3, hp⟩ := hp
    refine ground_ ?_
    refine join_ 4503598553628672 (fun lq z8 => ∃ (z6 : List Nat) (t2 : Bool), (lq = [(51, (.bool t2))]) ∧ (Evo [] w z8) ∧ (Old z6 z8) ∧ (Sub X z6) ∧ (Sl r_rectolaw5_Act z6 z8 v4 y9 l) ∧ (MO o_simfs_FS 78 ([]) w.heap.size z6 z8 u0 z5 y0) ∧ (MO o_rectolaw5_Disk 31 ([]) w.heap.size z6 z8 v1 u3 y1) ∧ (Sl (rInt .u8) z6 z8 z3 z4 ((lget l z0).B)) ∧ (Sl rBool z6 z8 z1 z2 ((lget l z0).Keep)) ∧ (OB ([]) w.heap.size z6 z8 y2 [(.int .i64 ((lget l z0).Op)), (.int .i64 ((lget l z0).Mode)), (.int .i64 ((lget l z0).N)), (.string ((lget l z0).P_)), (.string ((lget l z0).Q_)), (.slice z3 (((lget l z0).B).length) z4), (.slice z1 (((lget l z0).Keep).length) z2)] 34) ∧ (Ap (u0) (v1)) ∧ (Ap (u0) ([y2])) ∧ (Ap (v1) ([y2])) ∧ (c8 t2)) (fun p6 u9 => ?_) ?_
    ·
     refine reg_ ?_
     refine sq (o_pv (.pointer (some ⟨y2, 3, none⟩)) rfl (by kernel_rfl) ?_)
     refine sq (o_pv (.string ((lget l z0).P_)) rfl (x_load1 (by kernel_rfl) Tryz.isAgg9 (y5.2.1.cell' 3 rfl)) ?_)
     refine sq (o_pv (.int .i64 (((lget l z0).P_).size : Int)) rfl (by kernel_rfl) ?_)
     by_cases s8 : (((lget l z0).P_).size : Int) > (100 : Int)
     ·
      replace hp := hp.1 s8
      refine sq (o_pv (.bool true) rfl (x_dt (p := (((lget l z0).P_).size : Int) > (100 : Int)) (by kernel_rfl) s8) ?_)
      refine sq (o_pv (.bool true) rfl (by kernel_rfl) ?_)
      refine sq (o_not (by kernel_rfl) ?_)
      refine sq (o_not (by kernel_rfl) ?_)
      refine sq (o_not (by kernel_rfl) ?_)
      refine sq (o_not (by kernel_rfl) ?_)
      refine sq (o_pv (.bool true) rfl (by kernel_rfl) ?_)
      refine sq (o_pv (.bool true) rfl (by kernel_rfl) ?_)
      refine sq (o_not (by kernel_rfl) ?_)
      refine sq (o_not (by kernel_rfl) ?_)
      refine sq (o_not (by kernel_rfl) ?_)
      refine sq (o_not (by kernel_rfl) ?_)
      refine sq (o_pv (.bool true) rfl (by kernel_rfl) ?_)
      refine sq (o_pv (.bool true) rfl (by kernel_rfl) ?_)
      refine sq (o_not (by kernel_rfl) ?_)
      refine sq (o_not (by kernel_rfl) ?_)
      refine sq (o_not (by kernel_rfl) ?_)
      refine sq (o_not (by kernel_rfl) ?_)
      refine sq (o_pv (.bool true) rfl (by kernel_rfl) ?_)
      refine nil_ ?_
      refine then_normal (u9 _ _ _ ⟨[(51, (.bool true))], fit_mk (fun _ _ => rfl) (by kernel_rfl) (vs_cons (by kernel_rfl) vs_nil), ?_⟩)
      exact ⟨s4, true, rfl, s5, v5, u6, u7, s6, s7, v6, z7, y5, s3, t0, t1, hp⟩
     ·
      replace hp := hp.2 s8
      refine sq (o_pv (.bool false) rfl (x_df (p := (((lget l z0).P_).size : Int) > (100 : Int)) (by kernel_rfl) s8) ?_)
      refine sq (o_pv (.bool false) rfl (by kernel_rfl) ?_)
      refine sq (o_pv (.pointer (some ⟨y2, 4, none⟩)) (by kernel_rfl) (by kernel_rfl) ?_)
      refine sq (o_pv (.string ((lget l z0).Q_)) (by kernel_rfl) (x_load1 (by kernel_rfl) Tryz.isAgg9 (y5.2.1.cell' 4 rfl)) ?_)
      refine sq (o_pv (.int .i64 (((lget l z0).Q_).size : Int)) (by kernel_rfl) (by kernel_rfl) ?_)
      by_cases s9 : (((lget l z0).Q_).size : Int) > (100 : Int)
      ·
       replace hp := hp.1 s9
       refine sq (o_pv (.bool true) (by kernel_rfl) (x_dt (p := (((lget l z0).Q_).size : Int) > (100 : Int)) (by kernel_rfl) s9) ?_)
       refine sq (o_pv (.bool true) rfl (by kernel_rfl) ?_)
       refine sq (o_pv (.bool true) rfl (by kernel_rfl) ?_)
       refine sq (o_not (by kernel_rfl) ?_)
       refine sq (o_not (by kernel_rfl) ?_)
       refine sq (o_not (by kernel_rfl) ?_)
       refine sq (o_not (by kernel_rfl) ?_)
       refine sq (o_pv (.bool true) rfl (by kernel_rfl) ?_)
       refine sq (o_pv (.bool true) rfl (by kernel_rfl) ?_)
       refine sq (o_not (by kernel_rfl) ?_)
       refine sq (o_not (by kernel_rfl) ?_)
       refine sq (o_not (by kernel_rfl) ?_)
       refine sq (o_not (by kernel_rfl) ?_)
       refine sq (o_pv (.bool true) rfl (by kernel_rfl) ?_)
       refine nil_ ?_
       refine then_normal (u9 _ _ _ ⟨[(51, (.bool true))], fit_mk (fun _ _ => rfl) (by kernel_rfl) (vs_cons (by kernel_rfl) vs_nil), ?_⟩)
       exact ⟨s4, true, rfl, s5, v5, u6, u7, s6, s7, v6, z7, y5, s3, t0, t1, hp⟩
      ·
       replace hp := hp.2 s9
       refine sq (o_pv (.bool false) (by kernel_rfl) (x_df (p := (((lget l z0).Q_).size : Int) > (100 : Int)) (by kernel_rfl) s9) ?_)
       refine sq (o_pv (.bool false) rfl (by kernel_rfl) ?_)
       refine sq (o_pv (.bool false) rfl (by kernel_rfl) ?_)
       refine sq (o_pv (.pointer (some ⟨y2, 5, none⟩)) (by kernel_rfl) (by kernel_rfl) ?_)
       refine sq (o_pv (.slice z3 (((lget l z0).B).length) z4) (by kernel_rfl) (x_load1 (by kernel_rfl) Tryz.isAgg32 (y5.2.1.cell' 5 rfl)) ?_)
       refine sq (o_pv (.int .i64 (((lget l z0).B).length : Int)) (by kernel_rfl) (by kernel_rfl) ?_)
       by_cases r0 : (((lget l z0).B).length : Int) > (300 : Int)
       ·
        replace hp := hp.1 r0
        refine sq (o_pv (.bool true) (by kernel_rfl) (x_dt (p := (((lget l z0).B).length : Int) > (300 : Int)) (by kernel_rfl) r0) ?_)
        refine sq (o_pv (.bool true) rfl (by kernel_rfl) ?_)
        refine sq (o_pv (.bool true) rfl (by kernel_rfl) ?_)
        refine sq (o_not (by kernel_rfl) ?_)
        refine sq (o_not (by kernel_rfl) ?_)
        refine sq (o_not (by kernel_rfl) ?_)
        refine sq (o_not (by kernel_rfl) ?_)
        refine sq (o_pv (.bool true) rfl (by kernel_rfl) ?_)
        refine nil_ ?_
        refine then_normal (u9 _ _ _ ⟨[(51, (.bool true))], fit_mk (fun _ _ => rfl) (by kernel_rfl) (vs_cons (by kernel_rfl) vs_nil), ?_⟩)
        exact ⟨s4, true, rfl, s5, v5, u6, u7, s6, s7, v6, z7, y5, s3, t0, t1, hp⟩
       ·
        replace hp := hp.2 r0
        refine sq (o_pv (.bool false) (by kernel_rfl) (x_df (p := (((lget l z0).B).length : Int) > (300 : Int)) (by kernel_rfl) r0) ?_)
        refine sq (o_pv (.bool false) rfl (by kernel_rfl) ?_)
        refine sq (o_pv (.bool false) rfl (by kernel_rfl) ?_)
        refine sq (o_pv (.pointer (some ⟨y2, 6, none⟩)) (by kernel_rfl) (by kernel_rfl) ?_)
        refine sq (o_pv (.slice z1 (((lget l z0).Keep).length) z2) (by kernel_rfl) (x_load1 (by kernel_rfl) Tryz.isAgg29 (y5.2.1.cell' 6 rfl)) ?_)
        refine sq (o_pv (.int .i64 (((lget l z0).Keep).length : Int)) (by kernel_rfl) (by kernel_rfl) ?_)
        refine sq (o_pv (.bool (decide ((((lget l z0).Keep).length : Int) > (100 : Int)))) (by kernel_rfl) (by kernel_rfl) ?_)
        refine sq (o_pv (.bool (decide ((((lget l z0).Keep).length : Int) > (100 : Int)))) rfl (by kernel_rfl) ?_)
        refine nil_ ?_
        refine then_normal (u9 _ _ _ ⟨[(51, (.bool (decide ((((lget l z0).Keep).length : Int) > (100 : Int)))))], fit_mk (fun _ _ => rfl) (by kernel_rfl) (vs_cons (by kernel_rfl) vs_nil), ?_⟩)
        exact ⟨s4, (decide ((((lget l z0).Keep).length : Int) > (100 : Int))), rfl, s5, v5, u6, u7, s6, s7, v6, z7, y5, s3, t0, t1, hp⟩
    ·
     rintro _ z8 Z5 ⟨z6, t2, rfl, y6, v7, k4, k5, y7, y8, j9, r6, g0, q2, Z6, Z7, l4⟩
     replace hp := l3 t2 l4
     refine then_normal (c7 _ _ _ _ ?_)
     refine cond_b t2 (by kernel_rfl) (fun q3 => ?_) (fun q3 => ?_)
     ·
      replace hp := hp.1 q3
      refine seq_ (fun _ c9 => ?_)
      refine reg_ ?_
      refine sq (o_pv (.bool true) rfl (by kernel_rfl) ?_)
      refine nil_ ?_
      refine then_normal (c9 _ _ _ _ ?_)
      refine wp_ret ?_
      refine then_ret ?_
      refine blk_ret ?_
      refine then_ret ?_
      refine then_ret ?_
      refine blk_ret ?_
      refine then_ret ?_
      refine end_ret hQ (.bool true) (by kernel_rfl) ?_
      exact ⟨true, hp, y6, rfl⟩
     ·
      replace hp := hp.2 q3
      refine wp_skip ?_
      refine then_normal (c6 _ _ _ _ ?_)
      refine seq_ (fun _ a0 => ?_)
      refine seq_ (fun _ a1 => ?_)
      refine reg_ ?_
      refine sq (o_pv (.pointer (some ⟨y2, 0, none⟩)) rfl (by kernel_rfl) ?_)
      refine sq (o_pv (.int .i64 ((lget l z0).Op)) rfl (x_load1 (by kernel_rfl) Tryz.isAgg3 (g0.2.1.cell' 0 rfl)) ?_)
      refine sq (o_pv (.bool (decide (((lget l z0).Op) = (12 : Int)))) rfl (by kernel_rfl) ?_)
      refine nil_ ?_
      refine then_normal (a1 _ _ _ _ ?_)
      obtain ⟨a2, l5, hp⟩ := hp
      refine ground_ ?_
      refine join_ 147537923792657449520 (fun lq u1 => ∃ (v2 : List Nat) (t3 : S_simfs_FS) (t4 : S_rectolaw5_Disk) (v3 : Nat) (q4 : List Nat) (q5 : List Nat), (lq = [(5, (.pointer (some ⟨v3, 0, none⟩)))]) ∧ (Evo [] w u1) ∧ (Old v2 u1) ∧ (Sub X v2) ∧ (Sl r_rectolaw5_Act v2 u1 v4 y9 l) ∧ (MO o_simfs_FS 78 ([]) w.heap.size v2 u1 q4 v3 t3) ∧ (MO o_rectolaw5_Disk 31 ([]) w.heap.size v2 u1 q5 u3 t4) ∧ (Ap (q4) (q5)) ∧ (a2 t3 t4)) (fun p7 k6 => ?_) ?_
      ·
       refine cond_d (((lget l z0).Op) = (12 : Int)) (by kernel_rfl) (fun q6 => ?_) (fun q6 => ?_)
       ·
        replace hp := hp.1 q6
        refine seq_ (fun _ a3 => ?_)
        refine reg_ ?_
        refine sq (o_pv (.pointer (some ⟨z5, 0, none⟩)) rfl (by kernel_rfl) ?_)
        refine sq (o_call 10 #[(.pointer (some ⟨z5, 0, none⟩))] rfl (x_call Tryz.call10 (by kernel_rfl)) (simfs_FS_Twin_w (X := z6) (f_ := y0) v7 (MO.re y7 (Wr.self _ _ (Sub.refl _))) hp) ?_)
        rintro _ Z8 ⟨l6, a4, hp, a5, Z9, z9, l7, t5, rfl, q7, r1, a6⟩
        have g1 := MO.re q7 (Wr.trans q7.wr y7.wr y6.size)
        have a7 := Ap.grow q7.wr (Ap.symm q2) (MO.old y8) (Nat.le_refl _)
        have a8 := MO.re r1 (Wr.trans r1.wr (Wr.nil [] _) y6.size)
        have a9 := Ap.grow r1.wr (Ap.nil_r _) (MO.old y8) (Nat.le_refl _)
        refine sq (o_pv (.pointer (some ⟨z9, 0, none⟩)) rfl (by kernel_rfl) ?_)
        refine nil_ ?_
        refine then_normal (a3 _ _ _ _ ?_)
        refine seq_ (fun _ e0 => ?_)
        refine seq_ (fun _ e1 => ?_)
        refine reg_ ?_
        refine sq (o_pv (.pointer (some ⟨z9, 0, none⟩)) rfl (by kernel_rfl) ?_)
        refine sq (o_pv (.bool false) rfl (x_pnil_eq (a := ⟨z9, 0, none⟩) Tryz.underlying24 (by kernel_rfl) (by kernel_rfl)) ?_)
        refine nil_ ?_
        refine then_normal (e1 _ _ _ _ ?_)
        refine cond_f (by kernel_rfl) ?_
        refine wp_skip ?_
        refine then_normal (e0 _ _ _ _ ?_)
        refine seq_ (fun _ e2 => ?_)
        refine reg_ ?_
        refine sq (o_pv (.pointer (some ⟨z5, 0, none⟩)) rfl (by kernel_rfl) ?_)
        have e3 := (Evo.thenW y6 (Step.evo t5) y7.wr)
        have r7 := (Old.step v7 t5)
        have l8 := (Sub.trans k4 (Step.up t5))
        have l9 := (Sl.step k5 t5)
        have e4 := (MO.step y8 t5 (Ap.symm q2))
        refine sq (o_call 11 #[(.pointer (some ⟨z5, 0, none⟩)), (.slice none (([] : List Bool)).length 0)] rfl (x_call Tryz.call11 (by rw []; kernel_rfl)) (simfs_FS_Cut_w (X := a5) (f_ := l6) (keep := ([] : List Bool)) r7 (MO.re g1 (Wr.self _ _ (Sub.refl _))) Sl.nil hp) ?_)
        rintro _ Y0 ⟨p8, hp, e5, Y1, u2, rfl, Y2⟩
        refine nil_ ?_
        refine then_normal (e2 _ _ _ _ ?_)
        refine reg_ ?_
        refine sq (o_pv (.pointer (some ⟨z9, 0, none⟩)) rfl (by kernel_rfl) ?_)
        refine sq (o_pv (.pointer (some ⟨z9, 0, none⟩)) rfl (by kernel_rfl) ?_)
        refine nil_ ?_
        have e6 := (Evo.thenW e3 (Step.evo u2) g1.wr)
        have g2 := (Old.step r7 u2)
        have m0 := (Sub.trans l8 (Step.up u2))
        have m1 := (Sl.step l9 u2)
        have e7 := (MO.step a8 u2 (Ap.symm a6))
        have e8 := (MO.step e4 u2 a7)
        refine then_normal (k6 _ _ _ ⟨[(5, (.pointer (some ⟨z9, 0, none⟩)))], fit_mk (fun _ _ => rfl) (by kernel_rfl) (vs_cons (by kernel_rfl) vs_nil), ?_⟩)
        exact ⟨e5, a4, y1, z9, l7, v1, rfl, e6, g2, m0, m1, e7, e8, (Ap.symm a9), hp⟩
       ·
        replace hp := hp.2 q6
        refine seq_ (fun _ e9 => ?_)
        refine reg_ ?_
        refine sq (o_pv (.pointer (some ⟨z5, 0, none⟩)) rfl (by kernel_rfl) ?_)
        refine sq (o_pv (.pointer (some ⟨u3, 0, none⟩)) rfl (by kernel_rfl) ?_)
        refine sq (o_pv (.agg #[(.int .i64 ((lget l z0).Op)), (.int .i64 ((lget l z0).Mode)), (.int .i64 ((lget l z0).N)), (.string ((lget l z0).P_)), (.string ((lget l z0).Q_)), (.slice z3 (((lget l z0).B).length) z4), (.slice z1 (((lget l z0).Keep).length) z2)]) rfl (x_loadN [(.int .i64 ((lget l z0).Op)), (.int .i64 ((lget l z0).Mode)), (.int .i64 ((lget l z0).N)), (.string ((lget l z0).P_)), (.string ((lget l z0).Q_)), (.slice z3 (((lget l z0).B).length) z4), (.slice z1 (((lget l z0).Keep).length) z2)] (by kernel_rfl) Tryz.isAgg34 Tryz.sizeOf34 (g0.2.1.cells' 0 rfl)) ?_)
        refine sq (o_call 12 #[(.pointer (some ⟨z5, 0, none⟩)), (.pointer (some ⟨u3, 0, none⟩)), (.agg #[(.int .i64 ((lget l z0).Op)), (.int .i64 ((lget l z0).Mode)), (.int .i64 ((lget l z0).N)), (.string ((lget l z0).P_)), (.string ((lget l z0).Q_)), (.slice z3 ((lget l z0).B).length z4), (.slice z1 ((lget l z0).Keep).length z2)])] rfl (x_call Tryz.call12 (by rw []; kernel_rfl)) (rectolaw5_both_w (X := z6) (f_ := y0) (d := y1) (a := (lget l z0)) v7 (MO.re y7 (Wr.self _ _ (Sub.inl _ _))) (MO.re y8 (Wr.self _ _ (Sub.inr _ _))) s0 u4 r4 s1 s2 j9 r6 q2 hp) ?_)
        rintro _ Y3 ⟨m2, i0, g3, hp, i1, i2, i3, t6, rfl, g4, g5, i4⟩
        have i5 := MO.re g4 (Wr.trans g4.wr (Wr.app y7.wr y8.wr) y6.size)
        have i6 := MO.re g5 (Wr.trans g5.wr (Wr.app y7.wr y8.wr) y6.size)
        refine sq (o_pv (.bool (!g3)) rfl (by kernel_rfl) ?_)
        refine nil_ ?_
        refine then_normal (e9 _ _ _ _ ?_)
        refine cond_b (!g3) (by kernel_rfl) (fun q8 => ?_) (fun q8 => ?_)
        ·
         replace hp := hp.1 q8
         refine seq_ (fun _ i7 => ?_)
         refine reg_ ?_
         refine sq (o_pv (.bool false) rfl (by kernel_rfl) ?_)
         refine nil_ ?_
         refine then_normal (i7 _ _ _ _ ?_)
         refine wp_ret ?_
         refine then_ret ?_
         refine then_ret ?_
         refine blk_ret ?_
         refine then_ret ?_
         refine then_ret ?_
         refine blk_ret ?_
         refine then_ret ?_
         have i9 := (Evo.thenW y6 (Step.evo t6) (Wr.app y7.wr y8.wr))
         refine end_ret hQ (.bool false) (by kernel_rfl) ?_
         exact ⟨false, hp, i9, rfl⟩
        ·
         replace hp := hp.2 q8
         refine wp_skip ?_
         have h0 := (Evo.thenW y6 (Step.evo t6) (Wr.app y7.wr y8.wr))
         have g6 := (Old.step v7 t6)
         have m3 := (Sub.trans k4 (Step.up t6))
         have m4 := (Sl.step k5 t6)
         refine then_normal (k6 _ _ _ ⟨[(5, (.pointer (some ⟨z5, 0, none⟩)))], fit_mk (fun _ _ => rfl) (by kernel_rfl) (vs_cons (by kernel_rfl) vs_nil), ?_⟩)
         exact ⟨i1, m2, i0, z5, i2, i3, rfl, h0, g6, m3, m4, i5, i6, i4, hp⟩
      ·
       rintro _ u1 Y4 ⟨v2, t3, t4, v3, q4, q5, rfl, r2, r8, m5, m6, t7, t8, h1, m7⟩
       replace hp := l5 t3 t4 m7
       refine then_normal (a0 _ _ _ _ ?_)
       refine seq_ (fun _ h2 => ?_)
       refine reg_ ?_
       refine sq (o_pv (.pointer (some ⟨v3, 0, none⟩)) rfl (by kernel_rfl) ?_)
       refine sq (o_pv (.pointer (some ⟨u3, 0, none⟩)) rfl (by kernel_rfl) ?_)
       refine sq (o_call 13 #[(.pointer (some ⟨v3, 0, none⟩)), (.pointer (some ⟨u3, 0, none⟩))] rfl (x_call Tryz.call13 (by kernel_rfl)) (rectolaw5_Same_w (X := v2) (f_ := t3) (d := t4) r8 (MO.re t7 (Wr.self _ _ (Sub.inl _ _))) (MO.re t8 (Wr.self _ _ (Sub.inr _ _))) h1 hp) ?_)
       rintro _ Y5 ⟨m8, h3, g7, hp, h4, h5, h6, t9, rfl, g8, g9, h7⟩
       have h8 := MO.re g8 (Wr.trans g8.wr (Wr.app t7.wr t8.wr) r2.size)
       have h9 := MO.re g9 (Wr.trans g9.wr (Wr.app t7.wr t8.wr) r2.size)
       refine sq (o_pv (.bool (!g7)) rfl (by kernel_rfl) ?_)
       refine nil_ ?_
       refine then_normal (h2 _ _ _ _ ?_)
       refine cond_b (!g7) (by kernel_rfl) (fun q9 => ?_) (fun q9 => ?_)
       ·
        replace hp := hp.1 q9
        refine seq_ (fun _ b0 => ?_)
        refine reg_ ?_
        refine sq (o_pv (.bool false) rfl (by kernel_rfl) ?_)
        refine nil_ ?_
        refine then_normal (b0 _ _ _ _ ?_)
        refine wp_ret ?_
        refine blk_ret ?_
        refine then_ret ?_
        refine then_ret ?_
        refine blk_ret ?_
        refine then_ret ?_
        have b1 := (Evo.thenW r2 (Step.evo t9) (Wr.app t7.wr t8.wr))
        refine end_ret hQ (.bool false) (by kernel_rfl) ?_
        exact ⟨false, hp, b1, rfl⟩
       ·
        replace hp := hp.2 q9
        refine wp_skip ?_
        refine blk_normal ?_
        refine then_normal (o9 _ _ _ _ ?_)
        refine reg_ ?_
        refine sq (o_pv (.int .i64 z0) rfl (by kernel_rfl) ?_)
        obtain ⟨d0, hp⟩ := hp
        refine sq (o_pv (.int .i64 (z0 + (1 : Int))) rfl (x_add2 (k := .i64) (a := z0) (b := (1 : Int)) (z0 + (1 : Int)) (by kernel_rfl) (by kernel_rfl) (wrap_inR d0)) ?_)
        refine sq (o_pv (.int .i64 (z0 + (1 : Int))) rfl (by kernel_rfl) ?_)
        refine nil_ ?_
        have b2 := (Evo.thenW r2 (Step.evo t9) (Wr.app t7.wr t8.wr))
        have d1 := (Old.step r8 t9)
        have m9 := (Sub.trans m5 (Step.up t9))
        have n0 := (Sl.step m6 t9)
        refine then_normal (d9 _ _ _ ⟨_, [(5, (.pointer (some ⟨v3, 0, none⟩))), (7, (.int .i64 (z0 + (1 : Int))))], hp.2, fit_mk (AgB.nest (AgB.look (AgB.nest (AgB.look (AgB.mix _ _ _) (by kernel_rfl)) (by kernel_rfl) (by kernel_rfl)) (by kernel_rfl)) (by kernel_rfl) (by kernel_rfl)) (by kernel_rfl) (vs_cons (by kernel_rfl) (vs_cons (by kernel_rfl) vs_nil)), ?_⟩)
        exact ⟨h4, m8, (z0 + (1 : Int)), h3, v3, h5, h6, rfl, rfl, b2, d1, m9, n0, h8, h9, h7, d0, hp.1⟩
   ·
    replace hp := hp.2 q1
    refine wp_exit ?_
    refine then_exit ?_
    refine then_exit ?_
    refine blk_exit ?_
    refine then_normal (p0 _ _ _ _ ?_)
    refine seq_ (fun _ b3 => ?_)
    refine reg_ ?_
    refine sq (o_pv (.bool true) rfl (by kernel_rfl) ?_)
    refine nil_ ?_
    refine then_normal (b3 _ _ _ _ ?_)
    refine wp_ret ?_
    refine end_ret hQ (.bool true) (by kernel_rfl) ?_
    exact ⟨true, hp, q0, rfl⟩
end Go.Proofs.YtaolmfepdmgohaaGreatDoor
