/- Walks of functions: what each asks and computes, as a plain predicate, and the contract from it. -/
import Derived.Test.YtaolmfepdmgohaaGreatDoorChecked
import Derived.Test.YtaolmfepdmgohaaGreatDoorFp1
namespace Go.Proofs.YtaolmfepdmgohaaGreatDoor
open Go
theorem elT29 : ElemT Tryz.prog 29 4 1 1 := elemT_mk (i := Tryz.t4) (z := (.bool false)) (by kernel_rfl) (by kernel_rfl) (by kernel_rfl) (by kernel_rfl) Tryz.underlying29 Tryz.sizeOf4 (by decide) (by decide)
theorem elT32 : ElemT Tryz.prog 32 5 1 1 := elemT_mk (i := Tryz.t5) (z := (.int .u8 0)) (by kernel_rfl) (by kernel_rfl) (by kernel_rfl) (by kernel_rfl) Tryz.underlying32 Tryz.sizeOf5 (by decide) (by decide)
def simfs_FS_may_p (f_ : S_simfs_FS) (p : ByteArray) (mode : Int) (b : (List Int)) (Q : S_simfs_FS → Int → Prop) : Prop :=
 ((p.size ≤ maxLen) → ((inR .i64 mode) → ((b.length ≤ 9223372036854775807) → ((f_.pending.length ≤ 9223372036854775807) → ((inR .i64 f_.quota) → ((inR .i64 f_.now) → ((inR .i64 f_.inodes) → ((inR .i64 f_.ops_) → ((inR .i64 f_.left) → ((f_.keep.length ≤ 9223372036854775807) → (((f_.off = true) → Q f_ (13 : Int)) ∧ ((f_.off = false) → (path_Check_p p (fun (z0 : Int) => ((inR .i64 z0) → (((¬ (z0 = (0 : Int))) → Q f_ z0) ∧ ((z0 = (0 : Int)) → ((((b.length : Int) > (65536 : Int)) → Q f_ (4 : Int)) ∧ ((¬ ((b.length : Int) > (65536 : Int))) → ((((¬ (mode = (1 : Int))) ∧ (¬ (mode = (2 : Int)))) → Q f_ (1 : Int)) ∧ ((¬ ((¬ (mode = (1 : Int))) ∧ (¬ (mode = (2 : Int))))) → (simfs_clash_p f_.files p (ByteArray.mk #[]) (fun (z2 : Bool) => (((z2 = true) → Q f_ (11 : Int)) ∧ ((z2 = false) → (simfs_FS_room_p f_ p (b.length : Int) (fun (z1 : S_simfs_FS) (z3 : Bool) => ((((!z3) = true) → Q z1 (14 : Int)) ∧ (((!z3) = false) → Q z1 (0 : Int))))))))))))))))))))))))))))))
set_option maxRecDepth 20000 in
set_option maxHeartbeats 4000000 in
theorem simfs_FS_may_w {X : List Nat} {w : World} {f_ : S_simfs_FS} {p : ByteArray} {mode : Int} {b : (List Int)} {y0 : Nat} {y3 : List Nat} {u0 : Option Addr} {u1 : Nat} {Q : S_simfs_FS → Int → Prop} (g7 : Old X w) (s6 : MO o_simfs_FS 78 y3 w.heap.size X w y3 y0 f_) (s1 : p.size ≤ maxLen) (s7 : inR .i64 mode) (q9 : Sl (rInt .u8) X w u0 u1 b) (hp : simfs_FS_may_p f_ p mode b Q) :
  Calls Tryz.prog 68 #[(.pointer (some ⟨y0, 0, none⟩)), (.string p), (.int .i64 mode), (.slice u0 b.length u1)] w (Ret fun v w' => ∃ (g8 : S_simfs_FS) (k1 : Int), Q g8 k1 ∧ ∃ (X' : List Nat) (g9 : List Nat), Step X w y3 X' w' ∧ v = (.int .i64 k1) ∧ MO o_simfs_FS 78 y3 w.heap.size X' w' g9 y0 g8 ∧ inR .i64 k1) := by
 have hXo := g7
 have E0 : Evo y3 w w := RB.refl _ _ _
 have hS : Sub X X := Sub.refl _
 have hN : News X w X w := News.refl _ _
 have y7 : Sub y3 X := MO.mem s6
 unfold simfs_FS_may_p at hp
 refine enter_ Tryz.func68 rfl 44 [(0, (.pointer (some ⟨y0, 0, none⟩))), (1, (.string p)), (2, (.int .i64 mode)), (3, (.slice u0 b.length u1))] (by kernel_rfl) (fun Qe hQ => ?_)
 replace hp := hp s1
 replace hp := hp s7
 replace hp := hp (Sl.len q9)
 refine seq_ (fun _ m8 => ?_)
 refine reg_ ?_
 refine sq (o_pv (.int .i64 (0 : Int)) rfl (by kernel_rfl) ?_)
 refine nil_ ?_
 refine then_normal (m8 _ _ _ _ ?_)
 refine seq_ (fun _ d0 => ?_)
 refine seq_ (fun _ d1 => ?_)
 refine reg_ ?_
 refine sq (o_pv (.pointer (some ⟨y0, 0, none⟩)) rfl (by kernel_rfl) ?_)
 refine sq (o_pv (.pointer (some ⟨y0, 0, none⟩)) rfl (by kernel_rfl) ?_)
 obtain ⟨k2, y5, m9, n0, n1, k3, k4, y8, z7, z9, y2, z2, z8, z1, z3, z4, z5, n2, n3, n4, n5, y9, v0, v1, v2, v3, v4⟩ := o_simfs_FS_open s6
 replace hp := hp (OS.len y2)
 replace hp := hp z2
 replace hp := hp z8
 replace hp := hp z1
 replace hp := hp z3
 replace hp := hp z4
 replace hp := hp (Sl.len z5)
 refine sq (o_pv (.pointer (some ⟨y0, 7, none⟩)) rfl (by kernel_rfl) ?_)
 refine sq (o_pv (.bool f_.off) rfl (x_load1 (by kernel_rfl) Tryz.isAgg4 (y8.2.1.cell' 7 rfl)) ?_)
 refine nil_ ?_
 refine then_normal (d1 _ _ _ _ ?_)
 refine cond_b f_.off (by kernel_rfl) (fun s8 => ?_) (fun s8 => ?_)
 ·
  replace hp := hp.1 s8
  refine seq_ (fun _ d2 => ?_)
  refine reg_ ?_
  refine sq (o_pv (.int .i64 (13 : Int)) rfl (by kernel_rfl) ?_)
  refine nil_ ?_
  refine then_normal (d2 _ _ _ _ ?_)
  refine wp_ret ?_
  refine then_ret ?_
  obtain ⟨d3, d4, n6⟩ := MO.pack (o_simfs_FS_mk y8 z7 z9 y2 z2 z8 z1 z3 z4 z5 rfl y9 v0 v1 v2 v3 v4)
  refine end_ret hQ (.int .i64 (13 : Int)) (by kernel_rfl) ?_
  exact ⟨f_, (13 : Int), hp, X, d3, step_of E0 y7 hS hN, rfl, d4, (by decide : inR .i64 (13 : Int))⟩
 ·
  replace hp := hp.2 s8
  refine wp_skip ?_
  refine then_normal (d0 _ _ _ _ ?_)
  refine seq_ (fun _ d5 => ?_)
  refine seq_ (fun _ d6 => ?_)
  refine reg_ ?_
  refine sq (o_pv (.string p) rfl (by kernel_rfl) ?_)
  refine sq (o_call 82 #[(.string p)] rfl (x_call Tryz.call82 (by kernel_rfl)) (path_Check_w (X := []) (p := p) (Old.nil _) s1 hp) ?_)
  rintro _ d7 ⟨y6, hp, v5, rfl, s9⟩
  have z0 := Step.of0 X v5
  replace hp := hp s9
  refine sq (o_pv (.int .i64 y6) rfl (by kernel_rfl) ?_)
  refine nil_ ?_
  refine then_normal (d6 _ _ _ _ ?_)
  refine seq_ (fun _ d8 => ?_)
  refine reg_ ?_
  refine sq (o_pv (.int .i64 y6) rfl (by kernel_rfl) ?_)
  refine sq (o_pv (.bool (!decide (y6 = (0 : Int)))) rfl (by kernel_rfl) ?_)
  refine nil_ ?_
  refine then_normal (d8 _ _ _ _ ?_)
  refine cond_nd (y6 = (0 : Int)) (by kernel_rfl) (fun r0 => ?_) (fun r0 => ?_)
  ·
   replace hp := hp.1 r0
   refine seq_ (fun _ d9 => ?_)
   refine reg_ ?_
   refine sq (o_pv (.int .i64 y6) rfl (by kernel_rfl) ?_)
   refine sq (o_pv (.int .i64 y6) rfl (by kernel_rfl) ?_)
   refine nil_ ?_
   refine then_normal (d9 _ _ _ _ ?_)
   refine wp_ret ?_
   refine then_ret ?_
   have l0 := (Evo.then0 E0 v5)
   have k5 := (Sub.trans hS (Step.up z0))
   have k6 := (News.step hN z0)
   have l1 := (OB.step0 y8 z0)
   have t0 := (OM.step0 z7 z0)
   have u2 := (OM.step0 z9 z0)
   have k7 := (OS.step0 y2 z0)
   have t1 := (Sl.step z5 z0)
   obtain ⟨l2, l3, n7⟩ := MO.pack (o_simfs_FS_mk l1 t0 u2 k7 z2 z8 z1 z3 z4 t1 rfl y9 v0 v1 v2 v3 v4)
   refine end_ret hQ (.int .i64 y6) (by kernel_rfl) ?_
   exact ⟨f_, y6, hp, X, l2, step_of l0 y7 k5 k6, rfl, l3, s9⟩
  ·
   replace hp := hp.2 r0
   refine wp_skip ?_
   refine then_normal (d5 _ _ _ _ ?_)
   refine seq_ (fun _ l4 => ?_)
   refine wp_block ?_
   refine seq_ (fun _ l5 => ?_)
   refine reg_ ?_
   refine sq (o_pv (.slice u0 b.length u1) rfl (by kernel_rfl) ?_)
   refine sq (o_pv (.int .i64 (b.length : Int)) rfl (by kernel_rfl) ?_)
   refine sq (o_pv (.bool (decide ((b.length : Int) > (65536 : Int)))) rfl (by kernel_rfl) ?_)
   refine sq (o_pv (.bool (decide ((b.length : Int) > (65536 : Int)))) rfl (by kernel_rfl) ?_)
   refine nil_ ?_
   refine then_normal (l5 _ _ _ _ ?_)
   refine cond_d ((b.length : Int) > (65536 : Int)) (by kernel_rfl) (fun r1 => ?_) (fun r1 => ?_)
   ·
    replace hp := hp.1 r1
    refine seq_ (fun _ l6 => ?_)
    refine reg_ ?_
    refine sq (o_pv (.int .i64 (4 : Int)) rfl (by kernel_rfl) ?_)
    refine nil_ ?_
    refine then_normal (l6 _ _ _ _ ?_)
    refine wp_ret ?_
    refine blk_ret ?_
    refine then_ret ?_
    have l7 := (Evo.then0 E0 v5)
    have k8 := (Sub.trans hS (Step.up z0))
    have k9 := (News.step hN z0)
    have l8 := (OB.step0 y8 z0)
    have t2 := (OM.step0 z7 z0)
    have u3 := (OM.step0 z9 z0)
    have j0 := (OS.step0 y2 z0)
    have t3 := (Sl.step z5 z0)
    obtain ⟨l9, m0, n8⟩ := MO.pack (o_simfs_FS_mk l8 t2 u3 j0 z2 z8 z1 z3 z4 t3 rfl y9 v0 v1 v2 v3 v4)
    refine end_ret hQ (.int .i64 (4 : Int)) (by kernel_rfl) ?_
    exact ⟨f_, (4 : Int), hp, X, l9, step_of l7 y7 k8 k9, rfl, m0, (by decide : inR .i64 (4 : Int))⟩
   ·
    replace hp := hp.2 r1
    refine seq_ (fun _ m1 => ?_)
    refine ground_ ?_
    refine join_ 1065353216 (fun lq k0 => lq = [(23, (.bool (decide ((¬ (mode = (1 : Int))) ∧ (¬ (mode = (2 : Int)))))))] ∧ d7 = k0) (fun n9 r2 => ?_) ?_
    ·
     refine reg_ ?_
     refine sq (o_pv (.int .i64 mode) rfl (by kernel_rfl) ?_)
     by_cases s2 : mode = (1 : Int)
     ·
      refine sq (o_pv (.bool false) rfl (x_ndf (p := mode = (1 : Int)) (by kernel_rfl) s2) ?_)
      refine sq (o_pv (.bool false) rfl (by kernel_rfl) ?_)
      refine sq (o_not (by kernel_rfl) ?_)
      refine sq (o_not (by kernel_rfl) ?_)
      refine sq (o_pv (.bool false) rfl (by kernel_rfl) ?_)
      refine sq (o_pv (.bool false) rfl (by kernel_rfl) ?_)
      refine nil_ ?_
      refine then_normal (r2 _ _ _ ⟨[(23, (.bool (decide ((¬ (mode = (1 : Int))) ∧ (¬ (mode = (2 : Int)))))))], fit_mk (fun _ _ => rfl) (by kernel_rfl) (vs_cons (Eq.trans (b := (.bool false)) (by kernel_rfl) (dec_f (iff_false_intro (fun h => (fun o0 => o0 s2) h.1))).symm) vs_nil), rfl, rfl⟩)
     ·
      refine sq (o_pv (.bool true) rfl (x_ndt (p := mode = (1 : Int)) (by kernel_rfl) s2) ?_)
      refine sq (o_pv (.bool true) rfl (by kernel_rfl) ?_)
      refine sq (o_pv (.int .i64 mode) (by kernel_rfl) (by kernel_rfl) ?_)
      refine sq (o_pv (.bool (!decide (mode = (2 : Int)))) (by kernel_rfl) (by kernel_rfl) ?_)
      refine sq (o_pv (.bool (!decide (mode = (2 : Int)))) rfl (by kernel_rfl) ?_)
      refine sq (o_pv (.bool (!decide (mode = (2 : Int)))) rfl (by kernel_rfl) ?_)
      refine nil_ ?_
      refine then_normal (r2 _ _ _ ⟨[(23, (.bool (decide ((¬ (mode = (1 : Int))) ∧ (¬ (mode = (2 : Int)))))))], fit_mk (fun _ _ => rfl) (by kernel_rfl) (vs_cons (Eq.trans (b := (.bool (!decide (mode = (2 : Int))))) (by kernel_rfl) (dec_n ((and_iff_right s2).trans Iff.rfl)).symm) vs_nil), rfl, rfl⟩)
    ·
     rintro _ k0 o6 ⟨rfl, hw⟩
     subst hw
     refine then_normal (m1 _ _ _ _ ?_)
     refine cond_d ((¬ (mode = (1 : Int))) ∧ (¬ (mode = (2 : Int)))) (by kernel_rfl) (fun r3 => ?_) (fun r3 => ?_)
     ·
      replace hp := hp.1 r3
      refine seq_ (fun _ m2 => ?_)
      refine reg_ ?_
      refine sq (o_pv (.int .i64 (1 : Int)) rfl (by kernel_rfl) ?_)
      refine nil_ ?_
      refine then_normal (m2 _ _ _ _ ?_)
      refine wp_ret ?_
      refine blk_ret ?_
      refine then_ret ?_
      have m3 := (Evo.then0 E0 v5)
      have j1 := (Sub.trans hS (Step.up z0))
      have j2 := (News.step hN z0)
      have m4 := (OB.step0 y8 z0)
      have t4 := (OM.step0 z7 z0)
      have v6 := (OM.step0 z9 z0)
      have q0 := (OS.step0 y2 z0)
      have u4 := (Sl.step z5 z0)
      obtain ⟨j3, j4, m5⟩ := MO.pack (o_simfs_FS_mk m4 t4 v6 q0 z2 z8 z1 z3 z4 u4 rfl y9 v0 v1 v2 v3 v4)
      refine end_ret hQ (.int .i64 (1 : Int)) (by kernel_rfl) ?_
      exact ⟨f_, (1 : Int), hp, X, j3, step_of m3 y7 j1 j2, rfl, j4, (by decide : inR .i64 (1 : Int))⟩
     ·
      replace hp := hp.2 r3
      refine seq_ (fun _ j5 => ?_)
      refine reg_ ?_
      refine sq (o_pv (.pointer (some ⟨y0, 0, none⟩)) rfl (by kernel_rfl) ?_)
      refine sq (o_pv (.pointer (some ⟨y0, 0, none⟩)) rfl (by kernel_rfl) ?_)
      refine sq (o_pv (.pointer (some ⟨y0, 1, none⟩)) rfl (by kernel_rfl) ?_)
      have t5 := (OB.step0 y8 z0)
      refine sq (o_pv (.map (some y5)) rfl (x_load1 (by kernel_rfl) Tryz.isAgg75 (t5.2.1.cell' 1 rfl)) ?_)
      refine sq (o_pv (.string p) rfl (by kernel_rfl) ?_)
      have y1 := (OM.step0 z9 z0)
      refine sq (o_call 80 #[(.map (some y5)), (.string p), (.string (ByteArray.mk #[]))] rfl (x_call Tryz.call80 (by kernel_rfl)) (simfs_clash_w (X := []) (l := f_.files) (p := p) (but := (ByteArray.mk #[])) (Old.nil _) (OM.rm y1) s1 (by decide : (ByteArray.mk #[]).size ≤ maxLen) hp) ?_)
      rintro _ o3 ⟨r4, hp, t6, rfl⟩
      have z6 := Step.of0 X t6
      refine sq (o_pv (.bool r4) rfl (by kernel_rfl) ?_)
      refine nil_ ?_
      refine then_normal (j5 _ _ _ _ ?_)
      refine cond_b r4 (by kernel_rfl) (fun t7 => ?_) (fun t7 => ?_)
      ·
       replace hp := hp.1 t7
       refine seq_ (fun _ j6 => ?_)
       refine reg_ ?_
       refine sq (o_pv (.int .i64 (11 : Int)) rfl (by kernel_rfl) ?_)
       refine nil_ ?_
       refine then_normal (j6 _ _ _ _ ?_)
       refine wp_ret ?_
       refine blk_ret ?_
       refine then_ret ?_
       have j7 := (Evo.then0 (Evo.then0 E0 v5) t6)
       have q1 := (Sub.trans (Sub.trans hS (Step.up z0)) (Step.up z6))
       have q2 := (News.step (News.step hN z0) z6)
       have j8 := (OB.step0 t5 z6)
       have u5 := (OM.step0 (OM.step0 z7 z0) z6)
       have v7 := (OM.step0 y1 z6)
       have q3 := (OS.step0 (OS.step0 y2 z0) z6)
       have u6 := (Sl.step (Sl.step z5 z0) z6)
       obtain ⟨j9, g0, m6⟩ := MO.pack (o_simfs_FS_mk j8 u5 v7 q3 z2 z8 z1 z3 z4 u6 rfl y9 v0 v1 v2 v3 v4)
       refine end_ret hQ (.int .i64 (11 : Int)) (by kernel_rfl) ?_
       exact ⟨f_, (11 : Int), hp, X, j9, step_of j7 y7 q1 q2, rfl, g0, (by decide : inR .i64 (11 : Int))⟩
      ·
       replace hp := hp.2 t7
       refine seq_ (fun _ g1 => ?_)
       refine reg_ ?_
       refine sq (o_pv (.pointer (some ⟨y0, 0, none⟩)) rfl (by kernel_rfl) ?_)
       refine sq (o_pv (.string p) rfl (by kernel_rfl) ?_)
       refine sq (o_pv (.slice u0 b.length u1) rfl (by kernel_rfl) ?_)
       refine sq (o_pv (.int .i64 (b.length : Int)) rfl (by kernel_rfl) ?_)
       have r5 := (Old.step (Old.step hXo z0) z6)
       have t8 := (Evo.then0 (Evo.then0 E0 v5) t6)
       have s3 := (Sub.trans (Sub.trans hS (Step.up z0)) (Step.up z6))
       have s4 := (News.step (News.step hN z0) z6)
       have g2 := (OB.step0 t5 z6)
       have u7 := (OM.step0 (OM.step0 z7 z0) z6)
       have v8 := (OM.step0 y1 z6)
       have q4 := (OS.step0 (OS.step0 y2 z0) z6)
       have u9 := (Sl.step (Sl.step z5 z0) z6)
       obtain ⟨o4, v9, m7⟩ := MO.pack (o_simfs_FS_mk g2 u7 v8 q4 z2 z8 z1 z3 z4 u9 rfl y9 v0 v1 v2 v3 v4)
       refine sq (o_call 103 #[(.pointer (some ⟨y0, 0, none⟩)), (.string p), (.int .i64 (b.length : Int))] rfl (x_call Tryz.call103 (by kernel_rfl)) (simfs_FS_room_w (X := X) (f_ := f_) (p := p) (n_ := (b.length : Int)) r5 (MO.re v9 (Wr.self _ _ (Sub.refl _))) s1 (inR_len (Sl.len q9)) hp) ?_)
       rintro _ o5 ⟨s5, t9, hp, r6, r7, y4, rfl, r8⟩
       have r9 := MO.re r8 (Wr.trans r8.wr v9.wr t8.size)
       refine sq (o_pv (.bool (!t9)) rfl (by kernel_rfl) ?_)
       refine sq (o_pv (.bool (!t9)) rfl (by kernel_rfl) ?_)
       refine nil_ ?_
       refine then_normal (g1 _ _ _ _ ?_)
       refine cond_b (!t9) (by kernel_rfl) (fun s0 => ?_) (fun s0 => ?_)
       ·
        replace hp := hp.1 s0
        refine seq_ (fun _ g3 => ?_)
        refine reg_ ?_
        refine sq (o_pv (.int .i64 (14 : Int)) rfl (by kernel_rfl) ?_)
        refine nil_ ?_
        refine then_normal (g3 _ _ _ _ ?_)
        refine wp_ret ?_
        refine blk_ret ?_
        refine then_ret ?_
        have g4 := (Evo.thenW t8 (Step.evo y4) v9.wr)
        have q5 := (Sub.trans s3 (Step.up y4))
        have q6 := (News.step s4 y4)
        refine end_ret hQ (.int .i64 (14 : Int)) (by kernel_rfl) ?_
        exact ⟨s5, (14 : Int), hp, r6, r7, step_of g4 y7 q5 q6, rfl, r9, (by decide : inR .i64 (14 : Int))⟩
       ·
        replace hp := hp.2 s0
        refine wp_skip ?_
        refine blk_normal ?_
        refine then_normal (l4 _ _ _ _ ?_)
        refine seq_ (fun _ g5 => ?_)
        refine reg_ ?_
        refine sq (o_pv (.int .i64 (0 : Int)) rfl (by kernel_rfl) ?_)
        refine nil_ ?_
        refine then_normal (g5 _ _ _ _ ?_)
        refine wp_ret ?_
        have g6 := (Evo.thenW t8 (Step.evo y4) v9.wr)
        have q7 := (Sub.trans s3 (Step.up y4))
        have q8 := (News.step s4 y4)
        refine end_ret hQ (.int .i64 (0 : Int)) (by kernel_rfl) ?_
        exact ⟨s5, (0 : Int), hp, r6, r7, step_of g6 y7 q7 q8, rfl, r9, (by decide : inR .i64 (0 : Int))⟩
def slices_Clone_bool_bool_p (s : (List Bool)) (Q : (List Bool) → Prop) : Prop :=
 ((s.length ≤ 9223372036854775807) → ((s.length * 1 ≤ 140737488355328) ∧ Q s))
set_option maxRecDepth 20000 in
set_option maxHeartbeats 4000000 in
theorem slices_Clone_bool_bool_w {X : List Nat} {w : World} {s : (List Bool)} {z0 : Option Addr} {z1 : Nat} {Q : (List Bool) → Prop} (y5 : Old X w) (z2 : Sq rBool X w z0 z1 s) (hp : slices_Clone_bool_bool_p s Q) :
  Calls Tryz.prog 37 #[(.slice z0 s.length z1)] w (Ret fun v w' => ∃ (z8 : (List Bool)), Q z8 ∧ Evo [] w w' ∧ ∃ (y2 : Option Addr) (y6 : Nat), v = .slice y2 z8.length y6 ∧ OS rBool [] w.heap.size (blkL y2 ++ X) w' 4 y2 z8.length y6 z8) := by
 have hXo := y5
 have E0 : Evo [] w w := RB.refl _ _ _
 have hS : Sub X X := Sub.refl _
 unfold slices_Clone_bool_bool_p at hp
 refine enter_ Tryz.func37 rfl 8 [(0, (.slice z0 s.length z1))] (by kernel_rfl) (fun Qe hQ => ?_)
 replace hp := hp (Sq.len z2)
 refine seq_ (fun _ v1 => ?_)
 refine reg_ ?_
 refine sq (o_pv (.slice none 0 0) rfl (by kernel_rfl) ?_)
 refine nil_ ?_
 refine then_normal (v1 _ _ _ _ ?_)
 refine seq_ (fun _ v2 => ?_)
 refine seq_ (fun _ y7 => ?_)
 refine reg_ ?_
 refine sq (o_pv (.slice z0 s.length z1) rfl (by kernel_rfl) ?_)
 rcases z0 with _ | ad
 ·
  obtain rfl : s = [] := z2.2.elim (fun h => h.1) (fun ⟨b, o, xs, h, _⟩ => by cases h)
  replace hp := hp.2
  refine sq (o_pv (.bool true) rfl (by kernel_rfl) ?_)
  refine nil_ ?_
  refine then_normal (y7 _ _ _ _ ?_)
  refine cond_t (by kernel_rfl) ?_
  refine seq_ (fun _ v3 => ?_)
  refine reg_ ?_
  refine sq (o_pv (.slice none 0 0) rfl (by kernel_rfl) ?_)
  refine nil_ ?_
  refine then_normal (v3 _ _ _ _ ?_)
  refine wp_ret ?_
  refine then_ret ?_
  refine end_ret hQ (.slice none 0 0) (by kernel_rfl) ?_
  exact ⟨([] : List Bool), hp, E0, none, 0, rfl, (OS.nil _ _ _ _)⟩
 ·
  refine sq (o_pv (.bool false) rfl (by kernel_rfl) ?_)
  refine nil_ ?_
  refine then_normal (y7 _ _ _ _ ?_)
  refine cond_f (by kernel_rfl) ?_
  refine wp_skip ?_
  refine then_normal (v2 _ _ _ _ ?_)
  refine seq_ (fun _ v4 => ?_)
  refine reg_ ?_
  refine sq (o_rowX (R := rBool) [] ([] : List Bool) 4 0 (X := X) (B := w.heap.size) E0.size rfl (by kernel_rfl) Flat.nil rfl (by decide) ?_)
  intro u0 v6 y8 z3 z9 v7
  refine sq (o_pv (.slice (some ad) s.length z1) rfl (by kernel_rfl) ?_)
  obtain ⟨y9, hp⟩ := hp
  have y3 := (Sq.step z2 z3)
  have y0 := (Evo.then0 E0 (Step.evo z3))
  refine sq (o_appX (R := rBool) (X := y8) (B := w.heap.size) (L := ([] : List Bool)) (M := s) rfl elT29 rfl y0.size z9 (Sq.src y3) rfl (by kernel_rfl) (by kernel_rfl) (by simpa using y9) ?_)
  intro z4 z5 z6 v8 v9 y1 z7 v5
  rw [List.nil_append] at z7
  refine sq (o_pv (.slice z4 z5 z6) rfl (by kernel_rfl) ?_)
  refine nil_ ?_
  refine then_normal (v4 _ _ _ _ ?_)
  refine wp_ret ?_
  have y4 := (Sub.trans (Sub.trans hS (Step.up z3)) (Step.up y1))
  have v0 := (Evo.thenW y0 (Step.evo y1) z9.2.2)
  refine end_ret hQ (.slice z4 z5 z6) (by kernel_rfl) ?_
  exact ⟨s, hp, v0, z4, z6, (by (rw [show z5 = s.length from z7.1]); first | done | rfl), (OS.give z7 y4)⟩
def simfs_apply_p (l : (List (ByteArray × S_simfs_file))) (o : S_simfs_op) (Q : (List (ByteArray × S_simfs_file)) → Bool → Prop) : Prop :=
 ((inR .i64 o.kind) → ((o.path.size ≤ maxLen) → ((o.to_.size ≤ maxLen) → ((inR .i64 o.file.mode) → ((inR .i64 o.file.time) → ((inR .i64 o.file.inode) → ((o.file.b.length ≤ 9223372036854775807) → ((inR .i64 ((mgetD l o.path).mode)) → ((inR .i64 ((mgetD l o.path).time)) → ((inR .i64 ((mgetD l o.path).inode)) → ((((mgetD l o.path).b).length ≤ 9223372036854775807) → (∃ z0 : (List (ByteArray × S_simfs_file)) → Prop, (∀ (z4 : (List (ByteArray × S_simfs_file))), z0 z4 → Q z4 (mhas l o.path)) ∧ (∃ z1 : (List (ByteArray × S_simfs_file)) → Prop, (∀ (z5 : (List (ByteArray × S_simfs_file))), z1 z5 → (z0 (mdel z5 o.path))) ∧ (((o.kind = (1 : Int)) → (simfs_clash_p l o.path (ByteArray.mk #[]) (fun (z6 : Bool) => (((z6 = true) → Q l false) ∧ ((z6 = false) → Q (mset l o.path o.file) true))))) ∧ ((¬ (o.kind = (1 : Int))) → (((o.kind = (2 : Int)) → (∃ z2 : Bool → Prop, (∀ (z3 : Bool), z2 z3 → (((z3 = true) → Q l false) ∧ ((z3 = false) → (z1 (mset l o.to_ (mgetD l o.path)))))) ∧ ((((mhas l o.path) = true) → (simfs_clash_p l o.to_ o.path (fun (z7 : Bool) => (z2 z7)))) ∧ ((¬ ((mhas l o.path) = true)) → (z2 true))))) ∧ ((¬ (o.kind = (2 : Int))) → (((o.kind = (3 : Int)) → (z1 l)) ∧ ((¬ (o.kind = (3 : Int))) → (z0 l))))))))))))))))))))
set_option maxRecDepth 20000 in
set_option maxHeartbeats 4000000 in
theorem simfs_apply_w {X : List Nat} {w : World} {l : (List (ByteArray × S_simfs_file))} {o : S_simfs_op} {z2 : Nat} {z1 : Option Addr} {z0 : Nat} {Q : (List (ByteArray × S_simfs_file)) → Bool → Prop} (n8 : Old X w) (r5 : OM r_simfs_file true ([z2]) w.heap.size X w z2 l) (r4 : inR .i64 o.kind) (y4 : o.path.size ≤ maxLen) (u0 : o.to_.size ≤ maxLen) (y7 : inR .i64 o.file.mode) (y8 : inR .i64 o.file.time) (z9 : inR .i64 o.file.inode) (v4 : Sl (rInt .u8) X w z1 z0 o.file.b) (hp : simfs_apply_p l o Q) :
  Calls Tryz.prog 38 #[(.map (some z2)), (.agg #[(.int .i64 o.kind), (.string o.path), (.string o.to_), (.int .i64 o.file.mode), (.int .i64 o.file.time), (.int .i64 o.file.inode), (.slice z1 o.file.b.length z0)])] w (Ret fun v w' => ∃ (n9 : (List (ByteArray × S_simfs_file))) (o0 : Bool), Q n9 o0 ∧ ∃ (X' : List Nat), Step X w ([z2]) X' w' ∧ v = (.bool o0) ∧ OM r_simfs_file true ([z2]) w.heap.size X' w' z2 n9) := by
 have hXo := n8
 have E0 : Evo [z2] w w := RB.refl _ _ _
 have hS : Sub X X := Sub.refl _
 have hN : News X w X w := News.refl _ _
 have s6 : Sub [z2] X := OM.mem r5
 unfold simfs_apply_p at hp
 refine enter_ Tryz.func38 rfl 49 [(0, (.map (some z2))), (1, (.agg #[(.int .i64 o.kind), (.string o.path), (.string o.to_), (.int .i64 o.file.mode), (.int .i64 o.file.time), (.int .i64 o.file.inode), (.slice z1 o.file.b.length z0)]))] (by kernel_rfl) (fun Qe hQ => ?_)
 replace hp := hp r4
 replace hp := hp y4
 replace hp := hp u0
 replace hp := hp y7
 replace hp := hp y8
 replace hp := hp z9
 replace hp := hp (Sl.len v4)
 refine seq_ (fun _ o3 => ?_)
 refine reg_ ?_
 refine sq (o_newX [(.int .i64 o.kind), (.string o.path), (.string o.to_), (.int .i64 o.file.mode), (.int .i64 o.file.time), (.int .i64 o.file.inode), (.slice z1 o.file.b.length z0)] 84 (X := X) (B := w.heap.size) E0.size rfl (by kernel_rfl) ?_)
 intro y0 o4 o5 u7 r6 o6
 have o7 := o6 _ (OM.old r5)
 refine sq (o_pv (.bool false) rfl (by kernel_rfl) ?_)
 refine nil_ ?_
 refine then_normal (o3 _ _ _ _ ?_)
 refine seq_ (fun _ o8 => ?_)
 refine reg_ ?_
 refine sq (o_pv (.map (some z2)) rfl (by kernel_rfl) ?_)
 refine sq (o_pv (.pointer (some ⟨y0, 1, none⟩)) rfl (by kernel_rfl) ?_)
 refine sq (o_pv (.string o.path) rfl (x_load1 (by kernel_rfl) Tryz.isAgg9 (r6.2.1.cell' 1 rfl)) ?_)
 have t7 := (OM.step0 r5 u7)
 obtain ⟨a0, g6, g7⟩ := MapAt.look t7.2.1 o.path [(.int .i64 (0 : Int)), (.int .i64 (0 : Int)), (.int .i64 (0 : Int)), (.slice none 0 0)] (fun _ _ => (r_simfs_file_mk (by decide : inR .i64 (0 : Int)) (by decide : inR .i64 (0 : Int)) (by decide : inR .i64 (0 : Int)) (Sl.nil) rfl))
 obtain ⟨z3, z4, rfl, u1, u2, v5, s7⟩ := r_simfs_file_open g6
 replace hp := hp u1
 replace hp := hp u2
 replace hp := hp v5
 replace hp := hp (Sl.len s7)
 refine sq (o_pv (.tuple #[(.agg #[(.int .i64 ((mgetD l o.path).mode)), (.int .i64 ((mgetD l o.path).time)), (.int .i64 ((mgetD l o.path).inode)), (.slice z3 (((mgetD l o.path).b).length) z4)]), (.bool (mhas l o.path))]) rfl (x_lookup2 (w0 := o4) (k := o.path) (v := (.agg #[(.int .i64 ((mgetD l o.path).mode)), (.int .i64 ((mgetD l o.path).time)), (.int .i64 ((mgetD l o.path).inode)), (.slice z3 (((mgetD l o.path).b).length) z4)])) (z := (.agg #[(.int .i64 (0 : Int)), (.int .i64 (0 : Int)), (.int .i64 (0 : Int)), (.slice none 0 0)])) (b := mhas l o.path) (s := 4) (bts := 48) (by kernel_rfl) (by kernel_rfl) g7 rfl Tryz.underlying75 Tryz.underlying9 (by kernel_rfl)) ?_)
 refine sq (o_pv (.tuple #[(.agg #[(.int .i64 ((mgetD l o.path).mode)), (.int .i64 ((mgetD l o.path).time)), (.int .i64 ((mgetD l o.path).inode)), (.slice z3 (((mgetD l o.path).b).length) z4)]), (.bool (mhas l o.path))]) rfl (by kernel_rfl) ?_)
 refine sq (o_pv (.agg #[(.int .i64 ((mgetD l o.path).mode)), (.int .i64 ((mgetD l o.path).time)), (.int .i64 ((mgetD l o.path).inode)), (.slice z3 (((mgetD l o.path).b).length) z4)]) rfl (by kernel_rfl) ?_)
 refine sq (o_pv (.bool (mhas l o.path)) rfl (by kernel_rfl) ?_)
 have g2 := (Evo.then0 E0 (Step.evo u7))
 refine sq (o_newX [(.int .i64 (0 : Int)), (.int .i64 (0 : Int)), (.int .i64 (0 : Int)), (.slice none 0 0)] 81 (X := o5) (B := w.heap.size) g2.size rfl (by kernel_rfl) ?_)
 intro o9 e0 v6 v7 g3 g4
 have c0 := g4 _ (OM.old t7)
 have c1 := g4 _ (OB.old r6)
 have g8 := (OM.step0 t7 v7)
 have c2 := (OB.step0 r6 v7)
 have c3 := (Evo.then0 g2 (Step.evo v7))
 refine sq (o_stB (o := 0) (v := (.agg #[(.int .i64 ((mgetD l o.path).mode)), (.int .i64 ((mgetD l o.path).time)), (.int .i64 ((mgetD l o.path).inode)), (.slice z3 (((mgetD l o.path).b).length) z4)])) [(.int .i64 ((mgetD l o.path).mode)), (.int .i64 ((mgetD l o.path).time)), (.int .i64 ((mgetD l o.path).inode)), (.slice z3 (((mgetD l o.path).b).length) z4)] rfl g3 (by kernel_rfl) (by kernel_rfl) Tryz.sizeOf81 rfl rfl rfl ?_)
 intro e1 v8 g5
 refine sq (o_pv (.bool (mhas l o.path)) rfl (by kernel_rfl) ?_)
 refine nil_ ?_
 refine then_normal (o8 _ _ _ _ ?_)
 refine seq_ (fun _ c4 => ?_)
 refine seq_ (fun _ c5 => ?_)
 refine reg_ ?_
 refine sq (o_pv (.pointer (some ⟨y0, 0, none⟩)) rfl (by kernel_rfl) ?_)
 have v9 := (OB.step c2 v8 c1)
 refine sq (o_pv (.int .i64 o.kind) rfl (x_load1 (by kernel_rfl) Tryz.isAgg3 (v9.2.1.cell' 0 rfl)) ?_)
 refine nil_ ?_
 refine then_normal (c5 _ _ _ _ ?_)
 have z5 := (Sl.step (Sl.step (Sl.step v4 u7) v7) v8)
 have z7 := (OM.step g8 v8 c0)
 have v0 := (Old.step (Old.step (Old.step hXo u7) v7) v8)
 have v1 := (Evo.thenW c3 (Step.evo v8) (Wr.of g3.2.2))
 have y5 := (Sub.trans (Sub.trans (Sub.trans hS (Step.up u7)) (Step.up v7)) (Step.up v8))
 have y6 := (News.step (News.step (News.step hN u7) v7) v8)
 have t6 := (Sl.step (Sl.step s7 v7) v8)
 obtain ⟨g9, q9, hp⟩ := hp
 refine ground_ ?_
 refine join_ 281474976645136 (fun lq u3 => ∃ (v2 : List Nat) (u4 : (List (ByteArray × S_simfs_file))), (lq = []) ∧ (Evo [z2] w u3) ∧ (Old v2 u3) ∧ (Sub X v2) ∧ (News X w v2 u3) ∧ (OM r_simfs_file true ([z2]) w.heap.size v2 u3 z2 u4) ∧ (g9 u4)) (fun c7 s8 => ?_) ?_
 ·
  refine wp_block ?_
  refine seq_ (fun _ d0 => ?_)
  obtain ⟨d1, k0, hp⟩ := hp
  refine ground_ ?_
  refine join_ 35184372023312 (fun lq y9 => ∃ (y1 : List Nat) (u5 : (List (ByteArray × S_simfs_file))), (lq = []) ∧ (Evo [z2] w y9) ∧ (Old y1 y9) ∧ (Sub X y1) ∧ (News X w y1 y9) ∧ (Sl (rInt .u8) y1 y9 z1 z0 o.file.b) ∧ (OB ([]) w.heap.size y1 y9 y0 [(.int .i64 o.kind), (.string o.path), (.string o.to_), (.int .i64 o.file.mode), (.int .i64 o.file.time), (.int .i64 o.file.inode), (.slice z1 o.file.b.length z0)] 84) ∧ (OM r_simfs_file true ([z2]) w.heap.size y1 y9 z2 u5) ∧ (d1 u5)) (fun c8 s9 => ?_) ?_
  ·
   refine wp_block ?_
   refine seq_ (fun _ d2 => ?_)
   refine wp_block ?_
   refine seq_ (fun _ d3 => ?_)
   refine wp_block ?_
   refine seq_ (fun _ d4 => ?_)
   refine seq_ (fun _ d5 => ?_)
   refine seq_ (fun _ d6 => ?_)
   refine reg_ ?_
   refine sq (o_pv (.bool (decide (o.kind = (1 : Int)))) rfl (by kernel_rfl) ?_)
   refine sq (o_pv (.bool (decide (o.kind = (1 : Int)))) rfl (by kernel_rfl) ?_)
   refine nil_ ?_
   refine then_normal (d6 _ _ _ _ ?_)
   refine cond_d (o.kind = (1 : Int)) (by kernel_rfl) (fun t8 => ?_) (fun t8 => ?_)
   ·
    replace hp := hp.1 t8
    refine wp_exit ?_
    refine then_exit ?_
    refine then_exit ?_
    refine blk_exit ?_
    refine then_normal (d3 _ _ _ _ ?_)
    refine seq_ (fun _ a1 => ?_)
    refine seq_ (fun _ d7 => ?_)
    refine seq_ (fun _ d8 => ?_)
    refine reg_ ?_
    refine sq (o_pv (.map (some z2)) rfl (by kernel_rfl) ?_)
    refine sq (o_pv (.pointer (some ⟨y0, 1, none⟩)) rfl (by kernel_rfl) ?_)
    refine sq (o_pv (.string o.path) rfl (x_load1 (by kernel_rfl) Tryz.isAgg9 (v9.2.1.cell' 1 rfl)) ?_)
    refine sq (o_call 80 #[(.map (some z2)), (.string o.path), (.string (ByteArray.mk #[]))] rfl (x_call Tryz.call80 (by kernel_rfl)) (simfs_clash_w (X := []) (l := l) (p := o.path) (but := (ByteArray.mk #[])) (Old.nil _) (OM.rm z7) y4 (by decide : (ByteArray.mk #[]).size ≤ maxLen) hp) ?_)
    rintro _ a2 ⟨d9, hp, t9, rfl⟩
    have y2 := Step.of0 v6 t9
    refine nil_ ?_
    refine then_normal (d8 _ _ _ _ ?_)
    refine cond_b d9 (by kernel_rfl) (fun s0 => ?_) (fun s0 => ?_)
    ·
     replace hp := hp.1 s0
     refine seq_ (fun _ l0 => ?_)
     refine reg_ ?_
     refine sq (o_pv (.bool false) rfl (by kernel_rfl) ?_)
     refine nil_ ?_
     refine then_normal (l0 _ _ _ _ ?_)
     refine wp_ret ?_
     refine then_ret ?_
     refine then_ret ?_
     refine blk_ret ?_
     refine then_ret ?_
     refine blk_ret ?_
     refine then_ret ?_
     refine then_ret ?_
     refine blk_ret ?_
     refine then_ret ?_
     refine then_ret ?_
     have k1 := (OM.step0 z7 y2)
     have l1 := (Evo.then0 v1 t9)
     have k2 := (Sub.trans y5 (Step.up y2))
     have k3 := (News.step y6 y2)
     refine end_ret hQ (.bool false) (by kernel_rfl) ?_
     exact ⟨l, false, hp, v6, step_of l1 s6 k2 k3, rfl, k1⟩
    ·
     replace hp := hp.2 s0
     refine wp_skip ?_
     refine then_normal (d7 _ _ _ _ ?_)
     refine seq_ (fun _ l2 => ?_)
     refine reg_ ?_
     refine sq (o_pv (.map (some z2)) rfl (by kernel_rfl) ?_)
     refine sq (o_pv (.pointer (some ⟨y0, 1, none⟩)) rfl (by kernel_rfl) ?_)
     have r7 := (OB.step0 v9 y2)
     refine sq (o_pv (.string o.path) rfl (x_load1 (by kernel_rfl) Tryz.isAgg9 (r7.2.1.cell' 1 rfl)) ?_)
     refine sq (o_pv (.pointer (some ⟨y0, 3, none⟩)) rfl (by kernel_rfl) ?_)
     refine sq (o_pv (.agg #[(.int .i64 o.file.mode), (.int .i64 o.file.time), (.int .i64 o.file.inode), (.slice z1 o.file.b.length z0)]) rfl (x_loadN [(.int .i64 o.file.mode), (.int .i64 o.file.time), (.int .i64 o.file.inode), (.slice z1 o.file.b.length z0)] (by kernel_rfl) Tryz.isAgg81 Tryz.sizeOf81 (r7.2.1.cells' 3 rfl)) ?_)
     have u9 := (Sl.step z5 y2)
     have r0 := (OM.step0 z7 y2)
     refine sq (o_mapset (cs := [(.int .i64 o.file.mode), (.int .i64 o.file.time), (.int .i64 o.file.inode), (.slice z1 o.file.b.length z0)]) (d := o.file) rfl r0 Tryz.underlying75 Tryz.underlying9 (by kernel_rfl) (by kernel_rfl) (by kernel_rfl) (r_simfs_file_mk y7 y8 z9 u9 rfl) y4 ?_)
     intro a3 s1 l3
     refine nil_ ?_
     refine then_normal (l2 _ _ _ _ ?_)
     refine seq_ (fun _ l4 => ?_)
     refine reg_ ?_
     refine sq (o_pv (.bool true) rfl (by kernel_rfl) ?_)
     refine nil_ ?_
     refine then_normal (l4 _ _ _ _ ?_)
     refine wp_ret ?_
     refine then_ret ?_
     refine blk_ret ?_
     refine then_ret ?_
     refine blk_ret ?_
     refine then_ret ?_
     refine then_ret ?_
     refine blk_ret ?_
     refine then_ret ?_
     refine then_ret ?_
     have l5 := (Evo.thenW (Evo.then0 v1 t9) (Step.evo s1) r0.2.2)
     have k4 := (Sub.trans (Sub.trans y5 (Step.up y2)) (Step.up s1))
     have k5 := (News.step (News.step y6 y2) s1)
     refine end_ret hQ (.bool true) (by kernel_rfl) ?_
     exact ⟨(mset l o.path o.file), true, hp, v6, step_of l5 s6 k4 k5, rfl, l3⟩
   ·
    replace hp := hp.2 t8
    refine wp_skip ?_
    refine then_normal (d5 _ _ _ _ ?_)
    refine seq_ (fun _ l6 => ?_)
    refine seq_ (fun _ l7 => ?_)
    refine reg_ ?_
    refine sq (o_pv (.bool (decide (o.kind = (2 : Int)))) rfl (by kernel_rfl) ?_)
    refine sq (o_pv (.bool (decide (o.kind = (2 : Int)))) rfl (by kernel_rfl) ?_)
    refine nil_ ?_
    refine then_normal (l7 _ _ _ _ ?_)
    refine cond_d (o.kind = (2 : Int)) (by kernel_rfl) (fun s2 => ?_) (fun s2 => ?_)
    ·
     replace hp := hp.1 s2
     refine wp_exit ?_
     refine then_exit ?_
     refine then_exit ?_
     refine blk_exit_ne rfl ?_
     refine then_exit ?_
     refine blk_exit ?_
     refine then_normal (d2 _ _ _ _ ?_)
     refine seq_ (fun _ l8 => ?_)
     refine seq_ (fun _ l9 => ?_)
     obtain ⟨m0, k6, hp⟩ := hp
     refine ground_ ?_
     refine join_ 2196875771904 (fun lq z8 => ∃ (z6 : List Nat) (u6 : Bool), (lq = [(40, (.bool u6))]) ∧ (Evo [z2] w z8) ∧ (Old z6 z8) ∧ (Sub X z6) ∧ (News X w z6 z8) ∧ (OM r_simfs_file true ([z2]) w.heap.size z6 z8 z2 l) ∧ (Sl (rInt .u8) z6 z8 z1 z0 o.file.b) ∧ (OB ([]) w.heap.size z6 z8 y0 [(.int .i64 o.kind), (.string o.path), (.string o.to_), (.int .i64 o.file.mode), (.int .i64 o.file.time), (.int .i64 o.file.inode), (.slice z1 o.file.b.length z0)] 84) ∧ (Sl (rInt .u8) z6 z8 z3 z4 ((mgetD l o.path).b)) ∧ (OB ([]) w.heap.size z6 z8 o9 [(.int .i64 ((mgetD l o.path).mode)), (.int .i64 ((mgetD l o.path).time)), (.int .i64 ((mgetD l o.path).inode)), (.slice z3 (((mgetD l o.path).b).length) z4)] 81) ∧ (m0 u6)) (fun c9 r1 => ?_) ?_
     ·
      refine reg_ ?_
      by_cases t0 : (mhas l o.path) = true
      ·
       replace hp := hp.1 t0
       refine sq (o_pv (.bool true) rfl (x_bt (by kernel_rfl) t0) ?_)
       refine sq (o_pv (.bool false) rfl (by kernel_rfl) ?_)
       refine sq (o_pv (.bool false) rfl (by kernel_rfl) ?_)
       refine sq (o_pv (.map (some z2)) (by kernel_rfl) (by kernel_rfl) ?_)
       refine sq (o_pv (.pointer (some ⟨y0, 2, none⟩)) (by kernel_rfl) (by kernel_rfl) ?_)
       refine sq (o_pv (.string o.to_) (by kernel_rfl) (x_load1 (by kernel_rfl) Tryz.isAgg9 (v9.2.1.cell' 2 rfl)) ?_)
       refine sq (o_pv (.pointer (some ⟨y0, 1, none⟩)) (by kernel_rfl) (by kernel_rfl) ?_)
       refine sq (o_pv (.string o.path) (by kernel_rfl) (x_load1 (by kernel_rfl) Tryz.isAgg9 (v9.2.1.cell' 1 rfl)) ?_)
       refine sq (o_call 80 #[(.map (some z2)), (.string o.to_), (.string o.path)] (by kernel_rfl) (x_call Tryz.call80 (by kernel_rfl)) (simfs_clash_w (X := []) (l := l) (p := o.to_) (but := o.path) (Old.nil _) (OM.rm z7) u0 y4 hp) ?_)
       rintro _ a4 ⟨s3, hp, r8, rfl⟩
       have y3 := Step.of0 v6 r8
       refine sq (o_pv (.bool s3) rfl (by kernel_rfl) ?_)
       refine nil_ ?_
       have m1 := (Evo.then0 v1 r8)
       have r9 := (Old.step v0 y3)
       have k7 := (Sub.trans y5 (Step.up y3))
       have k8 := (News.step y6 y3)
       have k9 := (OM.step0 z7 y3)
       have t1 := (Sl.step z5 y3)
       have m2 := (OB.step0 v9 y3)
       have q0 := (Sl.step t6 y3)
       have m3 := (OB.step0 g5 y3)
       refine then_normal (r1 _ _ _ ⟨[(40, (.bool s3))], fit_mk (fun _ _ => rfl) (by kernel_rfl) (vs_cons (by kernel_rfl) vs_nil), ?_⟩)
       exact ⟨v6, s3, rfl, m1, r9, k7, k8, k9, t1, m2, q0, m3, hp⟩
      ·
       replace hp := hp.2 t0
       refine sq (o_pv (.bool false) rfl (x_bf (by kernel_rfl) t0) ?_)
       refine sq (o_pv (.bool true) rfl (by kernel_rfl) ?_)
       refine sq (o_pv (.bool true) rfl (by kernel_rfl) ?_)
       refine sq (o_not (by kernel_rfl) ?_)
       refine sq (o_not (by kernel_rfl) ?_)
       refine sq (o_not (by kernel_rfl) ?_)
       refine sq (o_not (by kernel_rfl) ?_)
       refine sq (o_not (by kernel_rfl) ?_)
       refine sq (o_not (by kernel_rfl) ?_)
       refine sq (o_pv (.bool true) rfl (by kernel_rfl) ?_)
       refine nil_ ?_
       refine then_normal (r1 _ _ _ ⟨[(40, (.bool true))], fit_mk (fun _ _ => rfl) (by kernel_rfl) (vs_cons (by kernel_rfl) vs_nil), ?_⟩)
       exact ⟨v6, true, rfl, v1, v0, y5, y6, z7, z5, v9, t6, g5, hp⟩
     ·
      rintro _ z8 a5 ⟨z6, u6, rfl, q1, q2, r2, r3, t2, t3, q3, q4, m4, j0⟩
      replace hp := k6 u6 j0
      refine then_normal (l9 _ _ _ _ ?_)
      refine cond_b u6 (by kernel_rfl) (fun s4 => ?_) (fun s4 => ?_)
      ·
       replace hp := hp.1 s4
       refine seq_ (fun _ m5 => ?_)
       refine reg_ ?_
       refine sq (o_pv (.bool false) rfl (by kernel_rfl) ?_)
       refine nil_ ?_
       refine then_normal (m5 _ _ _ _ ?_)
       refine wp_ret ?_
       refine then_ret ?_
       refine blk_ret ?_
       refine then_ret ?_
       refine then_ret ?_
       refine blk_ret ?_
       refine then_ret ?_
       refine then_ret ?_
       refine end_ret hQ (.bool false) (by kernel_rfl) ?_
       exact ⟨l, false, hp, z6, step_of q1 s6 r2 r3, rfl, t2⟩
      ·
       replace hp := hp.2 s4
       refine wp_skip ?_
       refine then_normal (l8 _ _ _ _ ?_)
       refine reg_ ?_
       refine sq (o_pv (.map (some z2)) rfl (by kernel_rfl) ?_)
       refine sq (o_pv (.pointer (some ⟨y0, 2, none⟩)) rfl (by kernel_rfl) ?_)
       refine sq (o_pv (.string o.to_) rfl (x_load1 (by kernel_rfl) Tryz.isAgg9 (q3.2.1.cell' 2 rfl)) ?_)
       refine sq (o_pv (.agg #[(.int .i64 ((mgetD l o.path).mode)), (.int .i64 ((mgetD l o.path).time)), (.int .i64 ((mgetD l o.path).inode)), (.slice z3 (((mgetD l o.path).b).length) z4)]) rfl (x_loadN [(.int .i64 ((mgetD l o.path).mode)), (.int .i64 ((mgetD l o.path).time)), (.int .i64 ((mgetD l o.path).inode)), (.slice z3 (((mgetD l o.path).b).length) z4)] (by kernel_rfl) Tryz.isAgg81 Tryz.sizeOf81 (m4.2.1.cells' 0 rfl)) ?_)
       refine sq (o_mapset (cs := [(.int .i64 ((mgetD l o.path).mode)), (.int .i64 ((mgetD l o.path).time)), (.int .i64 ((mgetD l o.path).inode)), (.slice z3 (((mgetD l o.path).b).length) z4)]) (d := (mgetD l o.path)) rfl t2 Tryz.underlying75 Tryz.underlying9 (by kernel_rfl) (by kernel_rfl) (by kernel_rfl) (r_simfs_file_mk u1 u2 v5 q4 rfl) u0 ?_)
       intro a6 v3 m6
       refine nil_ ?_
       refine blk_normal ?_
       have m7 := (Evo.thenW q1 (Step.evo v3) t2.2.2)
       have q5 := (Old.step q2 v3)
       have j1 := (Sub.trans r2 (Step.up v3))
       have j2 := (News.step r3 v3)
       have t4 := (Sl.step t3 v3)
       have m8 := (OB.step q3 v3 (Ap.symm o7))
       refine then_normal (s9 _ _ _ ⟨[], fit_mk (AgB.nest (AgB.look (fun _ _ => rfl) (by kernel_rfl)) (by kernel_rfl) (by kernel_rfl)) (by kernel_rfl) vs_nil, ?_⟩)
       exact ⟨z6, (mset l o.to_ (mgetD l o.path)), rfl, m7, q5, j1, j2, t4, m8, m6, hp⟩
    ·
     replace hp := hp.2 s2
     refine wp_skip ?_
     refine then_normal (l6 _ _ _ _ ?_)
     refine seq_ (fun _ m9 => ?_)
     refine reg_ ?_
     refine sq (o_pv (.bool (decide (o.kind = (3 : Int)))) rfl (by kernel_rfl) ?_)
     refine sq (o_pv (.bool (decide (o.kind = (3 : Int)))) rfl (by kernel_rfl) ?_)
     refine nil_ ?_
     refine then_normal (m9 _ _ _ _ ?_)
     refine cond_d (o.kind = (3 : Int)) (by kernel_rfl) (fun s5 => ?_) (fun s5 => ?_)
     ·
      replace hp := hp.1 s5
      refine wp_exit ?_
      refine then_exit ?_
      refine blk_exit_ne rfl ?_
      refine then_exit ?_
      refine blk_exit_ne rfl ?_
      refine then_exit ?_
      refine blk_exit ?_
      refine then_normal (s9 _ _ _ ⟨[], fit_mk (fun _ _ => rfl) (by kernel_rfl) vs_nil, ?_⟩)
      exact ⟨v6, l, rfl, v1, v0, y5, y6, z5, v9, z7, hp⟩
     ·
      replace hp := hp.2 s5
      refine wp_skip ?_
      refine then_normal (d4 _ _ _ _ ?_)
      refine wp_exit ?_
      refine blk_exit_ne rfl ?_
      refine then_exit ?_
      refine blk_exit_ne rfl ?_
      refine then_exit ?_
      refine blk_exit_ne rfl ?_
      refine then_exit ?_
      refine then_exit ?_
      refine blk_exit ?_
      refine then_normal (s8 _ _ _ ⟨[], fit_mk (AgB.look (fun _ _ => rfl) (by kernel_rfl)) (by kernel_rfl) vs_nil, ?_⟩)
      exact ⟨v6, l, rfl, v1, v0, y5, y6, z7, hp⟩
  ·
   rintro _ y9 a7 ⟨y1, u5, rfl, n0, q6, j3, j4, j5, n1, q7, j6⟩
   replace hp := k0 u5 j6
   refine then_normal (d0 _ _ _ _ ?_)
   refine seq_ (fun _ n2 => ?_)
   refine reg_ ?_
   refine sq (o_pv (.map (some z2)) rfl (by kernel_rfl) ?_)
   refine sq (o_pv (.pointer (some ⟨y0, 1, none⟩)) rfl (by kernel_rfl) ?_)
   refine sq (o_pv (.string o.path) rfl (x_load1 (by kernel_rfl) Tryz.isAgg9 (n1.2.1.cell' 1 rfl)) ?_)
   refine sq (o_mapdel (k := o.path) rfl q7 Tryz.underlying75 Tryz.underlying9 (by kernel_rfl) (by kernel_rfl) ?_)
   intro a8 t5 n3
   refine nil_ ?_
   refine then_normal (n2 _ _ _ _ ?_)
   refine wp_exit ?_
   refine blk_exit ?_
   have n4 := (Evo.thenW n0 (Step.evo t5) q7.2.2)
   have q8 := (Old.step q6 t5)
   have j7 := (Sub.trans j3 (Step.up t5))
   have j8 := (News.step j4 t5)
   refine then_normal (s8 _ _ _ ⟨[], fit_mk (AgB.nest (AgB.look (fun _ _ => rfl) (by kernel_rfl)) (by kernel_rfl) (by kernel_rfl)) (by kernel_rfl) vs_nil, ?_⟩)
   exact ⟨y1, (mdel u5 o.path), rfl, n4, q8, j7, j8, n3, hp⟩
 ·
  rintro _ u3 a9 ⟨v2, u4, rfl, n5, c6, j9, g0, n6, g1⟩
  replace hp := q9 u4 g1
  refine then_normal (c4 _ _ _ _ ?_)
  refine seq_ (fun _ n7 => ?_)
  refine reg_ ?_
  refine sq (o_pv (.bool (mhas l o.path)) rfl (by kernel_rfl) ?_)
  refine sq (o_pv (.bool (mhas l o.path)) rfl (by kernel_rfl) ?_)
  refine nil_ ?_
  refine then_normal (n7 _ _ _ _ ?_)
  refine wp_ret ?_
  refine end_ret hQ (.bool (mhas l o.path)) (by kernel_rfl) ?_
  exact ⟨u4, (mhas l o.path), hp, v2, step_of n5 s6 j9 g0, rfl, n6⟩
def maps_Clone_map_string_simfs_file_string_simfs_file_p (m : (List (ByteArray × S_simfs_file))) (Q : (List (ByteArray × S_simfs_file)) → (List (ByteArray × S_simfs_file)) → Prop) : Prop :=
 Q m m
set_option maxRecDepth 20000 in
set_option maxHeartbeats 4000000 in
theorem maps_Clone_map_string_simfs_file_string_simfs_file_w {X : List Nat} {w : World} {m : (List (ByteArray × S_simfs_file))} {z0 : Nat} {Q : (List (ByteArray × S_simfs_file)) → (List (ByteArray × S_simfs_file)) → Prop} (z8 : Old X w) (z2 : OM r_simfs_file true ([z0]) w.heap.size X w z0 m) (hp : maps_Clone_map_string_simfs_file_string_simfs_file_p m Q) :
  Calls Tryz.prog 35 #[(.map (some z0))] w (Ret fun v w' => ∃ (z9 : (List (ByteArray × S_simfs_file))) (y0 : (List (ByteArray × S_simfs_file))), Q z9 y0 ∧ ∃ (X' : List Nat) (z1 : Nat), Step X w ([z0]) X' w' ∧ v = (.map (some z1)) ∧ OM r_simfs_file true ([z0]) w.heap.size X' w' z0 z9 ∧ OM r_simfs_file true ([]) w.heap.size X' w' z1 y0 ∧ Ap ([z0]) ([z1])) := by
 have hXo := z8
 have E0 : Evo [z0] w w := RB.refl _ _ _
 have hS : Sub X X := Sub.refl _
 have hN : News X w X w := News.refl _ _
 have y1 : Sub [z0] X := OM.mem z2
 unfold maps_Clone_map_string_simfs_file_string_simfs_file_p at hp
 refine enter_ Tryz.func35 rfl 9 [(0, (.map (some z0)))] (by kernel_rfl) (fun Qe hQ => ?_)
 refine seq_ (fun _ y6 => ?_)
 refine reg_ ?_
 refine sq (o_pv (.map none) rfl (by kernel_rfl) ?_)
 refine nil_ ?_
 refine then_normal (y6 _ _ _ _ ?_)
 refine seq_ (fun _ y7 => ?_)
 refine seq_ (fun _ y8 => ?_)
 refine reg_ ?_
 refine sq (o_pv (.map (some z0)) rfl (by kernel_rfl) ?_)
 refine sq (o_pv (.bool false) rfl (x_mnil_eq (r := z0) Tryz.underlying75 (by kernel_rfl) (by kernel_rfl)) ?_)
 refine nil_ ?_
 refine then_normal (y8 _ _ _ _ ?_)
 refine cond_f (by kernel_rfl) ?_
 refine wp_skip ?_
 refine then_normal (y7 _ _ _ _ ?_)
 refine seq_ (fun _ y9 => ?_)
 refine reg_ ?_
 refine sq (o_pv (.map (some z0)) rfl (by kernel_rfl) ?_)
 refine sq (o_pv (.iface 75 (.map (some z0))) rfl (by kernel_rfl) ?_)
 refine sq (o_mapclone (X := X) (B := w.heap.size) (t := 75) E0.size rfl Tryz.func79 (by kernel_rfl) (by kernel_rfl) (by kernel_rfl) (show _ = some Extern.MapsClone.clone by kernel_rfl) z2 (by kernel_rfl) ?_)
 intro z4 v1 v0 z3 y2 y3
 have y4 := y3 _ (OM.old z2)
 refine sq (o_pv (.map (some z4)) rfl (x_assert_map (v := (.map (some z4))) Tryz.underlying75 (by kernel_rfl)) ?_)
 refine sq (o_pv (.map (some z4)) rfl (by kernel_rfl) ?_)
 refine nil_ ?_
 refine then_normal (y9 _ _ _ _ ?_)
 refine wp_ret ?_
 have z5 := (OM.step0 z2 z3)
 have y5 := (Evo.then0 E0 (Step.evo z3))
 have z6 := (Sub.trans hS (Step.up z3))
 have z7 := (News.step hN z3)
 refine end_ret hQ (.map (some z4)) (by kernel_rfl) ?_
 exact ⟨m, m, hp, v0, z4, step_of y5 y1 z6 z7, rfl, z5, y2, y4⟩
def simfs_FS_Cut_p (f_ : S_simfs_FS) (keep : (List Bool)) (Q : S_simfs_FS → Prop) : Prop :=
 ((keep.length ≤ 9223372036854775807) → (slices_Clone_bool_bool_p keep (fun (z7 : (List Bool)) => ((z7.length ≤ 9223372036854775807) → ((f_.pending.length ≤ 9223372036854775807) → ((inR .i64 f_.quota) → ((inR .i64 f_.now) → ((inR .i64 f_.inodes) → ((inR .i64 f_.ops_) → ((inR .i64 f_.left) → ((f_.keep.length ≤ 9223372036854775807) → (∃ (z2 : Int → (List (ByteArray × S_simfs_file)) → Prop) (z8 : Int → (List (ByteArray × S_simfs_file)) → Nat), (z2 (0 : Int) f_.kept) ∧ (∀ (z0 : Int) (z1 : (List (ByteArray × S_simfs_file))), (z2 z0 z1) → (inR .i64 z0) → (((z0 < (f_.pending.length : Int)) → (∃ z3 : (List (ByteArray × S_simfs_file)) → Prop, (∀ (z4 : (List (ByteArray × S_simfs_file))), z3 z4 → ((inR .i64 (z0 + (1 : Int))) ∧ ((z2 (z0 + (1 : Int)) z4) ∧ z8 (z0 + (1 : Int)) z4 < z8 z0 z1))) ∧ ((inL f_.pending z0) ∧ ((inR .i64 ((lget f_.pending z0).kind)) → ((((lget f_.pending z0).path).size ≤ maxLen) → ((((lget f_.pending z0).to_).size ≤ maxLen) → ((inR .i64 (((lget f_.pending z0).file).mode)) → ((inR .i64 (((lget f_.pending z0).file).time)) → ((inR .i64 (((lget f_.pending z0).file).inode)) → (((((lget f_.pending z0).file).b).length ≤ 9223372036854775807) → (∃ z5 : Bool → Prop, (∀ (z6 : Bool), z5 z6 → (((z6 = true) → (simfs_apply_p z1 (S_simfs_op.mk ((lget f_.pending z0).kind) ((lget f_.pending z0).path) ((lget f_.pending z0).to_) ((lget f_.pending z0).file)) (fun (z9 : (List (ByteArray × S_simfs_file))) (y2 : Bool) => (z3 z9)))) ∧ ((z6 = false) → (z3 z1)))) ∧ (((z0 < (z7.length : Int)) → ((inL z7 z0) ∧ (z5 (lget z7 z0)))) ∧ ((¬ (z0 < (z7.length : Int))) → (z5 false)))))))))))))) ∧ ((¬ (z0 < (f_.pending.length : Int))) → (maps_Clone_map_string_simfs_file_string_simfs_file_p z1 (fun (y0 : (List (ByteArray × S_simfs_file))) (y1 : (List (ByteArray × S_simfs_file))) => Q (S_simfs_FS.mk y0 y1 ([] : List S_simfs_op) f_.quota f_.now f_.inodes f_.ops_ true false f_.left ([] : List Bool)))))))))))))))))))
set_option maxRecDepth 20000 in
set_option maxHeartbeats 4000000 in
theorem simfs_FS_Cut_w {X : List Nat} {w : World} {f_ : S_simfs_FS} {keep : (List Bool)} {z2 : Nat} {z5 : List Nat} {v6 : Option Addr} {v7 : Nat} {Q : S_simfs_FS → Prop} (p5 : Old X w) (k9 : MO o_simfs_FS 78 z5 w.heap.size X w z5 z2 f_) (q7 : Sl rBool X w v6 v7 keep) (hp : simfs_FS_Cut_p f_ keep Q) :
  Calls Tryz.prog 11 #[(.pointer (some ⟨z2, 0, none⟩)), (.slice v6 keep.length v7)] w (Ret fun v w' => ∃ (p6 : S_simfs_FS), Q p6 ∧ ∃ (X' : List Nat) (p7 : List Nat), Step X w z5 X' w' ∧ v = .tuple #[] ∧ MO o_simfs_FS 78 z5 w.heap.size X' w' p7 z2 p6) := by
 have hXo := p5
 have E0 : Evo z5 w w := RB.refl _ _ _
 have hS : Sub X X := Sub.refl _
 have hN : News X w X w := News.refl _ _
 have p8 : Sub z5 X := MO.mem k9
 unfold simfs_FS_Cut_p at hp
 refine enter_ Tryz.func11 rfl 55 [(0, (.pointer (some ⟨z2, 0, none⟩))), (1, (.slice v6 keep.length v7))] (by kernel_rfl) (fun Qe hQ => ?_)
 replace hp := hp (Sl.len q7)
 refine seq_ (fun _ V2 => ?_)
 refine reg_ ?_
 refine sq (o_pv (.slice v6 keep.length v7) rfl (by kernel_rfl) ?_)
 refine sq (o_call 37 #[(.slice v6 keep.length v7)] rfl (x_call Tryz.call37 (by kernel_rfl)) (slices_Clone_bool_bool_w (X := X) (s := keep) hXo (Sl.sq q7) hp) ?_)
 rintro _ T0 ⟨v5, hp, p9, r4, s1, rfl, Z0⟩
 obtain ⟨Z1, q8, a8, Z2⟩ := OS.own_in Z0 p9 E0.size
 have Z3 := Z2 _ (MO.old k9)
 replace hp := hp (OS.len a8)
 refine sq (o_pv (.slice r4 v5.length s1) rfl (by kernel_rfl) ?_)
 refine nil_ ?_
 refine then_normal (V2 _ _ _ _ ?_)
 refine seq_ (fun _ Z4 => ?_)
 refine seq_ (fun _ Z5 => ?_)
 refine reg_ ?_
 refine sq (o_pv (.pointer (some ⟨z2, 0, none⟩)) rfl (by kernel_rfl) ?_)
 refine sq (o_pv (.pointer (some ⟨z2, 0, none⟩)) rfl (by kernel_rfl) ?_)
 have m9 := (MO.step0 k9 q8)
 obtain ⟨z1, y0, v8, y6, v1, z6, z7, a9, j0, q9, j1, t4, r5, u2, s2, s3, s4, V3, e0, V4, V5, d3, U7, U8, Z6, Z7, U9⟩ := o_simfs_FS_open m9
 have Z8 := Ap.subr (Ap.symm Z3) e0
 replace hp := hp (OS.len j1)
 replace hp := hp t4
 replace hp := hp r5
 replace hp := hp u2
 replace hp := hp s2
 replace hp := hp s3
 replace hp := hp (Sl.len s4)
 refine sq (o_pv (.pointer (some ⟨z2, 2, none⟩)) rfl (by kernel_rfl) ?_)
 refine sq (o_pv (.slice v8 y6 v1) rfl (x_load1 (by kernel_rfl) Tryz.isAgg76 (a9.2.1.cell' 2 rfl)) ?_)
 refine sq (o_pv (.int .i64 (f_.pending.length : Int)) rfl (by rw [← show y6 = f_.pending.length from j1.1]; kernel_rfl) ?_)
 refine sq (o_pv (.int .i64 (0 : Int)) rfl (by kernel_rfl) ?_)
 refine nil_ ?_
 refine then_normal (Z5 _ _ _ _ ?_)
 refine wp_block ?_
 have d4 := (Old.step hXo q8)
 have e1 := (Evo.then0 E0 (Step.evo q8))
 have n0 := (Sub.trans hS (Step.up q8))
 have n1 := (News.step hN q8)
 obtain ⟨e2, d5, n2, hp⟩ := hp
 refine loop_ 34359730224 (fun kq lq y7 => ∃ (y1 : List Nat) (z0 : Int) (v2 : (List (ByteArray × S_simfs_file))), (lq = [(13, (.int .i64 z0))]) ∧ (kq = d5 z0 v2) ∧ (Evo z5 w y7) ∧ (Old y1 y7) ∧ (Sub X y1) ∧ (News X w y1 y7) ∧ (OS rBool ([]) w.heap.size y1 y7 4 r4 v5.length s1 v5) ∧ (OS r_simfs_op z5 w.heap.size y1 y7 84 v8 y6 v1 f_.pending) ∧ (OM r_simfs_file true z5 w.heap.size y1 y7 y0 f_.files) ∧ (Sl rBool y1 y7 z6 z7 f_.keep) ∧ (OM r_simfs_file true z5 w.heap.size y1 y7 z1 v2) ∧ (OB z5 w.heap.size y1 y7 z2 [(.map (some z1)), (.map (some y0)), (.slice v8 y6 v1), (.int .i64 f_.quota), (.int .i64 f_.now), (.int .i64 f_.inodes), (.int .i64 f_.ops_), (.bool f_.off), (.bool f_.armed), (.int .i64 f_.left), (.slice z6 f_.keep.length z7)] 78) ∧ (inR .i64 z0) ∧ (e2 z0 v2)) (d5 (0 : Int) f_.kept) [(13, (.int .i64 (0 : Int)))] (vs_cons (by kernel_rfl) vs_nil) ⟨Z1, (0 : Int), f_.kept, rfl, rfl, e1, d4, n0, n1, a8, j1, q9, s4, j0, a9, (by decide : inR .i64 (0 : Int)), n2⟩ ?_
 rintro _ _ y7 V6 ⟨y1, z0, v2, rfl, rfl, s5, k0, g0, g1, d6, t9, u3, k1, s6, t2, n3, n4⟩ Y0 n5
 replace hp := hp z0 v2 n4 n3
 refine seq_ (fun _ e3 => ?_)
 refine reg_ ?_
 refine sq (o_pv (.bool (decide (z0 < (f_.pending.length : Int)))) rfl (by kernel_rfl) ?_)
 refine nil_ ?_
 refine then_normal (e3 _ _ _ _ ?_)
 refine seq_ (fun _ e4 => ?_)
 refine cond_d (z0 < (f_.pending.length : Int)) (by kernel_rfl) (fun j2 => ?_) (fun j2 => ?_)
 ·
  replace hp := hp.1 j2
  refine wp_skip ?_
  refine then_normal (e4 _ _ _ _ ?_)
  refine seq_ (fun _ e5 => ?_)
  obtain ⟨e6, n6, hp⟩ := hp
  refine ground_ ?_
  refine join_ 17179836464 (fun lq y8 => ∃ (y3 : List Nat) (s7 : (List (ByteArray × S_simfs_file))), (lq = []) ∧ (Evo z5 w y8) ∧ (Old y3 y8) ∧ (Sub X y3) ∧ (News X w y3 y8) ∧ (OS rBool ([]) w.heap.size y3 y8 4 r4 v5.length s1 v5) ∧ (OS r_simfs_op z5 w.heap.size y3 y8 84 v8 y6 v1 f_.pending) ∧ (OM r_simfs_file true z5 w.heap.size y3 y8 y0 f_.files) ∧ (Sl rBool y3 y8 z6 z7 f_.keep) ∧ (OM r_simfs_file true z5 w.heap.size y3 y8 z1 s7) ∧ (OB z5 w.heap.size y3 y8 z2 [(.map (some z1)), (.map (some y0)), (.slice v8 y6 v1), (.int .i64 f_.quota), (.int .i64 f_.now), (.int .i64 f_.inodes), (.int .i64 f_.ops_), (.bool f_.off), (.bool f_.armed), (.int .i64 f_.left), (.slice z6 f_.keep.length z7)] 78) ∧ (e6 s7)) (fun Y1 g2 => ?_) ?_
  ·
   refine wp_block ?_
   refine seq_ (fun _ e7 => ?_)
   refine reg_ ?_
   refine sq (o_pv (.int .i64 z0) rfl (by kernel_rfl) ?_)
   obtain ⟨j3, hp⟩ := hp
   obtain ⟨e8, e9, Y2, n7, Y3, Y4, n8, n9⟩ := OS.atX t9 z0 j3
   obtain ⟨z3, z4, rfl, t5, t6, s8, v3, v4, v0, u4⟩ := r_simfs_op_open n8
   replace hp := hp t5
   replace hp := hp t6
   replace hp := hp s8
   replace hp := hp v3
   replace hp := hp v4
   replace hp := hp v0
   replace hp := hp (Sl.len u4)
   refine sq (o_pv (.pointer (some ⟨e8, e9 + z0.toNat * 7, none⟩)) rfl (x_ixA (m := y6) (c := v1) (k := .i64) (i := z0) Tryz.underlying76 Tryz.sizeOf84 (by rw [← n7]; kernel_rfl) (by kernel_rfl) ⟨j3.1, by rw [t9.1]; exact j3.2⟩) ?_)
   refine sq (o_pv (.agg #[(.int .i64 ((lget f_.pending z0).kind)), (.string ((lget f_.pending z0).path)), (.string ((lget f_.pending z0).to_)), (.int .i64 (((lget f_.pending z0).file).mode)), (.int .i64 (((lget f_.pending z0).file).time)), (.int .i64 (((lget f_.pending z0).file).inode)), (.slice z3 ((((lget f_.pending z0).file).b).length) z4)]) rfl (x_loadN [(.int .i64 ((lget f_.pending z0).kind)), (.string ((lget f_.pending z0).path)), (.string ((lget f_.pending z0).to_)), (.int .i64 (((lget f_.pending z0).file).mode)), (.int .i64 (((lget f_.pending z0).file).time)), (.int .i64 (((lget f_.pending z0).file).inode)), (.slice z3 ((((lget f_.pending z0).file).b).length) z4)] (by kernel_rfl) Tryz.isAgg84 Tryz.sizeOf84 n9) ?_)
   refine sq (o_newX [(.int .i64 (0 : Int)), (.string (ByteArray.mk #[])), (.string (ByteArray.mk #[])), (.int .i64 (0 : Int)), (.int .i64 (0 : Int)), (.int .i64 (0 : Int)), (.slice none 0 0)] 84 (X := y1) (B := w.heap.size) s5.size rfl (by kernel_rfl) ?_)
   intro i0 V7 d7 y4 d8 s9
   have i1 := s9 _ (OS.old d6)
   have i2 := s9 _ (OS.old t9)
   have i3 := s9 _ (OM.old u3)
   have d9 := s9 _ (OM.old s6)
   have i4 := s9 _ (OB.old t2)
   refine sq (o_pv (.int .i64 z0) rfl (by kernel_rfl) ?_)
   have i5 := (OS.step0 d6 y4)
   have o0 := (OS.step0 t9 y4)
   have r6 := (OM.step0 u3 y4)
   have i6 := (OM.step0 s6 y4)
   have i7 := (OB.step0 t2 y4)
   have i9 := (Evo.then0 s5 (Step.evo y4))
   refine sq (o_stB (o := 0) (v := (.agg #[(.int .i64 ((lget f_.pending z0).kind)), (.string ((lget f_.pending z0).path)), (.string ((lget f_.pending z0).to_)), (.int .i64 (((lget f_.pending z0).file).mode)), (.int .i64 (((lget f_.pending z0).file).time)), (.int .i64 (((lget f_.pending z0).file).inode)), (.slice z3 ((((lget f_.pending z0).file).b).length) z4)])) [(.int .i64 ((lget f_.pending z0).kind)), (.string ((lget f_.pending z0).path)), (.string ((lget f_.pending z0).to_)), (.int .i64 (((lget f_.pending z0).file).mode)), (.int .i64 (((lget f_.pending z0).file).time)), (.int .i64 (((lget f_.pending z0).file).inode)), (.slice z3 ((((lget f_.pending z0).file).b).length) z4)] rfl d8 (by kernel_rfl) (by kernel_rfl) Tryz.sizeOf84 rfl rfl rfl ?_)
   intro V8 y5 l0
   refine nil_ ?_
   refine then_normal (e7 _ _ _ _ ?_)
   refine seq_ (fun _ h0 => ?_)
   have l1 := (Evo.thenW i9 (Step.evo y5) (Wr.of d8.2.2))
   have k2 := (Old.step (Old.step k0 y4) y5)
   have g3 := (Sub.trans (Sub.trans g0 (Step.up y4)) (Step.up y5))
   have g4 := (News.step (News.step g1 y4) y5)
   have r7 := (OS.step i5 y5 i1)
   have g5 := (OS.step o0 y5 i2)
   have u5 := (OM.step r6 y5 i3)
   have t7 := (Sl.step (Sl.step k1 y4) y5)
   have l2 := (OM.step i6 y5 d9)
   have l3 := (OB.step i7 y5 i4)
   have u6 := (Sl.step (Sl.step u4 y4) y5)
   obtain ⟨h1, o3, hp⟩ := hp
   refine ground_ ?_
   refine join_ 268173312 (fun lq z8 => ∃ (z9 : List Nat) (r0 : Bool), (lq = [(27, (.bool r0))]) ∧ (Evo z5 w z8) ∧ (Old z9 z8) ∧ (Sub X z9) ∧ (News X w z9 z8) ∧ (OS rBool ([]) w.heap.size z9 z8 4 r4 v5.length s1 v5) ∧ (OS r_simfs_op z5 w.heap.size z9 z8 84 v8 y6 v1 f_.pending) ∧ (OM r_simfs_file true z5 w.heap.size z9 z8 z1 v2) ∧ (OM r_simfs_file true z5 w.heap.size z9 z8 y0 f_.files) ∧ (Sl rBool z9 z8 z6 z7 f_.keep) ∧ (OB z5 w.heap.size z9 z8 z2 [(.map (some z1)), (.map (some y0)), (.slice v8 y6 v1), (.int .i64 f_.quota), (.int .i64 f_.now), (.int .i64 f_.inodes), (.int .i64 f_.ops_), (.bool f_.off), (.bool f_.armed), (.int .i64 f_.left), (.slice z6 f_.keep.length z7)] 78) ∧ (Sl (rInt .u8) z9 z8 z3 z4 (((lget f_.pending z0).file).b)) ∧ (OB ([]) w.heap.size z9 z8 i0 [(.int .i64 ((lget f_.pending z0).kind)), (.string ((lget f_.pending z0).path)), (.string ((lget f_.pending z0).to_)), (.int .i64 (((lget f_.pending z0).file).mode)), (.int .i64 (((lget f_.pending z0).file).time)), (.int .i64 (((lget f_.pending z0).file).inode)), (.slice z3 ((((lget f_.pending z0).file).b).length) z4)] 84) ∧ (h1 r0)) (fun Y5 g6 => ?_) ?_
   ·
    refine reg_ ?_
    refine sq (o_pv (.int .i64 z0) rfl (by kernel_rfl) ?_)
    refine sq (o_pv (.slice r4 v5.length s1) rfl (by kernel_rfl) ?_)
    refine sq (o_pv (.int .i64 (v5.length : Int)) rfl (by kernel_rfl) ?_)
    by_cases r8 : z0 < (v5.length : Int)
    ·
     replace hp := hp.1 r8
     refine sq (o_pv (.bool true) rfl (x_dt (p := z0 < (v5.length : Int)) (by kernel_rfl) r8) ?_)
     refine sq (o_pv (.bool true) rfl (by kernel_rfl) ?_)
     refine sq (o_pv (.slice r4 v5.length s1) (by kernel_rfl) (by kernel_rfl) ?_)
     refine sq (o_pv (.int .i64 z0) (by kernel_rfl) (by kernel_rfl) ?_)
     obtain ⟨j4, hp⟩ := hp
     obtain ⟨h2, h3, Y6, o4, Y7, Y8, o5, o6⟩ := Sl.atI (OS.rd r7) z0 j4
     obtain rfl := o5
     refine sq (o_pv (.pointer (some ⟨h2, h3 + z0.toNat * 1, none⟩)) (by kernel_rfl) (x_ixA (m := v5.length) (c := s1) (k := .i64) (i := z0) Tryz.underlying29 Tryz.sizeOf4 (by rw [← o4]; kernel_rfl) (by kernel_rfl) ⟨j4.1, by rw [r7.1]; exact j4.2⟩) ?_)
     refine sq (o_pv (.bool (lget v5 z0)) (by kernel_rfl) (x_load1 (by kernel_rfl) Tryz.isAgg4 (o6 0 _ rfl)) ?_)
     refine sq (o_pv (.bool (lget v5 z0)) rfl (by kernel_rfl) ?_)
     refine nil_ ?_
     refine then_normal (g6 _ _ _ ⟨[(27, (.bool (lget v5 z0)))], fit_mk (fun _ _ => rfl) (by kernel_rfl) (vs_cons (by kernel_rfl) vs_nil), ?_⟩)
     exact ⟨d7, (lget v5 z0), rfl, l1, k2, g3, g4, r7, g5, l2, u5, t7, l3, u6, l0, hp⟩
    ·
     replace hp := hp.2 r8
     refine sq (o_pv (.bool false) rfl (x_df (p := z0 < (v5.length : Int)) (by kernel_rfl) r8) ?_)
     refine sq (o_pv (.bool false) rfl (by kernel_rfl) ?_)
     refine sq (o_not (by kernel_rfl) ?_)
     refine sq (o_not (by kernel_rfl) ?_)
     refine sq (o_not (by kernel_rfl) ?_)
     refine sq (o_not (by kernel_rfl) ?_)
     refine sq (o_pv (.bool false) rfl (by kernel_rfl) ?_)
     refine nil_ ?_
     refine then_normal (g6 _ _ _ ⟨[(27, (.bool false))], fit_mk (fun _ _ => rfl) (by kernel_rfl) (vs_cons (by kernel_rfl) vs_nil), ?_⟩)
     exact ⟨d7, false, rfl, l1, k2, g3, g4, r7, g5, l2, u5, t7, l3, u6, l0, hp⟩
   ·
    rintro _ z8 V9 ⟨z9, r0, rfl, l4, k3, g7, g8, l5, g9, j5, u7, t8, l6, r9, h4, o7⟩
    replace hp := o3 r0 o7
    refine then_normal (h0 _ _ _ _ ?_)
    refine cond_b r0 (by kernel_rfl) (fun j6 => ?_) (fun j6 => ?_)
    ·
     replace hp := hp.1 j6
     have k4 : Sub [z1] z9 := (OM.mem j5)
     refine reg_drawn (RB z8.heap.size [z1]) 6 (by kernel_rfl) (fun l7 q0 => ?_)
     have h5 := Evo.of_drew q0
     have q1 : l7.heap.size = z8.heap.size := by rw [q0]
     clear q0
     have y2 := Step.of0 z9 h5
     have s0 := RB.refl z8.heap.size [z1] l7
     have l8 := (Evo.then0 l4 (Step.evo y2))
     have k5 := (Old.step k3 y2)
     have o8 := (Sub.trans g7 (Step.up y2))
     have o9 := (News.step g8 y2)
     have l9 := (OS.step0 l5 y2)
     have d0 := (OS.step0 g9 y2)
     have j7 := (OM.step0 j5 y2)
     have u9 := (OM.step0 u7 y2)
     have k6 := (Sl.step t8 y2)
     have j8 := (OB.step0 l6 y2)
     have q2 := (Sl.step r9 y2)
     have h6 := (OB.step0 h4 y2)
     refine r_take 0 (.pointer (some ⟨z2, 0, none⟩)) (RB.pre _ _) rfl (by kernel_rfl) (fun _ _ _ h => hQ.panic _ _ _ _ _ h) (.inl ⟨rfl, fun wq hq => (by kernel_rfl)⟩) ?_
     refine r_take 1 (.pointer (some ⟨z2, 0, none⟩)) (RB.pre _ _) rfl (by kernel_rfl) (fun _ _ _ h => hQ.panic _ _ _ _ _ h) (.inl ⟨rfl, fun wq hq => (by kernel_rfl)⟩) ?_
     refine r_take 2 (.pointer (some ⟨z2, 0, none⟩)) (RB.pre _ _) rfl (by kernel_rfl) (fun _ _ _ h => hQ.panic _ _ _ _ _ h) (.inl ⟨rfl, fun wq hq => (by kernel_rfl)⟩) ?_
     refine r_take 3 (.map (some z1)) (RB.pre _ _) rfl (by kernel_rfl) (fun _ _ _ h => hQ.panic _ _ _ _ _ h) (.inl ⟨rfl, fun wq hq => (x_load1 (by kernel_rfl) Tryz.isAgg75 ((OB.step j8 (stepR (RB.trans s0 hq) q1 k4) d3).2.1.cell' 0 rfl))⟩) ?_
     refine r_take 4 (.agg #[(.int .i64 ((lget f_.pending z0).kind)), (.string ((lget f_.pending z0).path)), (.string ((lget f_.pending z0).to_)), (.int .i64 (((lget f_.pending z0).file).mode)), (.int .i64 (((lget f_.pending z0).file).time)), (.int .i64 (((lget f_.pending z0).file).inode)), (.slice z3 ((((lget f_.pending z0).file).b).length) z4)]) (RB.pre _ _) rfl (by kernel_rfl) (fun _ _ _ h => hQ.panic _ _ _ _ _ h) (.inl ⟨rfl, fun wq hq => (x_loadN [(.int .i64 ((lget f_.pending z0).kind)), (.string ((lget f_.pending z0).path)), (.string ((lget f_.pending z0).to_)), (.int .i64 (((lget f_.pending z0).file).mode)), (.int .i64 (((lget f_.pending z0).file).time)), (.int .i64 (((lget f_.pending z0).file).inode)), (.slice z3 ((((lget f_.pending z0).file).b).length) z4)] (by kernel_rfl) Tryz.isAgg84 Tryz.sizeOf84 ((OB.step h6 (stepR (RB.trans s0 hq) q1 k4) (Ap.symm d9)).2.1.cells' 0 rfl))⟩) ?_
     refine r_ready [5] (by kernel_rfl) rfl (all_cons ⟨_, _, _, _, _, _, rfl, ?_⟩ all_nil)
     refine o_call 38 #[(.map (some z1)), (.agg #[(.int .i64 ((lget f_.pending z0).kind)), (.string ((lget f_.pending z0).path)), (.string ((lget f_.pending z0).to_)), (.int .i64 (((lget f_.pending z0).file).mode)), (.int .i64 (((lget f_.pending z0).file).time)), (.int .i64 (((lget f_.pending z0).file).inode)), (.slice z3 (((lget f_.pending z0).file).b).length z4)])] rfl (x_call Tryz.call38 (by rw []; kernel_rfl)) (simfs_apply_w (X := z9) (l := v2) (o := (S_simfs_op.mk ((lget f_.pending z0).kind) ((lget f_.pending z0).path) ((lget f_.pending z0).to_) ((lget f_.pending z0).file))) k5 (OM.re j7 (Wr.self _ _ (Sub.refl _))) t5 t6 s8 v3 v4 v0 q2 hp) ?_
     rintro _ U0 ⟨h7, U1, hp, h8, y9, rfl, u0⟩
     have rm := RB.mono (F' := [z1]) (Step.evo y9) (Nat.le_trans (Nat.le_of_eq q1.symm) (RB.size s0)) (Wr.self _ _ (Sub.refl _))
     refine ⟨fun _ => rm, ?_⟩
     have Y9 : Wr [z1] z8.heap.size [z1] := Wr.trans u0.wr (Wr.self _ _ (Sub.refl _)) (Nat.le_trans (Nat.le_of_eq q1.symm) (RB.size s0))
     have h9 := OM.re u0 (Wr.trans u0.wr j7.wr l8.size)
     have b0 := Ap.grow u0.wr Z8 (OS.old l9) (Nat.le_refl _)
     have b1 := Ap.grow u0.wr (Ap.symm Z7) (OS.old d0) (Nat.le_refl _)
     have b2 := Ap.grow u0.wr (Ap.symm Z6) (OM.old u9) (Nat.le_refl _)
     have b3 := Ap.grow u0.wr d3 (OB.old j8) (Nat.le_refl _)
     refine r_done (by kernel_rfl) ?_
     refine blk_normal ?_
     have b4 := (Evo.thenW l8 (Step.evo y9) j7.wr)
     have m0 := (Old.step k5 y9)
     have c0 := (Sub.trans o8 (Step.up y9))
     have c1 := (News.step o9 y9)
     have b5 := (OS.step l9 y9 b0)
     have c2 := (OS.step d0 y9 b1)
     have q3 := (OM.step u9 y9 b2)
     have k7 := (Sl.step k6 y9)
     have b6 := (OB.step j8 y9 b3)
     refine then_normal (g2 _ _ _ ⟨[], fit_mk (AgB.nest (AgB.look (fun _ _ => rfl) (by kernel_rfl)) (by kernel_rfl) (by kernel_rfl)) (by kernel_rfl) vs_nil, ?_⟩)
     exact ⟨h8, h7, rfl, b4, m0, c0, c1, b5, c2, q3, k7, h9, b6, hp⟩
    ·
     replace hp := hp.2 j6
     refine wp_skip ?_
     refine blk_normal ?_
     refine then_normal (g2 _ _ _ ⟨[], fit_mk (AgB.nest (AgB.look (fun _ _ => rfl) (by kernel_rfl)) (by kernel_rfl) (by kernel_rfl)) (by kernel_rfl) vs_nil, ?_⟩)
     exact ⟨z9, v2, rfl, l4, k3, g7, g8, l5, g9, u7, t8, j5, l6, hp⟩
  ·
   rintro _ y8 U2 ⟨y3, s7, rfl, b7, m1, c3, c4, b8, c5, q4, k8, b9, f0, c6⟩
   replace hp := n6 s7 c6
   refine then_normal (e5 _ _ _ _ ?_)
   refine reg_ ?_
   obtain ⟨m2, hp⟩ := hp
   refine sq (o_pv (.int .i64 (z0 + (1 : Int))) rfl (x_add2 (k := .i64) (a := z0) (b := (1 : Int)) (z0 + (1 : Int)) (by kernel_rfl) (by kernel_rfl) (wrap_inR m2)) ?_)
   refine sq (o_pv (.int .i64 (z0 + (1 : Int))) rfl (by kernel_rfl) ?_)
   refine nil_ ?_
   refine then_normal (n5 _ _ _ ⟨_, [(13, (.int .i64 (z0 + (1 : Int))))], hp.2, fit_mk (AgB.nest (AgB.look (AgB.mix _ _ _) (by kernel_rfl)) (by kernel_rfl) (by kernel_rfl)) (by kernel_rfl) (vs_cons (by kernel_rfl) vs_nil), ?_⟩)
   exact ⟨y3, (z0 + (1 : Int)), s7, rfl, rfl, b7, m1, c3, c4, b8, c5, q4, k8, b9, f0, m2, hp.1⟩
 ·
  replace hp := hp.2 j2
  refine wp_exit ?_
  refine then_exit ?_
  refine then_exit ?_
  refine blk_exit ?_
  refine then_normal (Z4 _ _ _ _ ?_)
  refine seq_ (fun _ f1 => ?_)
  refine reg_ ?_
  refine sq (o_pv (.pointer (some ⟨z2, 0, none⟩)) rfl (by kernel_rfl) ?_)
  refine sq (o_pv (.pointer (some ⟨z2, 0, none⟩)) rfl (by kernel_rfl) ?_)
  refine sq (o_pv (.pointer (some ⟨z2, 0, none⟩)) rfl (by kernel_rfl) ?_)
  refine sq (o_pv (.pointer (some ⟨z2, 0, none⟩)) rfl (by kernel_rfl) ?_)
  refine sq (o_pv (.pointer (some ⟨z2, 0, none⟩)) rfl (by kernel_rfl) ?_)
  refine sq (o_pv (.map (some z1)) rfl (x_load1 (by kernel_rfl) Tryz.isAgg75 (t2.2.1.cell' 0 rfl)) ?_)
  refine sq (o_call 35 #[(.map (some z1))] rfl (x_call Tryz.call35 (by kernel_rfl)) (maps_Clone_map_string_simfs_file_string_simfs_file_w (X := y1) (m := v2) k0 (OM.re s6 (Wr.self _ _ (Sub.refl _))) hp) ?_)
  rintro _ U3 ⟨f2, f3, hp, f4, v9, q5, rfl, j9, q6, f5⟩
  have f6 := OM.re j9 (Wr.trans j9.wr s6.wr s5.size)
  have u1 := Ap.grow j9.wr d3 (OB.old t2) (Nat.le_refl _)
  have f7 := OM.re q6 (Wr.trans q6.wr (Wr.nil [] _) s5.size)
  have t3 := Ap.grow q6.wr (Ap.nil_r _) (OB.old t2) (Nat.le_refl _)
  refine sq (o_pv (.pointer (some ⟨z2, 0, none⟩)) rfl (by kernel_rfl) ?_)
  refine sq (o_pv (.pointer (some ⟨z2, 1, none⟩)) rfl (by kernel_rfl) ?_)
  have m3 := (OB.step t2 q5 u1)
  have f8 := (Evo.thenW s5 (Step.evo q5) s6.wr)
  refine sq (o_stB (o := 1) (v := (.map (some v9))) [(.map (some z1)), (.map (some v9)), (.slice v8 y6 v1), (.int .i64 f_.quota), (.int .i64 f_.now), (.int .i64 f_.inodes), (.int .i64 f_.ops_), (.bool f_.off), (.bool f_.armed), (.int .i64 f_.left), (.slice z6 f_.keep.length z7)] rfl m3 (by kernel_rfl) (by kernel_rfl) Tryz.sizeOf75 rfl rfl rfl ?_)
  intro U4 r1 m4
  refine sq (o_pv (.pointer (some ⟨z2, 0, none⟩)) rfl (by kernel_rfl) ?_)
  refine sq (o_pv (.pointer (some ⟨z2, 2, none⟩)) rfl (by kernel_rfl) ?_)
  have f9 := (OM.step f6 r1 (Ap.symm u1))
  have p0 := (OM.step f7 r1 (Ap.symm t3))
  have p1 := (Evo.thenW f8 (Step.evo r1) m3.2.2)
  refine sq (o_stB (o := 2) (v := (.slice none 0 0)) [(.map (some z1)), (.map (some v9)), (.slice none 0 0), (.int .i64 f_.quota), (.int .i64 f_.now), (.int .i64 f_.inodes), (.int .i64 f_.ops_), (.bool f_.off), (.bool f_.armed), (.int .i64 f_.left), (.slice z6 f_.keep.length z7)] rfl m4 (by kernel_rfl) (by kernel_rfl) Tryz.sizeOf76 rfl rfl rfl ?_)
  intro U5 r2 m5
  refine nil_ ?_
  refine then_normal (f1 _ _ _ _ ?_)
  refine reg_ ?_
  refine sq (o_pv (.pointer (some ⟨z2, 0, none⟩)) rfl (by kernel_rfl) ?_)
  refine sq (o_pv (.pointer (some ⟨z2, 0, none⟩)) rfl (by kernel_rfl) ?_)
  refine sq (o_pv (.pointer (some ⟨z2, 0, none⟩)) rfl (by kernel_rfl) ?_)
  refine sq (o_pv (.pointer (some ⟨z2, 0, none⟩)) rfl (by kernel_rfl) ?_)
  refine sq (o_pv (.pointer (some ⟨z2, 7, none⟩)) rfl (by kernel_rfl) ?_)
  have p2 := (OM.step f9 r2 (Ap.symm u1))
  have p3 := (OM.step p0 r2 (Ap.symm t3))
  have p4 := (Evo.thenW p1 (Step.evo r2) m4.2.2)
  refine sq (o_stB (o := 7) (v := (.bool true)) [(.map (some z1)), (.map (some v9)), (.slice none 0 0), (.int .i64 f_.quota), (.int .i64 f_.now), (.int .i64 f_.inodes), (.int .i64 f_.ops_), (.bool true), (.bool f_.armed), (.int .i64 f_.left), (.slice z6 f_.keep.length z7)] rfl m5 (by kernel_rfl) (by kernel_rfl) Tryz.sizeOf4 rfl rfl rfl ?_)
  intro U6 r3 m6
  refine sq (o_pv (.pointer (some ⟨z2, 0, none⟩)) rfl (by kernel_rfl) ?_)
  refine sq (o_pv (.pointer (some ⟨z2, 8, none⟩)) rfl (by kernel_rfl) ?_)
  have c7 := (OM.step p2 r3 (Ap.symm u1))
  have c8 := (OM.step p3 r3 (Ap.symm t3))
  have c9 := (Evo.thenW p4 (Step.evo r3) m5.2.2)
  refine sq (o_stB (o := 8) (v := (.bool false)) [(.map (some z1)), (.map (some v9)), (.slice none 0 0), (.int .i64 f_.quota), (.int .i64 f_.now), (.int .i64 f_.inodes), (.int .i64 f_.ops_), (.bool true), (.bool false), (.int .i64 f_.left), (.slice z6 f_.keep.length z7)] rfl m6 (by kernel_rfl) (by kernel_rfl) Tryz.sizeOf4 rfl rfl rfl ?_)
  intro V0 t0 d1
  refine sq (o_pv (.pointer (some ⟨z2, 0, none⟩)) rfl (by kernel_rfl) ?_)
  refine sq (o_pv (.pointer (some ⟨z2, 10, none⟩)) rfl (by kernel_rfl) ?_)
  have a0 := (OM.step c7 t0 (Ap.symm u1))
  have a1 := (OM.step c8 t0 (Ap.symm t3))
  have a2 := (Evo.thenW c9 (Step.evo t0) m6.2.2)
  refine sq (o_stB (o := 10) (v := (.slice none 0 0)) [(.map (some z1)), (.map (some v9)), (.slice none 0 0), (.int .i64 f_.quota), (.int .i64 f_.now), (.int .i64 f_.inodes), (.int .i64 f_.ops_), (.bool true), (.bool false), (.int .i64 f_.left), (.slice none 0 0)] rfl d1 (by kernel_rfl) (by kernel_rfl) Tryz.sizeOf29 rfl rfl rfl ?_)
  intro V1 t1 a3
  refine nil_ ?_
  have a4 := (Evo.thenW a2 (Step.evo t1) d1.2.2)
  have m7 := (Sub.trans (Sub.trans (Sub.trans (Sub.trans (Sub.trans (Sub.trans g0 (Step.up q5)) (Step.up r1)) (Step.up r2)) (Step.up r3)) (Step.up t0)) (Step.up t1))
  have m8 := (News.step (News.step (News.step (News.step (News.step (News.step g1 q5) r1) r2) r3) t0) t1)
  have a5 := (OM.step a0 t1 (Ap.symm u1))
  have d2 := (OM.step a1 t1 (Ap.symm t3))
  obtain ⟨a6, a7, Z9⟩ := MO.pack (o_simfs_FS_mk a3 a5 (OM.re d2 (Wr.of d2.wr)) (OS.nil2 _ _ _ _ _) t4 r5 u2 s2 s3 (Sl.nil) rfl u1 t3 (Ap.nil_r _) f5 (Ap.nil_r _) (Ap.nil_r _))
  refine end_normal hQ (.tuple #[]) (by kernel_rfl) ?_
  exact ⟨(S_simfs_FS.mk f2 f3 ([] : List S_simfs_op) f_.quota f_.now f_.inodes f_.ops_ true false f_.left ([] : List Bool)), hp, f4, a6, step_of a4 p8 m7 m8, rfl, a7⟩
def simfs_FS_trips_p (f_ : S_simfs_FS) (Q : S_simfs_FS → Bool → Prop) : Prop :=
 ((f_.pending.length ≤ 9223372036854775807) → ((inR .i64 f_.quota) → ((inR .i64 f_.now) → ((inR .i64 f_.inodes) → ((inR .i64 f_.ops_) → ((inR .i64 f_.left) → ((f_.keep.length ≤ 9223372036854775807) → ((((!f_.armed) = true) → Q f_ false) ∧ (((!f_.armed) = false) → ((inR .i64 (f_.left - (1 : Int))) ∧ ((((f_.left - (1 : Int)) > (0 : Int)) → Q (S_simfs_FS.mk f_.kept f_.files f_.pending f_.quota f_.now f_.inodes f_.ops_ f_.off f_.armed (f_.left - (1 : Int)) f_.keep) false) ∧ ((¬ ((f_.left - (1 : Int)) > (0 : Int))) → (simfs_FS_Cut_p (S_simfs_FS.mk f_.kept f_.files f_.pending f_.quota f_.now f_.inodes f_.ops_ f_.off f_.armed (f_.left - (1 : Int)) f_.keep) f_.keep (fun (z0 : S_simfs_FS) => Q z0 true))))))))))))))
set_option maxRecDepth 20000 in
set_option maxHeartbeats 4000000 in
theorem simfs_FS_trips_w {X : List Nat} {w : World} {f_ : S_simfs_FS} {z0 : Nat} {y0 : List Nat} {Q : S_simfs_FS → Bool → Prop} (s3 : Old X w) (v7 : MO o_simfs_FS 78 y0 w.heap.size X w y0 z0 f_) (hp : simfs_FS_trips_p f_ Q) :
  Calls Tryz.prog 69 #[(.pointer (some ⟨z0, 0, none⟩))] w (Ret fun v w' => ∃ (s4 : S_simfs_FS) (s5 : Bool), Q s4 s5 ∧ ∃ (X' : List Nat) (s6 : List Nat), Step X w y0 X' w' ∧ v = (.bool s5) ∧ MO o_simfs_FS 78 y0 w.heap.size X' w' s6 z0 s4) := by
 have hXo := s3
 have E0 : Evo y0 w w := RB.refl _ _ _
 have hS : Sub X X := Sub.refl _
 have hN : News X w X w := News.refl _ _
 have v8 : Sub y0 X := MO.mem v7
 unfold simfs_FS_trips_p at hp
 refine enter_ Tryz.func69 rfl 26 [(0, (.pointer (some ⟨z0, 0, none⟩)))] (by kernel_rfl) (fun Qe hQ => ?_)
 refine seq_ (fun _ q3 => ?_)
 refine reg_ ?_
 refine sq (o_pv (.bool false) rfl (by kernel_rfl) ?_)
 refine nil_ ?_
 refine then_normal (q3 _ _ _ _ ?_)
 refine seq_ (fun _ q4 => ?_)
 refine seq_ (fun _ q5 => ?_)
 refine reg_ ?_
 refine sq (o_pv (.pointer (some ⟨z0, 0, none⟩)) rfl (by kernel_rfl) ?_)
 refine sq (o_pv (.pointer (some ⟨z0, 0, none⟩)) rfl (by kernel_rfl) ?_)
 obtain ⟨v6, v1, t1, t2, t3, z8, z9, y4, y1, z6, y5, z3, z7, z1, z4, y2, z5, q6, q7, q8, q9, y6, y7, y8, v9, u0, u1⟩ := o_simfs_FS_open v7
 replace hp := hp (OS.len y5)
 replace hp := hp z3
 replace hp := hp z7
 replace hp := hp z1
 replace hp := hp z4
 replace hp := hp y2
 replace hp := hp (Sl.len z5)
 refine sq (o_pv (.pointer (some ⟨z0, 8, none⟩)) rfl (by kernel_rfl) ?_)
 refine sq (o_pv (.bool f_.armed) rfl (x_load1 (by kernel_rfl) Tryz.isAgg4 (y4.2.1.cell' 8 rfl)) ?_)
 refine sq (o_pv (.bool (!f_.armed)) rfl (by kernel_rfl) ?_)
 refine nil_ ?_
 refine then_normal (q5 _ _ _ _ ?_)
 refine cond_b (!f_.armed) (by kernel_rfl) (fun u2 => ?_) (fun u2 => ?_)
 ·
  replace hp := hp.1 u2
  refine seq_ (fun _ s7 => ?_)
  refine reg_ ?_
  refine sq (o_pv (.bool false) rfl (by kernel_rfl) ?_)
  refine nil_ ?_
  refine then_normal (s7 _ _ _ _ ?_)
  refine wp_ret ?_
  refine then_ret ?_
  obtain ⟨s8, s9, k0⟩ := MO.pack (o_simfs_FS_mk y4 y1 z6 y5 z3 z7 z1 z4 y2 z5 rfl y6 y7 y8 v9 u0 u1)
  refine end_ret hQ (.bool false) (by kernel_rfl) ?_
  exact ⟨f_, false, hp, X, s8, step_of E0 v8 hS hN, rfl, s9⟩
 ·
  replace hp := hp.2 u2
  refine wp_skip ?_
  refine then_normal (q4 _ _ _ _ ?_)
  refine seq_ (fun _ r0 => ?_)
  refine reg_ ?_
  refine sq (o_pv (.pointer (some ⟨z0, 0, none⟩)) rfl (by kernel_rfl) ?_)
  refine sq (o_pv (.pointer (some ⟨z0, 0, none⟩)) rfl (by kernel_rfl) ?_)
  refine sq (o_pv (.pointer (some ⟨z0, 9, none⟩)) rfl (by kernel_rfl) ?_)
  refine sq (o_pv (.int .i64 f_.left) rfl (x_load1 (by kernel_rfl) Tryz.isAgg3 (y4.2.1.cell' 9 rfl)) ?_)
  obtain ⟨u3, hp⟩ := hp
  refine sq (o_pv (.int .i64 (f_.left - (1 : Int))) rfl (x_sub2 (k := .i64) (a := f_.left) (b := (1 : Int)) (f_.left - (1 : Int)) (by kernel_rfl) (by kernel_rfl) (wrap_inR u3)) ?_)
  refine sq (o_pv (.pointer (some ⟨z0, 0, none⟩)) rfl (by kernel_rfl) ?_)
  refine sq (o_pv (.pointer (some ⟨z0, 9, none⟩)) rfl (by kernel_rfl) ?_)
  refine sq (o_stB (o := 9) (v := (.int .i64 (f_.left - (1 : Int)))) [(.map (some v6)), (.map (some v1)), (.slice t1 t2 t3), (.int .i64 f_.quota), (.int .i64 f_.now), (.int .i64 f_.inodes), (.int .i64 f_.ops_), (.bool f_.off), (.bool f_.armed), (.int .i64 (f_.left - (1 : Int))), (.slice z8 f_.keep.length z9)] rfl y4 (by kernel_rfl) (by kernel_rfl) Tryz.sizeOf3 rfl rfl rfl ?_)
  intro k3 z2 v5
  refine nil_ ?_
  refine then_normal (r0 _ _ _ _ ?_)
  refine seq_ (fun _ r1 => ?_)
  refine seq_ (fun _ r2 => ?_)
  refine reg_ ?_
  refine sq (o_pv (.pointer (some ⟨z0, 0, none⟩)) rfl (by kernel_rfl) ?_)
  refine sq (o_pv (.pointer (some ⟨z0, 0, none⟩)) rfl (by kernel_rfl) ?_)
  refine sq (o_pv (.pointer (some ⟨z0, 9, none⟩)) rfl (by kernel_rfl) ?_)
  refine sq (o_pv (.int .i64 (f_.left - (1 : Int))) rfl (x_load1 (by kernel_rfl) Tryz.isAgg3 (v5.2.1.cell' 9 rfl)) ?_)
  refine sq (o_pv (.bool (decide ((f_.left - (1 : Int)) > (0 : Int)))) rfl (by kernel_rfl) ?_)
  refine nil_ ?_
  refine then_normal (r2 _ _ _ _ ?_)
  refine cond_d ((f_.left - (1 : Int)) > (0 : Int)) (by kernel_rfl) (fun u4 => ?_) (fun u4 => ?_)
  ·
   replace hp := hp.1 u4
   refine seq_ (fun _ r3 => ?_)
   refine reg_ ?_
   refine sq (o_pv (.bool false) rfl (by kernel_rfl) ?_)
   refine nil_ ?_
   refine then_normal (r3 _ _ _ _ ?_)
   refine wp_ret ?_
   refine then_ret ?_
   have r4 := (Evo.thenW E0 (Step.evo z2) y4.2.2)
   have t4 := (Sub.trans hS (Step.up z2))
   have t5 := (News.step hN z2)
   have v2 := (OM.step y1 z2 (Ap.symm y6))
   have y9 := (OM.step z6 z2 (Ap.symm y7))
   have t6 := (OS.step y5 z2 (Ap.symm y8))
   have v3 := (Sl.step z5 z2)
   obtain ⟨r5, r6, k1⟩ := MO.pack (o_simfs_FS_mk v5 v2 y9 t6 z3 z7 z1 z4 u3 v3 rfl y6 y7 y8 v9 u0 u1)
   refine end_ret hQ (.bool false) (by kernel_rfl) ?_
   exact ⟨(S_simfs_FS.mk f_.kept f_.files f_.pending f_.quota f_.now f_.inodes f_.ops_ f_.off f_.armed (f_.left - (1 : Int)) f_.keep), false, hp, X, r5, step_of r4 v8 t4 t5, rfl, r6⟩
  ·
   replace hp := hp.2 u4
   refine wp_skip ?_
   refine then_normal (r1 _ _ _ _ ?_)
   refine seq_ (fun _ r7 => ?_)
   refine reg_ ?_
   refine sq (o_pv (.pointer (some ⟨z0, 0, none⟩)) rfl (by kernel_rfl) ?_)
   refine sq (o_pv (.pointer (some ⟨z0, 0, none⟩)) rfl (by kernel_rfl) ?_)
   refine sq (o_pv (.pointer (some ⟨z0, 0, none⟩)) rfl (by kernel_rfl) ?_)
   refine sq (o_pv (.pointer (some ⟨z0, 10, none⟩)) rfl (by kernel_rfl) ?_)
   refine sq (o_pv (.slice z8 f_.keep.length z9) rfl (x_load1 (by kernel_rfl) Tryz.isAgg29 (v5.2.1.cell' 10 rfl)) ?_)
   have u7 := (Old.step hXo z2)
   have u9 := (Evo.thenW E0 (Step.evo z2) y4.2.2)
   have t7 := (Sub.trans hS (Step.up z2))
   have t8 := (News.step hN z2)
   have v4 := (OM.step y1 z2 (Ap.symm y6))
   have v0 := (OM.step z6 z2 (Ap.symm y7))
   have t9 := (OS.step y5 z2 (Ap.symm y8))
   have y3 := (Sl.step z5 z2)
   obtain ⟨k4, u5, k2⟩ := MO.pack (o_simfs_FS_mk v5 v4 v0 t9 z3 z7 z1 z4 u3 y3 rfl y6 y7 y8 v9 u0 u1)
   refine sq (o_call 11 #[(.pointer (some ⟨z0, 0, none⟩)), (.slice z8 f_.keep.length z9)] rfl (x_call Tryz.call11 (by kernel_rfl)) (simfs_FS_Cut_w (X := X) (f_ := (S_simfs_FS.mk f_.kept f_.files f_.pending f_.quota f_.now f_.inodes f_.ops_ f_.off f_.armed (f_.left - (1 : Int)) f_.keep)) (keep := f_.keep) u7 (MO.re u5 (Wr.self _ _ (Sub.refl _))) y3 hp) ?_)
   rintro _ k5 ⟨s0, hp, r8, r9, u6, rfl, t0⟩
   have q0 := MO.re t0 (Wr.trans t0.wr u5.wr u9.size)
   refine nil_ ?_
   refine then_normal (r7 _ _ _ _ ?_)
   refine seq_ (fun _ q1 => ?_)
   refine reg_ ?_
   refine sq (o_pv (.bool true) rfl (by kernel_rfl) ?_)
   refine nil_ ?_
   refine then_normal (q1 _ _ _ _ ?_)
   refine wp_ret ?_
   have q2 := (Evo.thenW u9 (Step.evo u6) u5.wr)
   have s1 := (Sub.trans t7 (Step.up u6))
   have s2 := (News.step t8 u6)
   refine end_ret hQ (.bool true) (by kernel_rfl) ?_
   exact ⟨s0, true, hp, r8, r9, step_of q2 v8 s1 s2, rfl, q0⟩
def slices_Clone_byte_byte_p (s : (List Int)) (Q : (List Int) → Prop) : Prop :=
 ((s.length ≤ 9223372036854775807) → ((s.length * 1 ≤ 140737488355328) ∧ Q s))
set_option maxRecDepth 20000 in
set_option maxHeartbeats 4000000 in
theorem slices_Clone_byte_byte_w {X : List Nat} {w : World} {s : (List Int)} {z0 : Option Addr} {z1 : Nat} {Q : (List Int) → Prop} (y5 : Old X w) (z2 : Sq (rInt .u8) X w z0 z1 s) (hp : slices_Clone_byte_byte_p s Q) :
  Calls Tryz.prog 74 #[(.slice z0 s.length z1)] w (Ret fun v w' => ∃ (z8 : (List Int)), Q z8 ∧ Evo [] w w' ∧ ∃ (y2 : Option Addr) (y6 : Nat), v = .slice y2 z8.length y6 ∧ OS (rInt .u8) [] w.heap.size (blkL y2 ++ X) w' 5 y2 z8.length y6 z8) := by
 have hXo := y5
 have E0 : Evo [] w w := RB.refl _ _ _
 have hS : Sub X X := Sub.refl _
 unfold slices_Clone_byte_byte_p at hp
 refine enter_ Tryz.func74 rfl 8 [(0, (.slice z0 s.length z1))] (by kernel_rfl) (fun Qe hQ => ?_)
 replace hp := hp (Sq.len z2)
 refine seq_ (fun _ v1 => ?_)
 refine reg_ ?_
 refine sq (o_pv (.slice none 0 0) rfl (by kernel_rfl) ?_)
 refine nil_ ?_
 refine then_normal (v1 _ _ _ _ ?_)
 refine seq_ (fun _ v2 => ?_)
 refine seq_ (fun _ y7 => ?_)
 refine reg_ ?_
 refine sq (o_pv (.slice z0 s.length z1) rfl (by kernel_rfl) ?_)
 rcases z0 with _ | ad
 ·
  obtain rfl : s = [] := z2.2.elim (fun h => h.1) (fun ⟨b, o, xs, h, _⟩ => by cases h)
  replace hp := hp.2
  refine sq (o_pv (.bool true) rfl (by kernel_rfl) ?_)
  refine nil_ ?_
  refine then_normal (y7 _ _ _ _ ?_)
  refine cond_t (by kernel_rfl) ?_
  refine seq_ (fun _ v3 => ?_)
  refine reg_ ?_
  refine sq (o_pv (.slice none 0 0) rfl (by kernel_rfl) ?_)
  refine nil_ ?_
  refine then_normal (v3 _ _ _ _ ?_)
  refine wp_ret ?_
  refine then_ret ?_
  refine end_ret hQ (.slice none 0 0) (by kernel_rfl) ?_
  exact ⟨([] : List Int), hp, E0, none, 0, rfl, (OS.nil _ _ _ _)⟩
 ·
  refine sq (o_pv (.bool false) rfl (by kernel_rfl) ?_)
  refine nil_ ?_
  refine then_normal (y7 _ _ _ _ ?_)
  refine cond_f (by kernel_rfl) ?_
  refine wp_skip ?_
  refine then_normal (v2 _ _ _ _ ?_)
  refine seq_ (fun _ v4 => ?_)
  refine reg_ ?_
  refine sq (o_rowX (R := (rInt .u8)) [] ([] : List Int) 5 0 (X := X) (B := w.heap.size) E0.size rfl (by kernel_rfl) Flat.nil rfl (by decide) ?_)
  intro u0 v6 y8 z3 z9 v7
  refine sq (o_pv (.slice (some ad) s.length z1) rfl (by kernel_rfl) ?_)
  obtain ⟨y9, hp⟩ := hp
  have y3 := (Sq.step z2 z3)
  have y0 := (Evo.then0 E0 (Step.evo z3))
  refine sq (o_appX (R := (rInt .u8)) (X := y8) (B := w.heap.size) (L := ([] : List Int)) (M := s) rfl elT32 rfl y0.size z9 (Sq.src y3) rfl (by kernel_rfl) (by kernel_rfl) (by simpa using y9) ?_)
  intro z4 z5 z6 v8 v9 y1 z7 v5
  rw [List.nil_append] at z7
  refine sq (o_pv (.slice z4 z5 z6) rfl (by kernel_rfl) ?_)
  refine nil_ ?_
  refine then_normal (v4 _ _ _ _ ?_)
  refine wp_ret ?_
  have y4 := (Sub.trans (Sub.trans hS (Step.up z3)) (Step.up y1))
  have v0 := (Evo.thenW y0 (Step.evo y1) z9.2.2)
  refine end_ret hQ (.slice z4 z5 z6) (by kernel_rfl) ?_
  exact ⟨s, hp, v0, z4, z6, (by (rw [show z5 = s.length from z7.1]); first | done | rfl), (OS.give z7 y4)⟩
def simfs_FS_put_p (f_ : S_simfs_FS) (p : ByteArray) (mode : Int) (b : (List Int)) (Q : S_simfs_FS → S_simfs_op → Prop) : Prop :=
 ((p.size ≤ maxLen) → ((inR .i64 mode) → ((b.length ≤ 9223372036854775807) → ((f_.pending.length ≤ 9223372036854775807) → ((inR .i64 f_.quota) → ((inR .i64 f_.now) → ((inR .i64 f_.inodes) → ((inR .i64 f_.ops_) → ((inR .i64 f_.left) → ((f_.keep.length ≤ 9223372036854775807) → ((inR .i64 ((mgetD f_.files p).mode)) → ((inR .i64 ((mgetD f_.files p).time)) → ((inR .i64 ((mgetD f_.files p).inode)) → ((((mgetD f_.files p).b).length ≤ 9223372036854775807) → (∃ z0 : Int → Int → Prop, (∀ (z1 : Int) (z2 : Int), z0 z1 z2 → (inR .i64 z1) → (inR .i64 z2) → (slices_Clone_byte_byte_p b (fun (z3 : (List Int)) => ((z3.length ≤ 9223372036854775807) → Q (S_simfs_FS.mk f_.kept f_.files f_.pending f_.quota f_.now z1 f_.ops_ f_.off f_.armed f_.left f_.keep) (S_simfs_op.mk (1 : Int) p (ByteArray.mk #[]) (S_simfs_file.mk mode f_.now z2 z3)))))) ∧ ((((!(mhas f_.files p)) = true) → ((inR .i64 (f_.inodes + (1 : Int))) ∧ (z0 (f_.inodes + (1 : Int)) (f_.inodes + (1 : Int))))) ∧ (((!(mhas f_.files p)) = false) → (z0 f_.inodes ((mgetD f_.files p).inode)))))))))))))))))))
set_option maxRecDepth 20000 in
set_option maxHeartbeats 4000000 in
theorem simfs_FS_put_w {X : List Nat} {w : World} {f_ : S_simfs_FS} {p : ByteArray} {mode : Int} {b : (List Int)} {z0 : Nat} {z9 : List Nat} {t2 : Option Addr} {t3 : Nat} {Q : S_simfs_FS → S_simfs_op → Prop} (m8 : Old X w) (k8 : MO o_simfs_FS 78 z9 w.heap.size X w z9 z0 f_) (m9 : p.size ≤ maxLen) (s4 : inR .i64 mode) (n0 : Sl (rInt .u8) X w t2 t3 b) (hp : simfs_FS_put_p f_ p mode b Q) :
  Calls Tryz.prog 71 #[(.pointer (some ⟨z0, 0, none⟩)), (.string p), (.int .i64 mode), (.slice t2 b.length t3)] w (Ret fun v w' => ∃ (e8 : S_simfs_FS) (y7 : S_simfs_op), Q e8 y7 ∧ ∃ (X' : List Nat) (e9 : List Nat) (aq0fileb7 : Option Addr) (cq0fileb8 : Nat), Step X w z9 X' w' ∧ v = (.agg #[(.int .i64 y7.kind), (.string y7.path), (.string y7.to_), (.int .i64 y7.file.mode), (.int .i64 y7.file.time), (.int .i64 y7.file.inode), (.slice aq0fileb7 y7.file.b.length cq0fileb8)]) ∧ MO o_simfs_FS 78 z9 w.heap.size X' w' e9 z0 e8 ∧ inR .i64 y7.kind ∧ y7.path.size ≤ maxLen ∧ y7.to_.size ≤ maxLen ∧ inR .i64 y7.file.mode ∧ inR .i64 y7.file.time ∧ inR .i64 y7.file.inode ∧ Sl (rInt .u8) X' w' aq0fileb7 cq0fileb8 y7.file.b ∧ Pin w w' z0 1) := by
 have hXo := m8
 have E0 : Evo z9 w w := RB.refl _ _ _
 have hS : Sub X X := Sub.refl _
 have hN : News X w X w := News.refl _ _
 have i0 : Sub z9 X := MO.mem k8
 unfold simfs_FS_put_p at hp
 refine enter_ Tryz.func71 rfl 46 [(0, (.pointer (some ⟨z0, 0, none⟩))), (1, (.string p)), (2, (.int .i64 mode)), (3, (.slice t2 b.length t3))] (by kernel_rfl) (fun Qe hQ => ?_)
 replace hp := hp m9
 replace hp := hp s4
 replace hp := hp (Sl.len n0)
 obtain ⟨v6, y0, r8, r9, q0, y8, y9, k9, u5, v9, q1, u0, v7, v3, u6, u7, u9, b0, b1, b2, b3, n1, n2, n3, i1, i2, i3⟩ := o_simfs_FS_open k8
 replace hp := hp (OS.len q1)
 replace hp := hp u0
 replace hp := hp v7
 replace hp := hp v3
 replace hp := hp u6
 replace hp := hp u7
 replace hp := hp (Sl.len u9)
 refine seq_ (fun _ i4 => ?_)
 refine reg_ ?_
 refine sq (o_newX [(.int .i64 (0 : Int)), (.string (ByteArray.mk #[])), (.string (ByteArray.mk #[])), (.int .i64 (0 : Int)), (.int .i64 (0 : Int)), (.int .i64 (0 : Int)), (.slice none 0 0)] 84 (X := X) (B := w.heap.size) E0.size rfl (by kernel_rfl) ?_)
 intro i5 i6 i7 y6 n4 q8
 have n5 := q8 _ (OB.old k9)
 have i9 := q8 _ (OM.old u5)
 have h0 := q8 _ (OM.old v9)
 have h1 := q8 _ (OS.old q1)
 refine nil_ ?_
 refine then_normal (i4 _ _ _ _ ?_)
 refine seq_ (fun _ h2 => ?_)
 refine reg_ ?_
 refine sq (o_pv (.pointer (some ⟨z0, 0, none⟩)) rfl (by kernel_rfl) ?_)
 refine sq (o_pv (.pointer (some ⟨z0, 0, none⟩)) rfl (by kernel_rfl) ?_)
 refine sq (o_pv (.pointer (some ⟨z0, 1, none⟩)) rfl (by kernel_rfl) ?_)
 have j0 := (OB.step0 k9 y6)
 refine sq (o_pv (.map (some y0)) rfl (x_load1 (by kernel_rfl) Tryz.isAgg75 (j0.2.1.cell' 1 rfl)) ?_)
 refine sq (o_pv (.string p) rfl (by kernel_rfl) ?_)
 have y5 := (OM.step0 v9 y6)
 obtain ⟨b4, o6, o7⟩ := MapAt.look y5.2.1 p [(.int .i64 (0 : Int)), (.int .i64 (0 : Int)), (.int .i64 (0 : Int)), (.slice none 0 0)] (fun _ _ => (r_simfs_file_mk (by decide : inR .i64 (0 : Int)) (by decide : inR .i64 (0 : Int)) (by decide : inR .i64 (0 : Int)) (Sl.nil) rfl))
 obtain ⟨z7, z8, rfl, q2, q3, u1, q9⟩ := r_simfs_file_open o6
 replace hp := hp q2
 replace hp := hp q3
 replace hp := hp u1
 replace hp := hp (Sl.len q9)
 refine sq (o_pv (.tuple #[(.agg #[(.int .i64 ((mgetD f_.files p).mode)), (.int .i64 ((mgetD f_.files p).time)), (.int .i64 ((mgetD f_.files p).inode)), (.slice z7 (((mgetD f_.files p).b).length) z8)]), (.bool (mhas f_.files p))]) rfl (x_lookup2 (w0 := i6) (k := p) (v := (.agg #[(.int .i64 ((mgetD f_.files p).mode)), (.int .i64 ((mgetD f_.files p).time)), (.int .i64 ((mgetD f_.files p).inode)), (.slice z7 (((mgetD f_.files p).b).length) z8)])) (z := (.agg #[(.int .i64 (0 : Int)), (.int .i64 (0 : Int)), (.int .i64 (0 : Int)), (.slice none 0 0)])) (b := mhas f_.files p) (s := 4) (bts := 48) (by kernel_rfl) (by kernel_rfl) o7 rfl Tryz.underlying75 Tryz.underlying9 (by kernel_rfl)) ?_)
 refine sq (o_pv (.tuple #[(.agg #[(.int .i64 ((mgetD f_.files p).mode)), (.int .i64 ((mgetD f_.files p).time)), (.int .i64 ((mgetD f_.files p).inode)), (.slice z7 (((mgetD f_.files p).b).length) z8)]), (.bool (mhas f_.files p))]) rfl (by kernel_rfl) ?_)
 refine sq (o_pv (.agg #[(.int .i64 ((mgetD f_.files p).mode)), (.int .i64 ((mgetD f_.files p).time)), (.int .i64 ((mgetD f_.files p).inode)), (.slice z7 (((mgetD f_.files p).b).length) z8)]) rfl (by kernel_rfl) ?_)
 refine sq (o_pv (.bool (mhas f_.files p)) rfl (by kernel_rfl) ?_)
 have t0 := (OM.step0 u5 y6)
 have j1 := (OS.step0 q1 y6)
 have n6 := (Evo.then0 E0 (Step.evo y6))
 refine sq (o_newX [(.int .i64 (0 : Int)), (.int .i64 (0 : Int)), (.int .i64 (0 : Int)), (.slice none 0 0)] 81 (X := i7) (B := w.heap.size) n6.size rfl (by kernel_rfl) ?_)
 intro j2 f1 n7 y3 n8 s5
 have j3 := s5 _ (OB.old j0)
 have n9 := s5 _ (OM.old t0)
 have o0 := s5 _ (OM.old y5)
 have o3 := s5 _ (OS.old j1)
 have o4 := s5 _ (OB.old n4)
 have h3 := (OB.step0 j0 y3)
 have q4 := (OM.step0 t0 y3)
 have s6 := (OM.step0 y5 y3)
 have o8 := (OS.step0 j1 y3)
 have h4 := (OB.step0 n4 y3)
 have h5 := (Evo.then0 n6 (Step.evo y3))
 refine sq (o_stB (o := 0) (v := (.agg #[(.int .i64 ((mgetD f_.files p).mode)), (.int .i64 ((mgetD f_.files p).time)), (.int .i64 ((mgetD f_.files p).inode)), (.slice z7 (((mgetD f_.files p).b).length) z8)])) [(.int .i64 ((mgetD f_.files p).mode)), (.int .i64 ((mgetD f_.files p).time)), (.int .i64 ((mgetD f_.files p).inode)), (.slice z7 (((mgetD f_.files p).b).length) z8)] rfl n8 (by kernel_rfl) (by kernel_rfl) Tryz.sizeOf81 rfl rfl rfl ?_)
 intro f2 y4 o5
 refine sq (o_pv (.bool (mhas f_.files p)) rfl (by kernel_rfl) ?_)
 refine nil_ ?_
 refine then_normal (h2 _ _ _ _ ?_)
 refine seq_ (fun _ h6 => ?_)
 refine seq_ (fun _ h7 => ?_)
 refine reg_ ?_
 refine sq (o_pv (.bool (mhas f_.files p)) rfl (by kernel_rfl) ?_)
 refine sq (o_pv (.bool (!(mhas f_.files p))) rfl (by kernel_rfl) ?_)
 refine nil_ ?_
 refine then_normal (h7 _ _ _ _ ?_)
 have k0 := (Sl.step (Sl.step (Sl.step n0 y6) y3) y4)
 have s7 := (Old.step (Old.step (Old.step hXo y6) y3) y4)
 have j4 := (Evo.thenW h5 (Step.evo y4) (Wr.of n8.2.2))
 have k1 := (Sub.trans (Sub.trans (Sub.trans hS (Step.up y6)) (Step.up y3)) (Step.up y4))
 have k2 := (News.step (News.step (News.step hN y6) y3) y4)
 have t4 := (OB.step h3 y4 j3)
 have u2 := (OM.step q4 y4 n9)
 have v4 := (OM.step s6 y4 o0)
 have k3 := (OS.step o8 y4 o3)
 have u3 := (Sl.step (Sl.step (Sl.step u9 y6) y3) y4)
 have j5 := (OB.step h4 y4 o4)
 have s8 := (Sl.step (Sl.step q9 y3) y4)
 obtain ⟨o9, d6, hp⟩ := hp
 refine ground_ ?_
 refine join_ 17175674880 (fun lq z1 => ∃ (z2 : List Nat) (v8 : Int) (z3 : Int), (lq = []) ∧ (Evo z9 w z1) ∧ (Old z2 z1) ∧ (Sub X z2) ∧ (News X w z2 z1) ∧ (Sl (rInt .u8) z2 z1 t2 t3 b) ∧ (OM r_simfs_file true z9 w.heap.size z2 z1 v6 f_.kept) ∧ (OM r_simfs_file true z9 w.heap.size z2 z1 y0 f_.files) ∧ (OS r_simfs_op z9 w.heap.size z2 z1 84 r8 r9 q0 f_.pending) ∧ (Sl rBool z2 z1 y8 y9 f_.keep) ∧ (OB ([]) w.heap.size z2 z1 i5 [(.int .i64 (0 : Int)), (.string (ByteArray.mk #[])), (.string (ByteArray.mk #[])), (.int .i64 (0 : Int)), (.int .i64 (0 : Int)), (.int .i64 (0 : Int)), (.slice none 0 0)] 84) ∧ (Sl (rInt .u8) z2 z1 z7 z8 ((mgetD f_.files p).b)) ∧ (OB z9 w.heap.size z2 z1 z0 [(.map (some v6)), (.map (some y0)), (.slice r8 r9 q0), (.int .i64 f_.quota), (.int .i64 f_.now), (.int .i64 v8), (.int .i64 f_.ops_), (.bool f_.off), (.bool f_.armed), (.int .i64 f_.left), (.slice y8 f_.keep.length y9)] 78) ∧ (OB ([]) w.heap.size z2 z1 j2 [(.int .i64 ((mgetD f_.files p).mode)), (.int .i64 ((mgetD f_.files p).time)), (.int .i64 z3), (.slice z7 (((mgetD f_.files p).b).length) z8)] 81) ∧ (inR .i64 v8) ∧ (inR .i64 z3) ∧ (o9 v8 z3)) (fun h9 k4 => ?_) ?_
 ·
  refine cond_b (!(mhas f_.files p)) (by kernel_rfl) (fun q5 => ?_) (fun q5 => ?_)
  ·
   replace hp := hp.1 q5
   refine seq_ (fun _ c0 => ?_)
   refine reg_ ?_
   refine sq (o_pv (.pointer (some ⟨z0, 0, none⟩)) rfl (by kernel_rfl) ?_)
   refine sq (o_pv (.pointer (some ⟨z0, 0, none⟩)) rfl (by kernel_rfl) ?_)
   refine sq (o_pv (.pointer (some ⟨z0, 5, none⟩)) rfl (by kernel_rfl) ?_)
   refine sq (o_pv (.int .i64 f_.inodes) rfl (x_load1 (by kernel_rfl) Tryz.isAgg3 (t4.2.1.cell' 5 rfl)) ?_)
   obtain ⟨q6, hp⟩ := hp
   refine sq (o_pv (.int .i64 (f_.inodes + (1 : Int))) rfl (x_add2 (k := .i64) (a := f_.inodes) (b := (1 : Int)) (f_.inodes + (1 : Int)) (by kernel_rfl) (by kernel_rfl) (wrap_inR q6)) ?_)
   refine sq (o_pv (.pointer (some ⟨z0, 0, none⟩)) rfl (by kernel_rfl) ?_)
   refine sq (o_pv (.pointer (some ⟨z0, 5, none⟩)) rfl (by kernel_rfl) ?_)
   refine sq (o_stB (o := 5) (v := (.int .i64 (f_.inodes + (1 : Int)))) [(.map (some v6)), (.map (some y0)), (.slice r8 r9 q0), (.int .i64 f_.quota), (.int .i64 f_.now), (.int .i64 (f_.inodes + (1 : Int))), (.int .i64 f_.ops_), (.bool f_.off), (.bool f_.armed), (.int .i64 f_.left), (.slice y8 f_.keep.length y9)] rfl t4 (by kernel_rfl) (by kernel_rfl) Tryz.sizeOf3 rfl rfl rfl ?_)
   intro b5 z4 j6
   refine nil_ ?_
   refine then_normal (c0 _ _ _ _ ?_)
   refine reg_ ?_
   refine sq (o_pv (.pointer (some ⟨z0, 0, none⟩)) rfl (by kernel_rfl) ?_)
   refine sq (o_pv (.pointer (some ⟨z0, 0, none⟩)) rfl (by kernel_rfl) ?_)
   refine sq (o_pv (.pointer (some ⟨z0, 5, none⟩)) rfl (by kernel_rfl) ?_)
   refine sq (o_pv (.int .i64 (f_.inodes + (1 : Int))) rfl (x_load1 (by kernel_rfl) Tryz.isAgg3 (j6.2.1.cell' 5 rfl)) ?_)
   refine sq (o_pv (.pointer (some ⟨j2, 2, none⟩)) rfl (by kernel_rfl) ?_)
   have s9 := (OM.step u2 z4 (Ap.symm n1))
   have t5 := (OM.step v4 z4 (Ap.symm n2))
   have d7 := (OS.step k3 z4 (Ap.symm n3))
   have c1 := (OB.step j5 z4 (Ap.symm n5))
   have j7 := (OB.step o5 z4 (Ap.symm j3))
   have c2 := (Evo.thenW j4 (Step.evo z4) t4.2.2)
   refine sq (o_stB (o := 2) (v := (.int .i64 (f_.inodes + (1 : Int)))) [(.int .i64 ((mgetD f_.files p).mode)), (.int .i64 ((mgetD f_.files p).time)), (.int .i64 (f_.inodes + (1 : Int))), (.slice z7 (((mgetD f_.files p).b).length) z8)] rfl j7 (by kernel_rfl) (by kernel_rfl) Tryz.sizeOf3 rfl rfl rfl ?_)
   intro b6 z5 c3
   refine nil_ ?_
   have c4 := (Evo.thenW c2 (Step.evo z5) (Wr.of j7.2.2))
   have j8 := (Old.step (Old.step s7 z4) z5)
   have d8 := (Sub.trans (Sub.trans k1 (Step.up z4)) (Step.up z5))
   have d9 := (News.step (News.step k2 z4) z5)
   have l0 := (Sl.step (Sl.step k0 z4) z5)
   have r0 := (OM.step s9 z5 n9)
   have t6 := (OM.step t5 z5 o0)
   have l1 := (OS.step d7 z5 o3)
   have r1 := (Sl.step (Sl.step u3 z4) z5)
   have c5 := (OB.step c1 z5 o4)
   have j9 := (Sl.step (Sl.step s8 z4) z5)
   have c6 := (OB.step j6 z5 j3)
   refine then_normal (k4 _ _ _ ⟨[], fit_mk (fun _ _ => rfl) (by kernel_rfl) vs_nil, ?_⟩)
   exact ⟨n7, (f_.inodes + (1 : Int)), (f_.inodes + (1 : Int)), rfl, c4, j8, d8, d9, l0, r0, t6, l1, r1, c5, j9, c6, c3, q6, q6, hp⟩
  ·
   replace hp := hp.2 q5
   refine wp_skip ?_
   refine then_normal (k4 _ _ _ ⟨[], fit_mk (fun _ _ => rfl) (by kernel_rfl) vs_nil, ?_⟩)
   exact ⟨n7, f_.inodes, ((mgetD f_.files p).inode), rfl, j4, s7, k1, k2, k0, u2, v4, k3, u3, j5, s8, t4, o5, v3, u1, hp⟩
 ·
  rintro _ z1 b7 ⟨z2, v8, z3, rfl, c7, g0, l2, l3, l4, r2, t7, l5, r3, c8, h8, c9, a0, k5, k6, l6⟩
  replace hp := d6 v8 z3 l6 k5 k6
  refine then_normal (h6 _ _ _ _ ?_)
  refine seq_ (fun _ a1 => ?_)
  refine reg_drawn (RB z1.heap.size []) 12 (by kernel_rfl) (fun g1 t8 => ?_)
  have a2 := Evo.of_drew t8
  have q7 : g1.heap.size = z1.heap.size := by rw [t8]
  clear t8
  have z6 := Step.of0 z2 a2
  have t9 := RB.refl z1.heap.size [] g1
  have g2 := (Evo.then0 c7 (Step.evo z6))
  have g3 := (Old.step g0 z6)
  have l7 := (Sub.trans l2 (Step.up z6))
  have l8 := (News.step l3 z6)
  have l9 := (Sl.step l4 z6)
  have u4 := (OM.step0 r2 z6)
  have v5 := (OM.step0 t7 z6)
  have k7 := (OS.step0 l5 z6)
  have r4 := (Sl.step r3 z6)
  have g4 := (OB.step0 c8 z6)
  have s0 := (OB.step0 c9 z6)
  have g5 := (OB.step0 a0 z6)
  refine r_take 0 (.string p) (RB.pre _ _) rfl (by kernel_rfl) (fun _ _ _ h => hQ.panic _ _ _ _ _ h) (.inl ⟨rfl, fun wq hq => (by kernel_rfl)⟩) ?_
  refine r_take 1 (.int .i64 mode) (RB.pre _ _) rfl (by kernel_rfl) (fun _ _ _ h => hQ.panic _ _ _ _ _ h) (.inl ⟨rfl, fun wq hq => (by kernel_rfl)⟩) ?_
  refine r_take 2 (.pointer (some ⟨z0, 0, none⟩)) (RB.pre _ _) rfl (by kernel_rfl) (fun _ _ _ h => hQ.panic _ _ _ _ _ h) (.inl ⟨rfl, fun wq hq => (by kernel_rfl)⟩) ?_
  refine r_take 3 (.pointer (some ⟨z0, 0, none⟩)) (RB.pre _ _) rfl (by kernel_rfl) (fun _ _ _ h => hQ.panic _ _ _ _ _ h) (.inl ⟨rfl, fun wq hq => (by kernel_rfl)⟩) ?_
  refine r_take 4 (.pointer (some ⟨z0, 4, none⟩)) (RB.pre _ _) rfl (by kernel_rfl) (fun _ _ _ h => hQ.panic _ _ _ _ _ h) (.inl ⟨rfl, fun wq hq => (by kernel_rfl)⟩) ?_
  refine r_take 5 (.int .i64 f_.now) (RB.pre _ _) rfl (by kernel_rfl) (fun _ _ _ h => hQ.panic _ _ _ _ _ h) (.inl ⟨rfl, fun wq hq => (x_load1 (by kernel_rfl) Tryz.isAgg3 ((Blk.rb s0.2.1 (RB.trans t9 hq) (Nat.lt_of_lt_of_eq (Blk.lt s0.2.1) q7) (fun h => by cases h)).cell' 4 rfl))⟩) ?_
  refine r_take 6 (.pointer (some ⟨j2, 2, none⟩)) (RB.pre _ _) rfl (by kernel_rfl) (fun _ _ _ h => hQ.panic _ _ _ _ _ h) (.inl ⟨rfl, fun wq hq => (by kernel_rfl)⟩) ?_
  refine r_take 7 (.int .i64 z3) (RB.pre _ _) rfl (by kernel_rfl) (fun _ _ _ h => hQ.panic _ _ _ _ _ h) (.inl ⟨rfl, fun wq hq => (x_load1 (by kernel_rfl) Tryz.isAgg3 ((Blk.rb g5.2.1 (RB.trans t9 hq) (Nat.lt_of_lt_of_eq (Blk.lt g5.2.1) q7) (fun h => by cases h)).cell' 2 rfl))⟩) ?_
  refine r_take 8 (.slice t2 b.length t3) (RB.pre _ _) rfl (by kernel_rfl) (fun _ _ _ h => hQ.panic _ _ _ _ _ h) (.inl ⟨rfl, fun wq hq => (by kernel_rfl)⟩) ?_
  refine r_ready [9] (by kernel_rfl) rfl (all_cons ⟨_, _, _, _, _, _, rfl, ?_⟩ all_nil)
  refine o_call 74 #[(.slice t2 b.length t3)] rfl (x_call Tryz.call74 (by kernel_rfl)) (slices_Clone_byte_byte_w (X := z2) (s := b) g3 (Sl.sq l9) hp) ?_
  rintro _ b8 ⟨v0, hp, g6, v1, v2, rfl, a3⟩
  have rm := RB.mono (F' := []) g6 (Nat.le_trans (Nat.le_of_eq q7.symm) (RB.size t9)) (fun _ h => by cases h)
  refine ⟨fun _ => rm, ?_⟩
  obtain ⟨b9, y1, g7, t1⟩ := OS.own_in a3 g6 g2.size
  have a4 := t1 _ (OM.old u4)
  have a5 := t1 _ (OM.old v5)
  have a6 := t1 _ (OS.old k7)
  have g8 := t1 _ (OB.old g4)
  have a7 := t1 _ (OB.old s0)
  replace hp := hp (OS.len g7)
  refine r_take 10 (.agg #[(.int .i64 mode), (.int .i64 f_.now), (.int .i64 z3), (.slice v1 v0.length v2)]) (RB.pre _ _) rfl (by kernel_rfl) (fun _ _ _ h => hQ.panic _ _ _ _ _ h) (.inl ⟨rfl, fun wq hq => (by kernel_rfl)⟩) ?_
  refine r_take 11 (.agg #[(.int .i64 (1 : Int)), (.string p), (.string (ByteArray.mk #[])), (.int .i64 mode), (.int .i64 f_.now), (.int .i64 z3), (.slice v1 v0.length v2)]) (RB.pre _ _) rfl (by kernel_rfl) (fun _ _ _ h => hQ.panic _ _ _ _ _ h) (.inl ⟨rfl, fun wq hq => (by kernel_rfl)⟩) ?_
  refine r_ready [12] (by kernel_rfl) rfl (all_cons ⟨_, _, _, _, _, _, rfl, ?_⟩ all_nil)
  have r5 := (OM.step0 u4 y1)
  have s1 := (OM.step0 v5 y1)
  have m0 := (OS.step0 k7 y1)
  have g9 := (OB.step0 g4 y1)
  have a8 := (OB.step0 s0 y1)
  have a9 := (Evo.then0 g2 (Step.evo y1))
  refine o_stB (o := 0) (v := (.agg #[(.int .i64 (1 : Int)), (.string p), (.string (ByteArray.mk #[])), (.int .i64 mode), (.int .i64 f_.now), (.int .i64 z3), (.slice v1 v0.length v2)])) [(.int .i64 (1 : Int)), (.string p), (.string (ByteArray.mk #[])), (.int .i64 mode), (.int .i64 f_.now), (.int .i64 z3), (.slice v1 v0.length v2)] rfl g9 (by kernel_rfl) (by kernel_rfl) Tryz.sizeOf84 rfl rfl rfl ?_
  intro f0 y2 d0
  refine ⟨fun h => absurd h (by decide), ?_⟩
  refine r_done (by kernel_rfl) ?_
  refine then_normal (a1 _ _ _ _ ?_)
  refine wp_ret ?_
  have d1 := (OB.step a8 y2 n5)
  have d2 := pin_mk (off := 1) k9 d1 rfl rfl
  have e0 := (Evo.thenW a9 (Step.evo y2) (Wr.of g9.2.2))
  have m1 := (Sub.trans (Sub.trans l7 (Step.up y1)) (Step.up y2))
  have m2 := (News.step (News.step l8 y1) y2)
  have r6 := (OM.step r5 y2 i9)
  have s2 := (OM.step s1 y2 h0)
  have m3 := (OS.step m0 y2 h1)
  have r7 := (Sl.step (Sl.step r4 y1) y2)
  have d3 := (OS.step g7 y2 (Ap.symm g8))
  obtain ⟨e1, d4, m4⟩ := MO.pack (o_simfs_FS_mk d1 r6 s2 m3 u0 v7 k5 u6 u7 r7 rfl n1 n2 n3 i1 i2 i3)
  have e2 := m4 _ (Ap.cons (Ap.symm a7) (Ap.app (Ap.symm a4) (Ap.app (Ap.symm a5) (Ap.app (Ap.symm a6) (Ap.app (Ap.nil_r _) (Ap.app (Ap.nil_r _) (Ap.app (Ap.nil_r _) (Ap.app (Ap.nil_r _) (Ap.app (Ap.nil_r _) (Ap.app (Ap.nil_r _) (Ap.app (Ap.nil_r _) (Ap.nil_r _))))))))))))
  have m5 := OS.apold d3 m8
  obtain ⟨e3, d5, e4, s3⟩ := OS.release d3
  have e5 := e0
  have m6 := (s3 _ m5 m1)
  have m7 := (News.less m2 d5)
  have e6 := (OB.less d0 (s3 _ g8 (OB.mem d0)))
  have e7 := (MO.less d4 d5 (s3 _ (Ap.symm e2) (MO.mem d4)))
  refine end_ret hQ (.agg #[(.int .i64 (1 : Int)), (.string p), (.string (ByteArray.mk #[])), (.int .i64 mode), (.int .i64 f_.now), (.int .i64 z3), (.slice v1 v0.length v2)]) (rs_single Tryz.results71 (rs_agg [(.int .i64 (1 : Int)), (.string p), (.string (ByteArray.mk #[])), (.int .i64 mode), (.int .i64 f_.now), (.int .i64 z3), (.slice v1 v0.length v2)] (by kernel_rfl) Tryz.isAgg84 Tryz.sizeOf84 (e6.2.1.cells' 0 rfl))) ?_
  exact ⟨(S_simfs_FS.mk f_.kept f_.files f_.pending f_.quota f_.now v8 f_.ops_ f_.off f_.armed f_.left f_.keep), (S_simfs_op.mk (1 : Int) p (ByteArray.mk #[]) (S_simfs_file.mk mode f_.now z3 v0)), hp, e3, e1, v1, v2, step_of e5 i0 m6 m7, rfl, e7, (by decide : inR .i64 (1 : Int)), m9, (by decide : (ByteArray.mk #[]).size ≤ maxLen), s4, v7, k6, e4, d2⟩
end Go.Proofs.YtaolmfepdmgohaaGreatDoor
