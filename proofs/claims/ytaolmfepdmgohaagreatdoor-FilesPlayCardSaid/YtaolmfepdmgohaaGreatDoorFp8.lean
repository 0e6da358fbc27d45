/- Walks of functions: what each asks and computes, as a plain predicate, and the contract from it. -/
import Derived.Test.YtaolmfepdmgohaaGreatDoorChecked
import Derived.Test.YtaolmfepdmgohaaGreatDoorFp7
namespace Go.Proofs.YtaolmfepdmgohaaGreatDoor
open Go
def simfs_FS_Edit_p (f_ : S_simfs_FS) (p : ByteArray) (mode : Int) (b : (List Int)) (Q : S_simfs_FS → Int → Prop) : Prop :=
 ((p.size ≤ maxLen) → ((inR .i64 mode) → ((b.length ≤ 9223372036854775807) → (simfs_FS_may_p f_ p mode b (fun (z1 : S_simfs_FS) (z3 : Int) => ((inR .i64 z3) → (((¬ (z3 = (0 : Int))) → Q z1 z3) ∧ ((z3 = (0 : Int)) → (∀ z4 : S_simfs_FS → Prop, (∀ (z5 : S_simfs_FS), ((simfs_FS_sync_p z5 (fun (z6 : S_simfs_FS) => Q z6 (0 : Int)))) → z4 z5) → ((z1.pending.length ≤ 9223372036854775807) → ((inR .i64 z1.quota) → ((inR .i64 z1.now) → ((inR .i64 z1.inodes) → ((inR .i64 z1.ops_) → ((inR .i64 z1.left) → ((z1.keep.length ≤ 9223372036854775807) → (simfs_FS_put_p z1 p mode b (fun (z0 : S_simfs_FS) (z2 : S_simfs_op) => ((inR .i64 z2.kind) → ((z2.path.size ≤ maxLen) → ((z2.to_.size ≤ maxLen) → ((inR .i64 z2.file.mode) → ((inR .i64 z2.file.time) → ((inR .i64 z2.file.inode) → ((z2.file.b.length ≤ 9223372036854775807) → ((z0.pending.length ≤ 9223372036854775807) → ((inR .i64 z0.quota) → ((inR .i64 z0.now) → ((inR .i64 z0.inodes) → ((inR .i64 z0.ops_) → ((inR .i64 z0.left) → ((z0.keep.length ≤ 9223372036854775807) → (simfs_apply_p z0.files z2 (fun (z7 : (List (ByteArray × S_simfs_file))) (z8 : Bool) => (z4 (S_simfs_FS.mk z0.kept z7 z0.pending z0.quota z0.now z0.inodes z0.ops_ z0.off z0.armed z0.left z0.keep))))))))))))))))))))))))))))))))))))
set_option maxRecDepth 20000 in
set_option maxHeartbeats 4000000 in
theorem simfs_FS_Edit_w {X : List Nat} {w : World} {f_ : S_simfs_FS} {p : ByteArray} {mode : Int} {b : (List Int)} {z0 : Nat} {y6 : List Nat} {u9 : Option Addr} {t0 : Nat} {Q : S_simfs_FS → Int → Prop} (p8 : Old X w) (s8 : MO o_simfs_FS 78 y6 w.heap.size X w y6 z0 f_) (j3 : p.size ≤ maxLen) (v5 : inR .i64 mode) (g5 : Sl (rInt .u8) X w u9 t0 b) (hp : simfs_FS_Edit_p f_ p mode b Q) :
  Calls Tryz.prog 50 #[(.pointer (some ⟨z0, 0, none⟩)), (.string p), (.int .i64 mode), (.slice u9 b.length t0)] w (Ret fun v w' => ∃ (p9 : S_simfs_FS) (e5 : Int), Q p9 e5 ∧ ∃ (X' : List Nat) (Z0 : List Nat), Step X w y6 X' w' ∧ v = (.int .i64 e5) ∧ MO o_simfs_FS 78 y6 w.heap.size X' w' Z0 z0 p9 ∧ inR .i64 e5) := by
 have hXo := p8
 have E0 : Evo y6 w w := RB.refl _ _ _
 have hS : Sub X X := Sub.refl _
 have hN : News X w X w := News.refl _ _
 have o9 : Sub y6 X := MO.mem s8
 unfold simfs_FS_Edit_p at hp
 refine enter_ Tryz.func50 rfl 30 [(0, (.pointer (some ⟨z0, 0, none⟩))), (1, (.string p)), (2, (.int .i64 mode)), (3, (.slice u9 b.length t0))] (by kernel_rfl) (fun Qe hQ => ?_)
 replace hp := hp j3
 replace hp := hp v5
 replace hp := hp (Sl.len g5)
 refine seq_ (fun _ T3 => ?_)
 refine reg_ ?_
 refine sq (o_pv (.int .i64 (0 : Int)) rfl (by kernel_rfl) ?_)
 refine nil_ ?_
 refine then_normal (T3 _ _ _ _ ?_)
 refine seq_ (fun _ Z1 => ?_)
 refine seq_ (fun _ Z2 => ?_)
 refine reg_ ?_
 refine sq (o_pv (.pointer (some ⟨z0, 0, none⟩)) rfl (by kernel_rfl) ?_)
 refine sq (o_pv (.string p) rfl (by kernel_rfl) ?_)
 refine sq (o_pv (.int .i64 mode) rfl (by kernel_rfl) ?_)
 refine sq (o_pv (.slice u9 b.length t0) rfl (by kernel_rfl) ?_)
 refine sq (o_call 68 #[(.pointer (some ⟨z0, 0, none⟩)), (.string p), (.int .i64 mode), (.slice u9 b.length t0)] rfl (x_call Tryz.call68 (by kernel_rfl)) (simfs_FS_may_w (X := X) (f_ := f_) (p := p) (mode := mode) (b := b) hXo (MO.re s8 (Wr.self _ _ (Sub.refl _))) j3 v5 g5 hp) ?_)
 rintro _ s9 ⟨k6, t1, hp, q8, Z3, t2, rfl, c0, g6⟩
 have c1 := MO.re c0 (Wr.trans c0.wr s8.wr E0.size)
 replace hp := hp g6
 refine sq (o_pv (.int .i64 t1) rfl (by kernel_rfl) ?_)
 refine nil_ ?_
 refine then_normal (Z2 _ _ _ _ ?_)
 refine seq_ (fun _ Z4 => ?_)
 refine reg_ ?_
 refine sq (o_pv (.int .i64 t1) rfl (by kernel_rfl) ?_)
 refine sq (o_pv (.bool (!decide (t1 = (0 : Int)))) rfl (by kernel_rfl) ?_)
 refine nil_ ?_
 refine then_normal (Z4 _ _ _ _ ?_)
 refine cond_nd (t1 = (0 : Int)) (by kernel_rfl) (fun g7 => ?_) (fun g7 => ?_)
 ·
  replace hp := hp.1 g7
  refine seq_ (fun _ Z5 => ?_)
  refine reg_ ?_
  refine sq (o_pv (.int .i64 t1) rfl (by kernel_rfl) ?_)
  refine sq (o_pv (.int .i64 t1) rfl (by kernel_rfl) ?_)
  refine nil_ ?_
  refine then_normal (Z5 _ _ _ _ ?_)
  refine wp_ret ?_
  refine then_ret ?_
  have Z6 := (Evo.thenW E0 (Step.evo t2) s8.wr)
  have e6 := (Sub.trans hS (Step.up t2))
  have e7 := (News.step hN t2)
  refine end_ret hQ (.int .i64 t1) (by kernel_rfl) ?_
  exact ⟨k6, t1, hp, q8, Z3, step_of Z6 o9 e6 e7, rfl, c1, g6⟩
 ·
  replace hp := hp.2 g7
  refine wp_skip ?_
  refine then_normal (Z1 _ _ _ _ ?_)
  refine seq_ (fun _ Z7 => ?_)
  have m1 := (Sl.step g5 t2)
  have g8 := (Old.step hXo t2)
  have e8 := (Evo.thenW E0 (Step.evo t2) s8.wr)
  have m2 := (Sub.trans hS (Step.up t2))
  have m3 := (News.step hN t2)
  obtain ⟨e9, m4, hp⟩ := yon1 hp
  refine ground_ ?_
  refine join_ 268173312 (fun lq r0 => ∃ (u4 : List Nat) (r1 : S_simfs_FS) (g9 : List Nat), (lq = []) ∧ (Evo y6 w r0) ∧ (Old u4 r0) ∧ (Sub X u4) ∧ (News X w u4 r0) ∧ (MO o_simfs_FS 78 y6 w.heap.size u4 r0 g9 z0 r1) ∧ (e9 r1)) (fun Y0 j4 => ?_) ?_
  ·
   obtain ⟨c2, m5, Y1, Y2, Y3, c3, c4, i0, q9, r9, j5, v6, r2, v1, t3, t4, t5, Y4, Y5, Y6, Y7, i1, i2, i3, i4, i5, i6⟩ := o_simfs_FS_open c1
   replace hp := hp (OS.len j5)
   replace hp := hp v6
   replace hp := hp r2
   replace hp := hp v1
   replace hp := hp t3
   replace hp := hp t4
   replace hp := hp (Sl.len t5)
   obtain ⟨z3, d0, Y8⟩ := MO.pack (o_simfs_FS_mk i0 q9 r9 j5 v6 r2 v1 t3 t4 t5 rfl i1 i2 i3 i4 i5 i6)
   have Z8 : Sub z3 q8 := (MO.mem d0)
   refine reg_drawn (RB s9.heap.size z3) 10 (by kernel_rfl) (fun d1 q0 => ?_)
   have i7 := Evo.of_drew q0
   have y7 : d1.heap.size = s9.heap.size := by rw [q0]
   clear q0
   have u5 := Step.of0 q8 i7
   have v0 := RB.refl s9.heap.size z3 d1
   have j6 := (Sl.step m1 u5)
   have v7 := (Old.step g8 u5)
   have q1 := (Evo.then0 e8 (Step.evo u5))
   have j7 := (Sub.trans m2 (Step.up u5))
   have j8 := (News.step m3 u5)
   have v4 := (MO.step0 d0 u5)
   refine r_take 0 (.pointer (some ⟨z0, 0, none⟩)) (RB.pre _ _) rfl (by kernel_rfl) (fun _ _ _ h => hQ.panic _ _ _ _ _ h) (.inl ⟨rfl, fun wq hq => (by kernel_rfl)⟩) ?_
   refine r_take 1 (.pointer (some ⟨z0, 0, none⟩)) (RB.pre _ _) rfl (by kernel_rfl) (fun _ _ _ h => hQ.panic _ _ _ _ _ h) (.inl ⟨rfl, fun wq hq => (by kernel_rfl)⟩) ?_
   refine r_take 2 (.pointer (some ⟨z0, 1, none⟩)) (RB.pre _ _) rfl (by kernel_rfl) (fun _ _ _ h => hQ.panic _ _ _ _ _ h) (.inl ⟨rfl, fun wq hq => (by kernel_rfl)⟩) ?_
   refine r_take 4 (.pointer (some ⟨z0, 0, none⟩)) (RB.pre _ _) rfl (by kernel_rfl) (fun _ _ _ h => hQ.panic _ _ _ _ _ h) (.inl ⟨rfl, fun wq hq => (by kernel_rfl)⟩) ?_
   refine r_take 5 (.string p) (RB.pre _ _) rfl (by kernel_rfl) (fun _ _ _ h => hQ.panic _ _ _ _ _ h) (.inl ⟨rfl, fun wq hq => (by kernel_rfl)⟩) ?_
   refine r_take 6 (.int .i64 mode) (RB.pre _ _) rfl (by kernel_rfl) (fun _ _ _ h => hQ.panic _ _ _ _ _ h) (.inl ⟨rfl, fun wq hq => (by kernel_rfl)⟩) ?_
   refine r_take 7 (.slice u9 b.length t0) (RB.pre _ _) rfl (by kernel_rfl) (fun _ _ _ h => hQ.panic _ _ _ _ _ h) (.inl ⟨rfl, fun wq hq => (by kernel_rfl)⟩) ?_
   refine r_ready [3, 8] (by kernel_rfl) rfl (all_cons ⟨_, _, _, _, _, _, rfl, ?_⟩ (all_cons ⟨_, _, _, _, _, _, rfl, ?_⟩ all_nil))
   ·
    obtain ⟨c5, v8, Y9, V0, V1, c6, c7, d2, c8, m6, V2, m7, i9, l9, c9, a0, a1, _, _, _, _, _, _, _, _, _, _⟩ := o_simfs_FS_open v4
    refine o_pv (.map (some v8)) rfl (x_load1 (by kernel_rfl) Tryz.isAgg75 (d2.2.1.cell' 1 rfl)) ?_
    refine ⟨fun _ => RB.refl _ _ _, ?_⟩
    refine r_ready [8] (by kernel_rfl) rfl (all_cons ⟨_, _, _, _, _, _, rfl, ?_⟩ all_nil)
    refine o_call 71 #[(.pointer (some ⟨z0, 0, none⟩)), (.string p), (.int .i64 mode), (.slice u9 b.length t0)] rfl (x_call Tryz.call71 (by kernel_rfl)) (simfs_FS_put_w (X := q8) (f_ := k6) (p := p) (mode := mode) (b := b) v7 (MO.re v4 (Wr.self _ _ (Sub.refl _))) j3 v5 j6 hp) ?_
    rintro _ T4 ⟨z1, y8, hp, h0, h1, q2, q3, r3, rfl, k7, t6, t7, r4, y2, y3, z4, v9, d3⟩
    have rm := RB.mono (F' := z3) (Step.evo r3) (Nat.le_trans (Nat.le_of_eq y7.symm) (RB.size v0)) (Wr.self _ _ (Sub.refl _))
    have j9 := RB.trans v0 rm
    refine ⟨fun _ => rm, ?_⟩
    have g0 : Wr z3 s9.heap.size h1 := Wr.trans k7.wr (Wr.self _ _ (Sub.refl _)) (Nat.le_trans (Nat.le_of_eq y7.symm) (RB.size v0))
    have h2 := MO.re k7 (Wr.trans k7.wr v4.wr q1.size)
    have m8 := d3 _ (d2.2.1.cell' 1 rfl)
    replace hp := hp t6
    replace hp := hp t7
    replace hp := hp r4
    replace hp := hp y2
    replace hp := hp y3
    replace hp := hp z4
    replace hp := hp (Sl.len v9)
    refine r_ready [9] (by kernel_rfl) rfl (all_cons ⟨_, _, _, _, _, _, rfl, ?_⟩ all_nil)
    obtain ⟨a2, z6, V3, V4, V5, a3, a4, k8, t8, z7, q4, u0, r5, v2, t9, s0, s1, V6, V7, g1, V8, h3, h4, h5, h6, h7, d4⟩ := o_simfs_FS_open h2
    replace hp := hp (OS.len q4)
    replace hp := hp u0
    replace hp := hp r5
    replace hp := hp v2
    replace hp := hp t9
    replace hp := hp s0
    replace hp := hp (Sl.len s1)
    obtain rfl : z6 = v8 := map_inj (m8) (k8.2.1.cell' 1 rfl)
    have k0 := (Old.step v7 r3)
    have d5 := (Evo.thenW q1 (Step.evo r3) v4.wr)
    have m9 := (Sub.trans j7 (Step.up r3))
    have n0 := (News.step j8 r3)
    refine o_call 38 #[(.map (some z6)), (.agg #[(.int .i64 y8.kind), (.string y8.path), (.string y8.to_), (.int .i64 y8.file.mode), (.int .i64 y8.file.time), (.int .i64 y8.file.inode), (.slice q2 y8.file.b.length q3)])] rfl (x_call Tryz.call38 (by kernel_rfl)) (simfs_apply_w (X := h0) (l := z1.files) (o := y8) k0 (OM.re z7 (Wr.self _ _ (Sub.refl _))) t6 t7 r4 y2 y3 z4 v9 hp) ?_
    rintro _ T5 ⟨h8, T6, hp, h9, z8, rfl, u6⟩
    have rm := RB.mono (F' := z3) (Step.evo z8) (Nat.le_trans (Nat.le_of_eq y7.symm) (RB.size j9)) (fun x hx => g0 x (g1 x hx))
    refine ⟨fun _ => rm, ?_⟩
    have V9 : Wr z3 s9.heap.size [z6] := Wr.trans u6.wr (fun x hx => g0 x (g1 x hx)) (Nat.le_trans (Nat.le_of_eq y7.symm) (RB.size j9))
    have b0 := OM.re u6 (Wr.trans u6.wr z7.wr d5.size)
    have d6 := Ap.grow u6.wr h4 (OB.old k8) (Nat.le_refl _)
    have d7 := Ap.grow u6.wr h6 (OM.old t8) (Nat.le_refl _)
    have b1 := Ap.grow u6.wr (Ap.symm d4) (OS.old q4) (Nat.le_refl _)
    refine r_done (by kernel_rfl) ?_
    have d8 := (Old.step k0 z8)
    have b2 := (Evo.thenW d5 (Step.evo z8) z7.wr)
    have n1 := (Sub.trans m9 (Step.up z8))
    have n2 := (News.step n0 z8)
    have b3 := (OB.step k8 z8 d6)
    have k1 := (OM.step t8 z8 d7)
    have n3 := (OS.step q4 z8 b1)
    have k2 := (Sl.step s1 z8)
    obtain ⟨b4, b5, U0⟩ := MO.pack (o_simfs_FS_mk b3 k1 b0 n3 u0 r5 v2 t9 s0 k2 rfl h3 d6 h5 d7 h7 d4)
    refine then_normal (j4 _ _ _ ⟨[], fit_mk (fun _ _ => rfl) (by kernel_rfl) vs_nil, ?_⟩)
    exact ⟨h9, (S_simfs_FS.mk z1.kept h8 z1.pending z1.quota z1.now z1.inodes z1.ops_ z1.off z1.armed z1.left z1.keep), b4, rfl, b2, d8, n1, n2, b5, hp⟩
   ·
    refine o_call 71 #[(.pointer (some ⟨z0, 0, none⟩)), (.string p), (.int .i64 mode), (.slice u9 b.length t0)] rfl (x_call Tryz.call71 (by kernel_rfl)) (simfs_FS_put_w (X := q8) (f_ := k6) (p := p) (mode := mode) (b := b) v7 (MO.re v4 (Wr.self _ _ (Sub.refl _))) j3 v5 j6 hp) ?_
    rintro _ T7 ⟨z2, y9, hp, b6, b7, q5, q6, r6, rfl, k9, s2, s3, r7, y4, y5, z5, u1, Z9⟩
    have rm := RB.mono (F' := z3) (Step.evo r6) (Nat.le_trans (Nat.le_of_eq y7.symm) (RB.size v0)) (Wr.self _ _ (Sub.refl _))
    have g2 := RB.trans v0 rm
    refine ⟨fun _ => rm, ?_⟩
    have g3 : Wr z3 s9.heap.size b7 := Wr.trans k9.wr (Wr.self _ _ (Sub.refl _)) (Nat.le_trans (Nat.le_of_eq y7.symm) (RB.size v0))
    have d9 := MO.re k9 (Wr.trans k9.wr v4.wr q1.size)
    replace hp := hp s2
    replace hp := hp s3
    replace hp := hp r7
    replace hp := hp y4
    replace hp := hp y5
    replace hp := hp z5
    replace hp := hp (Sl.len u1)
    refine r_ready [3] (by kernel_rfl) rfl (all_cons ⟨_, _, _, _, _, _, rfl, ?_⟩ all_nil)
    obtain ⟨a5, u2, U1, U2, U3, a6, a7, l0, a8, n4, U4, n5, b8, m0, a9, e0, e1, _, _, _, _, _, _, _, _, _, _⟩ := o_simfs_FS_open d9
    refine o_pv (.map (some u2)) rfl (x_load1 (by kernel_rfl) Tryz.isAgg75 (l0.2.1.cell' 1 rfl)) ?_
    refine ⟨fun _ => RB.refl _ _ _, ?_⟩
    refine r_ready [9] (by kernel_rfl) rfl (all_cons ⟨_, _, _, _, _, _, rfl, ?_⟩ all_nil)
    obtain ⟨e2, z9, U5, U6, U7, e3, e4, j0, s4, y0, q7, u3, r8, v3, s5, s6, s7, U8, U9, g4, T0, b9, f0, f1, f2, f3, l1⟩ := o_simfs_FS_open d9
    replace hp := hp (OS.len q7)
    replace hp := hp u3
    replace hp := hp r8
    replace hp := hp v3
    replace hp := hp s5
    replace hp := hp s6
    replace hp := hp (Sl.len s7)
    obtain rfl : z9 = u2 := map_inj (l0.2.1.cell' 1 rfl) (j0.2.1.cell' 1 rfl)
    have k3 := (Old.step v7 r6)
    have l2 := (Evo.thenW q1 (Step.evo r6) v4.wr)
    have n6 := (Sub.trans j7 (Step.up r6))
    have n7 := (News.step j8 r6)
    refine o_call 38 #[(.map (some z9)), (.agg #[(.int .i64 y9.kind), (.string y9.path), (.string y9.to_), (.int .i64 y9.file.mode), (.int .i64 y9.file.time), (.int .i64 y9.file.inode), (.slice q5 y9.file.b.length q6)])] rfl (x_call Tryz.call38 (by kernel_rfl)) (simfs_apply_w (X := b6) (l := z2.files) (o := y9) k3 (OM.re y0 (Wr.self _ _ (Sub.refl _))) s2 s3 r7 y4 y5 z5 u1 hp) ?_
    rintro _ T8 ⟨f4, T9, hp, f5, y1, rfl, u7⟩
    have rm := RB.mono (F' := z3) (Step.evo y1) (Nat.le_trans (Nat.le_of_eq y7.symm) (RB.size g2)) (fun x hx => g3 x (g4 x hx))
    refine ⟨fun _ => rm, ?_⟩
    have T1 : Wr z3 s9.heap.size [z9] := Wr.trans u7.wr (fun x hx => g3 x (g4 x hx)) (Nat.le_trans (Nat.le_of_eq y7.symm) (RB.size g2))
    have f6 := OM.re u7 (Wr.trans u7.wr y0.wr l2.size)
    have l3 := Ap.grow u7.wr f0 (OB.old j0) (Nat.le_refl _)
    have l4 := Ap.grow u7.wr f2 (OM.old s4) (Nat.le_refl _)
    have f7 := Ap.grow u7.wr (Ap.symm l1) (OS.old q7) (Nat.le_refl _)
    refine r_done (by kernel_rfl) ?_
    have l5 := (Old.step k3 y1)
    have f8 := (Evo.thenW l2 (Step.evo y1) y0.wr)
    have n8 := (Sub.trans n6 (Step.up y1))
    have n9 := (News.step n7 y1)
    have f9 := (OB.step j0 y1 l3)
    have k4 := (OM.step s4 y1 l4)
    have o0 := (OS.step q7 y1 f7)
    have k5 := (Sl.step s7 y1)
    obtain ⟨p0, p1, T2⟩ := MO.pack (o_simfs_FS_mk f9 k4 f6 o0 u3 r8 v3 s5 s6 k5 rfl b9 l3 f1 l4 f3 l1)
    refine then_normal (j4 _ _ _ ⟨[], fit_mk (fun _ _ => rfl) (by kernel_rfl) vs_nil, ?_⟩)
    exact ⟨f5, (S_simfs_FS.mk z2.kept f4 z2.pending z2.quota z2.now z2.inodes z2.ops_ z2.off z2.armed z2.left z2.keep), p0, rfl, f8, l5, n8, n9, p1, hp⟩
  ·
   rintro _ r0 R1 ⟨u4, r1, g9, rfl, l6, l7, o3, o4, j1, o5⟩
   replace hp := m4 r1 o5
   refine then_normal (Z7 _ _ _ _ ?_)
   refine seq_ (fun _ p2 => ?_)
   refine reg_ ?_
   refine sq (o_pv (.pointer (some ⟨z0, 0, none⟩)) rfl (by kernel_rfl) ?_)
   refine sq (o_call 85 #[(.pointer (some ⟨z0, 0, none⟩))] rfl (x_call Tryz.call85 (by kernel_rfl)) (simfs_FS_sync_w (X := u4) (f_ := r1) l7 (MO.re j1 (Wr.self _ _ (Sub.refl _))) hp) ?_)
   rintro _ R2 ⟨o6, hp, p3, p4, j2, rfl, l8⟩
   have p5 := MO.re l8 (Wr.trans l8.wr j1.wr l6.size)
   refine nil_ ?_
   refine then_normal (p2 _ _ _ _ ?_)
   refine seq_ (fun _ p6 => ?_)
   refine reg_ ?_
   refine sq (o_pv (.int .i64 (0 : Int)) rfl (by kernel_rfl) ?_)
   refine nil_ ?_
   refine then_normal (p6 _ _ _ _ ?_)
   refine wp_ret ?_
   have p7 := (Evo.thenW l6 (Step.evo j2) j1.wr)
   have o7 := (Sub.trans o3 (Step.up j2))
   have o8 := (News.step o4 j2)
   refine end_ret hQ (.int .i64 (0 : Int)) (by kernel_rfl) ?_
   exact ⟨o6, (0 : Int), hp, p3, p4, step_of p7 o9 o7 o8, rfl, p5, (by decide : inR .i64 (0 : Int))⟩
def simfs_FS_Unlink_p (f_ : S_simfs_FS) (p : ByteArray) (Q : S_simfs_FS → Int → Prop) : Prop :=
 ((p.size ≤ maxLen) → ((f_.pending.length ≤ 9223372036854775807) → ((inR .i64 f_.quota) → ((inR .i64 f_.now) → ((inR .i64 f_.inodes) → ((inR .i64 f_.ops_) → ((inR .i64 f_.left) → ((f_.keep.length ≤ 9223372036854775807) → ((inR .i64 ((mgetD f_.files p).mode)) → ((inR .i64 ((mgetD f_.files p).time)) → ((inR .i64 ((mgetD f_.files p).inode)) → ((((mgetD f_.files p).b).length ≤ 9223372036854775807) → (∃ z0 : S_simfs_FS → Prop, (∀ (z2 : S_simfs_FS), z0 z2 → Q z2 (0 : Int)) ∧ (((f_.off = true) → Q f_ (13 : Int)) ∧ ((f_.off = false) → ((((mhas f_.files p) = true) → (simfs_FS_sync_p (S_simfs_FS.mk f_.kept (mdel f_.files p) f_.pending f_.quota f_.now f_.inodes f_.ops_ f_.off f_.armed f_.left f_.keep) (fun (z1 : S_simfs_FS) => (z0 z1)))) ∧ (((mhas f_.files p) = false) → (z0 f_))))))))))))))))))
set_option maxRecDepth 20000 in
set_option maxHeartbeats 4000000 in
theorem simfs_FS_Unlink_w {X : List Nat} {w : World} {f_ : S_simfs_FS} {p : ByteArray} {z0 : Nat} {z6 : List Nat} {Q : S_simfs_FS → Int → Prop} (j4 : Old X w) (t7 : MO o_simfs_FS 78 z6 w.heap.size X w z6 z0 f_) (j5 : p.size ≤ maxLen) (hp : simfs_FS_Unlink_p f_ p Q) :
  Calls Tryz.prog 52 #[(.pointer (some ⟨z0, 0, none⟩)), (.string p)] w (Ret fun v w' => ∃ (j6 : S_simfs_FS) (q0 : Int), Q j6 q0 ∧ ∃ (X' : List Nat) (j7 : List Nat), Step X w z6 X' w' ∧ v = (.int .i64 q0) ∧ MO o_simfs_FS 78 z6 w.heap.size X' w' j7 z0 j6 ∧ inR .i64 q0) := by
 have hXo := j4
 have E0 : Evo z6 w w := RB.refl _ _ _
 have hS : Sub X X := Sub.refl _
 have hN : News X w X w := News.refl _ _
 have r8 : Sub z6 X := MO.mem t7
 unfold simfs_FS_Unlink_p at hp
 refine enter_ Tryz.func52 rfl 30 [(0, (.pointer (some ⟨z0, 0, none⟩))), (1, (.string p))] (by kernel_rfl) (fun Qe hQ => ?_)
 replace hp := hp j5
 refine seq_ (fun _ d1 => ?_)
 refine reg_ ?_
 refine sq (o_pv (.int .i64 (0 : Int)) rfl (by kernel_rfl) ?_)
 refine nil_ ?_
 refine then_normal (d1 _ _ _ _ ?_)
 refine seq_ (fun _ d2 => ?_)
 refine reg_ ?_
 refine sq (o_pv (.pointer (some ⟨z0, 0, none⟩)) rfl (by kernel_rfl) ?_)
 refine sq (o_pv (.pointer (some ⟨z0, 0, none⟩)) rfl (by kernel_rfl) ?_)
 obtain ⟨j3, y7, d3, d4, d5, q1, q2, t8, v1, z7, u3, z3, y1, z1, z4, z5, y8, d6, d7, d8, d9, t9, t2, s0, t3, s1, t4⟩ := o_simfs_FS_open t7
 replace hp := hp (OS.len u3)
 replace hp := hp z3
 replace hp := hp y1
 replace hp := hp z1
 replace hp := hp z4
 replace hp := hp z5
 replace hp := hp (Sl.len y8)
 refine sq (o_pv (.pointer (some ⟨z0, 1, none⟩)) rfl (by kernel_rfl) ?_)
 refine sq (o_pv (.map (some y7)) rfl (x_load1 (by kernel_rfl) Tryz.isAgg75 (t8.2.1.cell' 1 rfl)) ?_)
 refine sq (o_pv (.string p) rfl (by kernel_rfl) ?_)
 obtain ⟨l0, q3, q4⟩ := MapAt.look z7.2.1 p [(.int .i64 (0 : Int)), (.int .i64 (0 : Int)), (.int .i64 (0 : Int)), (.slice none 0 0)] (fun _ _ => (r_simfs_file_mk (by decide : inR .i64 (0 : Int)) (by decide : inR .i64 (0 : Int)) (by decide : inR .i64 (0 : Int)) (Sl.nil) rfl))
 obtain ⟨y2, y3, rfl, u4, u5, v6, s7⟩ := r_simfs_file_open q3
 replace hp := hp u4
 replace hp := hp u5
 replace hp := hp v6
 replace hp := hp (Sl.len s7)
 refine sq (o_pv (.tuple #[(.agg #[(.int .i64 ((mgetD f_.files p).mode)), (.int .i64 ((mgetD f_.files p).time)), (.int .i64 ((mgetD f_.files p).inode)), (.slice y2 (((mgetD f_.files p).b).length) y3)]), (.bool (mhas f_.files p))]) rfl (x_lookup2 (w0 := w) (k := p) (v := (.agg #[(.int .i64 ((mgetD f_.files p).mode)), (.int .i64 ((mgetD f_.files p).time)), (.int .i64 ((mgetD f_.files p).inode)), (.slice y2 (((mgetD f_.files p).b).length) y3)])) (z := (.agg #[(.int .i64 (0 : Int)), (.int .i64 (0 : Int)), (.int .i64 (0 : Int)), (.slice none 0 0)])) (b := mhas f_.files p) (s := 4) (bts := 48) (by kernel_rfl) (by kernel_rfl) q4 rfl Tryz.underlying75 Tryz.underlying9 (by kernel_rfl)) ?_)
 refine sq (o_pv (.tuple #[(.agg #[(.int .i64 ((mgetD f_.files p).mode)), (.int .i64 ((mgetD f_.files p).time)), (.int .i64 ((mgetD f_.files p).inode)), (.slice y2 (((mgetD f_.files p).b).length) y3)]), (.bool (mhas f_.files p))]) rfl (by kernel_rfl) ?_)
 refine sq (o_pv (.agg #[(.int .i64 ((mgetD f_.files p).mode)), (.int .i64 ((mgetD f_.files p).time)), (.int .i64 ((mgetD f_.files p).inode)), (.slice y2 (((mgetD f_.files p).b).length) y3)]) rfl (by kernel_rfl) ?_)
 refine sq (o_pv (.bool (mhas f_.files p)) rfl (by kernel_rfl) ?_)
 refine sq (o_newX [(.int .i64 (0 : Int)), (.int .i64 (0 : Int)), (.int .i64 (0 : Int)), (.slice none 0 0)] 81 (X := X) (B := w.heap.size) E0.size rfl (by kernel_rfl) ?_)
 intro l5 l6 s2 y4 r9 t5
 have j8 := t5 _ (OB.old t8)
 have j9 := t5 _ (OM.old v1)
 have g0 := t5 _ (OM.old z7)
 have g1 := t5 _ (OS.old u3)
 have g2 := (OB.step0 t8 y4)
 have u6 := (OM.step0 v1 y4)
 have v7 := (OM.step0 z7 y4)
 have q5 := (OS.step0 u3 y4)
 have g3 := (Evo.then0 E0 (Step.evo y4))
 refine sq (o_stB (o := 0) (v := (.agg #[(.int .i64 ((mgetD f_.files p).mode)), (.int .i64 ((mgetD f_.files p).time)), (.int .i64 ((mgetD f_.files p).inode)), (.slice y2 (((mgetD f_.files p).b).length) y3)])) [(.int .i64 ((mgetD f_.files p).mode)), (.int .i64 ((mgetD f_.files p).time)), (.int .i64 ((mgetD f_.files p).inode)), (.slice y2 (((mgetD f_.files p).b).length) y3)] rfl r9 (by kernel_rfl) (by kernel_rfl) Tryz.sizeOf81 rfl rfl rfl ?_)
 intro l7 y5 l8
 refine sq (o_pv (.bool (mhas f_.files p)) rfl (by kernel_rfl) ?_)
 refine nil_ ?_
 refine then_normal (d2 _ _ _ _ ?_)
 refine seq_ (fun _ g4 => ?_)
 have v8 := (Old.step (Old.step hXo y4) y5)
 have u7 := (Evo.thenW g3 (Step.evo y5) (Wr.of r9.2.2))
 have v2 := (Sub.trans (Sub.trans hS (Step.up y4)) (Step.up y5))
 have v3 := (News.step (News.step hN y4) y5)
 have y9 := (OB.step g2 y5 j8)
 have z8 := (OM.step u6 y5 j9)
 have z2 := (OM.step v7 y5 g0)
 have v4 := (OS.step q5 y5 g1)
 have z9 := (Sl.step (Sl.step y8 y4) y5)
 obtain ⟨q6, s8, hp⟩ := hp
 refine ground_ ?_
 refine join_ 1073676304 (fun lq v0 => ∃ (y6 : List Nat) (v9 : S_simfs_FS) (s3 : List Nat), (lq = []) ∧ (Evo z6 w v0) ∧ (Old y6 v0) ∧ (Sub X y6) ∧ (News X w y6 v0) ∧ (MO o_simfs_FS 78 z6 w.heap.size y6 v0 s3 z0 v9) ∧ (q6 v9)) (fun g7 t6 => ?_) ?_
 ·
  refine wp_block ?_
  refine seq_ (fun _ q7 => ?_)
  refine reg_ ?_
  refine sq (o_pv (.pointer (some ⟨z0, 0, none⟩)) rfl (by kernel_rfl) ?_)
  refine sq (o_pv (.pointer (some ⟨z0, 0, none⟩)) rfl (by kernel_rfl) ?_)
  refine sq (o_pv (.pointer (some ⟨z0, 7, none⟩)) rfl (by kernel_rfl) ?_)
  refine sq (o_pv (.bool f_.off) rfl (x_load1 (by kernel_rfl) Tryz.isAgg4 (y9.2.1.cell' 7 rfl)) ?_)
  refine sq (o_pv (.bool f_.off) rfl (by kernel_rfl) ?_)
  refine nil_ ?_
  refine then_normal (q7 _ _ _ _ ?_)
  refine cond_b f_.off (by kernel_rfl) (fun u9 => ?_) (fun u9 => ?_)
  ·
   replace hp := hp.1 u9
   refine seq_ (fun _ q8 => ?_)
   refine reg_ ?_
   refine sq (o_pv (.int .i64 (13 : Int)) rfl (by kernel_rfl) ?_)
   refine nil_ ?_
   refine then_normal (q8 _ _ _ _ ?_)
   refine wp_ret ?_
   refine blk_ret ?_
   refine then_ret ?_
   refine then_ret ?_
   obtain ⟨q9, k0, g8⟩ := MO.pack (o_simfs_FS_mk y9 z8 z2 v4 z3 y1 z1 z4 z5 z9 rfl t9 t2 s0 t3 s1 t4)
   refine end_ret hQ (.int .i64 (13 : Int)) (by kernel_rfl) ?_
   exact ⟨f_, (13 : Int), hp, s2, q9, step_of u7 r8 v2 v3, rfl, k0, (by decide : inR .i64 (13 : Int))⟩
  ·
   replace hp := hp.2 u9
   refine seq_ (fun _ k1 => ?_)
   refine reg_ ?_
   refine sq (o_pv (.bool (mhas f_.files p)) rfl (by kernel_rfl) ?_)
   refine sq (o_pv (.bool (mhas f_.files p)) rfl (by kernel_rfl) ?_)
   refine nil_ ?_
   refine then_normal (k1 _ _ _ _ ?_)
   refine cond_b (mhas f_.files p) (by kernel_rfl) (fun t0 => ?_) (fun t0 => ?_)
   ·
    replace hp := hp.1 t0
    refine seq_ (fun _ k2 => ?_)
    refine reg_ ?_
    refine sq (o_pv (.pointer (some ⟨z0, 0, none⟩)) rfl (by kernel_rfl) ?_)
    refine sq (o_pv (.pointer (some ⟨z0, 0, none⟩)) rfl (by kernel_rfl) ?_)
    refine sq (o_pv (.pointer (some ⟨z0, 1, none⟩)) rfl (by kernel_rfl) ?_)
    refine sq (o_pv (.map (some y7)) rfl (x_load1 (by kernel_rfl) Tryz.isAgg75 (y9.2.1.cell' 1 rfl)) ?_)
    refine sq (o_pv (.string p) rfl (by kernel_rfl) ?_)
    refine sq (o_mapdel (k := p) rfl z2 Tryz.underlying75 Tryz.underlying9 (by kernel_rfl) (by kernel_rfl) ?_)
    intro l1 y0 k3
    refine nil_ ?_
    refine then_normal (k2 _ _ _ _ ?_)
    refine reg_ ?_
    refine sq (o_pv (.pointer (some ⟨z0, 0, none⟩)) rfl (by kernel_rfl) ?_)
    have u0 := (Old.step v8 y0)
    have s4 := (Evo.thenW u7 (Step.evo y0) z2.2.2)
    have s9 := (Sub.trans v2 (Step.up y0))
    have r0 := (News.step v3 y0)
    have k4 := (OB.step y9 y0 t2)
    have u1 := (OM.step z8 y0 t3)
    have r1 := (OS.step v4 y0 (Ap.symm t4))
    have u2 := (Sl.step z9 y0)
    obtain ⟨l2, t1, g9⟩ := MO.pack (o_simfs_FS_mk k4 u1 k3 r1 z3 y1 z1 z4 z5 u2 rfl t9 t2 s0 t3 s1 t4)
    refine sq (o_call 85 #[(.pointer (some ⟨z0, 0, none⟩))] rfl (x_call Tryz.call85 (by kernel_rfl)) (simfs_FS_sync_w (X := s2) (f_ := (S_simfs_FS.mk f_.kept (mdel f_.files p) f_.pending f_.quota f_.now f_.inodes f_.ops_ f_.off f_.armed f_.left f_.keep)) u0 (MO.re t1 (Wr.self _ _ (Sub.refl _))) hp) ?_)
    rintro _ l3 ⟨r2, hp, k5, k6, v5, rfl, s5⟩
    have k7 := MO.re s5 (Wr.trans s5.wr t1.wr s4.size)
    refine nil_ ?_
    refine blk_normal ?_
    have k8 := (Evo.thenW s4 (Step.evo v5) t1.wr)
    have s6 := (Old.step u0 v5)
    have r3 := (Sub.trans s9 (Step.up v5))
    have r4 := (News.step r0 v5)
    refine then_normal (t6 _ _ _ ⟨[], fit_mk (fun _ _ => rfl) (by kernel_rfl) vs_nil, ?_⟩)
    exact ⟨k5, r2, k6, rfl, k8, s6, r3, r4, k7, hp⟩
   ·
    replace hp := hp.2 t0
    refine wp_skip ?_
    refine blk_normal ?_
    obtain ⟨k9, j0, d0⟩ := MO.pack (o_simfs_FS_mk y9 z8 z2 v4 z3 y1 z1 z4 z5 z9 rfl t9 t2 s0 t3 s1 t4)
    refine then_normal (t6 _ _ _ ⟨[], fit_mk (fun _ _ => rfl) (by kernel_rfl) vs_nil, ?_⟩)
    exact ⟨s2, f_, k9, rfl, u7, v8, v2, v3, j0, hp⟩
 ·
  rintro _ v0 l4 ⟨y6, v9, s3, rfl, j1, g5, r5, r6, g6, r7⟩
  replace hp := s8 v9 r7
  refine then_normal (g4 _ _ _ _ ?_)
  refine seq_ (fun _ j2 => ?_)
  refine reg_ ?_
  refine sq (o_pv (.int .i64 (0 : Int)) rfl (by kernel_rfl) ?_)
  refine nil_ ?_
  refine then_normal (j2 _ _ _ _ ?_)
  refine wp_ret ?_
  refine end_ret hQ (.int .i64 (0 : Int)) (by kernel_rfl) ?_
  exact ⟨v9, (0 : Int), hp, y6, s3, step_of j1 r8 r5 r6, rfl, g6, (by decide : inR .i64 (0 : Int))⟩
def simfs_FS_Quota_p (f_ : S_simfs_FS) (n_ : Int) (Q : S_simfs_FS → Prop) : Prop :=
 ((inR .i64 n_) → ((f_.pending.length ≤ 9223372036854775807) → ((inR .i64 f_.quota) → ((inR .i64 f_.now) → ((inR .i64 f_.inodes) → ((inR .i64 f_.ops_) → ((inR .i64 f_.left) → ((f_.keep.length ≤ 9223372036854775807) → Q (S_simfs_FS.mk f_.kept f_.files f_.pending n_ f_.now f_.inodes f_.ops_ f_.off f_.armed f_.left f_.keep)))))))))
set_option maxRecDepth 20000 in
set_option maxHeartbeats 4000000 in
theorem simfs_FS_Quota_w {X : List Nat} {w : World} {f_ : S_simfs_FS} {n_ : Int} {z0 : Nat} {z2 : List Nat} {Q : S_simfs_FS → Prop} (u0 : Old X w) (y8 : MO o_simfs_FS 78 z2 w.heap.size X w z2 z0 f_) (y9 : inR .i64 n_) (hp : simfs_FS_Quota_p f_ n_ Q) :
  Calls Tryz.prog 54 #[(.pointer (some ⟨z0, 0, none⟩)), (.int .i64 n_)] w (Ret fun v w' => ∃ (u1 : S_simfs_FS), Q u1 ∧ ∃ (X' : List Nat) (u2 : List Nat), Step X w z2 X' w' ∧ v = .tuple #[] ∧ MO o_simfs_FS 78 z2 w.heap.size X' w' u2 z0 u1) := by
 have hXo := u0
 have E0 : Evo z2 w w := RB.refl _ _ _
 have hS : Sub X X := Sub.refl _
 have hN : News X w X w := News.refl _ _
 have u3 : Sub z2 X := MO.mem y8
 unfold simfs_FS_Quota_p at hp
 refine enter_ Tryz.func54 rfl 8 [(0, (.pointer (some ⟨z0, 0, none⟩))), (1, (.int .i64 n_))] (by kernel_rfl) (fun Qe hQ => ?_)
 replace hp := hp y9
 refine reg_ ?_
 refine sq (o_pv (.pointer (some ⟨z0, 0, none⟩)) rfl (by kernel_rfl) ?_)
 refine sq (o_pv (.int .i64 n_) rfl (by kernel_rfl) ?_)
 refine sq (o_pv (.pointer (some ⟨z0, 0, none⟩)) rfl (by kernel_rfl) ?_)
 obtain ⟨y6, y0, u4, v5, v6, y1, y2, v1, y7, y3, v0, z8, z7, z1, z3, z4, z5, t3, t4, t5, t6, v2, v3, v4, u5, u6, u7⟩ := o_simfs_FS_open y8
 replace hp := hp (OS.len v0)
 replace hp := hp z8
 replace hp := hp z7
 replace hp := hp z1
 replace hp := hp z3
 replace hp := hp z4
 replace hp := hp (Sl.len z5)
 refine sq (o_pv (.pointer (some ⟨z0, 3, none⟩)) rfl (by kernel_rfl) ?_)
 refine sq (o_stB (o := 3) (v := (.int .i64 n_)) [(.map (some y6)), (.map (some y0)), (.slice u4 v5 v6), (.int .i64 n_), (.int .i64 f_.now), (.int .i64 f_.inodes), (.int .i64 f_.ops_), (.bool f_.off), (.bool f_.armed), (.int .i64 f_.left), (.slice y1 f_.keep.length y2)] rfl v1 (by kernel_rfl) (by kernel_rfl) Tryz.sizeOf3 rfl rfl rfl ?_)
 intro t8 z6 u9
 refine nil_ ?_
 have t0 := (Evo.thenW E0 (Step.evo z6) v1.2.2)
 have v7 := (Sub.trans hS (Step.up z6))
 have v8 := (News.step hN z6)
 have y4 := (OM.step y7 z6 (Ap.symm v2))
 have z9 := (OM.step y3 z6 (Ap.symm v3))
 have v9 := (OS.step v0 z6 (Ap.symm v4))
 have y5 := (Sl.step z5 z6)
 obtain ⟨t1, t2, t7⟩ := MO.pack (o_simfs_FS_mk u9 y4 z9 v9 y9 z7 z1 z3 z4 y5 rfl v2 v3 v4 u5 u6 u7)
 refine end_normal hQ (.tuple #[]) (by kernel_rfl) ?_
 exact ⟨(S_simfs_FS.mk f_.kept f_.files f_.pending n_ f_.now f_.inodes f_.ops_ f_.off f_.armed f_.left f_.keep), hp, X, t1, step_of t0 u3 v7 v8, rfl, t2⟩
end Go.Proofs.YtaolmfepdmgohaaGreatDoor
