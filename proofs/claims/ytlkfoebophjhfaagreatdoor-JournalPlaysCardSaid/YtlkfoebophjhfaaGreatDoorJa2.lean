/- Walks of functions: what each asks and computes, as a plain predicate, and the contract from it. -/
import Derived.Test.YtlkfoebophjhfaaGreatDoorChecked
import Derived.Test.YtlkfoebophjhfaaGreatDoorPk
import Derived.Test.YtlkfoebophjhfaaGreatDoorJa1
namespace Go.Proofs.YtlkfoebophjhfaaGreatDoor
open Go
theorem elT32 : ElemT Tryz.prog 32 5 1 1 := elemT_mk (i := Tryz.t5) (z := (.int .u8 0)) (by kernel_rfl) (by kernel_rfl) (by kernel_rfl) (by kernel_rfl) Tryz.underlying32 Tryz.sizeOf5 (by decide) (by decide)
def journal_Idle_p (f_ : S_simfs_FS) (dir : ByteArray) (Q : S_simfs_FS → Bool → Int → Prop) : Prop :=
 ((dir.size ≤ maxLen) → (journal_folder_p dir (fun (z1 : Int) => ((inR .i64 z1) → (((¬ (z1 = (0 : Int))) → Q f_ false z1) ∧ ((z1 = (0 : Int)) → (journal_own_p f_ dir (fun (z3 : S_simfs_FS) (z2 : (List ByteArray)) (z0 : Int) => ((z2.length ≤ 9223372036854775807) → ((inR .i64 z0) → Q z3 (decide ((z0 = (0 : Int)) ∧ ((z2.length : Int) = (0 : Int)))) z0))))))))))
set_option maxRecDepth 20000 in
set_option maxHeartbeats 4000000 in
theorem journal_Idle_w {X : List Nat} {w : World} {f_ : S_simfs_FS} {dir : ByteArray} {z3 : Nat} {z2 : List Nat} {Q : S_simfs_FS → Bool → Int → Prop} (u4 : Old X w) (y0 : MO o_simfs_FS 62 z2 w.heap.size X w z2 z3 f_) (z5 : dir.size ≤ maxLen) (hp : journal_Idle_p f_ dir Q) :
  Calls Tryz.prog 19 #[(.pointer (some ⟨z3, 0, none⟩)), (.string dir)] w (Ret fun v w' => ∃ (u5 : S_simfs_FS) (u6 : Bool) (v4 : Int), Q u5 u6 v4 ∧ ∃ (X' : List Nat) (u7 : List Nat), Step X w z2 X' w' ∧ v = .tuple #[(.bool u6), (.int .i64 v4)] ∧ MO o_simfs_FS 62 z2 w.heap.size X' w' u7 z3 u5 ∧ inR .i64 v4) := by
 have hXo := u4
 have E0 : Evo z2 w w := RB.refl _ _ _
 have hS : Sub X X := Sub.refl _
 have hN : News X w X w := News.refl _ _
 have v0 : Sub z2 X := MO.mem y0
 unfold journal_Idle_p at hp
 refine enter_ Tryz.func19 rfl 28 [(0, (.pointer (some ⟨z3, 0, none⟩))), (1, (.string dir))] (by kernel_rfl) (fun Qe hQ => ?_)
 replace hp := hp z5
 refine sr (fun _ t9 => pv (.bool false) ?_)
 refine pv (.int .i64 (0 : Int)) ?_
 refine nt t9 (seq_ (fun _ s0 => sr (fun _ s1 => pv (.string dir) ?_)))
 refine sq (o_call 39 #[(.string dir)] rfl (x_call Tryz.call39 (by kernel_rfl)) (journal_folder_w (X := []) (dir := dir) (Old.nil _) z5 hp) ?_)
 rintro _ s4 ⟨z9, hp, y2, rfl, y3⟩
 have z4 := Step.of0 X y2
 replace hp := hp y3
 refine pv (.int .i64 z9) ?_
 refine nt s1 (sr (fun _ u9 => pv (.int .i64 z9) ?_))
 refine pv (.bool (!decide (z9 = (0 : Int)))) ?_
 refine nt u9 ?_
 refine cond_nd (z9 = (0 : Int)) (by kernel_rfl) (fun y4 => ?_) (fun y4 => ?_)
 ·
  replace hp := hp.1 y4
  refine sr (fun _ t0 => pv (.int .i64 z9) ?_)
  refine pv (.bool false) ?_
  refine pv (.int .i64 z9) ?_
  refine nt t0 (wp_ret (then_ret ?_))
  have y8 := MO.step0 y0 z4
  have t1 := Evo.then0 E0 y2
  have v5 := Sub.trans hS (Step.up z4)
  have v6 := News.step hN z4
  refine end_ret hQ (.tuple #[(.bool false), (.int .i64 z9)]) (by kernel_rfl) ?_
  exact ⟨f_, false, z9, hp, X, z2, step_of t1 v0 v5 v6, rfl, y8, y3⟩
 ·
  replace hp := hp.2 y4
  refine wp_skip (then_normal (s0 _ _ _ _ (sr (fun _ t2 => pv (.pointer (some ⟨z3, 0, none⟩)) ?_))))
  refine pv (.string dir) ?_
  have z6 := MO.step0 y0 z4
  have y9 := Old.step hXo z4
  have v1 := Evo.then0 E0 y2
  have v7 := Sub.trans hS (Step.up z4)
  have v8 := News.step hN z4
  refine sq (o_call 40 #[(.pointer (some ⟨z3, 0, none⟩)), (.string dir)] rfl (x_call Tryz.call40 (by kernel_rfl)) (journal_own_w (X := X) (f_ := f_) (dir := dir) y9 (MO.re z6 (Wr.self _ _ (Sub.refl _))) z5 hp) ?_)
  rintro _ t3 ⟨v9, z1, z0, hp, t4, t5, z7, z8, y5, rfl, v2, u1, y6⟩
  have t6 := MO.re v2 (Wr.trans v2.wr z6.wr v1.size)
  replace hp := hp (Sl.len u1) y6
  refine pv (.tuple #[(.slice z7 z1.length z8), (.int .i64 z0)]) ?_
  refine pv (.slice z7 z1.length z8) ?_
  refine pv (.int .i64 z0) ?_
  refine pv (.slice z7 z1.length z8) ?_
  refine pv (.int .i64 z0) ?_
  refine nt t2 (seq_ (fun _ t7 => ?_))
  refine ground_ ?_
  refine join_ 267386928 (fun lq v3 => lq = [(5, (.int .i64 z0)), (4, (.bool (decide ((z0 = (0 : Int)) ∧ ((z1.length : Int) = (0 : Int))))))] ∧ t3 = v3) (fun s2 y7 => ?_) ?_
  ·
   refine reg_ (pv (.int .i64 z0) ?_)
   by_cases y1 : z0 = (0 : Int)
   ·
    refine pw (.bool true) (x_dt (p := z0 = (0 : Int)) (by kernel_rfl) y1) ?_
    refine pv (.bool true) ?_
    refine pv (.slice z7 z1.length z8) ?_
    refine pv (.int .i64 (z1.length : Int)) ?_
    refine pv (.bool (decide ((z1.length : Int) = (0 : Int)))) ?_
    refine pv (.bool (decide ((z1.length : Int) = (0 : Int)))) ?_
    refine pv (.int .i64 z0) ?_
    refine pv (.bool (decide ((z1.length : Int) = (0 : Int)))) ?_
    refine pv (.int .i64 z0) ?_
    refine nil_ (then_normal (y7 _ _ _ ⟨[(5, (.int .i64 z0)), (4, (.bool (decide ((z0 = (0 : Int)) ∧ ((z1.length : Int) = (0 : Int))))))], fit_mk (fun _ _ => rfl) (by kernel_rfl) (vs_cons (by kernel_rfl) (vs_cons (Eq.trans (b := (.bool (decide ((z1.length : Int) = (0 : Int))))) (by kernel_rfl) (dec_d ((and_iff_right y1).trans Iff.rfl)).symm) vs_nil)), rfl, rfl⟩))
   ·
    refine pw (.bool false) (x_df (p := z0 = (0 : Int)) (by kernel_rfl) y1) ?_
    refine pv (.bool false) ?_
    refine no ?_
    refine no ?_
    refine no ?_
    refine pv (.bool false) ?_
    refine pv (.int .i64 z0) ?_
    refine pv (.bool false) ?_
    refine pv (.int .i64 z0) ?_
    refine nil_ (then_normal (y7 _ _ _ ⟨[(5, (.int .i64 z0)), (4, (.bool (decide ((z0 = (0 : Int)) ∧ ((z1.length : Int) = (0 : Int))))))], fit_mk (fun _ _ => rfl) (by kernel_rfl) (vs_cons (by kernel_rfl) (vs_cons (Eq.trans (b := (.bool false)) (by kernel_rfl) (dec_f (iff_false_intro (fun h => y1 h.1))).symm) vs_nil)), rfl, rfl⟩))
  ·
   rintro _ v3 s3 ⟨rfl, hw⟩
   subst hw
   refine then_normal (t7 _ _ _ _ (wp_ret ?_))
   have t8 := Evo.thenW v1 (Step.evo y5) z6.wr
   have u2 := Sub.trans v7 (Step.up y5)
   have u3 := News.step v8 y5
   refine end_ret hQ (.tuple #[(.bool (decide ((z0 = (0 : Int)) ∧ ((z1.length : Int) = (0 : Int))))), (.int .i64 z0)]) (by kernel_rfl) ?_
   exact ⟨v9, (decide ((z0 = (0 : Int)) ∧ ((z1.length : Int) = (0 : Int)))), z0, hp, t4, t5, step_of t8 v0 u2 u3, rfl, t6, y6⟩
def simfs_FS_find_p (f_ : S_simfs_FS) (p : ByteArray) (Q : S_simfs_FS → S_simfs_file → Int → Prop) : Prop :=
 ((p.size ≤ maxLen) → ((f_.pending.length ≤ 9223372036854775807) → ((inR .i64 f_.quota) → ((inR .i64 f_.now) → ((inR .i64 f_.inodes) → ((inR .i64 f_.ops_) → ((inR .i64 f_.left) → ((f_.keep.length ≤ 9223372036854775807) → ((inR .i64 ((mgetD f_.files p).mode)) → ((inR .i64 ((mgetD f_.files p).time)) → ((inR .i64 ((mgetD f_.files p).inode)) → ((((mgetD f_.files p).b).length ≤ 9223372036854775807) → (((f_.off = true) → Q f_ (S_simfs_file.mk (0 : Int) (0 : Int) (0 : Int) ([] : List Int)) (13 : Int)) ∧ ((f_.off = false) → ((((!(mhas f_.files p)) = true) → Q f_ (S_simfs_file.mk (0 : Int) (0 : Int) (0 : Int) ([] : List Int)) (5 : Int)) ∧ (((!(mhas f_.files p)) = false) → Q f_ (mgetD f_.files p) (0 : Int)))))))))))))))))
set_option maxRecDepth 20000 in
set_option maxHeartbeats 4000000 in
theorem simfs_FS_find_w {X : List Nat} {w : World} {f_ : S_simfs_FS} {p : ByteArray} {z6 : Nat} {y6 : List Nat} {Q : S_simfs_FS → S_simfs_file → Int → Prop} (d7 : Old X w) (t0 : MO o_simfs_FS 62 y6 w.heap.size X w y6 z6 f_) (d8 : p.size ≤ maxLen) (hp : simfs_FS_find_p f_ p Q) :
  Calls Tryz.prog 41 #[(.pointer (some ⟨z6, 0, none⟩)), (.string p)] w (Ret fun v w' => ∃ (d9 : S_simfs_FS) (v2 : S_simfs_file) (k6 : Int), Q d9 v2 k6 ∧ ∃ (X' : List Nat) (l0 : List Nat) (aq0b4 : Option Addr) (cq0b5 : Nat), Step X w y6 X' w' ∧ v = .tuple #[(.agg #[(.int .i64 v2.mode), (.int .i64 v2.time), (.int .i64 v2.inode), (.slice aq0b4 v2.b.length cq0b5)]), (.int .i64 k6)] ∧ MO o_simfs_FS 62 y6 w.heap.size X' w' l0 z6 d9 ∧ inR .i64 v2.mode ∧ inR .i64 v2.time ∧ inR .i64 v2.inode ∧ Sl (rInt .u8) X' w' aq0b4 cq0b5 v2.b ∧ inR .i64 k6) := by
 have hXo := d7
 have E0 : Evo y6 w w := RB.refl _ _ _
 have hS : Sub X X := Sub.refl _
 have hN : News X w X w := News.refl _ _
 have s1 : Sub y6 X := MO.mem t0
 unfold simfs_FS_find_p at hp
 refine enter_ Tryz.func41 rfl 28 [(0, (.pointer (some ⟨z6, 0, none⟩))), (1, (.string p))] (by kernel_rfl) (fun Qe hQ => ?_)
 replace hp := hp d8
 refine sr (fun _ m6 => ?_)
 refine sq (o_newX [(.int .i64 (0 : Int)), (.int .i64 (0 : Int)), (.int .i64 (0 : Int)), (.slice none 0 0)] 74 (X := X) (B := w.heap.size) E0.size rfl (by kernel_rfl) ?_)
 intro n9 m7 m8 v7 k3 l1
 have t7 := l1 _ (MO.old t0)
 refine pv (.int .i64 (0 : Int)) ?_
 refine nt m6 (sr (fun _ l2 => pv (.pointer (some ⟨z6, 0, none⟩)) ?_))
 refine pv (.pointer (some ⟨z6, 0, none⟩)) ?_
 have q4 := MO.step0 t0 v7
 obtain ⟨k7, v8, m9, n0, n1, k8, k9, s2, y9, y1, t1, z5, y4, z4, z7, z8, z9, j0, j1, j2, j3, s3, s4, s5, s6, s7, s8⟩ := o_simfs_FS_open q4
 have s9 := Ap.subr (Ap.symm t7) j0
 have r0 := Ap.subr (Ap.symm t7) j1
 have r1 := Ap.subr (Ap.symm t7) j2
 have r2 := Ap.subr (Ap.symm t7) j3
 replace hp := hp (OS.len t1) z5 y4 z4 z7 z8 (Sl.len z9)
 refine pv (.pointer (some ⟨z6, 1, none⟩)) ?_
 refine pw (.map (some v8)) (x_load1 (by kernel_rfl) Tryz.isAgg59 (s2.2.1.cell' 1 rfl)) ?_
 refine pv (.string p) ?_
 obtain ⟨n2, j4, j5⟩ := MapAt.look y1.2.1 p [(.int .i64 (0 : Int)), (.int .i64 (0 : Int)), (.int .i64 (0 : Int)), (.slice none 0 0)] (fun _ _ => (r_simfs_file_mk (by decide : inR .i64 (0 : Int)) (by decide : inR .i64 (0 : Int)) (by decide : inR .i64 (0 : Int)) (Sl.nil) rfl))
 obtain ⟨z1, z2, rfl, v0, v1, y7, t8⟩ := r_simfs_file_open j4
 replace hp := hp v0 v1 y7 (Sl.len t8)
 refine pw (.tuple #[(.agg #[(.int .i64 ((mgetD f_.files p).mode)), (.int .i64 ((mgetD f_.files p).time)), (.int .i64 ((mgetD f_.files p).inode)), (.slice z1 (((mgetD f_.files p).b).length) z2)]), (.bool (mhas f_.files p))]) (x_lookup2 (w0 := m7) (k := p) (v := (.agg #[(.int .i64 ((mgetD f_.files p).mode)), (.int .i64 ((mgetD f_.files p).time)), (.int .i64 ((mgetD f_.files p).inode)), (.slice z1 (((mgetD f_.files p).b).length) z2)])) (z := (.agg #[(.int .i64 (0 : Int)), (.int .i64 (0 : Int)), (.int .i64 (0 : Int)), (.slice none 0 0)])) (b := mhas f_.files p) (s := 4) (bts := 48) (by kernel_rfl) (by kernel_rfl) j5 rfl Tryz.underlying59 Tryz.underlying9 (by kernel_rfl)) ?_
 refine pv (.tuple #[(.agg #[(.int .i64 ((mgetD f_.files p).mode)), (.int .i64 ((mgetD f_.files p).time)), (.int .i64 ((mgetD f_.files p).inode)), (.slice z1 (((mgetD f_.files p).b).length) z2)]), (.bool (mhas f_.files p))]) ?_
 refine pv (.agg #[(.int .i64 ((mgetD f_.files p).mode)), (.int .i64 ((mgetD f_.files p).time)), (.int .i64 ((mgetD f_.files p).inode)), (.slice z1 (((mgetD f_.files p).b).length) z2)]) ?_
 refine pv (.bool (mhas f_.files p)) ?_
 have k4 := Evo.then0 E0 (Step.evo v7)
 refine sq (o_newX [(.int .i64 (0 : Int)), (.int .i64 (0 : Int)), (.int .i64 (0 : Int)), (.slice none 0 0)] 74 (X := m8) (B := w.heap.size) k4.size rfl (by kernel_rfl) ?_)
 intro n5 n6 r3 z3 t9 v9
 have r4 := v9 _ (OB.old k3)
 have l3 := v9 _ (OB.old s2)
 have r5 := v9 _ (OM.old y9)
 have r6 := v9 _ (OM.old y1)
 have r7 := v9 _ (OS.old t1)
 have r8 := OB.step0 k3 z3
 have l4 := OB.step0 s2 z3
 have y5 := OM.step0 y9 z3
 have y2 := OM.step0 y1 z3
 have t2 := OS.step0 t1 z3
 have r9 := Evo.then0 k4 (Step.evo z3)
 refine sq (o_stB (o := 0) (v := (.agg #[(.int .i64 ((mgetD f_.files p).mode)), (.int .i64 ((mgetD f_.files p).time)), (.int .i64 ((mgetD f_.files p).inode)), (.slice z1 (((mgetD f_.files p).b).length) z2)])) [(.int .i64 ((mgetD f_.files p).mode)), (.int .i64 ((mgetD f_.files p).time)), (.int .i64 ((mgetD f_.files p).inode)), (.slice z1 (((mgetD f_.files p).b).length) z2)] rfl t9 (by kernel_rfl) (by kernel_rfl) Tryz.sizeOf74 rfl rfl rfl ?_)
 intro n7 z0 l5
 refine pv (.bool (mhas f_.files p)) ?_
 refine nt l2 (seq_ (fun _ l6 => wp_block (sr (fun _ l7 => pv (.pointer (some ⟨z6, 0, none⟩)) ?_))))
 refine pv (.pointer (some ⟨z6, 0, none⟩)) ?_
 refine pv (.pointer (some ⟨z6, 7, none⟩)) ?_
 have s0 := OB.step l4 z0 l3
 refine pw (.bool f_.off) (x_load1 (by kernel_rfl) Tryz.isAgg4 (s0.2.1.cell' 7 rfl)) ?_
 refine pv (.bool f_.off) ?_
 refine nt l7 ?_
 refine cond_b f_.off (by kernel_rfl) (fun q0 => ?_) (fun q0 => ?_)
 ·
  replace hp := hp.1 q0
  refine sr (fun _ l8 => pv (.agg #[(.int .i64 (0 : Int)), (.int .i64 (0 : Int)), (.int .i64 (0 : Int)), (.slice none 0 0)]) ?_)
  have k5 := OB.step r8 z0 r4
  have t3 := OM.step y5 z0 r5
  have u1 := OM.step y2 z0 r6
  have j6 := OS.step t2 z0 r7
  have l9 := Evo.thenW r9 (Step.evo z0) (Wr.of t9.2.2)
  refine sq (o_stB (o := 0) (v := (.agg #[(.int .i64 (0 : Int)), (.int .i64 (0 : Int)), (.int .i64 (0 : Int)), (.slice none 0 0)])) [(.int .i64 (0 : Int)), (.int .i64 (0 : Int)), (.int .i64 (0 : Int)), (.slice none 0 0)] rfl k5 (by kernel_rfl) (by kernel_rfl) Tryz.sizeOf74 rfl rfl rfl ?_)
  intro n8 y8 m0
  refine pv (.int .i64 (13 : Int)) ?_
  refine nt l8 (wp_ret (blk_ret (then_ret ?_)))
  have m1 := Evo.thenW l9 (Step.evo y8) (Wr.of k5.2.2)
  have j7 := Sub.trans (Sub.trans (Sub.trans (Sub.trans hS (Step.up v7)) (Step.up z3)) (Step.up z0)) (Step.up y8)
  have j8 := News.step (News.step (News.step (News.step hN v7) z3) z0) y8
  have m2 := OB.step s0 y8 (Ap.symm s9)
  have t4 := OM.step t3 y8 (Ap.symm r0)
  have u2 := OM.step u1 y8 (Ap.symm r1)
  have j9 := OS.step j6 y8 (Ap.symm r2)
  have t5 := Sl.step (Sl.step (Sl.step z9 z3) z0) y8
  obtain ⟨g0, g1, m3⟩ := MO.pack (o_simfs_FS_mk m2 t4 u2 j9 z5 y4 z4 z7 z8 t5 rfl s3 s4 s5 s6 s7 s8)
  refine end_ret hQ (.tuple #[(.agg #[(.int .i64 (0 : Int)), (.int .i64 (0 : Int)), (.int .i64 (0 : Int)), (.slice none 0 0)]), (.int .i64 (13 : Int))]) (rs2 Tryz.results41 (rs_agg [(.int .i64 (0 : Int)), (.int .i64 (0 : Int)), (.int .i64 (0 : Int)), (.slice none 0 0)] (by kernel_rfl) Tryz.isAgg74 Tryz.sizeOf74 (m0.2.1.cells' 0 rfl)) (rs_tmp (by kernel_rfl))) ?_
  exact ⟨f_, (S_simfs_file.mk (0 : Int) (0 : Int) (0 : Int) ([] : List Int)), (13 : Int), hp, r3, g0, none, 0, step_of m1 s1 j7 j8, rfl, g1, (by decide : inR .i64 (0 : Int)), (by decide : inR .i64 (0 : Int)), (by decide : inR .i64 (0 : Int)), Sl.nil, (by decide : inR .i64 (13 : Int))⟩
 ·
  replace hp := hp.2 q0
  refine sr (fun _ g2 => pv (.bool (mhas f_.files p)) ?_)
  refine pv (.bool (!(mhas f_.files p))) ?_
  refine pv (.bool (!(mhas f_.files p))) ?_
  refine nt g2 ?_
  refine cond_b (!(mhas f_.files p)) (by kernel_rfl) (fun t6 => ?_) (fun t6 => ?_)
  ·
   replace hp := hp.1 t6
   refine sr (fun _ g3 => pv (.agg #[(.int .i64 (0 : Int)), (.int .i64 (0 : Int)), (.int .i64 (0 : Int)), (.slice none 0 0)]) ?_)
   have q1 := OB.step r8 z0 r4
   have u3 := OM.step y5 z0 r5
   have v3 := OM.step y2 z0 r6
   have q5 := OS.step t2 z0 r7
   have g4 := Evo.thenW r9 (Step.evo z0) (Wr.of t9.2.2)
   refine sq (o_stB (o := 0) (v := (.agg #[(.int .i64 (0 : Int)), (.int .i64 (0 : Int)), (.int .i64 (0 : Int)), (.slice none 0 0)])) [(.int .i64 (0 : Int)), (.int .i64 (0 : Int)), (.int .i64 (0 : Int)), (.slice none 0 0)] rfl q1 (by kernel_rfl) (by kernel_rfl) Tryz.sizeOf74 rfl rfl rfl ?_)
   intro n3 y3 g5
   refine pv (.int .i64 (5 : Int)) ?_
   refine nt g3 (wp_ret (blk_ret (then_ret ?_)))
   have g6 := Evo.thenW g4 (Step.evo y3) (Wr.of q1.2.2)
   have q6 := Sub.trans (Sub.trans (Sub.trans (Sub.trans hS (Step.up v7)) (Step.up z3)) (Step.up z0)) (Step.up y3)
   have q7 := News.step (News.step (News.step (News.step hN v7) z3) z0) y3
   have g7 := OB.step s0 y3 (Ap.symm s9)
   have u4 := OM.step u3 y3 (Ap.symm r0)
   have v4 := OM.step v3 y3 (Ap.symm r1)
   have q8 := OS.step q5 y3 (Ap.symm r2)
   have u5 := Sl.step (Sl.step (Sl.step z9 z3) z0) y3
   obtain ⟨g8, g9, m4⟩ := MO.pack (o_simfs_FS_mk g7 u4 v4 q8 z5 y4 z4 z7 z8 u5 rfl s3 s4 s5 s6 s7 s8)
   refine end_ret hQ (.tuple #[(.agg #[(.int .i64 (0 : Int)), (.int .i64 (0 : Int)), (.int .i64 (0 : Int)), (.slice none 0 0)]), (.int .i64 (5 : Int))]) (rs2 Tryz.results41 (rs_agg [(.int .i64 (0 : Int)), (.int .i64 (0 : Int)), (.int .i64 (0 : Int)), (.slice none 0 0)] (by kernel_rfl) Tryz.isAgg74 Tryz.sizeOf74 (g5.2.1.cells' 0 rfl)) (rs_tmp (by kernel_rfl))) ?_
   exact ⟨f_, (S_simfs_file.mk (0 : Int) (0 : Int) (0 : Int) ([] : List Int)), (5 : Int), hp, r3, g8, none, 0, step_of g6 s1 q6 q7, rfl, g9, (by decide : inR .i64 (0 : Int)), (by decide : inR .i64 (0 : Int)), (by decide : inR .i64 (0 : Int)), Sl.nil, (by decide : inR .i64 (5 : Int))⟩
  ·
   replace hp := hp.2 t6
   refine wp_skip (blk_normal (then_normal (l6 _ _ _ _ (sr (fun _ d0 => pw (.agg #[(.int .i64 ((mgetD f_.files p).mode)), (.int .i64 ((mgetD f_.files p).time)), (.int .i64 ((mgetD f_.files p).inode)), (.slice z1 (((mgetD f_.files p).b).length) z2)]) (x_loadN [(.int .i64 ((mgetD f_.files p).mode)), (.int .i64 ((mgetD f_.files p).time)), (.int .i64 ((mgetD f_.files p).inode)), (.slice z1 (((mgetD f_.files p).b).length) z2)] (by kernel_rfl) Tryz.isAgg74 Tryz.sizeOf74 (l5.2.1.cells' 0 rfl)) ?_)))))
   have q2 := OB.step r8 z0 r4
   have u6 := OM.step y5 z0 r5
   have v5 := OM.step y2 z0 r6
   have q9 := OS.step t2 z0 r7
   have d1 := Evo.thenW r9 (Step.evo z0) (Wr.of t9.2.2)
   refine sq (o_stB (o := 0) (v := (.agg #[(.int .i64 ((mgetD f_.files p).mode)), (.int .i64 ((mgetD f_.files p).time)), (.int .i64 ((mgetD f_.files p).inode)), (.slice z1 (((mgetD f_.files p).b).length) z2)])) [(.int .i64 ((mgetD f_.files p).mode)), (.int .i64 ((mgetD f_.files p).time)), (.int .i64 ((mgetD f_.files p).inode)), (.slice z1 (((mgetD f_.files p).b).length) z2)] rfl q2 (by kernel_rfl) (by kernel_rfl) Tryz.sizeOf74 rfl rfl rfl ?_)
   intro n4 y0 d2
   refine pv (.int .i64 (0 : Int)) ?_
   refine nt d0 (wp_ret ?_)
   have d3 := Evo.thenW d1 (Step.evo y0) (Wr.of q2.2.2)
   have k0 := Sub.trans (Sub.trans (Sub.trans (Sub.trans hS (Step.up v7)) (Step.up z3)) (Step.up z0)) (Step.up y0)
   have k1 := News.step (News.step (News.step (News.step hN v7) z3) z0) y0
   have d4 := OB.step s0 y0 (Ap.symm s9)
   have u7 := OM.step u6 y0 (Ap.symm r0)
   have v6 := OM.step v5 y0 (Ap.symm r1)
   have k2 := OS.step q9 y0 (Ap.symm r2)
   have u9 := Sl.step (Sl.step (Sl.step z9 z3) z0) y0
   have q3 := Sl.step (Sl.step (Sl.step t8 z3) z0) y0
   obtain ⟨d5, d6, m5⟩ := MO.pack (o_simfs_FS_mk d4 u7 v6 k2 z5 y4 z4 z7 z8 u9 rfl s3 s4 s5 s6 s7 s8)
   refine end_ret hQ (.tuple #[(.agg #[(.int .i64 ((mgetD f_.files p).mode)), (.int .i64 ((mgetD f_.files p).time)), (.int .i64 ((mgetD f_.files p).inode)), (.slice z1 (((mgetD f_.files p).b).length) z2)]), (.int .i64 (0 : Int))]) (rs2 Tryz.results41 (rs_agg [(.int .i64 ((mgetD f_.files p).mode)), (.int .i64 ((mgetD f_.files p).time)), (.int .i64 ((mgetD f_.files p).inode)), (.slice z1 (((mgetD f_.files p).b).length) z2)] (by kernel_rfl) Tryz.isAgg74 Tryz.sizeOf74 (d2.2.1.cells' 0 rfl)) (rs_tmp (by kernel_rfl))) ?_
   exact ⟨f_, (mgetD f_.files p), (0 : Int), hp, r3, d5, z1, z2, step_of d3 s1 k0 k1, rfl, d6, v0, v1, y7, q3, (by decide : inR .i64 (0 : Int))⟩
def slices_Clone_byte_byte_p (s : (List Int)) (Q : (List Int) → Prop) : Prop :=
 ((s.length ≤ 9223372036854775807) → ((s.length * 1 ≤ 140737488355328) ∧ Q s))
set_option maxRecDepth 20000 in
set_option maxHeartbeats 4000000 in
theorem slices_Clone_byte_byte_w {X : List Nat} {w : World} {s : (List Int)} {z0 : Option Addr} {z1 : Nat} {Q : (List Int) → Prop} (y5 : Old X w) (z2 : Sq (rInt .u8) X w z0 z1 s) (hp : slices_Clone_byte_byte_p s Q) :
  Calls Tryz.prog 43 #[(.slice z0 s.length z1)] w (Ret fun v w' => ∃ (z8 : (List Int)), Q z8 ∧ Evo [] w w' ∧ ∃ (y2 : Option Addr) (y6 : Nat), v = .slice y2 z8.length y6 ∧ OS (rInt .u8) [] w.heap.size (blkL y2 ++ X) w' 5 y2 z8.length y6 z8) := by
 have hXo := y5
 have E0 : Evo [] w w := RB.refl _ _ _
 have hS : Sub X X := Sub.refl _
 unfold slices_Clone_byte_byte_p at hp
 refine enter_ Tryz.func43 rfl 8 [(0, (.slice z0 s.length z1))] (by kernel_rfl) (fun Qe hQ => ?_)
 replace hp := hp (Sq.len z2)
 refine sr (fun _ v1 => pv (.slice none 0 0) ?_)
 refine nt v1 (seq_ (fun _ v2 => sr (fun _ y7 => pv (.slice z0 s.length z1) ?_)))
 rcases z0 with _ | ad
 ·
  obtain rfl : s = [] := z2.2.elim (fun h => h.1) (fun ⟨b, o, xs, h, _⟩ => by cases h)
  replace hp := hp.2
  refine pv (.bool true) ?_
  refine nt y7 ?_
  refine cond_t (by kernel_rfl) ?_
  refine sr (fun _ v3 => pv (.slice none 0 0) ?_)
  refine nt v3 (wp_ret (then_ret ?_))
  refine end_ret hQ (.slice none 0 0) (by kernel_rfl) ?_
  exact ⟨([] : List Int), hp, E0, none, 0, rfl, (OS.nil _ _ _ _)⟩
 ·
  refine pv (.bool false) ?_
  refine nt y7 ?_
  refine cond_f (by kernel_rfl) ?_
  refine wp_skip (then_normal (v2 _ _ _ _ (sr (fun _ v4 => ?_))))
  refine sq (o_rowX (R := (rInt .u8)) [] ([] : List Int) 5 0 (X := X) (B := w.heap.size) E0.size rfl (by kernel_rfl) Flat.nil rfl (by decide) ?_)
  intro u1 v6 y8 z3 z9 v7
  refine pv (.slice (some ad) s.length z1) ?_
  obtain ⟨y9, hp⟩ := hp
  have y3 := Sq.step z2 z3
  have y0 := Evo.then0 E0 (Step.evo z3)
  refine sq (o_appX (R := (rInt .u8)) (X := y8) (B := w.heap.size) (L := ([] : List Int)) (M := s) rfl elT32 rfl y0.size z9 (Sq.src y3) rfl (by kernel_rfl) (by kernel_rfl) (by simpa using y9) ?_)
  intro z4 z5 z6 v8 v9 y1 z7 v5
  rw [List.nil_append] at z7
  refine pv (.slice z4 z5 z6) ?_
  refine nt v4 (wp_ret ?_)
  have y4 := Sub.trans (Sub.trans hS (Step.up z3)) (Step.up y1)
  have v0 := Evo.thenW y0 (Step.evo y1) z9.2.2
  refine end_ret hQ (.slice z4 z5 z6) (by kernel_rfl) ?_
  exact ⟨s, hp, v0, z4, z6, (by (rw [show z5 = s.length from z7.1]); first | done | rfl), (OS.give z7 y4)⟩
def slices_Clip_byte_byte_p (s : (List Int)) (Q : (List Int) → Prop) : Prop :=
 ((s.length ≤ 9223372036854775807) → ((0 ≤ (s.length : Int) ∧ (s.length : Int) ≤ (s.length : Int)) ∧ Q s))
set_option maxRecDepth 20000 in
set_option maxHeartbeats 4000000 in
theorem slices_Clip_byte_byte_w {X : List Nat} {w : World} {s : (List Int)} {z0 : Option Addr} {z1 : Nat} {Q : (List Int) → Prop} (z6 : Old X w) (z4 : Sl (rInt .u8) X w z0 z1 s) (hp : slices_Clip_byte_byte_p s Q) :
  Calls Tryz.prog 42 #[(.slice z0 s.length z1)] w (Ret fun v w' => ∃ (z2 : (List Int)), Q z2 ∧ Evo [] w w' ∧ ∃ (z3 : Option Addr), v = (.slice z3 z2.length z2.length) ∧ Sl (rInt .u8) X w' z3 z2.length z2) := by
 have hXo := z6
 have E0 : Evo [] w w := RB.refl _ _ _
 have hS : Sub X X := Sub.refl _
 unfold slices_Clip_byte_byte_p at hp
 refine enter_ Tryz.func42 rfl 9 [(0, (.slice z0 s.length z1))] (by kernel_rfl) (fun Qe hQ => ?_)
 replace hp := hp (Sl.len z4)
 refine sr (fun _ z8 => pv (.slice none 0 0) ?_)
 refine nt z8 (sr (fun _ z9 => pv (.slice z0 s.length z1) ?_))
 refine pv (.slice z0 s.length z1) ?_
 refine pv (.int .i64 (s.length : Int)) ?_
 refine pv (.slice z0 s.length z1) ?_
 refine pv (.int .i64 (s.length : Int)) ?_
 obtain ⟨y0, hp⟩ := hp
 refine sq (o_slice3F (R := (rInt .u8)) (k := .i64) (k' := .i64) (X := X) (L := s) (s.length : Int) Tryz.underlying32 Tryz.sizeOf5 z4 (by kernel_rfl) rfl rfl (by kernel_rfl) (by kernel_rfl) y0 ?_)
 intro z5 z7
 rw [take_len] at z7
 rw [take_len]
 refine pv (.slice z5 s.length s.length) ?_
 refine nt z9 (wp_ret ?_)
 refine end_ret hQ (.slice z5 s.length s.length) (by kernel_rfl) ?_
 exact ⟨s, hp, E0, z5, rfl, (Sl.less z7 hS)⟩
def simfs_FS_Read_p (f_ : S_simfs_FS) (p : ByteArray) (Q : S_simfs_FS → (List Int) → Int → Prop) : Prop :=
 ((p.size ≤ maxLen) → (simfs_FS_find_p f_ p (fun (z2 : S_simfs_FS) (z0 : S_simfs_file) (z1 : Int) => ((inR .i64 z0.mode) → ((inR .i64 z0.time) → ((inR .i64 z0.inode) → ((z0.b.length ≤ 9223372036854775807) → ((inR .i64 z1) → (((¬ (z1 = (0 : Int))) → Q z2 ([] : List Int) z1) ∧ ((z1 = (0 : Int)) → (slices_Clone_byte_byte_p z0.b (fun (z3 : (List Int)) => ((z3.length ≤ 9223372036854775807) → (slices_Clip_byte_byte_p z3 (fun (z4 : (List Int)) => ((z4.length ≤ 9223372036854775807) → Q z2 z4 (0 : Int)))))))))))))))))
set_option maxRecDepth 20000 in
set_option maxHeartbeats 4000000 in
theorem simfs_FS_Read_w {X : List Nat} {w : World} {f_ : S_simfs_FS} {p : ByteArray} {z4 : Nat} {z5 : List Nat} {Q : S_simfs_FS → (List Int) → Int → Prop} (u3 : Old X w) (y0 : MO o_simfs_FS 62 z5 w.heap.size X w z5 z4 f_) (u4 : p.size ≤ maxLen) (hp : simfs_FS_Read_p f_ p Q) :
  Calls Tryz.prog 22 #[(.pointer (some ⟨z4, 0, none⟩)), (.string p)] w (Ret fun v w' => ∃ (r0 : S_simfs_FS) (s1 : (List Int)) (s2 : Int), Q r0 s1 s2 ∧ ∃ (X' : List Nat) (r1 : List Nat) (y8 : Option Addr) (y9 : Nat), Step X w z5 X' w' ∧ v = .tuple #[(.slice y8 s1.length y9), (.int .i64 s2)] ∧ MO o_simfs_FS 62 z5 w.heap.size X' w' r1 z4 r0 ∧ Sl (rInt .u8) X' w' y8 y9 s1 ∧ inR .i64 s2) := by
 have hXo := u3
 have E0 : Evo z5 w w := RB.refl _ _ _
 have hS : Sub X X := Sub.refl _
 have hN : News X w X w := News.refl _ _
 have u5 : Sub z5 X := MO.mem y0
 unfold simfs_FS_Read_p at hp
 refine enter_ Tryz.func22 rfl 21 [(0, (.pointer (some ⟨z4, 0, none⟩))), (1, (.string p))] (by kernel_rfl) (fun Qe hQ => ?_)
 replace hp := hp u4
 refine sr (fun _ k2 => pv (.slice none 0 0) ?_)
 refine pv (.int .i64 (0 : Int)) ?_
 refine nt k2 (sr (fun _ k3 => pv (.pointer (some ⟨z4, 0, none⟩)) ?_))
 refine pv (.string p) ?_
 refine sq (o_call 41 #[(.pointer (some ⟨z4, 0, none⟩)), (.string p)] rfl (x_call Tryz.call41 (by kernel_rfl)) (simfs_FS_find_w (X := X) (f_ := f_) (p := p) hXo (MO.re y0 (Wr.self _ _ (Sub.refl _))) u4 hp) ?_)
 rintro _ k4 ⟨u6, z0, z7, hp, r2, u7, z1, z2, z8, rfl, u9, y3, y4, y1, y6, v0⟩
 have t0 := MO.re u9 (Wr.trans u9.wr y0.wr E0.size)
 replace hp := hp y3 y4 y1 (Sl.len y6) v0
 refine pv (.tuple #[(.agg #[(.int .i64 z0.mode), (.int .i64 z0.time), (.int .i64 z0.inode), (.slice z1 z0.b.length z2)]), (.int .i64 z7)]) ?_
 refine pv (.agg #[(.int .i64 z0.mode), (.int .i64 z0.time), (.int .i64 z0.inode), (.slice z1 z0.b.length z2)]) ?_
 refine pv (.int .i64 z7) ?_
 have t1 := Evo.thenW E0 (Step.evo z8) y0.wr
 refine sq (o_newX [(.int .i64 (0 : Int)), (.int .i64 (0 : Int)), (.int .i64 (0 : Int)), (.slice none 0 0)] 74 (X := r2) (B := w.heap.size) t1.size rfl (by kernel_rfl) ?_)
 intro r3 k5 t2 z6 v1 r4
 have t3 := r4 _ (MO.old t0)
 have t4 := MO.step0 t0 z6
 have t5 := Evo.then0 t1 (Step.evo z6)
 refine sq (o_stB (o := 0) (v := (.agg #[(.int .i64 z0.mode), (.int .i64 z0.time), (.int .i64 z0.inode), (.slice z1 z0.b.length z2)])) [(.int .i64 z0.mode), (.int .i64 z0.time), (.int .i64 z0.inode), (.slice z1 z0.b.length z2)] rfl v1 (by kernel_rfl) (by kernel_rfl) Tryz.sizeOf74 rfl rfl rfl ?_)
 intro k6 z3 r5
 refine pv (.int .i64 z7) ?_
 refine nt k3 (seq_ (fun _ r6 => sr (fun _ r7 => pv (.int .i64 z7) ?_)))
 refine pv (.bool (!decide (z7 = (0 : Int)))) ?_
 refine nt r7 ?_
 refine cond_nd (z7 = (0 : Int)) (by kernel_rfl) (fun v2 => ?_) (fun v2 => ?_)
 ·
  replace hp := hp.1 v2
  refine sr (fun _ r8 => pv (.int .i64 z7) ?_)
  refine pv (.slice none 0 0) ?_
  refine pv (.int .i64 z7) ?_
  refine nt r8 (wp_ret (then_ret ?_))
  have r9 := Evo.thenW t5 (Step.evo z3) (Wr.of v1.2.2)
  have s3 := Sub.trans (Sub.trans (Sub.trans hS (Step.up z8)) (Step.up z6)) (Step.up z3)
  have s4 := News.step (News.step (News.step hN z8) z6) z3
  have q0 := MO.step t4 z3 t3
  refine end_ret hQ (.tuple #[(.slice none 0 0), (.int .i64 z7)]) (by kernel_rfl) ?_
  exact ⟨u6, ([] : List Int), z7, hp, t2, u7, none, 0, step_of r9 u5 s3 s4, rfl, q0, Sl.nil, v0⟩
 ·
  replace hp := hp.2 v2
  refine wp_skip (then_normal (r6 _ _ _ _ (sr (fun _ q1 => pv (.pointer (some ⟨r3, 3, none⟩)) ?_))))
  refine pw (.slice z1 z0.b.length z2) (x_load1 (by kernel_rfl) Tryz.isAgg32 (r5.2.1.cell' 3 rfl)) ?_
  have v9 := Sl.step (Sl.step y6 z6) z3
  have y7 := Old.step (Old.step (Old.step hXo z8) z6) z3
  have t6 := MO.step t4 z3 t3
  refine sq (o_call 43 #[(.slice z1 z0.b.length z2)] rfl (x_call Tryz.call43 (by kernel_rfl)) (slices_Clone_byte_byte_w (X := t2) (s := z0.b) y7 (Sl.sq v9) hp) ?_)
  rintro _ k7 ⟨t7, hp, q2, q3, q4, rfl, q5⟩
  have t8 := Evo.thenW t5 (Step.evo z3) (Wr.of v1.2.2)
  obtain ⟨k8, y2, v3, q6⟩ := OS.own_in q5 q2 t8.size
  have q7 := q6 _ (MO.old t6)
  replace hp := hp (OS.len v3)
  have s5 := Sub.trans (Sub.trans (Sub.trans (Sub.trans hS (Step.up z8)) (Step.up z6)) (Step.up z3)) (Step.up y2)
  have u1 := Old.step y7 y2
  have q8 := Evo.then0 t8 (Step.evo y2)
  have s6 := News.step (News.step (News.step (News.step hN z8) z6) z3) y2
  have t9 := MO.step0 t6 y2
  have s7 := OS.apold v3 u3
  obtain ⟨v4, v5, q9, v6⟩ := OS.release v3
  have u2 := Old.less u1 v5
  refine sq (o_call 42 #[(.slice q3 t7.length q4)] rfl (x_call Tryz.call42 (by kernel_rfl)) (slices_Clip_byte_byte_w (X := v4) (s := t7) u2 q9 hp) ?_)
  rintro _ k9 ⟨z9, hp, s0, y5, rfl, v7⟩
  have v8 := Step.of0 v4 s0
  replace hp := hp (Sl.len v7)
  refine pv (.slice y5 z9.length z9.length) ?_
  refine pv (.int .i64 (0 : Int)) ?_
  refine nt q1 (wp_ret ?_)
  have k0 := Evo.then0 q8 s0
  have s8 := Sub.trans (v6 _ s7 s5) (Step.up v8)
  have s9 := News.step (News.less s6 v5) v8
  have k1 := MO.step0 (MO.less t9 v5 (v6 _ q7 (MO.mem t9))) v8
  refine end_ret hQ (.tuple #[(.slice y5 z9.length z9.length), (.int .i64 (0 : Int))]) (by kernel_rfl) ?_
  exact ⟨u6, z9, (0 : Int), hp, v4, u7, y5, z9.length, step_of k0 u5 s8 s9, rfl, k1, v7, (by decide : inR .i64 (0 : Int))⟩
def codec_Of_p (b : (List Int)) (Q : S_codec_Dec → Prop) : Prop :=
 ((b.length ≤ 9223372036854775807) → (slices_Clone_byte_byte_p b (fun (z0 : (List Int)) => ((z0.length ≤ 9223372036854775807) → Q (S_codec_Dec.mk z0 (0 : Int) PErr.nil)))))
set_option maxRecDepth 20000 in
set_option maxHeartbeats 4000000 in
theorem codec_Of_w {X : List Nat} {w : World} {b : (List Int)} {z0 : Option Addr} {z1 : Nat} {Q : S_codec_Dec → Prop} (z7 : Old X w) (z8 : Sl (rInt .u8) X w z0 z1 b) (hp : codec_Of_p b Q) :
  Calls Tryz.prog 64 #[(.slice z0 b.length z1)] w (Ret fun v w' => ∃ (v2 : S_codec_Dec), Q v2 ∧ ∃ (X' : List Nat) (z3 : Nat) (y4 : List Nat), Step X w ([]) X' w' ∧ v = (.pointer (some ⟨z3, 0, none⟩)) ∧ MO o_codec_Dec 128 ([]) w.heap.size X' w' y4 z3 v2) := by
 have hXo := z7
 have E0 : Evo [] w w := RB.refl _ _ _
 have hS : Sub X X := Sub.refl _
 have hN : News X w X w := News.refl _ _
 have v3 : Sub [] X := Sub.nil _
 unfold codec_Of_p at hp
 refine enter_ Tryz.func64 rfl 7 [(0, (.slice z0 b.length z1))] (by kernel_rfl) (fun Qe hQ => ?_)
 replace hp := hp (Sl.len z8)
 refine sr (fun _ u7 => pv (.pointer none) ?_)
 refine nt u7 (sr (fun _ u9 => pv (.slice z0 b.length z1) ?_))
 refine sq (o_call 43 #[(.slice z0 b.length z1)] rfl (x_call Tryz.call43 (by kernel_rfl)) (slices_Clone_byte_byte_w (X := X) (s := b) hXo (Sl.sq z8) hp) ?_)
 rintro _ t5 ⟨y5, hp, t0, z9, y0, rfl, v4⟩
 obtain ⟨v5, y6, z4, t2⟩ := OS.own_in v4 t0 E0.size
 replace hp := hp (OS.len z4)
 refine pv (.agg #[(.slice z9 y5.length y0), (.int .i64 (0 : Int)), .nilIface]) ?_
 have y1 := Evo.then0 E0 (Step.evo y6)
 refine sq (o_newX [(.slice z9 y5.length y0), (.int .i64 (0 : Int)), .nilIface] 128 (X := v5) (B := w.heap.size) y1.size rfl (by kernel_rfl) ?_)
 intro z5 t3 t4 z2 y2 v6
 have v7 := v6 _ (OS.old z4)
 refine pv (.pointer (some ⟨z5, 0, none⟩)) ?_
 refine nt u9 (wp_ret ?_)
 have y3 := OS.step0 z4 z2
 have y7 := Sub.trans (Sub.trans hS (Step.up y6)) (Step.up z2)
 have v8 := Evo.then0 y1 (Step.evo z2)
 have y8 := News.step (News.step hN y6) z2
 have y9 := OS.apold y3 z7
 obtain ⟨v9, u1, u2, z6⟩ := OS.release y3
 have u3 := v8
 have v0 := z6 _ y9 y7
 have v1 := News.less y8 u1
 have u4 := OB.less y2 (z6 _ (Ap.symm v7) (OB.mem y2))
 obtain ⟨u5, u6, t1⟩ := MO.pack (o_codec_Dec_mk u4 u2 rfl (by decide : inR .i64 (0 : Int)) rErr_nil)
 refine end_ret hQ (.pointer (some ⟨z5, 0, none⟩)) (by kernel_rfl) ?_
 exact ⟨(S_codec_Dec.mk y5 (0 : Int) PErr.nil), hp, v9, z5, u5, step_of u3 v3 v0 v1, rfl, u6⟩
def codec_Dec_uint_p (d : S_codec_Dec) (Q : S_codec_Dec → Int → Int → Prop) : Prop :=
 (∃ z5 : S_codec_Dec → Prop, (∀ (z8 : S_codec_Dec), z5 z8 → Q z8 (0 : Int) (2 : Int)) ∧ (∃ (z6 : Int → Int → S_codec_Dec → Prop) (z9 : Int → Int → S_codec_Dec → Nat), (z6 (0 : Int) (0 : Int) d) ∧ (∀ (z2 : Int) (z1 : Int) (z0 : S_codec_Dec), (z6 z2 z1 z0) → (inR .u64 z2) → (inR .i64 z1) → (((z1 < (10 : Int)) → ((z0.b.length ≤ 9223372036854775807) → ((inR .i64 z0.at_) → ((inR .i64 (z0.at_ + z1)) ∧ ((((z0.at_ + z1) ≥ (z0.b.length : Int)) → Q z0 (0 : Int) (3 : Int)) ∧ ((¬ ((z0.at_ + z1) ≥ (z0.b.length : Int))) → ((inR .i64 (z0.at_ + z1)) ∧ ((inL z0.b (z0.at_ + z1)) ∧ ((inR .u8 (lget z0.b (z0.at_ + z1))) → (∃ z3 : Bool → Prop, (∀ (z7 : Bool), z3 z7 → (((z7 = true) → (z5 z0)) ∧ ((z7 = false) → ((inR .i64 ((7 : Int) * z1)) ∧ ((0 ≤ ((7 : Int) * z1)) ∧ (∀ z4 : Int, z4 = (ishl .u64 (iand .u8 (lget z0.b (z0.at_ + z1)) (127 : Int)) ((7 : Int) * z1)) → ((((lget z0.b (z0.at_ + z1)) < (128 : Int)) → ((inR .i64 (z1 + (1 : Int))) ∧ ((inR .i64 (z0.at_ + (z1 + (1 : Int)))) ∧ Q (S_codec_Dec.mk z0.b (z0.at_ + (z1 + (1 : Int))) z0.err) (ior .u64 z2 z4) (0 : Int)))) ∧ ((¬ ((lget z0.b (z0.at_ + z1)) < (128 : Int))) → ((inR .i64 (z1 + (1 : Int))) ∧ ((z6 (ior .u64 z2 z4) (z1 + (1 : Int)) z0) ∧ z9 (ior .u64 z2 z4) (z1 + (1 : Int)) z0 < z9 z2 z1 z0)))))))))) ∧ (((z1 = (9 : Int)) → ((((lget z0.b (z0.at_ + z1)) > (1 : Int)) → (z3 true)) ∧ ((¬ ((lget z0.b (z0.at_ + z1)) > (1 : Int))) → (((z1 > (0 : Int)) → (z3 (decide ((lget z0.b (z0.at_ + z1)) = (0 : Int))))) ∧ ((¬ (z1 > (0 : Int))) → (z3 false)))))) ∧ ((¬ (z1 = (9 : Int))) → (((z1 > (0 : Int)) → (z3 (decide ((lget z0.b (z0.at_ + z1)) = (0 : Int))))) ∧ ((¬ (z1 > (0 : Int))) → (z3 false))))))))))))))) ∧ ((¬ (z1 < (10 : Int))) → (z5 z0))))))
set_option maxRecDepth 20000 in
set_option maxHeartbeats 4000000 in
theorem codec_Dec_uint_w {X : List Nat} {w : World} {d : S_codec_Dec} {z2 : Nat} {z8 : List Nat} {Q : S_codec_Dec → Int → Int → Prop} (n1 : Old X w) (j7 : MO o_codec_Dec 128 z8 w.heap.size X w z8 z2 d) (hp : codec_Dec_uint_p d Q) :
  Calls Tryz.prog 84 #[(.pointer (some ⟨z2, 0, none⟩))] w (Ret fun v w' => ∃ (n2 : S_codec_Dec) (j8 : Int) (j9 : Int), Q n2 j8 j9 ∧ ∃ (X' : List Nat) (n3 : List Nat), Step X w z8 X' w' ∧ v = .tuple #[(.int .u64 j8), (.int .i64 j9)] ∧ MO o_codec_Dec 128 z8 w.heap.size X' w' n3 z2 n2 ∧ inR .u64 j8 ∧ inR .i64 j9) := by
 have hXo := n1
 have E0 : Evo z8 w w := RB.refl _ _ _
 have hS : Sub X X := Sub.refl _
 have hN : News X w X w := News.refl _ _
 have r7 : Sub z8 X := MO.mem j7
 unfold codec_Dec_uint_p at hp
 refine enter_ Tryz.func84 rfl 69 [(0, (.pointer (some ⟨z2, 0, none⟩)))] (by kernel_rfl) (fun Qe hQ => ?_)
 refine sr (fun _ o5 => pv (.int .u64 (0 : Int)) ?_)
 refine pv (.int .i64 (0 : Int)) ?_
 refine nt o5 (sr (fun _ o6 => pv (.int .u64 (0 : Int)) ?_))
 refine nt o6 (seq_ (fun _ o7 => sr (fun _ o8 => pv (.int .i64 (0 : Int)) ?_)))
 refine nt o8 ?_
 obtain ⟨g0, q9, hp⟩ := hp
 refine ground_ ?_
 refine join_ 590295810358705651708 (fun lq v6 => ∃ (v4 : List Nat) (v7 : S_codec_Dec) (s1 : List Nat), (lq = []) ∧ (Evo z8 w v6) ∧ (Old v4 v6) ∧ (Sub X v4) ∧ (News X w v4 v6) ∧ (MO o_codec_Dec 128 z8 w.heap.size v4 v6 s1 z2 v7) ∧ (g0 v7)) (fun n5 r1 => ?_) ?_
 ·
  refine wp_block ?_
  obtain ⟨g1, r8, k0, hp⟩ := hp
  refine loop_ 590295810358705651708 (fun kq lq y3 => ∃ (z4 : List Nat) (z3 : Int) (z1 : Int) (z0 : S_codec_Dec) (s2 : List Nat), (lq = [(4, (.int .u64 z3)), (7, (.int .i64 z1))]) ∧ (kq = r8 z3 z1 z0) ∧ (Evo z8 w y3) ∧ (Old z4 y3) ∧ (Sub X z4) ∧ (News X w z4 y3) ∧ (MO o_codec_Dec 128 z8 w.heap.size z4 y3 s2 z2 z0) ∧ (inR .u64 z3) ∧ (inR .i64 z1) ∧ (g1 z3 z1 z0)) (r8 (0 : Int) (0 : Int) d) [(4, (.int .u64 (0 : Int))), (7, (.int .i64 (0 : Int)))] (vs_cons (by kernel_rfl) (vs_cons (by kernel_rfl) vs_nil)) ⟨X, (0 : Int), (0 : Int), d, z8, rfl, rfl, E0, hXo, hS, hN, j7, (by decide : inR .u64 (0 : Int)), (by decide : inR .i64 (0 : Int)), k0⟩ ?_
  rintro _ _ y3 o9 ⟨z4, z3, z1, z0, s2, rfl, rfl, r9, t7, r2, r3, q0, k1, k2, k3⟩ n6 k4
  replace hp := hp z3 z1 z0 k3 k1 k2
  refine sr (fun _ g2 => pv (.bool (decide (z1 < (10 : Int)))) ?_)
  refine nt g2 (seq_ (fun _ g3 => ?_))
  refine cond_d (z1 < (10 : Int)) (by kernel_rfl) (fun s3 => ?_) (fun s3 => ?_)
  ·
   replace hp := hp.1 s3
   refine wp_skip (then_normal (g3 _ _ _ _ (seq_ (fun _ g4 => wp_block (sr (fun _ g5 => pv (.int .i64 z1) ?_))))))
   refine pv (.int .i64 z1) ?_
   refine nt g5 (seq_ (fun _ g6 => seq_ (fun _ g7 => ?_)))
   obtain ⟨y4, z9, y6, g8, t8, y1, s4, n7⟩ := o_codec_Dec_open q0
   replace hp := hp (Sl.len t8) y1
   refine reg_drawn (RB y3.heap.size []) 12 (by kernel_rfl) (fun v8 u6 => ?_)
   have g9 := Evo.of_drew u6
   have q1 : v8.heap.size = y3.heap.size := by rw [u6]
   clear u6
   have y7 := Step.of0 z4 g9
   have r4 := RB.refl y3.heap.size [] v8
   have q2 := Evo.then0 r9 (Step.evo y7)
   have q3 := Old.step t7 y7
   have r5 := Sub.trans r2 (Step.up y7)
   have r6 := News.step r3 y7
   have v5 := OB.step0 g8 y7
   have t9 := Sl.step t8 y7
   have v9 := Rep.step (rErr 35 138 140) s4 y7
   refine r_take 0 (.pointer (some ⟨z2, 0, none⟩)) (RB.pre _ _) rfl (by kernel_rfl) (fun _ _ _ h => hQ.panic _ _ _ _ _ h) (.inl ⟨rfl, fun wq hq => (by kernel_rfl)⟩) ?_
   refine r_take 1 (.pointer (some ⟨z2, 0, none⟩)) (RB.pre _ _) rfl (by kernel_rfl) (fun _ _ _ h => hQ.panic _ _ _ _ _ h) (.inl ⟨rfl, fun wq hq => (by kernel_rfl)⟩) ?_
   refine r_take 2 (.pointer (some ⟨z2, 1, none⟩)) (RB.pre _ _) rfl (by kernel_rfl) (fun _ _ _ h => hQ.panic _ _ _ _ _ h) (.inl ⟨rfl, fun wq hq => (by kernel_rfl)⟩) ?_
   refine r_take 3 (.int .i64 z0.at_) (RB.pre _ _) rfl (by kernel_rfl) (fun _ _ _ h => hQ.panic _ _ _ _ _ h) (.inl ⟨rfl, fun wq hq => (x_load1 (by kernel_rfl) Tryz.isAgg3 ((Blk.rb v5.2.1 (RB.trans r4 hq) (Nat.lt_of_lt_of_eq (Blk.lt v5.2.1) q1) (fun h => by cases h)).cell' 1 rfl))⟩) ?_
   refine r_take 4 (.int .i64 z1) (RB.pre _ _) rfl (by kernel_rfl) (fun _ _ _ h => hQ.panic _ _ _ _ _ h) (.inl ⟨rfl, fun wq hq => (by kernel_rfl)⟩) ?_
   obtain ⟨d0, hp⟩ := hp
   refine r_take 5 (.int .i64 (z0.at_ + z1)) (RB.pre _ _) rfl (by kernel_rfl) (fun _ _ _ h => hQ.panic _ _ _ _ _ h) (.inl ⟨rfl, fun wq hq => (x_add2 (k := .i64) (a := z0.at_) (b := z1) (z0.at_ + z1) (by kernel_rfl) (by kernel_rfl) (wrap_inR d0))⟩) ?_
   refine r_take 6 (.pointer (some ⟨z2, 0, none⟩)) (RB.pre _ _) rfl (by kernel_rfl) (fun _ _ _ h => hQ.panic _ _ _ _ _ h) (.inl ⟨rfl, fun wq hq => (by kernel_rfl)⟩) ?_
   refine r_take 7 (.pointer (some ⟨z2, 0, none⟩)) (RB.pre _ _) rfl (by kernel_rfl) (fun _ _ _ h => hQ.panic _ _ _ _ _ h) (.inl ⟨rfl, fun wq hq => (by kernel_rfl)⟩) ?_
   refine r_take 8 (.pointer (some ⟨z2, 0, none⟩)) (RB.pre _ _) rfl (by kernel_rfl) (fun _ _ _ h => hQ.panic _ _ _ _ _ h) (.inl ⟨rfl, fun wq hq => (by kernel_rfl)⟩) ?_
   refine r_take 9 (.slice y4 z0.b.length z9) (RB.pre _ _) rfl (by kernel_rfl) (fun _ _ _ h => hQ.panic _ _ _ _ _ h) (.inl ⟨rfl, fun wq hq => (x_load1 (by kernel_rfl) Tryz.isAgg32 ((Blk.rb v5.2.1 (RB.trans r4 hq) (Nat.lt_of_lt_of_eq (Blk.lt v5.2.1) q1) (fun h => by cases h)).cell' 0 rfl))⟩) ?_
   refine r_take 10 (.int .i64 (z0.b.length : Int)) (RB.pre _ _) rfl (by kernel_rfl) (fun _ _ _ h => hQ.panic _ _ _ _ _ h) (.inl ⟨rfl, fun wq hq => (by kernel_rfl)⟩) ?_
   refine r_take 11 (.bool (decide ((z0.at_ + z1) ≥ (z0.b.length : Int)))) (RB.pre _ _) rfl (by kernel_rfl) (fun _ _ _ h => hQ.panic _ _ _ _ _ h) (.inl ⟨rfl, fun wq hq => (by kernel_rfl)⟩) ?_
   refine r_done (by kernel_rfl) ?_
   refine then_normal (g7 _ _ _ _ ?_)
   refine cond_d ((z0.at_ + z1) ≥ (z0.b.length : Int)) (by kernel_rfl) (fun s5 => ?_) (fun s5 => ?_)
   ·
    replace hp := hp.1 s5
    refine sr (fun _ d1 => pv (.int .u64 (0 : Int)) ?_)
    refine pv (.int .i64 (3 : Int)) ?_
    refine nt d1 (wp_ret (then_ret (blk_ret (then_ret (then_ret (blk_ret (then_ret (then_ret ?_))))))))
    obtain ⟨d2, d3, n8⟩ := MO.pack (o_codec_Dec_mk v5 t9 rfl y1 v9)
    refine end_ret hQ (.tuple #[(.int .u64 (0 : Int)), (.int .i64 (3 : Int))]) (by kernel_rfl) ?_
    exact ⟨z0, (0 : Int), (3 : Int), hp, z4, d2, step_of q2 r7 r5 r6, rfl, d3, (by decide : inR .u64 (0 : Int)), (by decide : inR .i64 (3 : Int))⟩
   ·
    replace hp := hp.2 s5
    refine wp_skip (then_normal (g6 _ _ _ _ (seq_ (fun _ d4 => ?_))))
    refine reg_drawn (RB v8.heap.size []) 12 (by kernel_rfl) (fun q4 u7 => ?_)
    have d5 := Evo.of_drew u7
    have s6 : q4.heap.size = v8.heap.size := by rw [u7]
    clear u7
    have y8 := Step.of0 z4 d5
    have u9 := RB.refl v8.heap.size [] q4
    have u1 := Evo.then0 q2 (Step.evo y8)
    have y5 := Old.step q3 y8
    have v1 := Sub.trans r5 (Step.up y8)
    have v2 := News.step r6 y8
    have y2 := OB.step0 v5 y8
    have y0 := Sl.step t9 y8
    have z6 := Rep.step (rErr 35 138 140) v9 y8
    refine r_take 0 (.pointer (some ⟨z2, 0, none⟩)) (RB.pre _ _) rfl (by kernel_rfl) (fun _ _ _ h => hQ.panic _ _ _ _ _ h) (.inl ⟨rfl, fun wq hq => (by kernel_rfl)⟩) ?_
    refine r_take 1 (.pointer (some ⟨z2, 0, none⟩)) (RB.pre _ _) rfl (by kernel_rfl) (fun _ _ _ h => hQ.panic _ _ _ _ _ h) (.inl ⟨rfl, fun wq hq => (by kernel_rfl)⟩) ?_
    refine r_take 2 (.pointer (some ⟨z2, 0, none⟩)) (RB.pre _ _) rfl (by kernel_rfl) (fun _ _ _ h => hQ.panic _ _ _ _ _ h) (.inl ⟨rfl, fun wq hq => (by kernel_rfl)⟩) ?_
    refine r_take 3 (.slice y4 z0.b.length z9) (RB.pre _ _) rfl (by kernel_rfl) (fun _ _ _ h => hQ.panic _ _ _ _ _ h) (.inl ⟨rfl, fun wq hq => (x_load1 (by kernel_rfl) Tryz.isAgg32 ((Blk.rb y2.2.1 (RB.trans u9 hq) (Nat.lt_of_lt_of_eq (Blk.lt y2.2.1) s6) (fun h => by cases h)).cell' 0 rfl))⟩) ?_
    refine r_take 4 (.pointer (some ⟨z2, 0, none⟩)) (RB.pre _ _) rfl (by kernel_rfl) (fun _ _ _ h => hQ.panic _ _ _ _ _ h) (.inl ⟨rfl, fun wq hq => (by kernel_rfl)⟩) ?_
    refine r_take 5 (.pointer (some ⟨z2, 0, none⟩)) (RB.pre _ _) rfl (by kernel_rfl) (fun _ _ _ h => hQ.panic _ _ _ _ _ h) (.inl ⟨rfl, fun wq hq => (by kernel_rfl)⟩) ?_
    refine r_take 6 (.pointer (some ⟨z2, 1, none⟩)) (RB.pre _ _) rfl (by kernel_rfl) (fun _ _ _ h => hQ.panic _ _ _ _ _ h) (.inl ⟨rfl, fun wq hq => (by kernel_rfl)⟩) ?_
    refine r_take 7 (.int .i64 z0.at_) (RB.pre _ _) rfl (by kernel_rfl) (fun _ _ _ h => hQ.panic _ _ _ _ _ h) (.inl ⟨rfl, fun wq hq => (x_load1 (by kernel_rfl) Tryz.isAgg3 ((Blk.rb y2.2.1 (RB.trans u9 hq) (Nat.lt_of_lt_of_eq (Blk.lt y2.2.1) s6) (fun h => by cases h)).cell' 1 rfl))⟩) ?_
    refine r_take 8 (.int .i64 z1) (RB.pre _ _) rfl (by kernel_rfl) (fun _ _ _ h => hQ.panic _ _ _ _ _ h) (.inl ⟨rfl, fun wq hq => (by kernel_rfl)⟩) ?_
    obtain ⟨d6, hp⟩ := hp
    refine r_take 9 (.int .i64 (z0.at_ + z1)) (RB.pre _ _) rfl (by kernel_rfl) (fun _ _ _ h => hQ.panic _ _ _ _ _ h) (.inl ⟨rfl, fun wq hq => (x_add2 (k := .i64) (a := z0.at_) (b := z1) (z0.at_ + z1) (by kernel_rfl) (by kernel_rfl) (wrap_inR d6))⟩) ?_
    obtain ⟨q5, hp⟩ := hp
    obtain ⟨d7, d8, n9, k5, o0, k6, k7, k8⟩ := Sl.atI y0 (z0.at_ + z1) q5
    obtain ⟨rfl, k9⟩ := k7
    replace hp := hp k9
    refine r_take 10 (.pointer (some ⟨d7, d8 + (z0.at_ + z1).toNat * 1, none⟩)) (RB.pre _ _) rfl (by kernel_rfl) (fun _ _ _ h => hQ.panic _ _ _ _ _ h) (.inl ⟨rfl, fun wq hq => (x_ixA (m := z0.b.length) (c := z9) (k := .i64) (i := z0.at_ + z1) Tryz.underlying32 Tryz.sizeOf5 (by rw [← k5]; kernel_rfl) (by kernel_rfl) q5)⟩) ?_
    refine r_take 11 (.int .u8 (lget z0.b (z0.at_ + z1))) (RB.pre _ _) rfl (by kernel_rfl) (fun _ _ _ h => hQ.panic _ _ _ _ _ h) (.inl ⟨rfl, fun wq hq => (x_load1 (by kernel_rfl) Tryz.isAgg5 ((CellsAt.rb k8 (RB.trans u9 hq) (Nat.lt_of_lt_of_eq k6 s6) (fun h => by cases h)) 0 _ rfl))⟩) ?_
    refine r_ready [12] (by kernel_rfl) rfl (all_cons ⟨_, _, _, _, _, _, rfl, ?_⟩ all_nil)
    refine o_pv (.int .u8 (lget z0.b (z0.at_ + z1))) rfl (by kernel_rfl) ?_
    refine ⟨fun h => absurd h (by decide), ?_⟩
    refine r_done (by kernel_rfl) ?_
    refine then_normal (d4 _ _ _ _ (seq_ (fun _ d9 => seq_ (fun _ l0 => ?_))))
    obtain ⟨l1, j0, hp⟩ := hp
    refine ground_ ?_
    refine join_ 281457796841472 (fun lq y9 => ∃ (z7 : List Nat) (u2 : Bool), (lq = [(47, (.bool u2))]) ∧ (Evo z8 w y9) ∧ (Old z7 y9) ∧ (Sub X z7) ∧ (News X w z7 y9) ∧ (Sl (rInt .u8) z7 y9 y4 z9 z0.b) ∧ ((rErr 35 138 140).ok z7 y9 ([y6]) z0.err) ∧ (OB z8 w.heap.size z7 y9 z2 [(.slice y4 z0.b.length z9), (.int .i64 z0.at_), y6] 128) ∧ (l1 u2)) (fun o1 v3 => ?_) ?_
    ·
     refine reg_ (pv (.int .i64 z1) ?_)
     by_cases t0 : z1 = (9 : Int)
     ·
      replace hp := hp.1 t0
      refine pw (.bool true) (x_dt (p := z1 = (9 : Int)) (by kernel_rfl) t0) ?_
      refine pv (.bool true) ?_
      refine pv (.int .u8 (lget z0.b (z0.at_ + z1))) ?_
      by_cases t1 : (lget z0.b (z0.at_ + z1)) > (1 : Int)
      ·
       replace hp := hp.1 t1
       refine pw (.bool true) (x_dt (p := (lget z0.b (z0.at_ + z1)) > (1 : Int)) (by kernel_rfl) t1) ?_
       refine pv (.bool true) ?_
       refine pv (.bool true) ?_
       refine no ?_
       refine no ?_
       refine no ?_
       refine no ?_
       refine no ?_
       refine no ?_
       refine pv (.bool true) ?_
       refine nil_ (then_normal (v3 _ _ _ ⟨[(47, (.bool true))], fit_mk (fun _ _ => rfl) (by kernel_rfl) (vs_cons (by kernel_rfl) vs_nil), ?_⟩))
       exact ⟨z4, true, rfl, u1, y5, v1, v2, y0, z6, y2, hp⟩
      ·
       replace hp := hp.2 t1
       refine pw (.bool false) (x_df (p := (lget z0.b (z0.at_ + z1)) > (1 : Int)) (by kernel_rfl) t1) ?_
       refine pv (.bool false) ?_
       refine pv (.bool false) ?_
       refine pv (.int .i64 z1) ?_
       by_cases t2 : z1 > (0 : Int)
       ·
        replace hp := hp.1 t2
        refine pw (.bool true) (x_dt (p := z1 > (0 : Int)) (by kernel_rfl) t2) ?_
        refine pv (.bool true) ?_
        refine pv (.int .u8 (lget z0.b (z0.at_ + z1))) ?_
        refine pv (.bool (decide ((lget z0.b (z0.at_ + z1)) = (0 : Int)))) ?_
        refine pv (.bool (decide ((lget z0.b (z0.at_ + z1)) = (0 : Int)))) ?_
        refine pv (.bool (decide ((lget z0.b (z0.at_ + z1)) = (0 : Int)))) ?_
        refine nil_ (then_normal (v3 _ _ _ ⟨[(47, (.bool (decide ((lget z0.b (z0.at_ + z1)) = (0 : Int)))))], fit_mk (fun _ _ => rfl) (by kernel_rfl) (vs_cons (by kernel_rfl) vs_nil), ?_⟩))
        exact ⟨z4, (decide ((lget z0.b (z0.at_ + z1)) = (0 : Int))), rfl, u1, y5, v1, v2, y0, z6, y2, hp⟩
       ·
        replace hp := hp.2 t2
        refine pw (.bool false) (x_df (p := z1 > (0 : Int)) (by kernel_rfl) t2) ?_
        refine pv (.bool false) ?_
        refine no ?_
        refine no ?_
        refine pv (.bool false) ?_
        refine pv (.bool false) ?_
        refine nil_ (then_normal (v3 _ _ _ ⟨[(47, (.bool false))], fit_mk (fun _ _ => rfl) (by kernel_rfl) (vs_cons (by kernel_rfl) vs_nil), ?_⟩))
        exact ⟨z4, false, rfl, u1, y5, v1, v2, y0, z6, y2, hp⟩
     ·
      replace hp := hp.2 t0
      refine pw (.bool false) (x_df (p := z1 = (9 : Int)) (by kernel_rfl) t0) ?_
      refine pv (.bool false) ?_
      refine no ?_
      refine no ?_
      refine pv (.bool false) ?_
      refine pv (.bool false) ?_
      refine pv (.int .i64 z1) ?_
      by_cases t3 : z1 > (0 : Int)
      ·
       replace hp := hp.1 t3
       refine pw (.bool true) (x_dt (p := z1 > (0 : Int)) (by kernel_rfl) t3) ?_
       refine pv (.bool true) ?_
       refine pv (.int .u8 (lget z0.b (z0.at_ + z1))) ?_
       refine pv (.bool (decide ((lget z0.b (z0.at_ + z1)) = (0 : Int)))) ?_
       refine pv (.bool (decide ((lget z0.b (z0.at_ + z1)) = (0 : Int)))) ?_
       refine pv (.bool (decide ((lget z0.b (z0.at_ + z1)) = (0 : Int)))) ?_
       refine nil_ (then_normal (v3 _ _ _ ⟨[(47, (.bool (decide ((lget z0.b (z0.at_ + z1)) = (0 : Int)))))], fit_mk (fun _ _ => rfl) (by kernel_rfl) (vs_cons (by kernel_rfl) vs_nil), ?_⟩))
       exact ⟨z4, (decide ((lget z0.b (z0.at_ + z1)) = (0 : Int))), rfl, u1, y5, v1, v2, y0, z6, y2, hp⟩
      ·
       replace hp := hp.2 t3
       refine pw (.bool false) (x_df (p := z1 > (0 : Int)) (by kernel_rfl) t3) ?_
       refine pv (.bool false) ?_
       refine no ?_
       refine no ?_
       refine pv (.bool false) ?_
       refine pv (.bool false) ?_
       refine nil_ (then_normal (v3 _ _ _ ⟨[(47, (.bool false))], fit_mk (fun _ _ => rfl) (by kernel_rfl) (vs_cons (by kernel_rfl) vs_nil), ?_⟩))
       exact ⟨z4, false, rfl, u1, y5, v1, v2, y0, z6, y2, hp⟩
    ·
     rintro _ y9 c0 ⟨z7, u2, rfl, s7, s0, t4, t5, u3, v0, u4, j1⟩
     replace hp := j0 u2 j1
     refine then_normal (l0 _ _ _ _ ?_)
     refine cond_b u2 (by kernel_rfl) (fun s8 => ?_) (fun s8 => ?_)
     ·
      replace hp := hp.1 s8
      refine wp_exit ?_
      refine then_exit ?_
      refine blk_exit_ne rfl ?_
      refine then_exit (then_exit (blk_exit ?_))
      obtain ⟨l2, l3, o2⟩ := MO.pack (o_codec_Dec_mk u4 u3 rfl y1 v0)
      refine then_normal (r1 _ _ _ ⟨[], fit_mk (AgB.nest (AgB.look (AgB.nest (fun _ _ => rfl) (by kernel_rfl) (by kernel_rfl)) (by kernel_rfl)) (by kernel_rfl) (by kernel_rfl)) (by kernel_rfl) vs_nil, ?_⟩)
      exact ⟨z7, z0, l2, rfl, s7, s0, t4, t5, l3, hp⟩
     ·
      replace hp := hp.2 s8
      refine wp_skip (then_normal (d9 _ _ _ _ (sr (fun _ l4 => pv (.int .u64 z3) ?_))))
      refine pv (.int .u8 (lget z0.b (z0.at_ + z1))) ?_
      refine pw (.int .u8 (iand .u8 (lget z0.b (z0.at_ + z1)) (127 : Int))) (x_and (k := .u8) (a := lget z0.b (z0.at_ + z1)) (b := (127 : Int)) (by kernel_rfl) (by kernel_rfl)) ?_
      have l5 : inR .u64 (iand .u8 (lget z0.b (z0.at_ + z1)) (127 : Int)) := inR_up (by decide) (by decide) (inR_iand _ _ _)
      refine pw (.int .u64 (iand .u8 (lget z0.b (z0.at_ + z1)) (127 : Int))) (x_conv (k := .u8) Tryz.underlying5 Tryz.underlying121 (by kernel_rfl) (wrap_inR l5)) ?_
      refine pv (.int .i64 z1) ?_
      obtain ⟨l6, hp⟩ := hp
      refine pw (.int .i64 ((7 : Int) * z1)) (x_mul2 (k := .i64) (a := (7 : Int)) (b := z1) ((7 : Int) * z1) (by kernel_rfl) (by kernel_rfl) (wrap_inR l6)) ?_
      obtain ⟨l7, hp⟩ := hp
      obtain ⟨z5, t6⟩ : ∃ y, y = (ishl .u64 (iand .u8 (lget z0.b (z0.at_ + z1)) (127 : Int)) ((7 : Int) * z1)) := ⟨_, rfl⟩
      replace hp := hp z5 t6
      have c1 : inR .u64 z5 := by rw [t6]; exact (inR_ishl _ _ _)
      refine pw (.int .u64 z5) (by rw [t6]; exact (x_shl (k := .u64) (k' := .i64) (a := iand .u8 (lget z0.b (z0.at_ + z1)) (127 : Int)) (b := (7 : Int) * z1) (by kernel_rfl) (by kernel_rfl) l7)) ?_
      refine pw (.int .u64 (ior .u64 z3 z5)) (x_or (k := .u64) (a := z3) (b := z5) (by kernel_rfl) (by kernel_rfl)) ?_
      refine pv (.int .u64 (ior .u64 z3 z5)) ?_
      refine nt l4 (sr (fun _ l8 => pv (.int .u8 (lget z0.b (z0.at_ + z1))) ?_))
      refine pv (.bool (decide ((lget z0.b (z0.at_ + z1)) < (128 : Int)))) ?_
      refine nt l8 ?_
      refine cond_d ((lget z0.b (z0.at_ + z1)) < (128 : Int)) (by kernel_rfl) (fun s9 => ?_) (fun s9 => ?_)
      ·
       replace hp := hp.1 s9
       refine sr (fun _ l9 => pv (.pointer (some ⟨z2, 0, none⟩)) ?_)
       refine pv (.pointer (some ⟨z2, 0, none⟩)) ?_
       refine pv (.pointer (some ⟨z2, 1, none⟩)) ?_
       refine pw (.int .i64 z0.at_) (x_load1 (by kernel_rfl) Tryz.isAgg3 (u4.2.1.cell' 1 rfl)) ?_
       refine pv (.int .i64 z1) ?_
       obtain ⟨m0, hp⟩ := hp
       refine pw (.int .i64 (z1 + (1 : Int))) (x_add2 (k := .i64) (a := z1) (b := (1 : Int)) (z1 + (1 : Int)) (by kernel_rfl) (by kernel_rfl) (wrap_inR m0)) ?_
       obtain ⟨q6, hp⟩ := hp
       refine pw (.int .i64 (z0.at_ + (z1 + (1 : Int)))) (x_add2 (k := .i64) (a := z0.at_) (b := z1 + (1 : Int)) (z0.at_ + (z1 + (1 : Int))) (by kernel_rfl) (by kernel_rfl) (wrap_inR q6)) ?_
       refine pv (.pointer (some ⟨z2, 0, none⟩)) ?_
       refine pv (.pointer (some ⟨z2, 1, none⟩)) ?_
       refine sq (o_stB (o := 1) (v := (.int .i64 (z0.at_ + (z1 + (1 : Int))))) [(.slice y4 z0.b.length z9), (.int .i64 (z0.at_ + (z1 + (1 : Int)))), y6] rfl u4 (by kernel_rfl) (by kernel_rfl) Tryz.sizeOf3 rfl rfl rfl ?_)
       intro c2 u5 m1
       refine nt l9 (sr (fun _ m2 => pv (.int .u64 (ior .u64 z3 z5)) ?_))
       refine pv (.int .u64 (ior .u64 z3 z5)) ?_
       refine pv (.int .i64 (0 : Int)) ?_
       refine nt m2 (wp_ret (blk_ret (then_ret (then_ret (blk_ret (then_ret (then_ret ?_)))))))
       have m3 := Evo.thenW s7 (Step.evo u5) u4.2.2
       have j2 := Sub.trans t4 (Step.up u5)
       have j3 := News.step t5 u5
       have q7 := Sl.step u3 u5
       have r0 := Rep.step (rErr 35 138 140) v0 u5
       obtain ⟨m4, m5, o3⟩ := MO.pack (o_codec_Dec_mk m1 q7 rfl q6 r0)
       refine end_ret hQ (.tuple #[(.int .u64 (ior .u64 z3 z5)), (.int .i64 (0 : Int))]) (by kernel_rfl) ?_
       exact ⟨(S_codec_Dec.mk z0.b (z0.at_ + (z1 + (1 : Int))) z0.err), (ior .u64 z3 z5), (0 : Int), hp, z7, m4, step_of m3 r7 j2 j3, rfl, m5, (inR_ior _ _ _), (by decide : inR .i64 (0 : Int))⟩
      ·
       replace hp := hp.2 s9
       refine wp_skip (blk_normal (then_normal (g4 _ _ _ _ (reg_ ?_))))
       obtain ⟨q8, hp⟩ := hp
       refine pw (.int .i64 (z1 + (1 : Int))) (x_add2 (k := .i64) (a := z1) (b := (1 : Int)) (z1 + (1 : Int)) (by kernel_rfl) (by kernel_rfl) (wrap_inR q8)) ?_
       refine pv (.int .i64 (z1 + (1 : Int))) ?_
       refine nil_ ?_
       obtain ⟨m6, m7, o4⟩ := MO.pack (o_codec_Dec_mk u4 u3 rfl y1 v0)
       refine then_normal (k4 _ _ _ ⟨_, [(4, (.int .u64 (ior .u64 z3 z5))), (7, (.int .i64 (z1 + (1 : Int))))], hp.2, fit_mk (AgB.nest (AgB.look (AgB.mix _ _ _) (by kernel_rfl)) (by kernel_rfl) (by kernel_rfl)) (by kernel_rfl) (vs_cons (by kernel_rfl) (vs_cons (by kernel_rfl) vs_nil)), ?_⟩)
       exact ⟨z7, (ior .u64 z3 z5), (z1 + (1 : Int)), z0, m6, rfl, rfl, s7, s0, t4, t5, m7, (inR_ior _ _ _), q8, hp.1⟩
  ·
   replace hp := hp.2 s3
   refine wp_exit ?_
   refine then_exit (then_exit (blk_exit (then_normal (r1 _ _ _ ⟨[], fit_mk (AgB.nest (fun _ _ => rfl) (by kernel_rfl) (by kernel_rfl)) (by kernel_rfl) vs_nil, ?_⟩))))
   exact ⟨z4, z0, s2, rfl, r9, t7, r2, r3, q0, hp⟩
 ·
  rintro _ v6 c3 ⟨v4, v7, s1, rfl, m8, n4, j4, j5, m9, j6⟩
  replace hp := q9 v7 j6
  refine then_normal (o7 _ _ _ _ (sr (fun _ n0 => pv (.int .u64 (0 : Int)) ?_)))
  refine pv (.int .i64 (2 : Int)) ?_
  refine nt n0 (wp_ret ?_)
  refine end_ret hQ (.tuple #[(.int .u64 (0 : Int)), (.int .i64 (2 : Int))]) (by kernel_rfl) ?_
  exact ⟨v7, (0 : Int), (2 : Int), hp, v4, s1, step_of m8 r7 j4 j5, rfl, m9, (by decide : inR .u64 (0 : Int)), (by decide : inR .i64 (2 : Int))⟩
def codec_Dec_fail_p (d : S_codec_Dec) (at_ : Int) (e : Int) (Q : S_codec_Dec → Prop) : Prop :=
 ((inR .i64 at_) → ((inR .i64 e) → ((d.b.length ≤ 9223372036854775807) → ((inR .i64 d.at_) → Q (S_codec_Dec.mk d.b d.at_ (PErr.fault (ByteArray.mk #[98, 121, 116, 101]) at_ e))))))
set_option maxRecDepth 20000 in
set_option maxHeartbeats 4000000 in
theorem codec_Dec_fail_w {X : List Nat} {w : World} {d : S_codec_Dec} {at_ : Int} {e : Int} {z0 : Nat} {z1 : List Nat} {Q : S_codec_Dec → Prop} (y3 : Old X w) (z6 : MO o_codec_Dec 128 z1 w.heap.size X w z1 z0 d) (z4 : inR .i64 at_) (y4 : inR .i64 e) (hp : codec_Dec_fail_p d at_ e Q) :
  Calls Tryz.prog 85 #[(.pointer (some ⟨z0, 0, none⟩)), (.int .i64 at_), (.int .i64 e)] w (Ret fun v w' => ∃ (u2 : S_codec_Dec), Q u2 ∧ ∃ (X' : List Nat) (u3 : List Nat), Step X w z1 X' w' ∧ v = .tuple #[] ∧ MO o_codec_Dec 128 z1 w.heap.size X' w' u3 z0 u2) := by
 have hXo := y3
 have E0 : Evo z1 w w := RB.refl _ _ _
 have hS : Sub X X := Sub.refl _
 have hN : News X w X w := News.refl _ _
 have u4 : Sub z1 X := MO.mem z6
 unfold codec_Dec_fail_p at hp
 refine enter_ Tryz.func85 rfl 15 [(0, (.pointer (some ⟨z0, 0, none⟩))), (1, (.int .i64 at_)), (2, (.int .i64 e))] (by kernel_rfl) (fun Qe hQ => ?_)
 replace hp := hp z4 y4
 refine reg_ (pv (.pointer (some ⟨z0, 0, none⟩)) ?_)
 refine pv (.int .i64 at_) ?_
 refine pv (.int .i64 e) ?_
 refine pv (.iface 35 (.int .i64 e)) ?_
 refine pv (.agg #[(.string (ByteArray.mk #[98, 121, 116, 101])), (.int .i64 at_), (.iface 35 (.int .i64 e))]) ?_
 refine sq (o_newX [(.string (ByteArray.mk #[98, 121, 116, 101])), (.int .i64 at_), (.iface 35 (.int .i64 e))] 140 (X := X) (B := w.heap.size) E0.size rfl (by kernel_rfl) ?_)
 intro v1 t8 t9 z8 u5 u6
 have u7 := u6 _ (MO.old z6)
 refine pv (.iface 138 (.pointer (some ⟨v1, 0, none⟩))) ?_
 refine pv (.pointer (some ⟨z0, 0, none⟩)) ?_
 have v2 := MO.step0 z6 z8
 obtain ⟨z9, y0, v9, y5, z5, z2, u1, v3⟩ := o_codec_Dec_open v2
 have y6 := Ap.subr (Ap.symm u7) v3
 replace hp := hp (Sl.len z5) z2
 refine pv (.pointer (some ⟨z0, 2, none⟩)) ?_
 have u9 := Evo.then0 E0 (Step.evo z8)
 refine sq (o_stB (o := 2) (v := (.iface 138 (.pointer (some ⟨v1, 0, none⟩)))) [(.slice z9 d.b.length y0), (.int .i64 d.at_), (.iface 138 (.pointer (some ⟨v1, 0, none⟩)))] rfl y5 (by kernel_rfl) (by kernel_rfl) Tryz.sizeOf113 rfl rfl rfl ?_)
 intro t7 z3 y7
 refine nil_ ?_
 have t0 := Evo.thenW u9 (Step.evo z3) y5.2.2
 have v4 := Sub.trans (Sub.trans hS (Step.up z8)) (Step.up z3)
 have v5 := News.step (News.step hN z8) z3
 have y8 := OB.step u5 z3 y6
 have y1 := Sl.step z5 z3
 have v6 := OB.apold y8 y3
 obtain ⟨t1, y9, v0, z7⟩ := OB.release y8
 have t2 := t0
 have v7 := z7 _ v6 v4
 have v8 := News.less v5 y9
 have t3 := OB.less y7 (z7 _ (Ap.symm y6) (OB.mem y7))
 have y2 := Sl.less y1 y9
 obtain ⟨t4, t5, t6⟩ := MO.pack (o_codec_Dec_mk t3 y2 rfl z2 (rErr_fault v0.1 v0.2 (by decide : (ByteArray.mk #[98, 121, 116, 101]).size ≤ maxLen) z4 y4))
 refine end_normal hQ (.tuple #[]) (by kernel_rfl) ?_
 exact ⟨(S_codec_Dec.mk d.b d.at_ (PErr.fault (ByteArray.mk #[98, 121, 116, 101]) at_ e)), hp, t1, t4, step_of t2 u4 v7 v8, rfl, t5⟩
def codec_Dec_Int_p (d : S_codec_Dec) (Q : S_codec_Dec → Int → Prop) : Prop :=
 ((d.b.length ≤ 9223372036854775807) → ((inR .i64 d.at_) → ((((!d.err.isNil) = true) → Q d (0 : Int)) ∧ (((!d.err.isNil) = false) → (codec_Dec_uint_p d (fun (z2 : S_codec_Dec) (z0 : Int) (z1 : Int) => ((inR .u64 z0) → ((inR .i64 z1) → (((¬ (z1 = (0 : Int))) → (codec_Dec_fail_p z2 d.at_ z1 (fun (z4 : S_codec_Dec) => Q z4 (0 : Int)))) ∧ ((z1 = (0 : Int)) → ((inR .i64 (-(iwrap .i64 (iand .u64 z0 (1 : Int))))) ∧ (∀ z3 : Int, z3 = (ixor .i64 (iwrap .i64 (ishr .u64 z0 (1 : Int))) (-(iwrap .i64 (iand .u64 z0 (1 : Int))))) → Q z2 z3))))))))))))
set_option maxRecDepth 20000 in
set_option maxHeartbeats 4000000 in
theorem codec_Dec_Int_w {X : List Nat} {w : World} {d : S_codec_Dec} {z1 : Nat} {z6 : List Nat} {Q : S_codec_Dec → Int → Prop} (u5 : Old X w) (v0 : MO o_codec_Dec 128 z6 w.heap.size X w z6 z1 d) (hp : codec_Dec_Int_p d Q) :
  Calls Tryz.prog 65 #[(.pointer (some ⟨z1, 0, none⟩))] w (Ret fun v w' => ∃ (u6 : S_codec_Dec) (v6 : Int), Q u6 v6 ∧ ∃ (X' : List Nat) (u7 : List Nat), Step X w z6 X' w' ∧ v = (.int .i64 v6) ∧ MO o_codec_Dec 128 z6 w.heap.size X' w' u7 z1 u6 ∧ inR .i64 v6) := by
 have hXo := u5
 have E0 : Evo z6 w w := RB.refl _ _ _
 have hS : Sub X X := Sub.refl _
 have hN : News X w X w := News.refl _ _
 have y4 : Sub z6 X := MO.mem v0
 unfold codec_Dec_Int_p at hp
 refine enter_ Tryz.func65 rfl 34 [(0, (.pointer (some ⟨z1, 0, none⟩)))] (by kernel_rfl) (fun Qe hQ => ?_)
 refine sr (fun _ s8 => pv (.int .i64 (0 : Int)) ?_)
 refine nt s8 (seq_ (fun _ s9 => sr (fun _ r0 => pv (.pointer (some ⟨z1, 0, none⟩)) ?_)))
 refine pv (.pointer (some ⟨z1, 0, none⟩)) ?_
 obtain ⟨r1, r2, y3, y0, z8, z2, z4, r3⟩ := o_codec_Dec_open v0
 replace hp := hp (Sl.len z8) z2
 refine pv (.pointer (some ⟨z1, 2, none⟩)) ?_
 refine pw y3 (x_load1 (by kernel_rfl) Tryz.isAgg113 (y0.2.1.cell' 2 rfl)) ?_
 refine pw (.bool (!d.err.isNil)) (x_err_ne d.err z4 Tryz.underlying113 (by kernel_rfl)) ?_
 refine nt r0 ?_
 refine cond_b (!d.err.isNil) (by kernel_rfl) (fun y5 => ?_) (fun y5 => ?_)
 ·
  replace hp := hp.1 y5
  refine sr (fun _ u9 => pv (.int .i64 (0 : Int)) ?_)
  refine nt u9 (wp_ret (then_ret ?_))
  obtain ⟨t0, t1, r4⟩ := MO.pack (o_codec_Dec_mk y0 z8 rfl z2 z4)
  refine end_ret hQ (.int .i64 (0 : Int)) (by kernel_rfl) ?_
  exact ⟨d, (0 : Int), hp, X, t0, step_of E0 y4 hS hN, rfl, t1, (by decide : inR .i64 (0 : Int))⟩
 ·
  replace hp := hp.2 y5
  refine wp_skip (then_normal (s9 _ _ _ _ (sr (fun _ t2 => pv (.pointer (some ⟨z1, 0, none⟩)) ?_))))
  refine pv (.pointer (some ⟨z1, 0, none⟩)) ?_
  refine pv (.pointer (some ⟨z1, 1, none⟩)) ?_
  refine pw (.int .i64 d.at_) (x_load1 (by kernel_rfl) Tryz.isAgg3 (y0.2.1.cell' 1 rfl)) ?_
  refine pv (.int .i64 d.at_) ?_
  refine nt t2 (sr (fun _ t3 => pv (.pointer (some ⟨z1, 0, none⟩)) ?_))
  obtain ⟨r6, y1, r5⟩ := MO.pack (o_codec_Dec_mk y0 z8 rfl z2 z4)
  refine sq (o_call 84 #[(.pointer (some ⟨z1, 0, none⟩))] rfl (x_call Tryz.call84 (by kernel_rfl)) (codec_Dec_uint_w (X := X) (d := d) hXo (MO.re y1 (Wr.self _ _ (Sub.refl _))) hp) ?_)
  rintro _ r7 ⟨v1, z0, z3, hp, v2, t4, z5, rfl, v3, v7, y6⟩
  have y2 := MO.re v3 (Wr.trans v3.wr y1.wr E0.size)
  replace hp := hp v7 y6
  refine pv (.tuple #[(.int .u64 z0), (.int .i64 z3)]) ?_
  refine pv (.int .u64 z0) ?_
  refine pv (.int .i64 z3) ?_
  refine pv (.int .u64 z0) ?_
  refine pv (.int .i64 z3) ?_
  refine nt t3 (seq_ (fun _ t5 => sr (fun _ t6 => pv (.int .i64 z3) ?_)))
  refine pv (.bool (!decide (z3 = (0 : Int)))) ?_
  refine nt t6 ?_
  refine cond_nd (z3 = (0 : Int)) (by kernel_rfl) (fun y7 => ?_) (fun y7 => ?_)
  ·
   replace hp := hp.1 y7
   refine sr (fun _ t7 => pv (.pointer (some ⟨z1, 0, none⟩)) ?_)
   refine pv (.int .i64 d.at_) ?_
   refine pv (.int .i64 z3) ?_
   have y9 := Old.step hXo z5
   have v4 := Evo.thenW E0 (Step.evo z5) y1.wr
   have v8 := Sub.trans hS (Step.up z5)
   have v9 := News.step hN z5
   refine sq (o_call 85 #[(.pointer (some ⟨z1, 0, none⟩)), (.int .i64 d.at_), (.int .i64 z3)] rfl (x_call Tryz.call85 (by kernel_rfl)) (codec_Dec_fail_w (X := v2) (d := v1) (at_ := d.at_) (e := z3) y9 (MO.re y2 (Wr.self _ _ (Sub.refl _))) z2 y6 hp) ?_)
   rintro _ r8 ⟨t8, hp, t9, s0, y8, rfl, v5⟩
   have s1 := MO.re v5 (Wr.trans v5.wr y2.wr v4.size)
   refine nt t7 (sr (fun _ s2 => pv (.int .i64 (0 : Int)) ?_))
   refine nt s2 (wp_ret (then_ret ?_))
   have s3 := Evo.thenW v4 (Step.evo y8) y2.wr
   have u1 := Sub.trans v8 (Step.up y8)
   have u2 := News.step v9 y8
   refine end_ret hQ (.int .i64 (0 : Int)) (by kernel_rfl) ?_
   exact ⟨t8, (0 : Int), hp, t9, s0, step_of s3 y4 u1 u2, rfl, s1, (by decide : inR .i64 (0 : Int))⟩
  ·
   replace hp := hp.2 y7
   refine wp_skip (then_normal (t5 _ _ _ _ (sr (fun _ s4 => pv (.int .u64 z0) ?_))))
   refine pw (.int .u64 (ishr .u64 z0 (1 : Int))) (x_shr (k := .u64) (k' := .u64) (a := z0) (b := (1 : Int)) (by kernel_rfl) (by kernel_rfl) (by decide)) ?_
   refine pw (.int .i64 (iwrap .i64 (ishr .u64 z0 (1 : Int)))) (x_convw (k := .u64) Tryz.underlying121 Tryz.underlying2 (by kernel_rfl)) ?_
   refine pv (.int .u64 z0) ?_
   refine pw (.int .u64 (iand .u64 z0 (1 : Int))) (x_and (k := .u64) (a := z0) (b := (1 : Int)) (by kernel_rfl) (by kernel_rfl)) ?_
   refine pw (.int .i64 (iwrap .i64 (iand .u64 z0 (1 : Int)))) (x_convw (k := .u64) Tryz.underlying121 Tryz.underlying2 (by kernel_rfl)) ?_
   obtain ⟨s5, hp⟩ := hp
   refine pw (.int .i64 (-(iwrap .i64 (iand .u64 z0 (1 : Int))))) (x_neg (k := .i64) (a := iwrap .i64 (iand .u64 z0 (1 : Int))) (-(iwrap .i64 (iand .u64 z0 (1 : Int)))) (by kernel_rfl) (wrap_inR s5)) ?_
   obtain ⟨z7, z9⟩ : ∃ y, y = (ixor .i64 (iwrap .i64 (ishr .u64 z0 (1 : Int))) (-(iwrap .i64 (iand .u64 z0 (1 : Int))))) := ⟨_, rfl⟩
   replace hp := hp z7 z9
   have s6 : inR .i64 z7 := by rw [z9]; exact (inR_ixor _ _ _)
   refine pw (.int .i64 z7) (by rw [z9]; exact (x_xor (k := .i64) (a := iwrap .i64 (ishr .u64 z0 (1 : Int))) (b := -(iwrap .i64 (iand .u64 z0 (1 : Int)))) (by kernel_rfl) (by kernel_rfl))) ?_
   refine pv (.int .i64 z7) ?_
   refine nt s4 (wp_ret ?_)
   have s7 := Evo.thenW E0 (Step.evo z5) y1.wr
   have u3 := Sub.trans hS (Step.up z5)
   have u4 := News.step hN z5
   refine end_ret hQ (.int .i64 z7) (by kernel_rfl) ?_
   exact ⟨v1, z7, hp, v2, t4, step_of s7 y4 u3 u4, rfl, y2, s6⟩
def codec_Dec_Err_p (d : S_codec_Dec) (Q : S_codec_Dec → PErr → Prop) : Prop :=
 ((d.b.length ≤ 9223372036854775807) → ((inR .i64 d.at_) → Q d d.err))
set_option maxRecDepth 20000 in
set_option maxHeartbeats 4000000 in
theorem codec_Dec_Err_w {X : List Nat} {w : World} {d : S_codec_Dec} {z1 : Nat} {z2 : List Nat} {Q : S_codec_Dec → PErr → Prop} (z9 : Old X w) (z7 : MO o_codec_Dec 128 z2 w.heap.size X w z2 z1 d) (hp : codec_Dec_Err_p d Q) :
  Calls Tryz.prog 66 #[(.pointer (some ⟨z1, 0, none⟩))] w (Ret fun v w' => ∃ (y0 : S_codec_Dec) (y1 : PErr), Q y0 y1 ∧ ∃ (X' : List Nat) (y2 : List Nat) (z5 : Value), Step X w z2 X' w' ∧ v = z5 ∧ MO o_codec_Dec 128 z2 w.heap.size X' w' y2 z1 y0 ∧ (rErr 35 138 140).ok X' w' ([z5]) y1) := by
 have hXo := z9
 have E0 : Evo z2 w w := RB.refl _ _ _
 have hS : Sub X X := Sub.refl _
 have hN : News X w X w := News.refl _ _
 have y3 : Sub z2 X := MO.mem z7
 unfold codec_Dec_Err_p at hp
 refine enter_ Tryz.func66 rfl 7 [(0, (.pointer (some ⟨z1, 0, none⟩)))] (by kernel_rfl) (fun Qe hQ => ?_)
 refine sr (fun _ y6 => pv .nilIface ?_)
 refine nt y6 (sr (fun _ y7 => pv (.pointer (some ⟨z1, 0, none⟩)) ?_))
 refine pv (.pointer (some ⟨z1, 0, none⟩)) ?_
 obtain ⟨y8, y9, z0, z8, z6, z4, z3, v0⟩ := o_codec_Dec_open z7
 replace hp := hp (Sl.len z6) z4
 refine pv (.pointer (some ⟨z1, 2, none⟩)) ?_
 refine pw z0 (x_load1 (by kernel_rfl) Tryz.isAgg113 (z8.2.1.cell' 2 rfl)) ?_
 refine pv z0 ?_
 refine nt y7 (wp_ret ?_)
 obtain ⟨y4, y5, v1⟩ := MO.pack (o_codec_Dec_mk z8 z6 rfl z4 z3)
 refine end_ret hQ z0 (by kernel_rfl) ?_
 exact ⟨d, d.err, hp, X, y4, z0, step_of E0 y3 hS hN, rfl, y5, z3⟩
def codec_Dec_Text_p (d : S_codec_Dec) (Q : S_codec_Dec → ByteArray → Prop) : Prop :=
 ((d.b.length ≤ 9223372036854775807) → ((inR .i64 d.at_) → (codec_Dec_Int_p d (fun (z0 : S_codec_Dec) (z1 : Int) => ((inR .i64 z1) → ((z0.b.length ≤ 9223372036854775807) → ((inR .i64 z0.at_) → ((((!z0.err.isNil) = true) → Q z0 (ByteArray.mk #[])) ∧ (((!z0.err.isNil) = false) → (((z1 < (0 : Int)) → (codec_Dec_fail_p z0 d.at_ (2 : Int) (fun (z3 : S_codec_Dec) => Q z3 (ByteArray.mk #[])))) ∧ ((¬ (z1 < (0 : Int))) → ((inR .i64 ((z0.b.length : Int) - z0.at_)) ∧ (((z1 > ((z0.b.length : Int) - z0.at_)) → (codec_Dec_fail_p z0 d.at_ (3 : Int) (fun (z2 : S_codec_Dec) => Q z2 (ByteArray.mk #[])))) ∧ ((¬ (z1 > ((z0.b.length : Int) - z0.at_))) → ((inR .i64 (z0.at_ + z1)) ∧ ((0 ≤ z0.at_ ∧ z0.at_ ≤ (z0.at_ + z1) ∧ (z0.at_ + z1) ≤ (z0.b.length : Int)) ∧ ((inR .i64 (z0.at_ + z1)) ∧ Q (S_codec_Dec.mk z0.b (z0.at_ + z1) z0.err) (strOfNums ((z0.b.take (z0.at_ + z1).toNat).drop z0.at_.toNat)))))))))))))))))))
set_option maxRecDepth 20000 in
set_option maxHeartbeats 4000000 in
theorem codec_Dec_Text_w {X : List Nat} {w : World} {d : S_codec_Dec} {z1 : Nat} {y3 : List Nat} {Q : S_codec_Dec → ByteArray → Prop} (j8 : Old X w) (r2 : MO o_codec_Dec 128 y3 w.heap.size X w y3 z1 d) (hp : codec_Dec_Text_p d Q) :
  Calls Tryz.prog 67 #[(.pointer (some ⟨z1, 0, none⟩))] w (Ret fun v w' => ∃ (j9 : S_codec_Dec) (r8 : ByteArray), Q j9 r8 ∧ ∃ (X' : List Nat) (g0 : List Nat), Step X w y3 X' w' ∧ v = (.string r8) ∧ MO o_codec_Dec 128 y3 w.heap.size X' w' g0 z1 j9 ∧ r8.size ≤ maxLen) := by
 have hXo := j8
 have E0 : Evo y3 w w := RB.refl _ _ _
 have hS : Sub X X := Sub.refl _
 have hN : News X w X w := News.refl _ _
 have u1 : Sub y3 X := MO.mem r2
 unfold codec_Dec_Text_p at hp
 refine enter_ Tryz.func67 rfl 65 [(0, (.pointer (some ⟨z1, 0, none⟩)))] (by kernel_rfl) (fun Qe hQ => ?_)
 refine sr (fun _ l3 => pv (.string (ByteArray.mk #[])) ?_)
 refine nt l3 (sr (fun _ l4 => pv (.pointer (some ⟨z1, 0, none⟩)) ?_))
 refine pv (.pointer (some ⟨z1, 0, none⟩)) ?_
 obtain ⟨l5, l6, j7, r3, u5, z7, u4, l7⟩ := o_codec_Dec_open r2
 replace hp := hp (Sl.len u5) z7
 refine pv (.pointer (some ⟨z1, 1, none⟩)) ?_
 refine pw (.int .i64 d.at_) (x_load1 (by kernel_rfl) Tryz.isAgg3 (r3.2.1.cell' 1 rfl)) ?_
 refine pv (.int .i64 d.at_) ?_
 refine nt l4 (sr (fun _ g1 => pv (.pointer (some ⟨z1, 0, none⟩)) ?_))
 obtain ⟨m6, v1, l8⟩ := MO.pack (o_codec_Dec_mk r3 u5 rfl z7 u4)
 refine sq (o_call 65 #[(.pointer (some ⟨z1, 0, none⟩))] rfl (x_call Tryz.call65 (by kernel_rfl)) (codec_Dec_Int_w (X := X) (d := d) hXo (MO.re v1 (Wr.self _ _ (Sub.refl _))) hp) ?_)
 rintro _ u6 ⟨z0, z2, hp, y0, m7, z4, rfl, r4, r9⟩
 have g2 := MO.re r4 (Wr.trans r4.wr v1.wr E0.size)
 replace hp := hp r9
 refine pv (.int .i64 z2) ?_
 refine nt g1 (seq_ (fun _ g3 => wp_block (sr (fun _ g4 => pv (.pointer (some ⟨z1, 0, none⟩)) ?_))))
 refine pv (.pointer (some ⟨z1, 0, none⟩)) ?_
 obtain ⟨y7, y8, y4, u2, z9, z5, z6, l9⟩ := o_codec_Dec_open g2
 replace hp := hp (Sl.len z9) z5
 refine pv (.pointer (some ⟨z1, 2, none⟩)) ?_
 refine pw y4 (x_load1 (by kernel_rfl) Tryz.isAgg113 (u2.2.1.cell' 2 rfl)) ?_
 refine pw (.bool (!z0.err.isNil)) (x_err_ne z0.err z6 Tryz.underlying113 (by kernel_rfl)) ?_
 refine pv (.bool (!z0.err.isNil)) ?_
 refine nt g4 ?_
 refine cond_b (!z0.err.isNil) (by kernel_rfl) (fun u7 => ?_) (fun u7 => ?_)
 ·
  replace hp := hp.1 u7
  refine sr (fun _ g5 => pv (.string (ByteArray.mk #[])) ?_)
  refine nt g5 (wp_ret (blk_ret (then_ret ?_)))
  have g6 := Evo.thenW E0 (Step.evo z4) v1.wr
  have q0 := Sub.trans hS (Step.up z4)
  have q1 := News.step hN z4
  obtain ⟨g7, g8, m0⟩ := MO.pack (o_codec_Dec_mk u2 z9 rfl z5 z6)
  refine end_ret hQ (.string (ByteArray.mk #[])) (by kernel_rfl) ?_
  exact ⟨z0, (ByteArray.mk #[]), hp, y0, g7, step_of g6 u1 q0 q1, rfl, g8, (by decide : (ByteArray.mk #[]).size ≤ maxLen)⟩
 ·
  replace hp := hp.2 u7
  refine sr (fun _ g9 => pv (.int .i64 z2) ?_)
  refine pv (.bool (decide (z2 < (0 : Int)))) ?_
  refine pv (.bool (decide (z2 < (0 : Int)))) ?_
  refine nt g9 ?_
  refine cond_d (z2 < (0 : Int)) (by kernel_rfl) (fun u9 => ?_) (fun u9 => ?_)
  ·
   replace hp := hp.1 u9
   refine sr (fun _ d0 => pv (.pointer (some ⟨z1, 0, none⟩)) ?_)
   refine pv (.int .i64 d.at_) ?_
   have s2 := Old.step hXo z4
   have r5 := Evo.thenW E0 (Step.evo z4) v1.wr
   have q2 := Sub.trans hS (Step.up z4)
   have q3 := News.step hN z4
   obtain ⟨m8, t0, m1⟩ := MO.pack (o_codec_Dec_mk u2 z9 rfl z5 z6)
   refine sq (o_call 85 #[(.pointer (some ⟨z1, 0, none⟩)), (.int .i64 d.at_), (.int .i64 (2 : Int))] rfl (x_call Tryz.call85 (by kernel_rfl)) (codec_Dec_fail_w (X := y0) (d := z0) (at_ := d.at_) (e := (2 : Int)) s2 (MO.re t0 (Wr.self _ _ (Sub.refl _))) z7 (by decide : inR .i64 (2 : Int)) hp) ?_)
   rintro _ m9 ⟨d1, hp, d2, d3, t1, rfl, r6⟩
   have d4 := MO.re r6 (Wr.trans r6.wr t0.wr r5.size)
   refine nt d0 (sr (fun _ d5 => pv (.string (ByteArray.mk #[])) ?_))
   refine nt d5 (wp_ret (blk_ret (then_ret ?_)))
   have d6 := Evo.thenW r5 (Step.evo t1) t0.wr
   have q4 := Sub.trans q2 (Step.up t1)
   have q5 := News.step q3 t1
   refine end_ret hQ (.string (ByteArray.mk #[])) (by kernel_rfl) ?_
   exact ⟨d1, (ByteArray.mk #[]), hp, d2, d3, step_of d6 u1 q4 q5, rfl, d4, (by decide : (ByteArray.mk #[]).size ≤ maxLen)⟩
  ·
   replace hp := hp.2 u9
   refine seq_ (fun _ d7 => ?_)
   have s3 := Old.step hXo z4
   have d8 := Evo.thenW E0 (Step.evo z4) v1.wr
   have q6 := Sub.trans hS (Step.up z4)
   have q7 := News.step hN z4
   refine reg_drawn (RB u6.heap.size []) 12 (by kernel_rfl) (fun v2 v4 => ?_)
   have d9 := Evo.of_drew v4
   have r7 : v2.heap.size = u6.heap.size := by rw [v4]
   clear v4
   have y1 := Step.of0 y0 d9
   have t2 := RB.refl u6.heap.size [] v2
   have s4 := Old.step s3 y1
   have t3 := Evo.then0 d8 (Step.evo y1)
   have t4 := Sub.trans q6 (Step.up y1)
   have t5 := News.step q7 y1
   have y5 := OB.step0 u2 y1
   have u3 := Sl.step z9 y1
   have y6 := Rep.step (rErr 35 138 140) z6 y1
   refine r_take 0 (.int .i64 z2) (RB.pre _ _) rfl (by kernel_rfl) (fun _ _ _ h => hQ.panic _ _ _ _ _ h) (.inl ⟨rfl, fun wq hq => (by kernel_rfl)⟩) ?_
   refine r_take 1 (.pointer (some ⟨z1, 0, none⟩)) (RB.pre _ _) rfl (by kernel_rfl) (fun _ _ _ h => hQ.panic _ _ _ _ _ h) (.inl ⟨rfl, fun wq hq => (by kernel_rfl)⟩) ?_
   refine r_take 2 (.pointer (some ⟨z1, 0, none⟩)) (RB.pre _ _) rfl (by kernel_rfl) (fun _ _ _ h => hQ.panic _ _ _ _ _ h) (.inl ⟨rfl, fun wq hq => (by kernel_rfl)⟩) ?_
   refine r_take 3 (.pointer (some ⟨z1, 0, none⟩)) (RB.pre _ _) rfl (by kernel_rfl) (fun _ _ _ h => hQ.panic _ _ _ _ _ h) (.inl ⟨rfl, fun wq hq => (by kernel_rfl)⟩) ?_
   refine r_take 4 (.slice y7 z0.b.length y8) (RB.pre _ _) rfl (by kernel_rfl) (fun _ _ _ h => hQ.panic _ _ _ _ _ h) (.inl ⟨rfl, fun wq hq => (x_load1 (by kernel_rfl) Tryz.isAgg32 ((Blk.rb y5.2.1 (RB.trans t2 hq) (Nat.lt_of_lt_of_eq (Blk.lt y5.2.1) r7) (fun h => by cases h)).cell' 0 rfl))⟩) ?_
   refine r_take 5 (.int .i64 (z0.b.length : Int)) (RB.pre _ _) rfl (by kernel_rfl) (fun _ _ _ h => hQ.panic _ _ _ _ _ h) (.inl ⟨rfl, fun wq hq => (by kernel_rfl)⟩) ?_
   refine r_take 6 (.pointer (some ⟨z1, 0, none⟩)) (RB.pre _ _) rfl (by kernel_rfl) (fun _ _ _ h => hQ.panic _ _ _ _ _ h) (.inl ⟨rfl, fun wq hq => (by kernel_rfl)⟩) ?_
   refine r_take 7 (.pointer (some ⟨z1, 0, none⟩)) (RB.pre _ _) rfl (by kernel_rfl) (fun _ _ _ h => hQ.panic _ _ _ _ _ h) (.inl ⟨rfl, fun wq hq => (by kernel_rfl)⟩) ?_
   refine r_take 8 (.pointer (some ⟨z1, 1, none⟩)) (RB.pre _ _) rfl (by kernel_rfl) (fun _ _ _ h => hQ.panic _ _ _ _ _ h) (.inl ⟨rfl, fun wq hq => (by kernel_rfl)⟩) ?_
   refine r_take 9 (.int .i64 z0.at_) (RB.pre _ _) rfl (by kernel_rfl) (fun _ _ _ h => hQ.panic _ _ _ _ _ h) (.inl ⟨rfl, fun wq hq => (x_load1 (by kernel_rfl) Tryz.isAgg3 ((Blk.rb y5.2.1 (RB.trans t2 hq) (Nat.lt_of_lt_of_eq (Blk.lt y5.2.1) r7) (fun h => by cases h)).cell' 1 rfl))⟩) ?_
   obtain ⟨l0, hp⟩ := hp
   refine r_take 10 (.int .i64 ((z0.b.length : Int) - z0.at_)) (RB.pre _ _) rfl (by kernel_rfl) (fun _ _ _ h => hQ.panic _ _ _ _ _ h) (.inl ⟨rfl, fun wq hq => (x_sub2 (k := .i64) (a := (z0.b.length : Int)) (b := z0.at_) ((z0.b.length : Int) - z0.at_) (by kernel_rfl) (by kernel_rfl) (wrap_inR l0))⟩) ?_
   refine r_take 11 (.bool (decide (z2 > ((z0.b.length : Int) - z0.at_)))) (RB.pre _ _) rfl (by kernel_rfl) (fun _ _ _ h => hQ.panic _ _ _ _ _ h) (.inl ⟨rfl, fun wq hq => (by kernel_rfl)⟩) ?_
   refine r_ready [12] (by kernel_rfl) rfl (all_cons ⟨_, _, _, _, _, _, rfl, ?_⟩ all_nil)
   refine o_pv (.bool (decide (z2 > ((z0.b.length : Int) - z0.at_)))) rfl (by kernel_rfl) ?_
   refine ⟨fun h => absurd h (by decide), ?_⟩
   refine r_done (by kernel_rfl) ?_
   refine then_normal (d7 _ _ _ _ ?_)
   refine cond_d (z2 > ((z0.b.length : Int) - z0.at_)) (by kernel_rfl) (fun t6 => ?_) (fun t6 => ?_)
   ·
    replace hp := hp.1 t6
    refine sr (fun _ q8 => pv (.pointer (some ⟨z1, 0, none⟩)) ?_)
    refine pv (.int .i64 d.at_) ?_
    obtain ⟨m2, v5, l1⟩ := MO.pack (o_codec_Dec_mk y5 u3 rfl z5 y6)
    refine sq (o_call 85 #[(.pointer (some ⟨z1, 0, none⟩)), (.int .i64 d.at_), (.int .i64 (3 : Int))] rfl (x_call Tryz.call85 (by kernel_rfl)) (codec_Dec_fail_w (X := y0) (d := z0) (at_ := d.at_) (e := (3 : Int)) s4 (MO.re v5 (Wr.self _ _ (Sub.refl _))) z7 (by decide : inR .i64 (3 : Int)) hp) ?_)
    rintro _ m3 ⟨q9, hp, k0, k1, v6, rfl, t7⟩
    have k2 := MO.re t7 (Wr.trans t7.wr v5.wr t3.size)
    refine nt q8 (sr (fun _ k3 => pv (.string (ByteArray.mk #[])) ?_))
    refine nt k3 (wp_ret (blk_ret (then_ret ?_)))
    have k4 := Evo.thenW t3 (Step.evo v6) v5.wr
    have s5 := Sub.trans t4 (Step.up v6)
    have s6 := News.step t5 v6
    refine end_ret hQ (.string (ByteArray.mk #[])) (by kernel_rfl) ?_
    exact ⟨q9, (ByteArray.mk #[]), hp, k0, k1, step_of k4 u1 s5 s6, rfl, k2, (by decide : (ByteArray.mk #[]).size ≤ maxLen)⟩
   ·
    replace hp := hp.2 t6
    refine wp_skip (blk_normal (then_normal (g3 _ _ _ _ (seq_ (fun _ k5 => ?_)))))
    refine reg_drawn (RB v2.heap.size []) 16 (by kernel_rfl) (fun t8 y9 => ?_)
    have k6 := Evo.of_drew y9
    have v7 : t8.heap.size = v2.heap.size := by rw [y9]
    clear y9
    have z8 := Step.of0 y0 k6
    have v0 := RB.refl v2.heap.size [] t8
    have k7 := Evo.then0 t3 (Step.evo z8)
    have s7 := Sub.trans t4 (Step.up z8)
    have s8 := News.step t5 z8
    have z3 := OB.step0 y5 z8
    have v3 := Sl.step u3 z8
    have v8 := Rep.step (rErr 35 138 140) y6 z8
    refine r_take 0 (.pointer (some ⟨z1, 0, none⟩)) (RB.pre _ _) rfl (by kernel_rfl) (fun _ _ _ h => hQ.panic _ _ _ _ _ h) (.inl ⟨rfl, fun wq hq => (by kernel_rfl)⟩) ?_
    refine r_take 1 (.pointer (some ⟨z1, 0, none⟩)) (RB.pre _ _) rfl (by kernel_rfl) (fun _ _ _ h => hQ.panic _ _ _ _ _ h) (.inl ⟨rfl, fun wq hq => (by kernel_rfl)⟩) ?_
    refine r_take 2 (.pointer (some ⟨z1, 0, none⟩)) (RB.pre _ _) rfl (by kernel_rfl) (fun _ _ _ h => hQ.panic _ _ _ _ _ h) (.inl ⟨rfl, fun wq hq => (by kernel_rfl)⟩) ?_
    refine r_take 3 (.slice y7 z0.b.length y8) (RB.pre _ _) rfl (by kernel_rfl) (fun _ _ _ h => hQ.panic _ _ _ _ _ h) (.inl ⟨rfl, fun wq hq => (x_load1 (by kernel_rfl) Tryz.isAgg32 ((Blk.rb z3.2.1 (RB.trans v0 hq) (Nat.lt_of_lt_of_eq (Blk.lt z3.2.1) v7) (fun h => by cases h)).cell' 0 rfl))⟩) ?_
    refine r_take 4 (.pointer (some ⟨z1, 0, none⟩)) (RB.pre _ _) rfl (by kernel_rfl) (fun _ _ _ h => hQ.panic _ _ _ _ _ h) (.inl ⟨rfl, fun wq hq => (by kernel_rfl)⟩) ?_
    refine r_take 5 (.pointer (some ⟨z1, 0, none⟩)) (RB.pre _ _) rfl (by kernel_rfl) (fun _ _ _ h => hQ.panic _ _ _ _ _ h) (.inl ⟨rfl, fun wq hq => (by kernel_rfl)⟩) ?_
    refine r_take 6 (.pointer (some ⟨z1, 1, none⟩)) (RB.pre _ _) rfl (by kernel_rfl) (fun _ _ _ h => hQ.panic _ _ _ _ _ h) (.inl ⟨rfl, fun wq hq => (by kernel_rfl)⟩) ?_
    refine r_take 7 (.int .i64 z0.at_) (RB.pre _ _) rfl (by kernel_rfl) (fun _ _ _ h => hQ.panic _ _ _ _ _ h) (.inl ⟨rfl, fun wq hq => (x_load1 (by kernel_rfl) Tryz.isAgg3 ((Blk.rb z3.2.1 (RB.trans v0 hq) (Nat.lt_of_lt_of_eq (Blk.lt z3.2.1) v7) (fun h => by cases h)).cell' 1 rfl))⟩) ?_
    refine r_take 8 (.pointer (some ⟨z1, 0, none⟩)) (RB.pre _ _) rfl (by kernel_rfl) (fun _ _ _ h => hQ.panic _ _ _ _ _ h) (.inl ⟨rfl, fun wq hq => (by kernel_rfl)⟩) ?_
    refine r_take 9 (.pointer (some ⟨z1, 0, none⟩)) (RB.pre _ _) rfl (by kernel_rfl) (fun _ _ _ h => hQ.panic _ _ _ _ _ h) (.inl ⟨rfl, fun wq hq => (by kernel_rfl)⟩) ?_
    refine r_take 10 (.pointer (some ⟨z1, 1, none⟩)) (RB.pre _ _) rfl (by kernel_rfl) (fun _ _ _ h => hQ.panic _ _ _ _ _ h) (.inl ⟨rfl, fun wq hq => (by kernel_rfl)⟩) ?_
    refine r_take 11 (.int .i64 z0.at_) (RB.pre _ _) rfl (by kernel_rfl) (fun _ _ _ h => hQ.panic _ _ _ _ _ h) (.inl ⟨rfl, fun wq hq => (x_load1 (by kernel_rfl) Tryz.isAgg3 ((Blk.rb z3.2.1 (RB.trans v0 hq) (Nat.lt_of_lt_of_eq (Blk.lt z3.2.1) v7) (fun h => by cases h)).cell' 1 rfl))⟩) ?_
    refine r_take 12 (.int .i64 z2) (RB.pre _ _) rfl (by kernel_rfl) (fun _ _ _ h => hQ.panic _ _ _ _ _ h) (.inl ⟨rfl, fun wq hq => (by kernel_rfl)⟩) ?_
    obtain ⟨k8, hp⟩ := hp
    refine r_take 13 (.int .i64 (z0.at_ + z2)) (RB.pre _ _) rfl (by kernel_rfl) (fun _ _ _ h => hQ.panic _ _ _ _ _ h) (.inl ⟨rfl, fun wq hq => (x_add2 (k := .i64) (a := z0.at_) (b := z2) (z0.at_ + z2) (by kernel_rfl) (by kernel_rfl) (wrap_inR k8))⟩) ?_
    obtain ⟨m4, hp⟩ := hp
    refine r_slice (R := (rInt .u8)) (X := y0) (L := z0.b) 14 (RB.pre _ _) rfl (by kernel_rfl) (fun _ _ _ _ h => hQ.panic _ _ _ _ _ h) z0.at_.toNat ((z0.at_ + z2).toNat) ((z0.b.take (z0.at_ + z2).toNat).drop z0.at_.toNat) rfl Tryz.underlying32 Tryz.sizeOf5 v3 (by kernel_rfl) rfl (.inr ⟨.i64, by rw [show ((z0.at_.toNat : Nat) : Int) = z0.at_ from by omega]; kernel_rfl⟩) (.inr ⟨.i64, by rw [show (((z0.at_ + z2).toNat : Nat) : Int) = z0.at_ + z2 from by omega]; kernel_rfl⟩) (by omega) (by omega) rfl ?_
    intro k9 j0 t9
    refine r_ready [15] (by kernel_rfl) rfl (all_cons ⟨_, _, _, _, _, _, rfl, ?_⟩ all_nil)
    have s9 := Sl.len t9
    refine o_pv (.string (strOfNums ((z0.b.take (z0.at_ + z2).toNat).drop z0.at_.toNat))) rfl (x_b2s_sl (a := k9) (len := ((z0.b.take (z0.at_ + z2).toNat).drop z0.at_.toNat).length) (c := j0) ((z0.b.take (z0.at_ + z2).toNat).drop z0.at_.toNat) Tryz.underlying32 Tryz.underlying5 Tryz.underlying9 (by kernel_rfl) rfl t9) ?_
    refine ⟨fun _ => RB.refl _ _ _, ?_⟩
    refine r_ready [16] (by kernel_rfl) rfl (all_cons ⟨_, _, _, _, _, _, rfl, ?_⟩ all_nil)
    refine o_pv (.string (strOfNums ((z0.b.take (z0.at_ + z2).toNat).drop z0.at_.toNat))) rfl (by kernel_rfl) ?_
    refine ⟨fun h => absurd h (by decide), ?_⟩
    refine r_done (by kernel_rfl) ?_
    refine then_normal (k5 _ _ _ _ (sr (fun _ j1 => pv (.pointer (some ⟨z1, 0, none⟩)) ?_)))
    refine pv (.pointer (some ⟨z1, 0, none⟩)) ?_
    refine pv (.pointer (some ⟨z1, 1, none⟩)) ?_
    refine pw (.int .i64 z0.at_) (x_load1 (by kernel_rfl) Tryz.isAgg3 (z3.2.1.cell' 1 rfl)) ?_
    refine pv (.int .i64 z2) ?_
    obtain ⟨s0, hp⟩ := hp
    refine pw (.int .i64 (z0.at_ + z2)) (x_add2 (k := .i64) (a := z0.at_) (b := z2) (z0.at_ + z2) (by kernel_rfl) (by kernel_rfl) (wrap_inR s0)) ?_
    refine pv (.pointer (some ⟨z1, 0, none⟩)) ?_
    refine pv (.pointer (some ⟨z1, 1, none⟩)) ?_
    refine sq (o_stB (o := 1) (v := (.int .i64 (z0.at_ + z2))) [(.slice y7 z0.b.length y8), (.int .i64 (z0.at_ + z2)), y4] rfl z3 (by kernel_rfl) (by kernel_rfl) Tryz.sizeOf3 rfl rfl rfl ?_)
    intro m5 y2 j2
    refine nt j1 (sr (fun _ j3 => pv (.string (strOfNums ((z0.b.take (z0.at_ + z2).toNat).drop z0.at_.toNat))) ?_))
    refine pv (.string (strOfNums ((z0.b.take (z0.at_ + z2).toNat).drop z0.at_.toNat))) ?_
    refine nt j3 (wp_ret ?_)
    have j4 := Evo.thenW k7 (Step.evo y2) z3.2.2
    have r0 := Sub.trans s7 (Step.up y2)
    have r1 := News.step s8 y2
    have s1 := Sl.step v3 y2
    have v9 := Rep.step (rErr 35 138 140) v8 y2
    obtain ⟨j5, j6, l2⟩ := MO.pack (o_codec_Dec_mk j2 s1 rfl s0 v9)
    refine end_ret hQ (.string (strOfNums ((z0.b.take (z0.at_ + z2).toNat).drop z0.at_.toNat))) (by kernel_rfl) ?_
    exact ⟨(S_codec_Dec.mk z0.b (z0.at_ + z2) z0.err), (strOfNums ((z0.b.take (z0.at_ + z2).toNat).drop z0.at_.toNat)), hp, y0, j5, step_of j4 u1 r0 r1, rfl, j6, (strOfNums_le s9)⟩
def codec_Dec_Left_p (d : S_codec_Dec) (Q : S_codec_Dec → Int → Prop) : Prop :=
 ((d.b.length ≤ 9223372036854775807) → ((inR .i64 d.at_) → ((((!d.err.isNil) = true) → Q d (0 : Int)) ∧ (((!d.err.isNil) = false) → ((inR .i64 ((d.b.length : Int) - d.at_)) ∧ Q d ((d.b.length : Int) - d.at_))))))
set_option maxRecDepth 20000 in
set_option maxHeartbeats 4000000 in
theorem codec_Dec_Left_w {X : List Nat} {w : World} {d : S_codec_Dec} {z0 : Nat} {z3 : List Nat} {Q : S_codec_Dec → Int → Prop} (v4 : Old X w) (y4 : MO o_codec_Dec 128 z3 w.heap.size X w z3 z0 d) (hp : codec_Dec_Left_p d Q) :
  Calls Tryz.prog 68 #[(.pointer (some ⟨z0, 0, none⟩))] w (Ret fun v w' => ∃ (v5 : S_codec_Dec) (y9 : Int), Q v5 y9 ∧ ∃ (X' : List Nat) (v6 : List Nat), Step X w z3 X' w' ∧ v = (.int .i64 y9) ∧ MO o_codec_Dec 128 z3 w.heap.size X' w' v6 z0 v5 ∧ inR .i64 y9) := by
 have hXo := v4
 have E0 : Evo z3 w w := RB.refl _ _ _
 have hS : Sub X X := Sub.refl _
 have hN : News X w X w := News.refl _ _
 have y5 : Sub z3 X := MO.mem y4
 unfold codec_Dec_Left_p at hp
 refine enter_ Tryz.func68 rfl 18 [(0, (.pointer (some ⟨z0, 0, none⟩)))] (by kernel_rfl) (fun Qe hQ => ?_)
 refine sr (fun _ u6 => pv (.int .i64 (0 : Int)) ?_)
 refine nt u6 (seq_ (fun _ u7 => sr (fun _ u9 => pv (.pointer (some ⟨z0, 0, none⟩)) ?_)))
 refine pv (.pointer (some ⟨z0, 0, none⟩)) ?_
 obtain ⟨v0, v1, z8, y0, z6, z1, z2, t0⟩ := o_codec_Dec_open y4
 replace hp := hp (Sl.len z6) z1
 refine pv (.pointer (some ⟨z0, 2, none⟩)) ?_
 refine pw z8 (x_load1 (by kernel_rfl) Tryz.isAgg113 (y0.2.1.cell' 2 rfl)) ?_
 refine pw (.bool (!d.err.isNil)) (x_err_ne d.err z2 Tryz.underlying113 (by kernel_rfl)) ?_
 refine nt u9 ?_
 refine cond_b (!d.err.isNil) (by kernel_rfl) (fun y1 => ?_) (fun y1 => ?_)
 ·
  replace hp := hp.1 y1
  refine sr (fun _ v7 => pv (.int .i64 (0 : Int)) ?_)
  refine nt v7 (wp_ret (then_ret ?_))
  obtain ⟨v8, v9, t1⟩ := MO.pack (o_codec_Dec_mk y0 z6 rfl z1 z2)
  refine end_ret hQ (.int .i64 (0 : Int)) (by kernel_rfl) ?_
  exact ⟨d, (0 : Int), hp, X, v8, step_of E0 y5 hS hN, rfl, v9, (by decide : inR .i64 (0 : Int))⟩
 ·
  replace hp := hp.2 y1
  refine wp_skip (then_normal (u7 _ _ _ _ (seq_ (fun _ u1 => ?_))))
  refine reg_drawn (RB w.heap.size []) 10 (by kernel_rfl) (fun y6 z7 => ?_)
  have u2 := Evo.of_drew z7
  have y7 : y6.heap.size = w.heap.size := by rw [z7]
  clear z7
  have z4 := Step.of0 X u2
  have y2 := RB.refl w.heap.size [] y6
  have u3 := Evo.then0 E0 (Step.evo z4)
  have v2 := Sub.trans hS (Step.up z4)
  have v3 := News.step hN z4
  have z5 := OB.step0 y0 z4
  have y3 := Sl.step z6 z4
  have z9 := Rep.step (rErr 35 138 140) z2 z4
  refine r_take 0 (.pointer (some ⟨z0, 0, none⟩)) (RB.pre _ _) rfl (by kernel_rfl) (fun _ _ _ h => hQ.panic _ _ _ _ _ h) (.inl ⟨rfl, fun wq hq => (by kernel_rfl)⟩) ?_
  refine r_take 1 (.pointer (some ⟨z0, 0, none⟩)) (RB.pre _ _) rfl (by kernel_rfl) (fun _ _ _ h => hQ.panic _ _ _ _ _ h) (.inl ⟨rfl, fun wq hq => (by kernel_rfl)⟩) ?_
  refine r_take 2 (.pointer (some ⟨z0, 0, none⟩)) (RB.pre _ _) rfl (by kernel_rfl) (fun _ _ _ h => hQ.panic _ _ _ _ _ h) (.inl ⟨rfl, fun wq hq => (by kernel_rfl)⟩) ?_
  refine r_take 3 (.slice v0 d.b.length v1) (RB.pre _ _) rfl (by kernel_rfl) (fun _ _ _ h => hQ.panic _ _ _ _ _ h) (.inl ⟨rfl, fun wq hq => (x_load1 (by kernel_rfl) Tryz.isAgg32 ((Blk.rb z5.2.1 (RB.trans y2 hq) (Nat.lt_of_lt_of_eq (Blk.lt z5.2.1) y7) (fun h => by cases h)).cell' 0 rfl))⟩) ?_
  refine r_take 4 (.int .i64 (d.b.length : Int)) (RB.pre _ _) rfl (by kernel_rfl) (fun _ _ _ h => hQ.panic _ _ _ _ _ h) (.inl ⟨rfl, fun wq hq => (by kernel_rfl)⟩) ?_
  refine r_take 5 (.pointer (some ⟨z0, 0, none⟩)) (RB.pre _ _) rfl (by kernel_rfl) (fun _ _ _ h => hQ.panic _ _ _ _ _ h) (.inl ⟨rfl, fun wq hq => (by kernel_rfl)⟩) ?_
  refine r_take 6 (.pointer (some ⟨z0, 0, none⟩)) (RB.pre _ _) rfl (by kernel_rfl) (fun _ _ _ h => hQ.panic _ _ _ _ _ h) (.inl ⟨rfl, fun wq hq => (by kernel_rfl)⟩) ?_
  refine r_take 7 (.pointer (some ⟨z0, 1, none⟩)) (RB.pre _ _) rfl (by kernel_rfl) (fun _ _ _ h => hQ.panic _ _ _ _ _ h) (.inl ⟨rfl, fun wq hq => (by kernel_rfl)⟩) ?_
  refine r_take 8 (.int .i64 d.at_) (RB.pre _ _) rfl (by kernel_rfl) (fun _ _ _ h => hQ.panic _ _ _ _ _ h) (.inl ⟨rfl, fun wq hq => (x_load1 (by kernel_rfl) Tryz.isAgg3 ((Blk.rb z5.2.1 (RB.trans y2 hq) (Nat.lt_of_lt_of_eq (Blk.lt z5.2.1) y7) (fun h => by cases h)).cell' 1 rfl))⟩) ?_
  obtain ⟨y8, hp⟩ := hp
  refine r_take 9 (.int .i64 ((d.b.length : Int) - d.at_)) (RB.pre _ _) rfl (by kernel_rfl) (fun _ _ _ h => hQ.panic _ _ _ _ _ h) (.inl ⟨rfl, fun wq hq => (x_sub2 (k := .i64) (a := (d.b.length : Int)) (b := d.at_) ((d.b.length : Int) - d.at_) (by kernel_rfl) (by kernel_rfl) (wrap_inR y8))⟩) ?_
  refine r_ready [10] (by kernel_rfl) rfl (all_cons ⟨_, _, _, _, _, _, rfl, ?_⟩ all_nil)
  refine o_pv (.int .i64 ((d.b.length : Int) - d.at_)) rfl (by kernel_rfl) ?_
  refine ⟨fun h => absurd h (by decide), ?_⟩
  refine r_done (by kernel_rfl) ?_
  refine then_normal (u1 _ _ _ _ (wp_ret ?_))
  obtain ⟨u4, u5, t2⟩ := MO.pack (o_codec_Dec_mk z5 y3 rfl z1 z9)
  refine end_ret hQ (.int .i64 ((d.b.length : Int) - d.at_)) (by kernel_rfl) ?_
  exact ⟨d, ((d.b.length : Int) - d.at_), hp, X, u4, step_of u3 y5 v2 v3, rfl, u5, y8⟩
end Go.Proofs.YtlkfoebophjhfaaGreatDoor
