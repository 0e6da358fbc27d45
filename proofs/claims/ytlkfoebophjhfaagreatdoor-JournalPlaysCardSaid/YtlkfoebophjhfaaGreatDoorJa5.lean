/- Walks of functions: what each asks and computes, as a plain predicate, and the contract from it. -/
import Derived.Test.YtlkfoebophjhfaaGreatDoorChecked
import Derived.Test.YtlkfoebophjhfaaGreatDoorPk
import Derived.Test.YtlkfoebophjhfaaGreatDoorJa4
import Derived.Test.YtlkfoebophjhfaaGreatDoorSlo
namespace Go.Proofs.YtlkfoebophjhfaaGreatDoor
open Go
theorem elT65 : ElemT Tryz.prog 65 9 1 16 := elemT_mk (i := Tryz.t9) (z := (.string (ByteArray.mk #[]))) (by kernel_rfl) (by kernel_rfl) (by kernel_rfl) (by kernel_rfl) Tryz.underlying65 Tryz.sizeOf9 (by decide) (by decide)
def journal_Recover_p (f_ : S_simfs_FS) (dir : ByteArray) (Q : S_simfs_FS → Int → Prop) : Prop :=
 ((dir.size ≤ maxLen) → (journal_Idle_p f_ dir (fun (z7 : S_simfs_FS) (y7 : Bool) (y4 : Int) => ((inR .i64 y4) → (((¬ (y4 = (0 : Int))) → Q z7 y4) ∧ ((y4 = (0 : Int)) → (((y7 = true) → Q z7 (0 : Int)) ∧ ((y7 = false) → (((dir ++ (ByteArray.mk #[47, 110, 111, 116, 101])).size ≤ maxLen) ∧ (simfs_FS_Read_p z7 (dir ++ (ByteArray.mk #[47, 110, 111, 116, 101])) (fun (z2 : S_simfs_FS) (y6 : (List Int)) (z8 : Int) => ((y6.length ≤ 9223372036854775807) → ((inR .i64 z8) → (∃ z0 : S_simfs_FS → Prop, (∀ (z9 : S_simfs_FS), z0 z9 → (journal_tidy_p z9 dir (fun (y5 : S_simfs_FS) (y0 : Int) => ((inR .i64 y0) → Q y5 y0)))) ∧ (((z8 = (0 : Int)) → (journal_read_p y6 (fun (z3 : (List S_journal_Change)) (y1 : Bool) => ((z3.length ≤ 9223372036854775807) → (∃ z4 : Bool → Prop, (∀ (z5 : Bool), z4 z5 → (((z5 = true) → (journal_finish_p z2 dir z3 (fun (z6 : S_simfs_FS) (z1 : Int) => ((inR .i64 z1) → (((¬ (z1 = (0 : Int))) → Q z6 z1) ∧ ((z1 = (0 : Int)) → (z0 z6))))))) ∧ ((z5 = false) → (z0 z2)))) ∧ (((y1 = true) → (journal_clean_p z3 (fun (y2 : (List S_journal_Change)) => ((y2.length ≤ 9223372036854775807) → (journal_Check_p dir y2 (fun (y3 : Int) => ((inR .i64 y3) → (z4 (decide (y3 = (0 : Int))))))))))) ∧ ((¬ (y1 = true)) → (z4 false)))))))) ∧ ((¬ (z8 = (0 : Int))) → (z0 z2)))))))))))))))))
set_option maxRecDepth 20000 in
set_option maxHeartbeats 4000000 in
theorem journal_Recover_w {X : List Nat} {w : World} {f_ : S_simfs_FS} {dir : ByteArray} {z0 : Nat} {z3 : List Nat} {Q : S_simfs_FS → Int → Prop} (m4 : Old X w) (y0 : MO o_simfs_FS 62 z3 w.heap.size X w z3 z0 f_) (z9 : dir.size ≤ maxLen) (hp : journal_Recover_p f_ dir Q) :
  Calls Tryz.prog 18 #[(.pointer (some ⟨z0, 0, none⟩)), (.string dir)] w (Ret fun v w' => ∃ (m5 : S_simfs_FS) (d0 : Int), Q m5 d0 ∧ ∃ (X' : List Nat) (m6 : List Nat), Step X w z3 X' w' ∧ v = (.int .i64 d0) ∧ MO o_simfs_FS 62 z3 w.heap.size X' w' m6 z0 m5 ∧ inR .i64 d0) := by
 have hXo := m4
 have E0 : Evo z3 w w := RB.refl _ _ _
 have hS : Sub X X := Sub.refl _
 have hN : News X w X w := News.refl _ _
 have t7 : Sub z3 X := MO.mem y0
 unfold journal_Recover_p at hp
 refine enter_ Tryz.func18 rfl 54 [(0, (.pointer (some ⟨z0, 0, none⟩))), (1, (.string dir))] (by kernel_rfl) (fun Qe hQ => ?_)
 replace hp := hp z9
 refine sr (fun _ o0 => pv (.int .i64 (0 : Int)) ?_)
 refine nt o0 (sr (fun _ o1 => pv (.pointer (some ⟨z0, 0, none⟩)) ?_))
 refine pv (.string dir) ?_
 refine sq (o_call 19 #[(.pointer (some ⟨z0, 0, none⟩)), (.string dir)] rfl (x_call Tryz.call19 (by kernel_rfl)) (journal_Idle_w (X := X) (f_ := f_) (dir := dir) hXo (MO.re y0 (Wr.self _ _ (Sub.refl _))) z9 hp) ?_)
 rintro _ o9 ⟨s9, r0, v6, hp, r1, g4, z7, rfl, g5, r2⟩
 have t0 := MO.re g5 (Wr.trans g5.wr y0.wr E0.size)
 replace hp := hp r2
 refine pv (.tuple #[(.bool r0), (.int .i64 v6)]) ?_
 refine pv (.bool r0) ?_
 refine pv (.int .i64 v6) ?_
 refine pv (.bool r0) ?_
 refine pv (.int .i64 v6) ?_
 refine nt o1 (seq_ (fun _ m7 => sr (fun _ m8 => pv (.int .i64 v6) ?_)))
 refine pv (.bool (!decide (v6 = (0 : Int)))) ?_
 refine nt m8 ?_
 refine cond_nd (v6 = (0 : Int)) (by kernel_rfl) (fun r3 => ?_) (fun r3 => ?_)
 ·
  replace hp := hp.1 r3
  refine sr (fun _ m9 => pv (.int .i64 v6) ?_)
  refine pv (.int .i64 v6) ?_
  refine nt m9 (wp_ret (then_ret ?_))
  have n0 := Evo.thenW E0 (Step.evo z7) y0.wr
  have d1 := Sub.trans hS (Step.up z7)
  have d2 := News.step hN z7
  refine end_ret hQ (.int .i64 v6) (by kernel_rfl) ?_
  exact ⟨s9, v6, hp, r1, g4, step_of n0 t7 d1 d2, rfl, t0, r2⟩
 ·
  replace hp := hp.2 r3
  refine wp_skip (then_normal (m7 _ _ _ _ (seq_ (fun _ n1 => sr (fun _ n2 => pv (.bool r0) ?_)))))
  refine nt n2 ?_
  refine cond_b r0 (by kernel_rfl) (fun r4 => ?_) (fun r4 => ?_)
  ·
   replace hp := hp.1 r4
   refine sr (fun _ n3 => pv (.int .i64 (0 : Int)) ?_)
   refine nt n3 (wp_ret (then_ret ?_))
   have n4 := Evo.thenW E0 (Step.evo z7) y0.wr
   have d3 := Sub.trans hS (Step.up z7)
   have d4 := News.step hN z7
   refine end_ret hQ (.int .i64 (0 : Int)) (by kernel_rfl) ?_
   exact ⟨s9, (0 : Int), hp, r1, g4, step_of n4 t7 d3 d4, rfl, t0, (by decide : inR .i64 (0 : Int))⟩
  ·
   replace hp := hp.2 r4
   refine wp_skip (then_normal (n1 _ _ _ _ (seq_ (fun _ n5 => sr (fun _ n6 => pv (.pointer (some ⟨z0, 0, none⟩)) ?_)))))
   refine pv (.string dir) ?_
   obtain ⟨g6, hp⟩ := hp
   refine pw (.string (dir ++ (ByteArray.mk #[47, 110, 111, 116, 101]))) (x_cat (by kernel_rfl) (by kernel_rfl) g6) ?_
   have t8 := Old.step hXo z7
   have g7 := Evo.thenW E0 (Step.evo z7) y0.wr
   have d5 := Sub.trans hS (Step.up z7)
   have d6 := News.step hN z7
   refine sq (o_call 22 #[(.pointer (some ⟨z0, 0, none⟩)), (.string (dir ++ (ByteArray.mk #[47, 110, 111, 116, 101])))] rfl (x_call Tryz.call22 (by kernel_rfl)) (simfs_FS_Read_w (X := r1) (f_ := s9) (p := dir ++ (ByteArray.mk #[47, 110, 111, 116, 101])) t8 (MO.re t0 (Wr.self _ _ (Sub.refl _))) g6 hp) ?_)
   rintro _ c0 ⟨v9, v7, v8, hp, y3, r5, y5, y6, t9, rfl, g8, r6, d7⟩
   have g9 := MO.re g8 (Wr.trans g8.wr t0.wr g7.size)
   replace hp := hp (Sl.len r6) d7
   refine pv (.tuple #[(.slice y5 v7.length y6), (.int .i64 v8)]) ?_
   refine pv (.slice y5 v7.length y6) ?_
   refine pv (.int .i64 v8) ?_
   refine pv (.slice y5 v7.length y6) ?_
   refine pv (.int .i64 v8) ?_
   refine nt n6 (sr (fun _ n7 => pv (.int .i64 v8) ?_))
   refine pv (.bool (decide (v8 = (0 : Int)))) ?_
   refine nt n7 ?_
   have y7 := Old.step t8 t9
   have r7 := Evo.thenW g7 (Step.evo t9) t0.wr
   have s0 := Sub.trans d5 (Step.up t9)
   have s1 := News.step d6 t9
   obtain ⟨d8, k4, hp⟩ := hp
   refine ground_ ?_
   refine join_ 2251797666205200 (fun lq y8 => ∃ (y1 : List Nat) (y9 : S_simfs_FS) (r8 : List Nat), (lq = []) ∧ (Evo z3 w y8) ∧ (Old y1 y8) ∧ (Sub X y1) ∧ (News X w y1 y8) ∧ (MO o_simfs_FS 62 z3 w.heap.size y1 y8 r8 z0 y9) ∧ (d8 y9)) (fun n8 u1 => ?_) ?_
   ·
    refine cond_d (v8 = (0 : Int)) (by kernel_rfl) (fun t1 => ?_) (fun t1 => ?_)
    ·
     replace hp := hp.1 t1
     refine sr (fun _ d9 => pv (.slice y5 v7.length y6) ?_)
     refine sq (o_call 37 #[(.slice y5 v7.length y6)] rfl (x_call Tryz.call37 (by kernel_rfl)) (journal_read_w (X := y3) (b := v7) y7 r6 hp) ?_)
     rintro _ o2 ⟨z4, u2, hp, r9, z1, z2, rfl, y4⟩
     have u3 := Step.of0 y3 r9
     replace hp := hp (Sl.len y4)
     refine pv (.tuple #[(.slice z1 z4.length z2), (.bool u2)]) ?_
     refine pv (.slice z1 z4.length z2) ?_
     refine pv (.bool u2) ?_
     refine pv (.slice z1 z4.length z2) ?_
     refine pv (.bool u2) ?_
     refine nt d9 (seq_ (fun _ l0 => ?_))
     have v0 := Old.step y7 u3
     have q0 := Evo.then0 r7 r9
     have s2 := Sub.trans s0 (Step.up u3)
     have s3 := News.step s1 u3
     have q1 := MO.step0 g9 u3
     obtain ⟨l1, k5, hp⟩ := hp
     refine ground_ ?_
     refine join_ 17523466567680 (fun lq y2 => ∃ (z5 : List Nat) (v1 : Bool), (lq = [(43, (.bool v1))]) ∧ (Evo z3 w y2) ∧ (Old z5 y2) ∧ (Sub X z5) ∧ (News X w z5 y2) ∧ (Sl r_journal_Change z5 y2 z1 z2 z4) ∧ (MO o_simfs_FS 62 z3 w.heap.size z5 y2 r5 z0 v9) ∧ (l1 v1)) (fun n9 s4 => ?_) ?_
     ·
      refine reg_ ?_
      by_cases u4 : u2 = true
      ·
       replace hp := hp.1 u4
       refine pw (.bool true) (x_bt (by kernel_rfl) u4) ?_
       refine pv (.bool true) ?_
       refine pv (.string dir) ?_
       refine pv (.slice z1 z4.length z2) ?_
       refine sq (o_call 38 #[(.slice z1 z4.length z2)] (by kernel_rfl) (x_call Tryz.call38 (by kernel_rfl)) (journal_clean_w (X := y3) (l := z4) v0 y4 hp) ?_)
       rintro _ o3 ⟨q2, hp, q3, k6, k7, rfl, s5⟩
       have v2 := Step.of0 y3 q3
       replace hp := hp (Sl.len s5)
       refine sq (o_call 23 #[(.string dir), (.slice k6 q2.length k7)] (by kernel_rfl) (x_call Tryz.call23 (by kernel_rfl)) (journal_Check_w (X := []) (dir := dir) (l := q2) (Old.nil _) z9 (Sl.less s5 (Sub.nil _)) hp) ?_)
       rintro _ o4 ⟨u5, hp, q4, rfl, k8⟩
       have v3 := Step.of0 y3 q4
       replace hp := hp k8
       refine pv (.bool (decide (u5 = (0 : Int)))) ?_
       refine pv (.bool (decide (u5 = (0 : Int)))) ?_
       refine nil_ ?_
       have l2 := Evo.then0 (Evo.then0 q0 q3) q4
       have q5 := Old.step (Old.step v0 v2) v3
       have k9 := Sub.trans (Sub.trans s2 (Step.up v2)) (Step.up v3)
       have j0 := News.step (News.step s3 v2) v3
       have j1 := Sl.step (Sl.step y4 v2) v3
       have l3 := MO.step0 (MO.step0 q1 v2) v3
       refine then_normal (s4 _ _ _ ⟨[(43, (.bool (decide (u5 = (0 : Int)))))], fit_mk (fun _ _ => rfl) (by kernel_rfl) (vs_cons (by kernel_rfl) vs_nil), ?_⟩)
       exact ⟨y3, (decide (u5 = (0 : Int))), rfl, l2, q5, k9, j0, j1, l3, hp⟩
      ·
       replace hp := hp.2 u4
       refine pw (.bool false) (x_bf (by kernel_rfl) u4) ?_
       refine pv (.bool false) ?_
       refine no ?_
       refine no ?_
       refine no ?_
       refine no ?_
       refine no ?_
       refine pv (.bool false) ?_
       refine nil_ (then_normal (s4 _ _ _ ⟨[(43, (.bool false))], fit_mk (fun _ _ => rfl) (by kernel_rfl) (vs_cons (by kernel_rfl) vs_nil), ?_⟩))
       exact ⟨y3, false, rfl, q0, v0, s2, s3, y4, q1, hp⟩
     ·
      rintro _ y2 o5 ⟨z5, v1, rfl, u6, v4, u7, u9, j2, v5, j3⟩
      replace hp := k5 v1 j3
      refine then_normal (l0 _ _ _ _ ?_)
      refine cond_b v1 (by kernel_rfl) (fun t2 => ?_) (fun t2 => ?_)
      ·
       replace hp := hp.1 t2
       refine sr (fun _ l4 => pv (.pointer (some ⟨z0, 0, none⟩)) ?_)
       refine pv (.string dir) ?_
       refine pv (.slice z1 z4.length z2) ?_
       refine sq (o_call 30 #[(.pointer (some ⟨z0, 0, none⟩)), (.string dir), (.slice z1 z4.length z2)] rfl (x_call Tryz.call30 (by kernel_rfl)) (journal_finish_w (X := z5) (f_ := v9) (dir := dir) (l := z4) v4 (MO.re v5 (Wr.self _ _ (Sub.refl _))) z9 j2 hp) ?_)
       rintro _ o6 ⟨s6, z6, hp, q6, q7, z8, rfl, q8, s7⟩
       have q9 := MO.re q8 (Wr.trans q8.wr v5.wr u6.size)
       replace hp := hp s7
       refine pv (.int .i64 z6) ?_
       refine nt l4 (sr (fun _ l5 => pv (.int .i64 z6) ?_))
       refine pv (.bool (!decide (z6 = (0 : Int)))) ?_
       refine nt l5 ?_
       refine cond_nd (z6 = (0 : Int)) (by kernel_rfl) (fun t3 => ?_) (fun t3 => ?_)
       ·
        replace hp := hp.1 t3
        refine sr (fun _ l6 => pv (.int .i64 z6) ?_)
        refine pv (.int .i64 z6) ?_
        refine nt l6 (wp_ret (then_ret (then_ret ?_)))
        have l7 := Evo.thenW u6 (Step.evo z8) v5.wr
        have j4 := Sub.trans u7 (Step.up z8)
        have j5 := News.step u9 z8
        refine end_ret hQ (.int .i64 z6) (by kernel_rfl) ?_
        exact ⟨s6, z6, hp, q6, q7, step_of l7 t7 j4 j5, rfl, q9, s7⟩
       ·
        replace hp := hp.2 t3
        refine wp_skip ?_
        have l8 := Evo.thenW u6 (Step.evo z8) v5.wr
        have k0 := Old.step v4 z8
        have j6 := Sub.trans u7 (Step.up z8)
        have j7 := News.step u9 z8
        refine then_normal (u1 _ _ _ ⟨[], fit_mk (AgB.nest (AgB.look (fun _ _ => rfl) (by kernel_rfl)) (by kernel_rfl) (by kernel_rfl)) (by kernel_rfl) vs_nil, ?_⟩)
        exact ⟨q6, s6, q7, rfl, l8, k0, j6, j7, q9, hp⟩
      ·
       replace hp := hp.2 t2
       refine wp_skip (then_normal (u1 _ _ _ ⟨[], fit_mk (AgB.nest (AgB.look (fun _ _ => rfl) (by kernel_rfl)) (by kernel_rfl) (by kernel_rfl)) (by kernel_rfl) vs_nil, ?_⟩))
       exact ⟨z5, v9, r5, rfl, u6, v4, u7, u9, v5, hp⟩
    ·
     replace hp := hp.2 t1
     refine wp_skip (then_normal (u1 _ _ _ ⟨[], fit_mk (fun _ _ => rfl) (by kernel_rfl) vs_nil, ?_⟩))
     exact ⟨y3, v9, r5, rfl, r7, y7, s0, s1, g9, hp⟩
   ·
    rintro _ y8 o7 ⟨y1, y9, r8, rfl, k1, k2, j8, j9, t4, g0⟩
    replace hp := k4 y9 g0
    refine then_normal (n5 _ _ _ _ (sr (fun _ l9 => pv (.pointer (some ⟨z0, 0, none⟩)) ?_)))
    refine pv (.string dir) ?_
    refine sq (o_call 29 #[(.pointer (some ⟨z0, 0, none⟩)), (.string dir)] rfl (x_call Tryz.call29 (by kernel_rfl)) (journal_tidy_w (X := y1) (f_ := y9) (dir := dir) k2 (MO.re t4 (Wr.self _ _ (Sub.refl _))) z9 hp) ?_)
    rintro _ o8 ⟨g1, t5, hp, m0, m1, t6, rfl, k3, s8⟩
    have m2 := MO.re k3 (Wr.trans k3.wr t4.wr k1.size)
    replace hp := hp s8
    refine pv (.int .i64 t5) ?_
    refine nt l9 (wp_ret ?_)
    have m3 := Evo.thenW k1 (Step.evo t6) t4.wr
    have g2 := Sub.trans j8 (Step.up t6)
    have g3 := News.step j9 t6
    refine end_ret hQ (.int .i64 t5) (by kernel_rfl) ?_
    exact ⟨g1, t5, hp, m0, m1, step_of m3 t7 g2 g3, rfl, m2, s8⟩
def slices_Index_string_string_p (s : (List ByteArray)) (v_ : ByteArray) (Q : Int → Prop) : Prop :=
 ((s.length ≤ 9223372036854775807) → ((v_.size ≤ maxLen) → (∃ (z1 : Int → Prop) (z2 : Int → Nat), (z1 (0 : Int)) ∧ (∀ (z0 : Int), (z1 z0) → (inR .i64 z0) → (((z0 < (s.length : Int)) → ((inL s z0) ∧ (((lget s z0).size ≤ maxLen) → ((((v_ : ByteArray) = lget s z0) → Q z0) ∧ ((¬ ((v_ : ByteArray) = lget s z0)) → ((inR .i64 (z0 + (1 : Int))) ∧ ((z1 (z0 + (1 : Int))) ∧ z2 (z0 + (1 : Int)) < z2 z0))))))) ∧ ((¬ (z0 < (s.length : Int))) → Q (-1 : Int)))))))
set_option maxRecDepth 20000 in
set_option maxHeartbeats 4000000 in
theorem slices_Index_string_string_w {X : List Nat} {w : World} {s : (List ByteArray)} {v_ : ByteArray} {z2 : Option Addr} {z1 : Nat} {Q : Int → Prop} (v5 : Old X w) (y0 : Sl rStr X w z2 z1 s) (y5 : v_.size ≤ maxLen) (hp : slices_Index_string_string_p s v_ Q) :
  Calls Tryz.prog 74 #[(.slice z2 s.length z1), (.string v_)] w (Ret fun v w' => ∃ (y6 : Int), Q y6 ∧ Evo [] w w' ∧ v = (.int .i64 y6) ∧ inR .i64 y6) := by
 have hXo := v5
 have E0 : Evo [] w w := RB.refl _ _ _
 have hS : Sub X X := Sub.refl _
 unfold slices_Index_string_string_p at hp
 refine enter_ Tryz.func74 rfl 19 [(0, (.slice z2 s.length z1)), (1, (.string v_))] (by kernel_rfl) (fun Qe hQ => ?_)
 replace hp := hp (Sl.len y0) y5
 refine sr (fun _ u7 => pv (.int .i64 (0 : Int)) ?_)
 refine nt u7 (seq_ (fun _ u9 => sr (fun _ t0 => pv (.slice z2 s.length z1) ?_)))
 refine pv (.int .i64 (s.length : Int)) ?_
 refine pv (.int .i64 (0 : Int)) ?_
 refine nt t0 (wp_block ?_)
 obtain ⟨v6, y1, y7, hp⟩ := hp
 refine loop_ 524080 (fun kq lq z4 => ∃ (z3 : List Nat) (z0 : Int), (lq = [(8, (.int .i64 z0))]) ∧ (kq = y1 z0) ∧ (Evo [] w z4) ∧ (Old z3 z4) ∧ (Sub X z3) ∧ (Sl rStr z3 z4 z2 z1 s) ∧ (inR .i64 z0) ∧ (v6 z0)) (y1 (0 : Int)) [(8, (.int .i64 (0 : Int)))] (vs_cons (by kernel_rfl) vs_nil) ⟨X, (0 : Int), rfl, rfl, E0, hXo, hS, y0, (by decide : inR .i64 (0 : Int)), y7⟩ ?_
 rintro _ _ z4 t5 ⟨z3, z0, rfl, rfl, z5, z9, y8, z6, y2, y9⟩ t1 v0
 replace hp := hp z0 y9 y2
 refine sr (fun _ v7 => pv (.bool (decide (z0 < (s.length : Int)))) ?_)
 refine nt v7 (seq_ (fun _ v8 => ?_))
 refine cond_d (z0 < (s.length : Int)) (by kernel_rfl) (fun z7 => ?_) (fun z7 => ?_)
 ·
  replace hp := hp.1 z7
  refine wp_skip (then_normal (v8 _ _ _ _ (seq_ (fun _ v9 => wp_block (sr (fun _ u1 => pv (.int .i64 z0) ?_))))))
  refine pv (.int .i64 z0) ?_
  refine nt u1 (sr (fun _ u2 => pv (.string v_) ?_))
  refine pv (.slice z2 s.length z1) ?_
  refine pv (.int .i64 z0) ?_
  obtain ⟨y3, hp⟩ := hp
  obtain ⟨u3, u4, t2, v1, t3, t4, v2, v3⟩ := Sl.atI z6 z0 y3
  obtain ⟨rfl, v4⟩ := v2
  replace hp := hp v4
  refine pw (.pointer (some ⟨u3, u4 + z0.toNat * 1, none⟩)) (x_ixA (m := s.length) (c := z1) (k := .i64) (i := z0) Tryz.underlying65 Tryz.sizeOf9 (by rw [← v1]; kernel_rfl) (by kernel_rfl) y3) ?_
  refine pw (.string (lget s z0)) (x_load1 (by kernel_rfl) Tryz.isAgg9 (v3 0 _ rfl)) ?_
  refine pw (.bool (decide ((v_ : ByteArray) = lget s z0))) (x_streq (by kernel_rfl) (by kernel_rfl)) ?_
  refine nt u2 ?_
  refine cond_d ((v_ : ByteArray) = lget s z0) (by kernel_rfl) (fun z8 => ?_) (fun z8 => ?_)
  ·
   replace hp := hp.1 z8
   refine sr (fun _ u5 => pv (.int .i64 z0) ?_)
   refine pv (.int .i64 z0) ?_
   refine nt u5 (wp_ret (blk_ret (then_ret (then_ret (blk_ret (then_ret ?_))))))
   refine end_ret hQ (.int .i64 z0) (by kernel_rfl) ?_
   exact ⟨z0, hp, z5, rfl, y2⟩
  ·
   replace hp := hp.2 z8
   refine wp_skip (blk_normal (then_normal (v9 _ _ _ _ (reg_ ?_))))
   obtain ⟨y4, hp⟩ := hp
   refine pw (.int .i64 (z0 + (1 : Int))) (x_add2 (k := .i64) (a := z0) (b := (1 : Int)) (z0 + (1 : Int)) (by kernel_rfl) (by kernel_rfl) (wrap_inR y4)) ?_
   refine pv (.int .i64 (z0 + (1 : Int))) ?_
   refine nil_ (then_normal (v0 _ _ _ ⟨_, [(8, (.int .i64 (z0 + (1 : Int))))], hp.2, fit_mk (AgB.mix _ _ _) (by kernel_rfl) (vs_cons (by kernel_rfl) vs_nil), ?_⟩))
   exact ⟨z3, (z0 + (1 : Int)), rfl, rfl, z5, z9, y8, z6, y4, hp.1⟩
 ·
  replace hp := hp.2 z7
  refine wp_exit ?_
  refine then_exit (then_exit (blk_exit (then_normal (u9 _ _ _ _ (sr (fun _ u6 => pv (.int .i64 (-1 : Int)) ?_))))))
  refine nt u6 (wp_ret ?_)
  refine end_ret hQ (.int .i64 (-1 : Int)) (by kernel_rfl) ?_
  exact ⟨(-1 : Int), hp, z5, rfl, (by decide : inR .i64 (-1 : Int))⟩
def slices_Contains_string_string_p (s : (List ByteArray)) (v_ : ByteArray) (Q : Bool → Prop) : Prop :=
 ((s.length ≤ 9223372036854775807) → ((v_.size ≤ maxLen) → (slices_Index_string_string_p s v_ (fun (z0 : Int) => ((inR .i64 z0) → Q (decide (z0 ≥ (0 : Int))))))))
set_option maxRecDepth 20000 in
set_option maxHeartbeats 4000000 in
theorem slices_Contains_string_string_w {X : List Nat} {w : World} {s : (List ByteArray)} {v_ : ByteArray} {z0 : Option Addr} {z1 : Nat} {Q : Bool → Prop} (z6 : Old X w) (z4 : Sl rStr X w z0 z1 s) (z2 : v_.size ≤ maxLen) (hp : slices_Contains_string_string_p s v_ Q) :
  Calls Tryz.prog 50 #[(.slice z0 s.length z1), (.string v_)] w (Ret fun v w' => ∃ (z7 : Bool), Q z7 ∧ Evo [] w w' ∧ v = (.bool z7)) := by
 have hXo := z6
 have E0 : Evo [] w w := RB.refl _ _ _
 have hS : Sub X X := Sub.refl _
 unfold slices_Contains_string_string_p at hp
 refine enter_ Tryz.func50 rfl 9 [(0, (.slice z0 s.length z1)), (1, (.string v_))] (by kernel_rfl) (fun Qe hQ => ?_)
 replace hp := hp (Sl.len z4) z2
 refine sr (fun _ z9 => pv (.bool false) ?_)
 refine nt z9 (sr (fun _ y0 => pv (.slice z0 s.length z1) ?_))
 refine pv (.string v_) ?_
 refine sq (o_call 74 #[(.slice z0 s.length z1), (.string v_)] rfl (x_call Tryz.call74 (by kernel_rfl)) (slices_Index_string_string_w (X := []) (s := s) (v_ := v_) (Old.nil _) (Sl.less z4 (Sub.nil _)) z2 hp) ?_)
 rintro _ y2 ⟨z3, hp, y1, rfl, z5⟩
 replace hp := hp z5
 refine pv (.bool (decide (z3 ≥ (0 : Int)))) ?_
 refine pv (.bool (decide (z3 ≥ (0 : Int)))) ?_
 refine nt y0 (wp_ret ?_)
 have z8 := Evo.then0 E0 y1
 refine end_ret hQ (.bool (decide (z3 ≥ (0 : Int)))) (by kernel_rfl) ?_
 exact ⟨(decide (z3 ≥ (0 : Int))), hp, z8, rfl⟩
def journal_ways_p (f_ : S_simfs_FS) (dir : ByteArray) (l : (List S_journal_Change)) (Q : S_simfs_FS → Bool → Prop) : Prop :=
 ((dir.size ≤ maxLen) → ((l.length ≤ 9223372036854775807) → (simfs_FS_List_p f_ (fun (y9 : S_simfs_FS) (z7 : (List ByteArray)) (v7 : Int) => ((z7.length ≤ 9223372036854775807) → ((inR .i64 v7) → (∃ (y5 : (List (ByteArray × Bool)) → Int → Prop) (v0 : (List (ByteArray × Bool)) → Int → Nat), (y5 (mset ([] : (List (ByteArray × Bool))) dir true) (0 : Int)) ∧ (∀ (y4 : (List (ByteArray × Bool))) (z4 : Int), (y5 y4 z4) → (inR .i64 z4) → (((z4 < (z7.length : Int)) → ((inL z7 z4) ∧ (((lget z7 z4).size ≤ maxLen) → (path_Under_p (lget z7 z4) dir (fun (v1 : Bool) => ((inR .i64 (z4 + (1 : Int))) ∧ ((y5 (mset y4 (lget z7 z4) (!v1)) (z4 + (1 : Int))) ∧ v0 (mset y4 (lget z7 z4) (!v1)) (z4 + (1 : Int)) < v0 y4 z4))))))) ∧ ((¬ (z4 < (z7.length : Int))) → (∃ (y6 : (List (ByteArray × Bool)) → Int → Prop) (v2 : (List (ByteArray × Bool)) → Int → Nat), (y6 y4 (0 : Int)) ∧ (∀ (y0 : (List (ByteArray × Bool))) (z2 : Int), (y6 y0 z2) → (inR .i64 z2) → (((z2 < (l.length : Int)) → ((inL l z2) ∧ ((((lget l z2).Path).size ≤ maxLen) → ((inR .i64 ((lget l z2).Mode)) → ((((lget l z2).Data).length ≤ 9223372036854775807) → ((inR .i64 (z2 + (1 : Int))) ∧ ((y6 (mset y0 ((lget l z2).Path) (!((lget l z2).Gone))) (z2 + (1 : Int))) ∧ v2 (mset y0 ((lget l z2).Path) (!((lget l z2).Gone))) (z2 + (1 : Int)) < v2 y0 z2))))))) ∧ ((¬ (z2 < (l.length : Int))) → (∃ (y2 : (List ByteArray) → (List (ByteArray × Bool)) → Prop) (y3 : (List ByteArray) → (List (ByteArray × Bool)) → Nat), (y2 ([] : List ByteArray) y0) ∧ (∀ (z0 : (List ByteArray)) (z5 : (List (ByteArray × Bool))), (y2 z0 z5) → (z0.length ≤ 9223372036854775807) → ((z5 = [] → (∃ (y7 : Int → Prop) (v3 : Int → Nat), (y7 (0 : Int)) ∧ (∀ (z1 : Int), (y7 z1) → (inR .i64 z1) → (((z1 < (z0.length : Int)) → ((inL z0 z1) ∧ (((lget z0 z1).size ≤ maxLen) → (((0 : Int) ≤ z1 ∧ z1 ≤ (z0.length : Int)) ∧ (∃ (y8 : Int → Prop) (v4 : Int → Nat), (y8 (0 : Int)) ∧ (∀ (z3 : Int), (y8 z3) → (inR .i64 z3) → (((z3 < ((z0.take z1.toNat).length : Int)) → ((inL (z0.take z1.toNat) z3) ∧ (((lget (z0.take z1.toNat) z3).size ≤ maxLen) → (path_Clash_p (lget z0 z1) (lget (z0.take z1.toNat) z3) (fun (v5 : Bool) => (((v5 = true) → Q y9 false) ∧ ((v5 = false) → ((inR .i64 (z3 + (1 : Int))) ∧ ((y8 (z3 + (1 : Int))) ∧ v4 (z3 + (1 : Int)) < v4 z3))))))))) ∧ ((¬ (z3 < ((z0.take z1.toNat).length : Int))) → ((inR .i64 (z1 + (1 : Int))) ∧ ((y7 (z1 + (1 : Int))) ∧ v3 (z1 + (1 : Int)) < v3 z1)))))))))) ∧ ((¬ (z1 < (z0.length : Int))) → (slices_Contains_string_string_p z7 dir (fun (v6 : Bool) => Q y9 (!v6)))))))) ∧ (∀ (z8 : List (ByteArray × Bool)) (z6 : ByteArray) (y1 : Bool) (z9 : List (ByteArray × Bool)), z5 = z8 ++ (z6, y1) :: z9 → ((z6.size ≤ maxLen) → (((y1 = true) → (((z0.length + ([z6]).length) * 16 ≤ 140737488355328) ∧ ((y2 (z0 ++ ([z6])) (z8 ++ z9)) ∧ y3 (z0 ++ ([z6])) (z8 ++ z9) < y3 z0 z5))) ∧ ((y1 = false) → ((y2 z0 (z8 ++ z9)) ∧ y3 z0 (z8 ++ z9) < y3 z0 z5))))))))))))))))))))))
set_option maxRecDepth 20000 in
set_option maxHeartbeats 4000000 in
theorem journal_ways_w {X : List Nat} {w : World} {f_ : S_simfs_FS} {dir : ByteArray} {l : (List S_journal_Change)} {y1 : Nat} {z6 : List Nat} {s0 : Option Addr} {t7 : Nat} {Q : S_simfs_FS → Bool → Prop} (d9 : Old X w) (k5 : MO o_simfs_FS 62 z6 w.heap.size X w z6 y1 f_) (t6 : dir.size ≤ maxLen) (p6 : Sl r_journal_Change X w s0 t7 l) (hp : journal_ways_p f_ dir l Q) :
  Calls Tryz.prog 27 #[(.pointer (some ⟨y1, 0, none⟩)), (.string dir), (.slice s0 l.length t7)] w (Ret fun v w' => ∃ (J4 : S_simfs_FS) (J5 : Bool), Q J4 J5 ∧ ∃ (X' : List Nat) (J6 : List Nat), Step X w z6 X' w' ∧ v = (.bool J5) ∧ MO o_simfs_FS 62 z6 w.heap.size X' w' J6 y1 J4) := by
 have hXo := d9
 have E0 : Evo z6 w w := RB.refl _ _ _
 have hS : Sub X X := Sub.refl _
 have hN : News X w X w := News.refl _ _
 have p7 : Sub z6 X := MO.mem k5
 unfold journal_ways_p at hp
 refine enter_ Tryz.func27 rfl 91 [(0, (.pointer (some ⟨y1, 0, none⟩))), (1, (.string dir)), (2, (.slice s0 l.length t7))] (by kernel_rfl) (fun Qe hQ => ?_)
 replace hp := hp t6 (Sl.len p6)
 refine sr (fun _ G2 => pv (.bool false) ?_)
 refine nt G2 (sr (fun _ G3 => ?_))
 refine sq (o_mkmap (R := rBool) (ag := false) (X := X) (B := w.heap.size) E0.size rfl ?_)
 intro t2 C4 J7 s1 p8 J8
 have l0 := J8 _ (MO.old k5)
 refine pv (.string dir) ?_
 have a9 := MO.step0 k5 s1
 refine sq (o_mapins (cs := [(.bool true)]) (d := true) rfl p8 Tryz.underlying87 Tryz.underlying9 (by kernel_rfl) (by kernel_rfl) (by kernel_rfl) rBool_mk t6 ?_)
 intro C5 s2 l1
 refine pv (.map (some t2)) ?_
 refine pv (.map (some t2)) ?_
 refine nt G3 (sr (fun _ J9 => pv (.pointer (some ⟨y1, 0, none⟩)) ?_))
 have Z1 := Sl.step (Sl.step p6 s1) s2
 have s4 := MO.step a9 s2 l0
 have g6 := Old.step (Old.step hXo s1) s2
 have l2 := Evo.thenW (Evo.then0 E0 (Step.evo s1)) (Step.evo s2) (Wr.of p8.2.2)
 have Z2 := Sub.trans (Sub.trans hS (Step.up s1)) (Step.up s2)
 have Z3 := News.step (News.step hN s1) s2
 refine sq (o_call 31 #[(.pointer (some ⟨y1, 0, none⟩))] rfl (x_call Tryz.call31 (by kernel_rfl)) (simfs_FS_List_w (X := J7) (f_ := f_) g6 (MO.re s4 (Wr.self _ _ (Sub.refl _))) hp) ?_)
 rintro _ C6 ⟨u3, z3, l3, hp, I0, t3, v4, q9, s3, rfl, l4, l5, Z4, C7⟩
 have I1 := MO.re l4 (Wr.trans l4.wr s4.wr l2.size)
 have l6 := Ap.grow l4.wr (Ap.symm l0) (OM.old l1) (Nat.le_refl _)
 have p9 := OS.re l5 (Wr.trans l5.wr (Wr.nil [] _) l2.size)
 have l7 := Ap.grow l5.wr (Ap.nil_r _) (OM.old l1) (Nat.le_refl _)
 replace hp := hp (OS.len p9) Z4
 refine pv (.tuple #[(.slice v4 z3.length z3.length), (.int .i64 l3)]) ?_
 refine pv (.slice v4 z3.length z3.length) ?_
 refine pv (.int .i64 l3) ?_
 refine pv (.slice v4 z3.length z3.length) ?_
 refine pv (.int .i64 l3) ?_
 refine nt J9 (seq_ (fun _ I2 => sr (fun _ I3 => pv (.slice v4 z3.length z3.length) ?_)))
 refine pv (.int .i64 (z3.length : Int)) ?_
 refine pv (.int .i64 (0 : Int)) ?_
 refine nt I3 (wp_block ?_)
 have e0 := Sl.step Z1 s3
 have l8 := Old.step g6 s3
 have Z5 := Evo.thenW l2 (Step.evo s3) s4.wr
 have e1 := Sub.trans Z2 (Step.up s3)
 have e2 := News.step Z3 s3
 have Z6 := OM.step l1 s3 (Ap.symm l0)
 obtain ⟨Z7, l9, e3, hp⟩ := hp
 refine loop_ 4395899029504 (fun kq lq v5 => ∃ (y2 : List Nat) (t4 : (List (ByteArray × Bool))) (z5 : Int), (lq = [(31, (.int .i64 z5))]) ∧ (kq = l9 t4 z5) ∧ (Evo z6 w v5) ∧ (Old y2 v5) ∧ (Sub X y2) ∧ (News X w y2 v5) ∧ (Sl r_journal_Change y2 v5 s0 t7 l) ∧ (OS rStr ([]) w.heap.size y2 v5 9 v4 z3.length q9 z3) ∧ (MO o_simfs_FS 62 z6 w.heap.size y2 v5 t3 y1 u3) ∧ (OM rBool false ([]) w.heap.size y2 v5 t2 t4) ∧ (inR .i64 z5) ∧ (Z7 t4 z5)) (l9 (mset ([] : (List (ByteArray × Bool))) dir true) (0 : Int)) [(31, (.int .i64 (0 : Int)))] (vs_cons (by kernel_rfl) vs_nil) ⟨I0, (mset ([] : (List (ByteArray × Bool))) dir true), (0 : Int), rfl, rfl, Z5, l8, e1, e2, e0, p9, I1, Z6, (by decide : inR .i64 (0 : Int)), e3⟩ ?_
 rintro _ _ v5 G4 ⟨y2, t4, z5, rfl, rfl, m0, k0, g7, g8, g9, s5, m1, Z0, Z8, e4⟩ I4 e5
 replace hp := hp t4 z5 e4 Z8
 refine sr (fun _ Z9 => pv (.bool (decide (z5 < (z3.length : Int)))) ?_)
 refine nt Z9 (seq_ (fun _ Y0 => ?_))
 refine cond_d (z5 < (z3.length : Int)) (by kernel_rfl) (fun k6 => ?_) (fun k6 => ?_)
 ·
  replace hp := hp.1 k6
  refine wp_skip (then_normal (Y0 _ _ _ _ (seq_ (fun _ Y1 => wp_block (sr (fun _ Y2 => ?_))))))
  obtain ⟨k7, hp⟩ := hp
  obtain ⟨Y3, Y4, I5, e6, I6, I7, e7, e8⟩ := Sl.atI (OS.rd s5) z5 k7
  obtain ⟨rfl, s6⟩ := e7
  replace hp := hp s6
  refine pw (.pointer (some ⟨Y3, Y4 + z5.toNat * 1, none⟩)) (x_ixA (m := z3.length) (c := z3.length) (k := .i64) (i := z5) Tryz.underlying65 Tryz.sizeOf9 (by rw [← e6]; kernel_rfl) (by kernel_rfl) ⟨k7.1, by rw [s5.1]; exact k7.2⟩) ?_
  refine pw (.string (lget z3 z5)) (x_load1 (by kernel_rfl) Tryz.isAgg9 (e8 0 _ rfl)) ?_
  refine pv (.string (lget z3 z5)) ?_
  refine nt Y2 (reg_ (pv (.map (some t2)) ?_))
  refine pv (.string (lget z3 z5)) ?_
  refine pv (.string (lget z3 z5)) ?_
  refine pv (.string dir) ?_
  refine sq (o_call 48 #[(.string (lget z3 z5)), (.string dir)] rfl (x_call Tryz.call48 (by kernel_rfl)) (path_Under_w (X := []) (p := lget z3 z5) (dir := dir) (Old.nil _) s6 t6 hp) ?_)
  rintro _ G5 ⟨s7, hp, m2, rfl⟩
  have u4 := Step.of0 y2 m2
  refine pv (.bool (!s7)) ?_
  have Y5 := OS.step0 s5 u4
  have Y6 := MO.step0 m1 u4
  have m3 := OM.step0 Z0 u4
  refine sq (o_mapset (cs := [(.bool (!s7))]) (d := !s7) rfl m3 Tryz.underlying87 Tryz.underlying9 (by kernel_rfl) (by kernel_rfl) (by kernel_rfl) rBool_mk s6 ?_)
  intro G6 u5 Y7
  refine nil_ (blk_normal (then_normal (Y1 _ _ _ _ (reg_ ?_))))
  obtain ⟨m4, hp⟩ := hp
  refine pw (.int .i64 (z5 + (1 : Int))) (x_add2 (k := .i64) (a := z5) (b := (1 : Int)) (z5 + (1 : Int)) (by kernel_rfl) (by kernel_rfl) (wrap_inR m4)) ?_
  refine pv (.int .i64 (z5 + (1 : Int))) ?_
  refine nil_ ?_
  have Y8 := Evo.thenW (Evo.then0 m0 m2) (Step.evo u5) (Wr.of m3.2.2)
  have m5 := Old.step (Old.step k0 u4) u5
  have e9 := Sub.trans (Sub.trans g7 (Step.up u4)) (Step.up u5)
  have i0 := News.step (News.step g8 u4) u5
  have i1 := Sl.step (Sl.step g9 u4) u5
  have Y9 := OS.step Y5 u5 (Ap.symm l7)
  have V0 := MO.step Y6 u5 (Ap.symm l6)
  refine then_normal (e5 _ _ _ ⟨_, [(31, (.int .i64 (z5 + (1 : Int))))], hp.2, fit_mk (AgB.mix _ _ _) (by kernel_rfl) (vs_cons (by kernel_rfl) vs_nil), ?_⟩)
  exact ⟨y2, (mset t4 (lget z3 z5) (!s7)), (z5 + (1 : Int)), rfl, rfl, Y8, m5, e9, i0, i1, Y9, V0, Y7, m4, hp.1⟩
 ·
  replace hp := hp.2 k6
  refine wp_exit ?_
  refine then_exit (then_exit (blk_exit (then_normal (I2 _ _ _ _ (seq_ (fun _ V1 => sr (fun _ V2 => pv (.slice s0 l.length t7) ?_)))))))
  refine pv (.int .i64 (l.length : Int)) ?_
  refine pv (.int .i64 (0 : Int)) ?_
  refine nt V2 (wp_block ?_)
  obtain ⟨V3, m6, i2, hp⟩ := hp
  refine loop_ 36011204832927744 (fun kq lq v6 => ∃ (v1 : List Nat) (v2 : (List (ByteArray × Bool))) (z1 : Int), (lq = [(44, (.int .i64 z1))]) ∧ (kq = m6 v2 z1) ∧ (Evo z6 w v6) ∧ (Old v1 v6) ∧ (Sub X v1) ∧ (News X w v1 v6) ∧ (OS rStr ([]) w.heap.size v1 v6 9 v4 z3.length q9 z3) ∧ (Sl r_journal_Change v1 v6 s0 t7 l) ∧ (MO o_simfs_FS 62 z6 w.heap.size v1 v6 t3 y1 u3) ∧ (OM rBool false ([]) w.heap.size v1 v6 t2 v2) ∧ (inR .i64 z1) ∧ (V3 v2 z1)) (m6 t4 (0 : Int)) [(44, (.int .i64 (0 : Int)))] (vs_cons (by kernel_rfl) vs_nil) ⟨y2, t4, (0 : Int), rfl, rfl, m0, k0, g7, g8, s5, g9, m1, Z0, (by decide : inR .i64 (0 : Int)), i2⟩ ?_
  rintro _ _ v6 G7 ⟨v1, v2, z1, rfl, rfl, k8, k1, d0, d1, s8, d2, s9, r0, i3, i4⟩ I8 i5
  replace hp := hp v2 z1 i4 i3
  refine sr (fun _ V4 => pv (.bool (decide (z1 < (l.length : Int)))) ?_)
  refine nt V4 (seq_ (fun _ V5 => ?_))
  refine cond_d (z1 < (l.length : Int)) (by kernel_rfl) (fun k9 => ?_) (fun k9 => ?_)
  ·
   replace hp := hp.1 k9
   refine wp_skip (then_normal (V5 _ _ _ _ (seq_ (fun _ V6 => wp_block (sr (fun _ V7 => ?_))))))
   obtain ⟨m7, hp⟩ := hp
   obtain ⟨V8, V9, I9, i6, H0, H1, i7, i9⟩ := Sl.atI d2 z1 m7
   obtain ⟨y5, y6, rfl, t5, k2, k3⟩ := r_journal_Change_open i7
   replace hp := hp t5 k2 (Sl.len k3)
   refine pw (.pointer (some ⟨V8, V9 + z1.toNat * 4, none⟩)) (x_ixA (m := l.length) (c := t7) (k := .i64) (i := z1) Tryz.underlying22 Tryz.sizeOf34 (by rw [← i6]; kernel_rfl) (by kernel_rfl) m7) ?_
   refine pw (.agg #[(.string ((lget l z1).Path)), (.bool ((lget l z1).Gone)), (.int .i64 ((lget l z1).Mode)), (.slice y5 (((lget l z1).Data).length) y6)]) (x_loadN [(.string ((lget l z1).Path)), (.bool ((lget l z1).Gone)), (.int .i64 ((lget l z1).Mode)), (.slice y5 (((lget l z1).Data).length) y6)] (by kernel_rfl) Tryz.isAgg34 Tryz.sizeOf34 i9) ?_
   refine sq (o_newX [(.string (ByteArray.mk #[])), (.bool false), (.int .i64 (0 : Int)), (.slice none 0 0)] 34 (X := v1) (B := w.heap.size) k8.size rfl (by kernel_rfl) ?_)
   intro m8 G8 U0 v7 m9 j0
   have U1 := j0 _ (OS.old s8)
   have U2 := j0 _ (MO.old s9)
   have U3 := j0 _ (OM.old r0)
   have U4 := OS.step0 s8 v7
   have U5 := MO.step0 s9 v7
   have U6 := OM.step0 r0 v7
   have U7 := Evo.then0 k8 (Step.evo v7)
   refine sq (o_stB (o := 0) (v := (.agg #[(.string ((lget l z1).Path)), (.bool ((lget l z1).Gone)), (.int .i64 ((lget l z1).Mode)), (.slice y5 (((lget l z1).Data).length) y6)])) [(.string ((lget l z1).Path)), (.bool ((lget l z1).Gone)), (.int .i64 ((lget l z1).Mode)), (.slice y5 (((lget l z1).Data).length) y6)] rfl m9 (by kernel_rfl) (by kernel_rfl) Tryz.sizeOf34 rfl rfl rfl ?_)
   intro G9 v8 n0
   refine nt V7 (reg_ (pv (.map (some t2)) ?_))
   refine pv (.pointer (some ⟨m8, 0, none⟩)) ?_
   refine pw (.string ((lget l z1).Path)) (x_load1 (by kernel_rfl) Tryz.isAgg9 (n0.2.1.cell' 0 rfl)) ?_
   refine pv (.pointer (some ⟨m8, 1, none⟩)) ?_
   refine pw (.bool ((lget l z1).Gone)) (x_load1 (by kernel_rfl) Tryz.isAgg4 (n0.2.1.cell' 1 rfl)) ?_
   refine pv (.bool (!((lget l z1).Gone))) ?_
   have U8 := OS.step U4 v8 U1
   have U9 := MO.step U5 v8 U2
   have n1 := OM.step U6 v8 U3
   refine sq (o_mapset (cs := [(.bool (!((lget l z1).Gone)))]) (d := !((lget l z1).Gone)) rfl n1 Tryz.underlying87 Tryz.underlying9 (by kernel_rfl) (by kernel_rfl) (by kernel_rfl) rBool_mk t5 ?_)
   intro D0 u6 T0
   refine nil_ (blk_normal (then_normal (V6 _ _ _ _ (reg_ ?_))))
   obtain ⟨n2, hp⟩ := hp
   refine pw (.int .i64 (z1 + (1 : Int))) (x_add2 (k := .i64) (a := z1) (b := (1 : Int)) (z1 + (1 : Int)) (by kernel_rfl) (by kernel_rfl) (wrap_inR n2)) ?_
   refine pv (.int .i64 (z1 + (1 : Int))) ?_
   refine nil_ ?_
   have T1 := Evo.thenW (Evo.thenW U7 (Step.evo v8) (Wr.of m9.2.2)) (Step.evo u6) (Wr.of n1.2.2)
   have n3 := Old.step (Old.step (Old.step k1 v7) v8) u6
   have h0 := Sub.trans (Sub.trans (Sub.trans d0 (Step.up v7)) (Step.up v8)) (Step.up u6)
   have h1 := News.step (News.step (News.step d1 v7) v8) u6
   have T2 := OS.step U8 u6 (Ap.symm l7)
   have h2 := Sl.step (Sl.step (Sl.step d2 v7) v8) u6
   have T3 := MO.step U9 u6 (Ap.symm l6)
   refine then_normal (i5 _ _ _ ⟨_, [(44, (.int .i64 (z1 + (1 : Int))))], hp.2, fit_mk (AgB.mix _ _ _) (by kernel_rfl) (vs_cons (by kernel_rfl) vs_nil), ?_⟩)
   exact ⟨U0, (mset v2 ((lget l z1).Path) (!((lget l z1).Gone))), (z1 + (1 : Int)), rfl, rfl, T1, n3, h0, h1, T2, h2, T3, T0, n2, hp.1⟩
  ·
   replace hp := hp.2 k9
   refine wp_exit ?_
   refine then_exit (then_exit (blk_exit (then_normal (V1 _ _ _ _ (sr (fun _ T4 => pv (.slice none 0 0) ?_))))))
   refine nt T4 (seq_ (fun _ T5 => sr (fun _ T6 => pv (.map (some t2)) ?_)))
   have h3 := OM.apold r0 d9
   obtain ⟨T7, r1, T8, r2⟩ := OM.release r0
   have n4 := OS.less s8 r1 (r2 _ (Ap.symm l7) (OS.mem s8))
   have n5 := MO.less s9 r1 (r2 _ (Ap.symm l6) (MO.mem s9))
   have n6 := k8
   refine sq (o_rangeR (X := T7) (B := w.heap.size) n6.size rfl T8 Tryz.underlying87 (by kernel_rfl) ?_)
   intro d3 D1 T9 t1 R1 n7
   have n8 := n7 _ (OS.old n4)
   have n9 := n7 _ (MO.old n5)
   refine nt T6 (wp_block ?_)
   have R2 := Evo.then0 n6 (Step.evo t1)
   have o0 := Old.step (Old.less k1 r1) t1
   have h4 := Sub.trans (r2 _ h3 d0) (Step.up t1)
   have h5 := News.step (News.less d1 r1) t1
   have R3 := OS.step0 n4 t1
   have R4 := MO.step0 n5 t1
   obtain ⟨R5, o1, h6, hp⟩ := hp
   refine loop_ 147429837401600671744 (fun kq lq v9 => ∃ (y7 : List Nat) (z0 : (List ByteArray)) (y9 : (List (ByteArray × Bool))) (z9 : Option Addr) (v3 : Nat) (y3 : Nat), (lq = [(14, (.slice z9 v3 y3))]) ∧ (kq = o1 z0 y9) ∧ (Evo z6 w v9) ∧ (Old y7 v9) ∧ (Sub X y7) ∧ (News X w y7 v9) ∧ (OS rStr ([]) w.heap.size y7 v9 9 v4 z3.length q9 z3) ∧ (MO o_simfs_FS 62 z6 w.heap.size y7 v9 t3 y1 u3) ∧ (OS rStr ([]) w.heap.size y7 v9 9 z9 v3 y3 z0) ∧ (ITR rBool false y7 v9 ([]) w.heap.size d3 t2 v2 y9 none) ∧ (Ap (blkL v4) (blkL z9)) ∧ (Ap (t3) (blkL z9)) ∧ (Ap (blkL z9) ([d3])) ∧ (R5 z0 y9)) (o1 ([] : List ByteArray) v2) [(14, (.slice none 0 0))] (vs_cons (by kernel_rfl) vs_nil) ⟨T9, ([] : List ByteArray), v2, none, 0, 0, rfl, rfl, R2, o0, h4, h5, R3, R4, (OS.nil _ _ _ _), (ITR.drop R1), (Ap.nil_r _), (Ap.nil_r _), (Ap.nil_l _), h6⟩ ?_
   rintro _ _ v9 D2 ⟨y7, z0, y9, z9, v3, y3, rfl, rfl, j1, t8, r3, r4, r5, r6, u7, r7, r8, r9, t9, h7⟩ H2 d4
   replace hp := hp z0 y9 h7 (OS.len u7)
   refine sr (fun _ o2 => ?_)
   refine sq (o_nextR rfl r7 (by kernel_rfl) (fun q0 => ?_) (fun q1 z7 v0 q2 H3 D3 q0 z8 j2 h8 o3 => ?_))
   ·
    replace hp := hp.1 q0
    refine pv (.bool false) ?_
    refine nt o2 (seq_ (fun _ D4 => ?_))
    refine cond_f (by kernel_rfl) ?_
    refine wp_exit ?_
    refine then_exit (then_exit (blk_exit (then_normal (T5 _ _ _ _ (seq_ (fun _ R6 => sr (fun _ R7 => pv (.slice z9 v3 y3) ?_)))))))
    refine pw (.int .i64 (z0.length : Int)) (by rw [← show v3 = z0.length from u7.1]; kernel_rfl) ?_
    refine pv (.int .i64 (0 : Int)) ?_
    refine nt R7 ?_
    have h9 := OS.apold u7 d9
    obtain ⟨R8, q3, R9, q4⟩ := OS.release u7
    obtain rfl : v3 = z0.length := u7.1
    refine wp_block ?_
    have P0 := j1
    have o4 := Old.less t8 q3
    have b0 := q4 _ h9 r3
    have b1 := News.less r4 q3
    have P1 := OS.less r5 q3 (q4 _ r8 (OS.mem r5))
    have P2 := MO.less r6 q3 (q4 _ r9 (MO.mem r6))
    obtain ⟨P3, o5, b2, hp⟩ := hp
    refine loop_ 154741914614862175658180672 (fun kq lq u9 => ∃ (y4 : List Nat) (z2 : Int), (lq = [(69, (.int .i64 z2))]) ∧ (kq = o5 z2) ∧ (Evo z6 w u9) ∧ (Old y4 u9) ∧ (Sub X y4) ∧ (News X w y4 u9) ∧ (OS rStr ([]) w.heap.size y4 u9 9 v4 z3.length q9 z3) ∧ (Sl rStr y4 u9 z9 y3 z0) ∧ (MO o_simfs_FS 62 z6 w.heap.size y4 u9 t3 y1 u3) ∧ (inR .i64 z2) ∧ (P3 z2)) (o5 (0 : Int)) [(69, (.int .i64 (0 : Int)))] (vs_cons (by kernel_rfl) vs_nil) ⟨R8, (0 : Int), rfl, rfl, P0, o4, b0, b1, P1, R9, P2, (by decide : inR .i64 (0 : Int)), b2⟩ ?_
    rintro _ _ u9 D5 ⟨y4, z2, rfl, rfl, o6, o7, d5, d6, j3, j4, o8, b3, b4⟩ H4 b5
    replace hp := hp z2 b4 b3
    refine sr (fun _ P4 => pv (.bool (decide (z2 < (z0.length : Int)))) ?_)
    refine nt P4 (seq_ (fun _ P5 => ?_))
    refine cond_d (z2 < (z0.length : Int)) (by kernel_rfl) (fun j5 => ?_) (fun j5 => ?_)
    ·
     replace hp := hp.1 j5
     refine wp_skip (then_normal (P5 _ _ _ _ (seq_ (fun _ P6 => wp_block (sr (fun _ P7 => pv (.int .i64 z2) ?_))))))
     obtain ⟨o9, hp⟩ := hp
     obtain ⟨P8, P9, H5, b6, H6, H7, b7, b8⟩ := Sl.atI j4 z2 o9
     obtain ⟨rfl, d7⟩ := b7
     replace hp := hp d7
     refine pw (.pointer (some ⟨P8, P9 + z2.toNat * 1, none⟩)) (x_ixA (m := z0.length) (c := y3) (k := .i64) (i := z2) Tryz.underlying65 Tryz.sizeOf9 (by rw [← b6]; kernel_rfl) (by kernel_rfl) o9) ?_
     refine pw (.string (lget z0 z2)) (x_load1 (by kernel_rfl) Tryz.isAgg9 (b8 0 _ rfl)) ?_
     refine pv (.int .i64 z2) ?_
     refine pv (.string (lget z0 z2)) ?_
     refine nt P7 (sr (fun _ N0 => pv (.slice z9 z0.length y3) ?_))
     refine pv (.int .i64 z2) ?_
     obtain ⟨D6, hp⟩ := hp
     refine sq (o_slice (R := rStr) (X := y4) (L := z0) 0 z2.toNat (z0.take z2.toNat) rfl Tryz.underlying65 Tryz.sizeOf9 j4 (by kernel_rfl) rfl (.inl ⟨rfl, rfl⟩) (.inr ⟨.i64, by rw [show ((z2.toNat : Nat) : Int) = z2 from by omega]; kernel_rfl⟩) (by omega) (by omega) (by rw [List.drop_zero]) ?_)
     intro N1 c0 N2
     refine pv (.int .i64 ((z0.take z2.toNat).length : Int)) ?_
     refine pv (.int .i64 (0 : Int)) ?_
     refine nt N0 (wp_block ?_)
     obtain ⟨N3, c1, b9, hp⟩ := hp
     refine loop_ 77069021000432609888567360 (fun kq lq u1 => ∃ (y0 : List Nat) (z4 : Int), (lq = [(78, (.int .i64 z4))]) ∧ (kq = c1 z4) ∧ (Evo z6 w u1) ∧ (Old y0 u1) ∧ (Sub X y0) ∧ (News X w y0 u1) ∧ (OS rStr ([]) w.heap.size y0 u1 9 v4 z3.length q9 z3) ∧ (Sl rStr y0 u1 z9 y3 z0) ∧ (Sl rStr y0 u1 N1 c0 (z0.take z2.toNat)) ∧ (MO o_simfs_FS 62 z6 w.heap.size y0 u1 t3 y1 u3) ∧ (inR .i64 z4) ∧ (N3 z4)) (c1 (0 : Int)) [(78, (.int .i64 (0 : Int)))] (vs_cons (by kernel_rfl) vs_nil) ⟨y4, (0 : Int), rfl, rfl, o6, o7, d5, d6, j3, j4, N2, o8, (by decide : inR .i64 (0 : Int)), b9⟩ ?_
     rintro _ _ u1 D7 ⟨y0, z4, rfl, rfl, j6, k4, q5, q6, c2, c3, c4, j7, f0, f1⟩ H8 f2
     replace hp := hp z4 f1 f0
     refine sr (fun _ N4 => pv (.bool (decide (z4 < ((z0.take z2.toNat).length : Int)))) ?_)
     refine nt N4 (seq_ (fun _ N5 => ?_))
     refine cond_d (z4 < ((z0.take z2.toNat).length : Int)) (by kernel_rfl) (fun j8 => ?_) (fun j8 => ?_)
     ·
      replace hp := hp.1 j8
      refine wp_skip (then_normal (N5 _ _ _ _ (seq_ (fun _ N6 => wp_block (sr (fun _ N7 => ?_))))))
      obtain ⟨c5, hp⟩ := hp
      obtain ⟨N8, N9, H9, f3, G0, G1, f4, f5⟩ := Sl.atI c4 z4 c5
      obtain ⟨rfl, d8⟩ := f4
      replace hp := hp d8
      refine pw (.pointer (some ⟨N8, N9 + z4.toNat * 1, none⟩)) (x_ixA (m := (z0.take z2.toNat).length) (c := c0) (k := .i64) (i := z4) Tryz.underlying65 Tryz.sizeOf9 (by rw [← f3]; kernel_rfl) (by kernel_rfl) c5) ?_
      refine pw (.string (lget (z0.take z2.toNat) z4)) (x_load1 (by kernel_rfl) Tryz.isAgg9 (f5 0 _ rfl)) ?_
      refine pv (.string (lget (z0.take z2.toNat) z4)) ?_
      refine nt N7 (sr (fun _ M0 => pv (.string (lget z0 z2)) ?_))
      refine pv (.string (lget (z0.take z2.toNat) z4)) ?_
      refine sq (o_call 49 #[(.string (lget z0 z2)), (.string (lget (z0.take z2.toNat) z4))] rfl (x_call Tryz.call49 (by kernel_rfl)) (path_Clash_w (X := []) (a := lget z0 z2) (b := lget (z0.take z2.toNat) z4) (Old.nil _) d7 d8 hp) ?_)
      rintro _ D8 ⟨M1, hp, j9, rfl⟩
      have y8 := Step.of0 y0 j9
      refine nt M0 ?_
      refine cond_b M1 (by kernel_rfl) (fun g0 => ?_) (fun g0 => ?_)
      ·
       replace hp := hp.1 g0
       refine sr (fun _ M2 => pv (.bool false) ?_)
       refine nt M2 (wp_ret (blk_ret (then_ret (then_ret (blk_ret (blk_ret (then_ret (then_ret (blk_ret (then_ret ?_))))))))))
       have M3 := Evo.then0 j6 j9
       have f6 := Sub.trans q5 (Step.up y8)
       have f7 := News.step q6 y8
       have M4 := MO.step0 j7 y8
       refine end_ret hQ (.bool false) (by kernel_rfl) ?_
       exact ⟨u3, false, hp, y0, t3, step_of M3 p7 f6 f7, rfl, M4⟩
      ·
       replace hp := hp.2 g0
       refine wp_skip (blk_normal (then_normal (N6 _ _ _ _ (reg_ ?_))))
       obtain ⟨c6, hp⟩ := hp
       refine pw (.int .i64 (z4 + (1 : Int))) (x_add2 (k := .i64) (a := z4) (b := (1 : Int)) (z4 + (1 : Int)) (by kernel_rfl) (by kernel_rfl) (wrap_inR c6)) ?_
       refine pv (.int .i64 (z4 + (1 : Int))) ?_
       refine nil_ ?_
       have M5 := Evo.then0 j6 j9
       have c7 := Old.step k4 y8
       have f8 := Sub.trans q5 (Step.up y8)
       have f9 := News.step q6 y8
       have M6 := OS.step0 c2 y8
       have M7 := Sl.step c3 y8
       have M8 := Sl.step c4 y8
       have M9 := MO.step0 j7 y8
       refine then_normal (f2 _ _ _ ⟨_, [(78, (.int .i64 (z4 + (1 : Int))))], hp.2, fit_mk (AgB.mix _ _ _) (by kernel_rfl) (vs_cons (by kernel_rfl) vs_nil), ?_⟩)
       exact ⟨y0, (z4 + (1 : Int)), rfl, rfl, M5, c7, f8, f9, M6, M7, M8, M9, c6, hp.1⟩
     ·
      replace hp := hp.2 j8
      refine wp_exit ?_
      refine then_exit (then_exit (blk_exit (blk_normal (then_normal (P6 _ _ _ _ (reg_ ?_))))))
      obtain ⟨c8, hp⟩ := hp
      refine pw (.int .i64 (z2 + (1 : Int))) (x_add2 (k := .i64) (a := z2) (b := (1 : Int)) (z2 + (1 : Int)) (by kernel_rfl) (by kernel_rfl) (wrap_inR c8)) ?_
      refine pv (.int .i64 (z2 + (1 : Int))) ?_
      refine nil_ (then_normal (b5 _ _ _ ⟨_, [(69, (.int .i64 (z2 + (1 : Int))))], hp.2, fit_mk (AgB.nest (AgB.mix _ _ _) (by kernel_rfl) (by kernel_rfl)) (by kernel_rfl) (vs_cons (by kernel_rfl) vs_nil), ?_⟩))
      exact ⟨y0, (z2 + (1 : Int)), rfl, rfl, j6, k4, q5, q6, c2, c3, j7, c8, hp.1⟩
    ·
     replace hp := hp.2 j5
     refine wp_exit ?_
     refine then_exit (then_exit (blk_exit (then_normal (R6 _ _ _ _ (sr (fun _ L0 => pv (.slice v4 z3.length z3.length) ?_))))))
     refine pv (.string dir) ?_
     refine sq (o_call 50 #[(.slice v4 z3.length z3.length), (.string dir)] rfl (x_call Tryz.call50 (by kernel_rfl)) (slices_Contains_string_string_w (X := []) (s := z3) (v_ := dir) (Old.nil _) (Sl.clipN (OS.rd j3) j3.1) t6 hp) ?_)
     rintro _ D9 ⟨q7, hp, c9, rfl⟩
     have g1 := Step.of0 y4 c9
     refine pv (.bool (!q7)) ?_
     refine pv (.bool (!q7)) ?_
     refine nt L0 (wp_ret ?_)
     have L1 := Evo.then0 o6 c9
     have p0 := Sub.trans d5 (Step.up g1)
     have p1 := News.step d6 g1
     have L2 := MO.step0 o8 g1
     refine end_ret hQ (.bool (!q7)) (by kernel_rfl) ?_
     exact ⟨u3, (!q7), hp, y4, t3, step_of L1 p7 p0 p1, rfl, L2⟩
   ·
    replace hp := hp.2 q1 z7 v0 q2 q0
    replace hp := hp o3
    obtain rfl := h8
    refine pv (.bool true) ?_
    refine nt o2 (seq_ (fun _ L3 => ?_))
    refine cond_t (by kernel_rfl) ?_
    refine wp_skip (then_normal (L3 _ _ _ _ (wp_block (sr (fun _ L4 => pw (.tuple #[(.string z7), (.bool v0)]) (x_entryR j2 (by kernel_rfl)) ?_)))))
    refine pv (.string z7) ?_
    refine pv (.bool v0) ?_
    refine pv (.string z7) ?_
    refine pv (.bool v0) ?_
    refine nt L4 (sr (fun _ L5 => pv (.bool v0) ?_))
    refine nt L5 ?_
    refine cond_b v0 (by kernel_rfl) (fun g2 => ?_) (fun g2 => ?_)
    ·
     replace hp := hp.1 g2
     refine reg_ (pv (.slice z9 v3 y3) ?_)
     refine pv (.string z7) ?_
     have L6 := OS.step r5 z8 n8
     have L7 := MO.step r6 z8 n9
     have L8 := OS.step u7 z8 t9
     have a0 := Evo.thenW j1 (Step.evo z8) (Wr.of r7.wr)
     refine sq (o_rowX (R := rStr) [(.string z7)] [z7] 9 1 (X := y7) (B := w.heap.size) a0.size rfl (by kernel_rfl) (Flat.cons (cs := [(.string z7)]) (rStr_mk o3) Flat.nil) rfl (by decide) ?_)
     intro C0 C1 L9 u2 a1 C2
     obtain ⟨K0, hp⟩ := hp
     have a2 := OS.step0 L8 u2
     have a3 := OS.step0 L6 u2
     have a4 := MO.step0 L7 u2
     have a5 := ITR.step0 j2 u2
     have a6 := Evo.then0 a0 (Step.evo u2)
     refine sq (o_appX (R := rStr) (X := L9) (B := w.heap.size) (L := z0) (M := [z7]) rfl elT65 rfl a6.size a2 (OS.src a1) a1.1 (by kernel_rfl) (by kernel_rfl) K0 ?_)
     intro g3 g4 g5 C3 K1 t0 K2 q8
     have K3 := q8 _ r8 (OS.old a3)
     have K4 := q8 _ r9 (MO.old a4)
     have K5 := q8 _ (Ap.symm t9) (ITR.old a5)
     refine pv (.slice g3 g4 g5) ?_
     refine nil_ (blk_normal ?_)
     have K6 := Evo.thenW a6 (Step.evo t0) (Wr.of a2.2.2)
     have a7 := Old.step (Old.step (Old.step t8 z8) u2) t0
     have p2 := Sub.trans (Sub.trans (Sub.trans r3 (Step.up z8)) (Step.up u2)) (Step.up t0)
     have p3 := News.step (News.step (News.step r4 z8) u2) t0
     have K7 := OS.step a3 t0 r8
     have K8 := MO.step a4 t0 r9
     have K9 := ITR.step a5 t0 (Ap.symm t9)
     refine then_normal (d4 _ _ _ ⟨_, [(14, (.slice g3 g4 g5))], hp.2, fit_mk (AgB.mix _ _ _) (by kernel_rfl) (vs_cons (by kernel_rfl) vs_nil), ?_⟩)
     exact ⟨K1, (z0 ++ ([z7])), (q1 ++ q2), g3, g4, g5, rfl, rfl, K6, a7, p2, p3, K7, K8, K2, (ITR.drop K9), K3, K4, (Ap.symm K5), hp.1⟩
    ·
     replace hp := hp.2 g2
     refine wp_skip (blk_normal ?_)
     have J0 := Evo.thenW j1 (Step.evo z8) (Wr.of r7.wr)
     have a8 := Old.step t8 z8
     have p4 := Sub.trans r3 (Step.up z8)
     have p5 := News.step r4 z8
     have J1 := OS.step r5 z8 n8
     have J2 := MO.step r6 z8 n9
     have J3 := OS.step u7 z8 t9
     refine then_normal (d4 _ _ _ ⟨_, [(14, (.slice z9 v3 y3))], hp.2, fit_mk (AgB.mix _ _ _) (by kernel_rfl) (vs_cons (by kernel_rfl) vs_nil), ?_⟩)
     exact ⟨y7, z0, (q1 ++ q2), z9, v3, y3, rfl, rfl, J0, a8, p4, p5, J1, J2, J3, (ITR.drop j2), r8, r9, t9, hp.1⟩
def codec_Enc_Int_p (e : S_codec_Enc) (l : (List Int)) (Q : S_codec_Enc → Prop) : Prop :=
 ((l.length ≤ 9223372036854775807) → (∃ (z4 : Int → S_codec_Enc → Prop) (z6 : Int → S_codec_Enc → Nat), (z4 (0 : Int) e) ∧ (∀ (z1 : Int) (z3 : S_codec_Enc), (z4 z1 z3) → (inR .i64 z1) → (((z1 < (l.length : Int)) → ((inL l z1) ∧ ((inR .i64 (lget l z1)) → (∀ z7 : Int, z7 = (ixor .u64 (ishl .u64 (iwrap .u64 (lget l z1)) (1 : Int)) (iwrap .u64 (ishr .i64 (lget l z1) (63 : Int)))) → (∃ (z5 : Int → S_codec_Enc → Prop) (z8 : Int → S_codec_Enc → Nat), (z5 z7 z3) ∧ (∀ (z0 : Int) (z2 : S_codec_Enc), (z5 z0 z2) → (inR .u64 z0) → (((z0 ≥ (128 : Int)) → ((z2.b.length ≤ 9223372036854775807) → (((z2.b.length + ([ior .u8 (iwrap .u8 (iand .u64 z0 (127 : Int))) (128 : Int)]).length) * 1 ≤ 140737488355328) ∧ ((z5 (ishr .u64 z0 (7 : Int)) (S_codec_Enc.mk (z2.b ++ ([ior .u8 (iwrap .u8 (iand .u64 z0 (127 : Int))) (128 : Int)])))) ∧ z8 (ishr .u64 z0 (7 : Int)) (S_codec_Enc.mk (z2.b ++ ([ior .u8 (iwrap .u8 (iand .u64 z0 (127 : Int))) (128 : Int)]))) < z8 z0 z2)))) ∧ ((¬ (z0 ≥ (128 : Int))) → ((z2.b.length ≤ 9223372036854775807) → (((z2.b.length + ([iwrap .u8 z0]).length) * 1 ≤ 140737488355328) ∧ ((inR .i64 (z1 + (1 : Int))) ∧ ((z4 (z1 + (1 : Int)) (S_codec_Enc.mk (z2.b ++ ([iwrap .u8 z0])))) ∧ z6 (z1 + (1 : Int)) (S_codec_Enc.mk (z2.b ++ ([iwrap .u8 z0]))) < z6 z1 z3)))))))))))) ∧ ((¬ (z1 < (l.length : Int))) → Q z3)))))
set_option maxRecDepth 20000 in
set_option maxHeartbeats 4000000 in
theorem codec_Enc_Int_w {X : List Nat} {w : World} {e : S_codec_Enc} {l : (List Int)} {z2 : Nat} {z4 : List Nat} {y8 : Option Addr} {y7 : Nat} {Q : S_codec_Enc → Prop} (m0 : Old X w) (j4 : MO o_codec_Enc 94 z4 w.heap.size X w z4 z2 e) (j5 : Sl (rInt .i64) X w y8 y7 l) (hp : codec_Enc_Int_p e l Q) :
  Calls Tryz.prog 51 #[(.pointer (some ⟨z2, 0, none⟩)), (.slice y8 l.length y7)] w (Ret fun v w' => ∃ (m1 : S_codec_Enc), Q m1 ∧ ∃ (X' : List Nat) (m2 : List Nat), Step X w z4 X' w' ∧ v = .tuple #[] ∧ MO o_codec_Enc 94 z4 w.heap.size X' w' m2 z2 m1) := by
 have hXo := m0
 have E0 : Evo z4 w w := RB.refl _ _ _
 have hS : Sub X X := Sub.refl _
 have hN : News X w X w := News.refl _ _
 have m3 : Sub z4 X := MO.mem j4
 unfold codec_Enc_Int_p at hp
 refine enter_ Tryz.func51 rfl 49 [(0, (.pointer (some ⟨z2, 0, none⟩))), (1, (.slice y8 l.length y7))] (by kernel_rfl) (fun Qe hQ => ?_)
 replace hp := hp (Sl.len j5)
 refine sr (fun _ n5 => pv (.slice y8 l.length y7) ?_)
 refine pv (.int .i64 (l.length : Int)) ?_
 refine pv (.int .i64 (0 : Int)) ?_
 refine nt n5 (wp_block ?_)
 obtain ⟨j6, u7, r9, hp⟩ := hp
 refine loop_ 562949953420896 (fun kq lq y1 => ∃ (z5 : List Nat) (z1 : Int) (z6 : S_codec_Enc) (y9 : List Nat), (lq = [(9, (.int .i64 z1))]) ∧ (kq = u7 z1 z6) ∧ (Evo z4 w y1) ∧ (Old z5 y1) ∧ (Sub X z5) ∧ (News X w z5 y1) ∧ (Sl (rInt .i64) z5 y1 y8 y7 l) ∧ (MO o_codec_Enc 94 z4 w.heap.size z5 y1 y9 z2 z6) ∧ (inR .i64 z1) ∧ (j6 z1 z6)) (u7 (0 : Int) e) [(9, (.int .i64 (0 : Int)))] (vs_cons (by kernel_rfl) vs_nil) ⟨X, (0 : Int), e, z4, rfl, rfl, E0, hXo, hS, hN, j5, j4, (by decide : inR .i64 (0 : Int)), r9⟩ ?_
 rintro _ _ y1 n6 ⟨z5, z1, z6, y9, rfl, rfl, u9, t0, v5, v6, v7, t1, q0, q1⟩ m4 q2
 replace hp := hp z1 z6 q1 q0
 refine sr (fun _ j7 => pv (.bool (decide (z1 < (l.length : Int)))) ?_)
 refine nt j7 (seq_ (fun _ j8 => ?_))
 refine cond_d (z1 < (l.length : Int)) (by kernel_rfl) (fun v3 => ?_) (fun v3 => ?_)
 ·
  replace hp := hp.1 v3
  refine wp_skip (then_normal (j8 _ _ _ _ (seq_ (fun _ j9 => wp_block (sr (fun _ g0 => ?_))))))
  obtain ⟨t2, hp⟩ := hp
  obtain ⟨g1, g2, m5, q3, m6, m7, q4, q5⟩ := Sl.atI v7 z1 t2
  obtain ⟨rfl, q6⟩ := q4
  replace hp := hp q6
  refine pw (.pointer (some ⟨g1, g2 + z1.toNat * 1, none⟩)) (x_ixA (m := l.length) (c := y7) (k := .i64) (i := z1) Tryz.underlying120 Tryz.sizeOf3 (by rw [← q3]; kernel_rfl) (by kernel_rfl) t2) ?_
  refine pw (.int .i64 (lget l z1)) (x_load1 (by kernel_rfl) Tryz.isAgg3 (q5 0 _ rfl)) ?_
  refine pv (.int .i64 (lget l z1)) ?_
  refine nt g0 (sr (fun _ g3 => pv (.int .i64 (lget l z1)) ?_))
  refine pw (.int .u64 (iwrap .u64 (lget l z1))) (x_convw (k := .i64) Tryz.underlying3 Tryz.underlying121 (by kernel_rfl)) ?_
  refine pw (.int .u64 (ishl .u64 (iwrap .u64 (lget l z1)) (1 : Int))) (x_shl (k := .u64) (k' := .u64) (a := iwrap .u64 (lget l z1)) (b := (1 : Int)) (by kernel_rfl) (by kernel_rfl) (by decide)) ?_
  refine pv (.int .i64 (lget l z1)) ?_
  refine pw (.int .i64 (ishr .i64 (lget l z1) (63 : Int))) (x_shr (k := .i64) (k' := .u64) (a := lget l z1) (b := (63 : Int)) (by kernel_rfl) (by kernel_rfl) (by decide)) ?_
  refine pw (.int .u64 (iwrap .u64 (ishr .i64 (lget l z1) (63 : Int)))) (x_convw (k := .i64) Tryz.underlying2 Tryz.underlying121 (by kernel_rfl)) ?_
  obtain ⟨z8, v0⟩ : ∃ y, y = (ixor .u64 (ishl .u64 (iwrap .u64 (lget l z1)) (1 : Int)) (iwrap .u64 (ishr .i64 (lget l z1) (63 : Int)))) := ⟨_, rfl⟩
  replace hp := hp z8 v0
  have g4 : inR .u64 z8 := by rw [v0]; exact (inR_ixor _ _ _)
  refine pw (.int .u64 z8) (by rw [v0]; exact (x_xor (k := .u64) (a := ishl .u64 (iwrap .u64 (lget l z1)) (1 : Int)) (b := iwrap .u64 (ishr .i64 (lget l z1) (63 : Int))) (by kernel_rfl) (by kernel_rfl))) ?_
  refine pv (.int .u64 z8) ?_
  refine nt g3 (seq_ (fun _ g5 => wp_block ?_))
  obtain ⟨g6, t3, q7, hp⟩ := hp
  refine loop_ 137437904960 (fun kq lq y2 => ∃ (z7 : List Nat) (z0 : Int) (z3 : S_codec_Enc) (t4 : List Nat), (lq = [(6, (.int .u64 z0))]) ∧ (kq = t3 z0 z3) ∧ (Evo z4 w y2) ∧ (Old z7 y2) ∧ (Sub X z7) ∧ (News X w z7 y2) ∧ (Sl (rInt .i64) z7 y2 y8 y7 l) ∧ (MO o_codec_Enc 94 z4 w.heap.size z7 y2 t4 z2 z3) ∧ (inR .u64 z0) ∧ (g6 z0 z3)) (t3 z8 z6) [(6, (.int .u64 z8))] (vs_cons (by kernel_rfl) vs_nil) ⟨z5, z8, z6, y9, rfl, rfl, u9, t0, v5, v6, v7, t1, g4, q7⟩ ?_
  rintro _ _ y2 n7 ⟨z7, z0, z3, t4, rfl, rfl, v1, v2, v8, v9, u1, t5, u2, q8⟩ m8 q9
  replace hp := hp z0 z3 q8 u2
  refine seq_ (fun _ g7 => sr (fun _ g8 => pv (.int .u64 z0) ?_))
  refine pv (.bool (decide (z0 ≥ (128 : Int)))) ?_
  refine nt g8 ?_
  refine cond_d (z0 ≥ (128 : Int)) (by kernel_rfl) (fun v4 => ?_) (fun v4 => ?_)
  ·
   replace hp := hp.1 v4
   refine wp_skip (then_normal (g7 _ _ _ _ (wp_block (sr (fun _ g9 => pv (.pointer (some ⟨z2, 0, none⟩)) ?_)))))
   refine pv (.pointer (some ⟨z2, 0, none⟩)) ?_
   refine pv (.pointer (some ⟨z2, 0, none⟩)) ?_
   obtain ⟨k0, k1, k2, t6, u3, m9, n0, t7⟩ := o_codec_Enc_open t5
   replace hp := hp (OS.len u3)
   refine pv (.pointer (some ⟨z2, 0, none⟩)) ?_
   refine pw (.slice k0 k1 k2) (x_load1 (by kernel_rfl) Tryz.isAgg32 (t6.2.1.cell' 0 rfl)) ?_
   refine pv (.int .u64 z0) ?_
   refine pw (.int .u64 (iand .u64 z0 (127 : Int))) (x_and (k := .u64) (a := z0) (b := (127 : Int)) (by kernel_rfl) (by kernel_rfl)) ?_
   refine pw (.int .u8 (iwrap .u8 (iand .u64 z0 (127 : Int)))) (x_convw (k := .u64) Tryz.underlying121 Tryz.underlying5 (by kernel_rfl)) ?_
   refine pw (.int .u8 (ior .u8 (iwrap .u8 (iand .u64 z0 (127 : Int))) (128 : Int))) (x_or (k := .u8) (a := iwrap .u8 (iand .u64 z0 (127 : Int))) (b := (128 : Int)) (by kernel_rfl) (by kernel_rfl)) ?_
   refine sq (o_rowX (R := (rInt .u8)) [(.int .u8 (ior .u8 (iwrap .u8 (iand .u64 z0 (127 : Int))) (128 : Int)))] [ior .u8 (iwrap .u8 (iand .u64 z0 (127 : Int))) (128 : Int)] 5 1 (X := z7) (B := w.heap.size) v1.size rfl (by kernel_rfl) (Flat.cons (cs := [(.int .u8 (ior .u8 (iwrap .u8 (iand .u64 z0 (127 : Int))) (128 : Int)))]) (rInt_mk (inR_ior _ _ _)) Flat.nil) rfl (by decide) ?_)
   intro n8 n9 d0 z9 t8 o0
   obtain ⟨d1, hp⟩ := hp
   have u4 := OS.step0 u3 z9
   have t9 := OB.step0 t6 z9
   have s0 := Evo.then0 v1 (Step.evo z9)
   refine sq (o_appX (R := (rInt .u8)) (X := d0) (B := w.heap.size) (L := z3.b) (M := [ior .u8 (iwrap .u8 (iand .u64 z0 (127 : Int))) (128 : Int)]) rfl elT32 rfl s0.size u4 (OS.src t8) t8.1 (by kernel_rfl) (by kernel_rfl) d1 ?_)
   intro s1 s2 s3 o1 d2 y3 d3 k3
   have s4 := k3 _ t7 (OB.old t9)
   refine pv (.pointer (some ⟨z2, 0, none⟩)) ?_
   refine pv (.pointer (some ⟨z2, 0, none⟩)) ?_
   have s5 := OB.step t9 y3 t7
   have d4 := Evo.thenW s0 (Step.evo y3) u4.2.2
   refine sq (o_stB (o := 0) (v := (.slice s1 s2 s3)) [(.slice s1 s2 s3)] rfl s5 (by kernel_rfl) (by kernel_rfl) Tryz.sizeOf32 rfl rfl rfl ?_)
   intro o2 y4 d5
   refine nt g9 (reg_ (pv (.int .u64 z0) ?_))
   refine pw (.int .u64 (ishr .u64 z0 (7 : Int))) (x_shr (k := .u64) (k' := .u64) (a := z0) (b := (7 : Int)) (by kernel_rfl) (by kernel_rfl) (by decide)) ?_
   refine pv (.int .u64 (ishr .u64 z0 (7 : Int))) ?_
   refine nil_ (blk_normal ?_)
   have d6 := Evo.thenW d4 (Step.evo y4) s5.2.2
   have s6 := Old.step (Old.step (Old.step v2 z9) y3) y4
   have k4 := Sub.trans (Sub.trans (Sub.trans v8 (Step.up z9)) (Step.up y3)) (Step.up y4)
   have k5 := News.step (News.step (News.step v9 z9) y3) y4
   have k6 := Sl.step (Sl.step (Sl.step u1 z9) y3) y4
   have d7 := OS.step d3 y4 (Ap.symm s4)
   obtain ⟨d8, d9, n1⟩ := MO.pack (o_codec_Enc_mk d5 d7 s4)
   refine then_normal (q9 _ _ _ ⟨_, [(6, (.int .u64 (ishr .u64 z0 (7 : Int))))], hp.2, fit_mk (AgB.mix _ _ _) (by kernel_rfl) (vs_cons (by kernel_rfl) vs_nil), ?_⟩)
   exact ⟨d2, (ishr .u64 z0 (7 : Int)), (S_codec_Enc.mk (z3.b ++ ([ior .u8 (iwrap .u8 (iand .u64 z0 (127 : Int))) (128 : Int)]))), d8, rfl, rfl, d6, s6, k4, k5, k6, d9, (inR_ishr _ u2), hp.1⟩
  ·
   replace hp := hp.2 v4
   refine wp_exit ?_
   refine then_exit (then_exit (blk_exit (then_normal (g5 _ _ _ _ (reg_ (pv (.pointer (some ⟨z2, 0, none⟩)) ?_))))))
   refine pv (.pointer (some ⟨z2, 0, none⟩)) ?_
   refine pv (.pointer (some ⟨z2, 0, none⟩)) ?_
   obtain ⟨k7, k8, k9, s7, u5, n2, n3, s8⟩ := o_codec_Enc_open t5
   replace hp := hp (OS.len u5)
   refine pv (.pointer (some ⟨z2, 0, none⟩)) ?_
   refine pw (.slice k7 k8 k9) (x_load1 (by kernel_rfl) Tryz.isAgg32 (s7.2.1.cell' 0 rfl)) ?_
   refine pv (.int .u64 z0) ?_
   refine pw (.int .u8 (iwrap .u8 z0)) (x_convw (k := .u64) Tryz.underlying121 Tryz.underlying5 (by kernel_rfl)) ?_
   refine sq (o_rowX (R := (rInt .u8)) [(.int .u8 (iwrap .u8 z0))] [iwrap .u8 z0] 5 1 (X := z7) (B := w.heap.size) v1.size rfl (by kernel_rfl) (Flat.cons (cs := [(.int .u8 (iwrap .u8 z0))]) (rInt_mk (inR_iwrap _ _)) Flat.nil) rfl (by decide) ?_)
   intro o3 o4 l0 y0 s9 o5
   obtain ⟨l1, hp⟩ := hp
   have u6 := OS.step0 u5 y0
   have r0 := OB.step0 s7 y0
   have r1 := Evo.then0 v1 (Step.evo y0)
   refine sq (o_appX (R := (rInt .u8)) (X := l0) (B := w.heap.size) (L := z3.b) (M := [iwrap .u8 z0]) rfl elT32 rfl r1.size u6 (OS.src s9) s9.1 (by kernel_rfl) (by kernel_rfl) l1 ?_)
   intro r2 r3 r4 o6 l2 y5 l3 j0
   have r5 := j0 _ s8 (OB.old r0)
   refine pv (.pointer (some ⟨z2, 0, none⟩)) ?_
   refine pv (.pointer (some ⟨z2, 0, none⟩)) ?_
   have r6 := OB.step r0 y5 s8
   have l4 := Evo.thenW r1 (Step.evo y5) u6.2.2
   refine sq (o_stB (o := 0) (v := (.slice r2 r3 r4)) [(.slice r2 r3 r4)] rfl r6 (by kernel_rfl) (by kernel_rfl) Tryz.sizeOf32 rfl rfl rfl ?_)
   intro o7 y6 l5
   refine nil_ (blk_normal (then_normal (j9 _ _ _ _ (reg_ ?_))))
   obtain ⟨r7, hp⟩ := hp
   refine pw (.int .i64 (z1 + (1 : Int))) (x_add2 (k := .i64) (a := z1) (b := (1 : Int)) (z1 + (1 : Int)) (by kernel_rfl) (by kernel_rfl) (wrap_inR r7)) ?_
   refine pv (.int .i64 (z1 + (1 : Int))) ?_
   refine nil_ ?_
   have l6 := Evo.thenW l4 (Step.evo y6) r6.2.2
   have r8 := Old.step (Old.step (Old.step v2 y0) y5) y6
   have j1 := Sub.trans (Sub.trans (Sub.trans v8 (Step.up y0)) (Step.up y5)) (Step.up y6)
   have j2 := News.step (News.step (News.step v9 y0) y5) y6
   have j3 := Sl.step (Sl.step (Sl.step u1 y0) y5) y6
   have l7 := OS.step l3 y6 (Ap.symm r5)
   obtain ⟨l8, l9, n4⟩ := MO.pack (o_codec_Enc_mk l5 l7 r5)
   refine then_normal (q2 _ _ _ ⟨_, [(9, (.int .i64 (z1 + (1 : Int))))], hp.2, fit_mk (AgB.nest (AgB.mix _ _ _) (by kernel_rfl) (by kernel_rfl)) (by kernel_rfl) (vs_cons (by kernel_rfl) vs_nil), ?_⟩)
   exact ⟨l2, (z1 + (1 : Int)), (S_codec_Enc.mk (z3.b ++ ([iwrap .u8 z0]))), l8, rfl, rfl, l6, r8, j1, j2, j3, l9, r7, hp.1⟩
 ·
  replace hp := hp.2 v3
  refine wp_exit ?_
  refine then_exit (then_exit (blk_exit ?_))
  refine end_normal hQ (.tuple #[]) (by kernel_rfl) ?_
  exact ⟨z6, hp, z5, y9, step_of u9 m3 v5 v6, rfl, t1⟩
def codec_Enc_Text_p (e : S_codec_Enc) (l : (List ByteArray)) (Q : S_codec_Enc → Prop) : Prop :=
 ((l.length ≤ 9223372036854775807) → (∃ (z2 : Int → S_codec_Enc → Prop) (z4 : Int → S_codec_Enc → Nat), (z2 (0 : Int) e) ∧ (∀ (z0 : Int) (z3 : S_codec_Enc), (z2 z0 z3) → (inR .i64 z0) → (((z0 < (l.length : Int)) → ((inL l z0) ∧ (((lget l z0).size ≤ maxLen) → (codec_Enc_Int_p z3 ([((lget l z0).size : Int)]) (fun (z1 : S_codec_Enc) => ((z1.b.length ≤ 9223372036854775807) → ((z1.b.length + (lget l z0).size ≤ 140737488355328) ∧ ((inR .i64 (z0 + (1 : Int))) ∧ ((z2 (z0 + (1 : Int)) (S_codec_Enc.mk (z1.b ++ bytesL (lget l z0)))) ∧ z4 (z0 + (1 : Int)) (S_codec_Enc.mk (z1.b ++ bytesL (lget l z0))) < z4 z0 z3))))))))) ∧ ((¬ (z0 < (l.length : Int))) → Q z3)))))
set_option maxRecDepth 20000 in
set_option maxHeartbeats 4000000 in
theorem codec_Enc_Text_w {X : List Nat} {w : World} {e : S_codec_Enc} {l : (List ByteArray)} {z1 : Nat} {z3 : List Nat} {y3 : Option Addr} {y0 : Nat} {Q : S_codec_Enc → Prop} (r6 : Old X w) (r7 : MO o_codec_Enc 94 z3 w.heap.size X w z3 z1 e) (r8 : Sl rStr X w y3 y0 l) (hp : codec_Enc_Text_p e l Q) :
  Calls Tryz.prog 52 #[(.pointer (some ⟨z1, 0, none⟩)), (.slice y3 l.length y0)] w (Ret fun v w' => ∃ (j5 : S_codec_Enc), Q j5 ∧ ∃ (X' : List Nat) (j6 : List Nat), Step X w z3 X' w' ∧ v = .tuple #[] ∧ MO o_codec_Enc 94 z3 w.heap.size X' w' j6 z1 j5) := by
 have hXo := r6
 have E0 : Evo z3 w w := RB.refl _ _ _
 have hS : Sub X X := Sub.refl _
 have hN : News X w X w := News.refl _ _
 have j7 : Sub z3 X := MO.mem r7
 unfold codec_Enc_Text_p at hp
 refine enter_ Tryz.func52 rfl 27 [(0, (.pointer (some ⟨z1, 0, none⟩))), (1, (.slice y3 l.length y0))] (by kernel_rfl) (fun Qe hQ => ?_)
 replace hp := hp (Sl.len r8)
 refine sr (fun _ g5 => pv (.slice y3 l.length y0) ?_)
 refine pv (.int .i64 (l.length : Int)) ?_
 refine pv (.int .i64 (0 : Int)) ?_
 refine nt g5 (wp_block ?_)
 obtain ⟨r9, v5, t6, hp⟩ := hp
 refine loop_ 134217504 (fun kq lq z4 => ∃ (z2 : List Nat) (z0 : Int) (z8 : S_codec_Enc) (v6 : List Nat), (lq = [(8, (.int .i64 z0))]) ∧ (kq = v5 z0 z8) ∧ (Evo z3 w z4) ∧ (Old z2 z4) ∧ (Sub X z2) ∧ (News X w z2 z4) ∧ (Sl rStr z2 z4 y3 y0 l) ∧ (MO o_codec_Enc 94 z3 w.heap.size z2 z4 v6 z1 z8) ∧ (inR .i64 z0) ∧ (r9 z0 z8)) (v5 (0 : Int) e) [(8, (.int .i64 (0 : Int)))] (vs_cons (by kernel_rfl) vs_nil) ⟨X, (0 : Int), e, z3, rfl, rfl, E0, hXo, hS, hN, r8, r7, (by decide : inR .i64 (0 : Int)), t6⟩ ?_
 rintro _ _ z4 g6 ⟨z2, z0, z8, v6, rfl, rfl, y5, v7, v0, v1, v2, v8, q0, t7⟩ j8 t8
 replace hp := hp z0 z8 t7 q0
 refine sr (fun _ q1 => pv (.bool (decide (z0 < (l.length : Int)))) ?_)
 refine nt q1 (seq_ (fun _ q2 => ?_))
 refine cond_d (z0 < (l.length : Int)) (by kernel_rfl) (fun y6 => ?_) (fun y6 => ?_)
 ·
  replace hp := hp.1 y6
  refine wp_skip (then_normal (q2 _ _ _ _ (seq_ (fun _ q3 => wp_block (sr (fun _ q4 => ?_))))))
  obtain ⟨v9, hp⟩ := hp
  obtain ⟨q5, q6, j9, t9, g0, g1, s0, s1⟩ := Sl.atI v2 z0 v9
  obtain ⟨rfl, v3⟩ := s0
  replace hp := hp v3
  refine pw (.pointer (some ⟨q5, q6 + z0.toNat * 1, none⟩)) (x_ixA (m := l.length) (c := y0) (k := .i64) (i := z0) Tryz.underlying65 Tryz.sizeOf9 (by rw [← t9]; kernel_rfl) (by kernel_rfl) v9) ?_
  refine pw (.string (lget l z0)) (x_load1 (by kernel_rfl) Tryz.isAgg9 (s1 0 _ rfl)) ?_
  refine pv (.string (lget l z0)) ?_
  refine nt q4 (sr (fun _ q7 => pv (.pointer (some ⟨z1, 0, none⟩)) ?_))
  refine pv (.string (lget l z0)) ?_
  refine pv (.int .i64 ((lget l z0).size : Int)) ?_
  refine sq (o_rowX (R := (rInt .i64)) [(.int .i64 ((lget l z0).size : Int))] [((lget l z0).size : Int)] 3 1 (X := z2) (B := w.heap.size) y5.size rfl (by kernel_rfl) (Flat.cons (cs := [(.int .i64 ((lget l z0).size : Int))]) (rInt_mk (inR_size v3)) Flat.nil) rfl (by decide) ?_)
  intro q8 g7 g8 z5 y7 q9
  have k0 := q9 _ (MO.old v8)
  have s2 := Sub.trans v0 (Step.up z5)
  have k1 := Evo.then0 y5 (Step.evo z5)
  have u1 := Old.step v7 z5
  have s3 := News.step v1 z5
  have s4 := Sl.step v2 z5
  have u2 := MO.step0 v8 z5
  have s5 := OS.apold y7 r6
  obtain ⟨k2, y1, k3, v4⟩ := OS.release y7
  have u3 := k1
  have y4 := Old.less u1 y1
  have s6 := v4 _ s5 s2
  have s7 := News.less s3 y1
  have s8 := Sl.less s4 y1
  have y8 := MO.less u2 y1 (v4 _ k0 (MO.mem u2))
  refine sq (o_call 51 #[(.pointer (some ⟨z1, 0, none⟩)), (.slice (some ⟨q8, 0, none⟩) ([((lget l z0).size : Int)]).length 1)] rfl (x_call Tryz.call51 (by rw [← show 1 = ([((lget l z0).size : Int)]).length from y7.1]; kernel_rfl)) (codec_Enc_Int_w (X := k2) (e := z8) (l := [((lget l z0).size : Int)]) y4 (MO.re y8 (Wr.self _ _ (Sub.refl _))) k3 hp) ?_)
  rintro _ g9 ⟨u4, hp, k4, d0, z9, rfl, u5⟩
  have k5 := MO.re u5 (Wr.trans u5.wr y8.wr u3.size)
  refine nt q7 (reg_ (pv (.pointer (some ⟨z1, 0, none⟩)) ?_))
  refine pv (.pointer (some ⟨z1, 0, none⟩)) ?_
  refine pv (.pointer (some ⟨z1, 0, none⟩)) ?_
  obtain ⟨s9, r0, r1, y9, y2, g2, g3, u6⟩ := o_codec_Enc_open k5
  replace hp := hp (OS.len y2)
  refine pv (.pointer (some ⟨z1, 0, none⟩)) ?_
  refine pw (.slice s9 r0 r1) (x_load1 (by kernel_rfl) Tryz.isAgg32 (y9.2.1.cell' 0 rfl)) ?_
  refine pv (.string (lget l z0)) ?_
  obtain ⟨k6, hp⟩ := hp
  have u7 := Evo.thenW u3 (Step.evo z9) y8.wr
  refine sq (o_appS (X := k4) (B := w.heap.size) (L := u4.b) (sv := (lget l z0)) rfl Tryz.underlying32 Tryz.underlying9 (by kernel_rfl) u7.size y2 (by kernel_rfl) (by kernel_rfl) k6 ?_)
  intro u9 t0 t1 d1 k7 z6 k8 r2
  have t2 := r2 _ u6 (OB.old y9)
  refine pv (.pointer (some ⟨z1, 0, none⟩)) ?_
  refine pv (.pointer (some ⟨z1, 0, none⟩)) ?_
  have t3 := OB.step y9 z6 u6
  have k9 := Evo.thenW u7 (Step.evo z6) y2.2.2
  refine sq (o_stB (o := 0) (v := (.slice u9 t0 t1)) [(.slice u9 t0 t1)] rfl t3 (by kernel_rfl) (by kernel_rfl) Tryz.sizeOf32 rfl rfl rfl ?_)
  intro d2 z7 j0
  refine nil_ (blk_normal (then_normal (q3 _ _ _ _ (reg_ ?_))))
  obtain ⟨t4, hp⟩ := hp
  refine pw (.int .i64 (z0 + (1 : Int))) (x_add2 (k := .i64) (a := z0) (b := (1 : Int)) (z0 + (1 : Int)) (by kernel_rfl) (by kernel_rfl) (wrap_inR t4)) ?_
  refine pv (.int .i64 (z0 + (1 : Int))) ?_
  refine nil_ ?_
  have j1 := Evo.thenW k9 (Step.evo z7) t3.2.2
  have t5 := Old.step (Old.step (Old.step y4 z9) z6) z7
  have r3 := Sub.trans (Sub.trans (Sub.trans s6 (Step.up z9)) (Step.up z6)) (Step.up z7)
  have r4 := News.step (News.step (News.step s7 z9) z6) z7
  have r5 := Sl.step (Sl.step (Sl.step s8 z9) z6) z7
  have j2 := OS.step k8 z7 (Ap.symm t2)
  obtain ⟨j3, j4, g4⟩ := MO.pack (o_codec_Enc_mk j0 j2 t2)
  refine then_normal (t8 _ _ _ ⟨_, [(8, (.int .i64 (z0 + (1 : Int))))], hp.2, fit_mk (AgB.mix _ _ _) (by kernel_rfl) (vs_cons (by kernel_rfl) vs_nil), ?_⟩)
  exact ⟨k7, (z0 + (1 : Int)), (S_codec_Enc.mk (u4.b ++ bytesL (lget l z0))), j3, rfl, rfl, j1, t5, r3, r4, r5, j4, t4, hp.1⟩
 ·
  replace hp := hp.2 y6
  refine wp_exit ?_
  refine then_exit (then_exit (blk_exit ?_))
  refine end_normal hQ (.tuple #[]) (by kernel_rfl) ?_
  exact ⟨z8, hp, z2, v6, step_of y5 j7 v0 v1, rfl, v8⟩
def simfs_sum_p (l : (List (ByteArray × S_simfs_file))) (Q : Int → Prop) : Prop :=
 (∃ (z6 : Int → (List (ByteArray × S_simfs_file)) → Prop) (z7 : Int → (List (ByteArray × S_simfs_file)) → Nat), (z6 (0 : Int) l) ∧ (∀ (z1 : Int) (z2 : (List (ByteArray × S_simfs_file))), (z6 z1 z2) → (inR .i64 z1) → ((z2 = [] → Q z1) ∧ (∀ (z3 : List (ByteArray × S_simfs_file)) (z5 : ByteArray) (z0 : S_simfs_file) (z4 : List (ByteArray × S_simfs_file)), z2 = z3 ++ (z5, z0) :: z4 → ((z5.size ≤ maxLen) → ((inR .i64 z0.mode) → ((inR .i64 z0.time) → ((inR .i64 z0.inode) → ((z0.b.length ≤ 9223372036854775807) → ((inR .i64 (z1 + (z0.b.length : Int))) ∧ ((z6 (z1 + (z0.b.length : Int)) (z3 ++ z4)) ∧ z7 (z1 + (z0.b.length : Int)) (z3 ++ z4) < z7 z1 z2)))))))))))
set_option maxRecDepth 20000 in
set_option maxHeartbeats 4000000 in
theorem simfs_sum_w {X : List Nat} {w : World} {l : (List (ByteArray × S_simfs_file))} {y1 : Nat} {Q : Int → Prop} (s6 : Old X w) (s7 : RM r_simfs_file true X w y1 l) (hp : simfs_sum_p l Q) :
  Calls Tryz.prog 97 #[(.map (some y1))] w (Ret fun v w' => ∃ (t0 : Int), Q t0 ∧ Evo [] w w' ∧ v = (.int .i64 t0) ∧ inR .i64 t0) := by
 have hXo := s6
 have E0 : Evo [] w w := RB.refl _ _ _
 have hS : Sub X X := Sub.refl _
 unfold simfs_sum_p at hp
 refine enter_ Tryz.func97 rfl 18 [(0, (.map (some y1)))] (by kernel_rfl) (fun Qe hQ => ?_)
 refine sr (fun _ r3 => pv (.int .i64 (0 : Int)) ?_)
 refine nt r3 (sr (fun _ r4 => pv (.int .i64 (0 : Int)) ?_))
 refine nt r4 (seq_ (fun _ r5 => sr (fun _ r6 => pv (.map (some y1)) ?_)))
 refine sq (o_rangeR (X := X) (B := w.heap.size) E0.size rfl s7 Tryz.underlying59 (by kernel_rfl) ?_)
 intro s8 q4 r7 v0 s9 q3
 refine nt r6 (wp_block ?_)
 have v1 := Old.step hXo v0
 have t1 := Evo.then0 E0 (Step.evo v0)
 have u2 := Sub.trans hS (Step.up v0)
 obtain ⟨r0, u9, t2, hp⟩ := hp
 refine loop_ 130856 (fun kq lq z6 => ∃ (z5 : List Nat) (z1 : Int) (z2 : (List (ByteArray × S_simfs_file))), (lq = [(3, (.int .i64 z1))]) ∧ (kq = u9 z1 z2) ∧ (Evo [] w z6) ∧ (Old z5 z6) ∧ (Sub X z5) ∧ (ITR r_simfs_file true z5 z6 ([]) w.heap.size s8 y1 l z2 none) ∧ (inR .i64 z1) ∧ (r0 z1 z2)) (u9 (0 : Int) l) [(3, (.int .i64 (0 : Int)))] (vs_cons (by kernel_rfl) vs_nil) ⟨r7, (0 : Int), l, rfl, rfl, t1, v1, u2, (ITR.drop s9), (by decide : inR .i64 (0 : Int)), t2⟩ ?_
 rintro _ _ z6 r8 ⟨z5, z1, z2, rfl, rfl, v2, v3, u3, v4, y7, u4⟩ r1 u5
 replace hp := hp z1 z2 u4 y7
 refine sr (fun _ v5 => ?_)
 refine sq (o_nextR rfl v4 (by kernel_rfl) (fun z7 => ?_) (fun y8 y2 z0 y9 r2 r9 z7 y5 y6 u6 t3 => ?_))
 ·
  replace hp := hp.1 z7
  refine pv (.bool false) ?_
  refine nt v5 (seq_ (fun _ q0 => ?_))
  refine cond_f (by kernel_rfl) ?_
  refine wp_exit ?_
  refine then_exit (then_exit (blk_exit (then_normal (r5 _ _ _ _ (sr (fun _ t4 => pv (.int .i64 z1) ?_))))))
  refine pv (.int .i64 z1) ?_
  refine nt t4 (wp_ret ?_)
  refine end_ret hQ (.int .i64 z1) (by kernel_rfl) ?_
  exact ⟨z1, hp, v2, rfl, y7⟩
 ·
  replace hp := hp.2 y8 y2 z0 y9 z7
  replace hp := hp t3
  obtain ⟨z3, z4, rfl, y3, y4, z8, v6⟩ := r_simfs_file_open u6
  replace hp := hp y3 y4 z8 (Sl.len v6)
  refine pv (.bool true) ?_
  refine nt v5 (seq_ (fun _ t5 => ?_))
  refine cond_t (by kernel_rfl) ?_
  refine wp_skip (then_normal (t5 _ _ _ _ (wp_block (sr (fun _ t6 => pw (.tuple #[(.string y2), (.agg #[(.int .i64 z0.mode), (.int .i64 z0.time), (.int .i64 z0.inode), (.slice z3 z0.b.length z4)])]) (x_entryR y6 (by kernel_rfl)) ?_)))))
  refine pv (.agg #[(.int .i64 z0.mode), (.int .i64 z0.time), (.int .i64 z0.inode), (.slice z3 z0.b.length z4)]) ?_
  have v7 := Evo.thenW v2 (Step.evo y5) v4.wr
  refine sq (o_newX [(.int .i64 (0 : Int)), (.int .i64 (0 : Int)), (.int .i64 (0 : Int)), (.slice none 0 0)] 74 (X := z5) (B := w.heap.size) v7.size rfl (by kernel_rfl) ?_)
  intro t7 q1 t8 z9 v8 t9
  have s0 := t9 _ (ITR.old y6)
  have s1 := ITR.step0 y6 z9
  have s2 := Evo.then0 v7 (Step.evo z9)
  refine sq (o_stB (o := 0) (v := (.agg #[(.int .i64 z0.mode), (.int .i64 z0.time), (.int .i64 z0.inode), (.slice z3 z0.b.length z4)])) [(.int .i64 z0.mode), (.int .i64 z0.time), (.int .i64 z0.inode), (.slice z3 z0.b.length z4)] rfl v8 (by kernel_rfl) (by kernel_rfl) Tryz.sizeOf74 rfl rfl rfl ?_)
  intro q2 y0 s3
  refine nt t6 (reg_ (pv (.int .i64 z1) ?_))
  refine pv (.pointer (some ⟨t7, 3, none⟩)) ?_
  refine pw (.slice z3 z0.b.length z4) (x_load1 (by kernel_rfl) Tryz.isAgg32 (s3.2.1.cell' 3 rfl)) ?_
  refine pv (.int .i64 (z0.b.length : Int)) ?_
  obtain ⟨v9, hp⟩ := hp
  refine pw (.int .i64 (z1 + (z0.b.length : Int))) (x_add2 (k := .i64) (a := z1) (b := (z0.b.length : Int)) (z1 + (z0.b.length : Int)) (by kernel_rfl) (by kernel_rfl) (wrap_inR v9)) ?_
  refine pv (.int .i64 (z1 + (z0.b.length : Int))) ?_
  refine nil_ (blk_normal ?_)
  have s4 := Evo.thenW s2 (Step.evo y0) v8.2.2
  have u1 := Old.step (Old.step (Old.step v3 y5) z9) y0
  have u7 := Sub.trans (Sub.trans (Sub.trans u3 (Step.up y5)) (Step.up z9)) (Step.up y0)
  have s5 := ITR.step s1 y0 s0
  refine then_normal (u5 _ _ _ ⟨_, [(3, (.int .i64 (z1 + (z0.b.length : Int))))], hp.2, fit_mk (AgB.mix _ _ _) (by kernel_rfl) (vs_cons (by kernel_rfl) vs_nil), ?_⟩)
  exact ⟨t8, (z1 + (z0.b.length : Int)), (y8 ++ y9), rfl, rfl, s4, u1, u7, (ITR.drop s5), v9, hp.1⟩
end Go.Proofs.YtlkfoebophjhfaaGreatDoor
