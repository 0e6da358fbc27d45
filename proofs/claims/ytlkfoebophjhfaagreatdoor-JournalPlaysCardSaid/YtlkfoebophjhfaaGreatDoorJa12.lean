/- Walks of functions: what each asks and computes, as a plain predicate, and the contract from it. -/
import Derived.Test.YtlkfoebophjhfaaGreatDoorChecked
import Derived.Test.YtlkfoebophjhfaaGreatDoorPk
import Derived.Test.YtlkfoebophjhfaaGreatDoorJa11
namespace Go.Proofs.YtlkfoebophjhfaaGreatDoor
open Go
def rectolaw6_JournalPlays_p (rows : (List (List S_journal_Change))) (cuts : (List Int)) (keep : (List Bool)) (Q : Bool → Prop) : Prop :=
 ((rows.length ≤ 9223372036854775807) → ((cuts.length ≤ 9223372036854775807) → ((keep.length ≤ 9223372036854775807) → (rectolaw6_known_p  (fun (k9 : Bool) => ((((!k9) = true) → Q false) ∧ (((!k9) = false) → (((((rows.length : Int) > (10 : Int)) ∨ (((cuts.length : Int) > (30 : Int)) ∨ ((keep.length : Int) > (60 : Int)))) → Q true) ∧ ((¬ (((rows.length : Int) > (10 : Int)) ∨ (((cuts.length : Int) > (30 : Int)) ∨ ((keep.length : Int) > (60 : Int))))) → (simfs_New_p (0 : Int) (fun (j0 : S_simfs_FS) => (∃ (y9 : (List S_rectolaw6_file) → Int → Int → S_simfs_FS → Prop) (s6 : (List S_rectolaw6_file) → Int → Int → S_simfs_FS → Nat), (y9 ([] : List S_rectolaw6_file) (0 : Int) (0 : Int) j0) ∧ (∀ (z4 : (List S_rectolaw6_file)) (z2 : Int) (z0 : Int) (y4 : S_simfs_FS), (y9 z4 z2 z0 y4) → (z4.length ≤ 9223372036854775807) → (inR .i64 z2) → (inR .i64 z0) → (((z0 < (rows.length : Int)) → (∃ v0 : (List S_rectolaw6_file) → Int → S_simfs_FS → Prop, (∀ (z7 : (List S_rectolaw6_file)) (z8 : Int) (v1 : S_simfs_FS), v0 z7 z8 v1 → (z7.length ≤ 9223372036854775807) → (inR .i64 z8) → ((inR .i64 (z0 + (1 : Int))) ∧ ((y9 z7 z8 (z0 + (1 : Int)) v1) ∧ s6 z7 z8 (z0 + (1 : Int)) v1 < s6 z4 z2 z0 y4))) ∧ ((inL rows z0) ∧ (((lget rows z0).length ≤ 9223372036854775807) → (rectolaw6_few_p (lget rows z0) (fun (s7 : Bool) => ((((!s7) = true) → Q true) ∧ (((!s7) = false) → (∃ v2 : Int → S_simfs_FS → Prop, (∀ (z9 : Int) (s8 : S_simfs_FS), v2 z9 s8 → (inR .i64 z9) → ((inL rows z0) ∧ (((lget rows z0).length ≤ 9223372036854775807) → (rectolaw6_after_p z4 (lget rows z0) (fun (y5 : (List S_rectolaw6_file)) (k3 : Bool) => ((y5.length ≤ 9223372036854775807) → ((inL rows z0) ∧ (((lget rows z0).length ≤ 9223372036854775807) → (journal_Do_p s8 (ByteArray.mk #[46, 106]) (lget rows z0) (fun (s1 : S_simfs_FS) (z5 : Int) => ((inR .i64 z5) → ((inL rows z0) ∧ (((lget rows z0).length ≤ 9223372036854775807) → (rectolaw6_wrong_p (ByteArray.mk #[46, 106]) (lget rows z0) (fun (y6 : Int) => ((inR .i64 y6) → (∃ v3 : Bool → Prop, (∀ (v4 : Bool), v3 v4 → (∃ v5 : Int → Prop, (∀ (z3 : Int), v5 z3 → (inR .i64 z3) → (((¬ (z5 = (13 : Int))) → (((¬ (z5 = z3)) → Q false) ∧ ((z5 = z3) → (∃ v6 : (List S_rectolaw6_file) → Prop, (∀ (y0 : (List S_rectolaw6_file)), v6 y0 → (y0.length ≤ 9223372036854775807) → (journal_Idle_p s1 (ByteArray.mk #[46, 106]) (fun (q1 : S_simfs_FS) (k4 : Bool) (v7 : Int) => ((inR .i64 v7) → (rectolaw6_all_p q1 (ByteArray.mk #[46, 106]) (fun (q2 : S_simfs_FS) (s9 : (List S_rectolaw6_file)) (r0 : Bool) => ((s9.length ≤ 9223372036854775807) → (∃ y1 : Bool → Prop, (∀ (v8 : Bool), y1 v8 → (((v8 = true) → Q false) ∧ ((v8 = false) → (v0 y0 z9 q2)))) ∧ (((v7 = (0 : Int)) → (((r0 = true) → (rectolaw6_same_p s9 y0 (fun (r1 : Bool) => (((r1 = true) → (((z5 = (0 : Int)) → (y1 (!k4))) ∧ ((¬ (z5 = (0 : Int))) → (y1 false)))) ∧ ((r1 = false) → (y1 true)))))) ∧ ((¬ (r0 = true)) → (y1 true)))) ∧ ((¬ (v7 = (0 : Int))) → (y1 true))))))))))) ∧ (((z5 = (0 : Int)) → (v6 y5)) ∧ ((¬ (z5 = (0 : Int))) → (v6 z4))))))) ∧ ((z5 = (13 : Int)) → (∃ v9 : Bool → Prop, (∀ (u1 : Bool), v9 u1 → (((u1 = true) → Q false) ∧ ((u1 = false) → (∃ (u2 : Int → Int → S_simfs_FS → Prop) (r2 : Int → Int → S_simfs_FS → Nat), (u2 z9 (0 : Int) s1) ∧ (∀ (z1 : Int) (z6 : Int) (y7 : S_simfs_FS), (u2 z1 z6 y7) → (inR .i64 z1) → (inR .i64 z6) → (∃ u3 : Bool → S_simfs_FS → Prop, (∀ (u4 : Bool) (u5 : S_simfs_FS), u3 u4 u5 → (((u4 = true) → (simfs_FS_On_p u5 (fun (s2 : S_simfs_FS) => (∃ u6 : Bool → Prop, (∀ (u7 : Bool), u6 u7 → (∃ u9 : Int → S_simfs_FS → Prop, (∀ (y2 : Int) (r3 : S_simfs_FS), u9 y2 r3 → (inR .i64 y2) → (journal_Recover_p r3 (ByteArray.mk #[46, 106]) (fun (s3 : S_simfs_FS) (k5 : Int) => ((inR .i64 k5) → ((inR .i64 (z6 + (1 : Int))) ∧ ((u2 y2 (z6 + (1 : Int)) s3) ∧ r2 y2 (z6 + (1 : Int)) s3 < r2 z1 z6 y7)))))) ∧ (((u7 = true) → ((inL cuts z1) ∧ ((inR .u8 (lget cuts z1)) → (simfs_FS_Arm_p s2 (lget cuts z1) keep (fun (q3 : S_simfs_FS) => ((inR .i64 (z1 + (1 : Int))) ∧ (u9 (z1 + (1 : Int)) q3))))))) ∧ ((u7 = false) → (u9 z1 s2))))) ∧ (((z1 < (cuts.length : Int)) → (u6 (decide (z6 < (2 : Int))))) ∧ ((¬ (z1 < (cuts.length : Int))) → (u6 false))))))) ∧ ((u4 = false) → (simfs_FS_Off_p u5 (fun (s4 : S_simfs_FS) (r4 : Bool) => (∃ t0 : S_simfs_FS → Prop, (∀ (r5 : S_simfs_FS), t0 r5 → (journal_Recover_p r5 (ByteArray.mk #[46, 106]) (fun (q4 : S_simfs_FS) (t1 : Int) => ((inR .i64 t1) → (((¬ (t1 = (0 : Int))) → Q false) ∧ ((t1 = (0 : Int)) → (rectolaw6_all_p q4 (ByteArray.mk #[46, 106]) (fun (q5 : S_simfs_FS) (t2 : (List S_rectolaw6_file)) (r6 : Bool) => ((t2.length ≤ 9223372036854775807) → (journal_Idle_p q5 (ByteArray.mk #[46, 106]) (fun (q6 : S_simfs_FS) (k6 : Bool) (t3 : Int) => ((inR .i64 t3) → (∃ y8 : Bool → Prop, (∀ (t4 : Bool), y8 t4 → (((t4 = true) → Q false) ∧ ((t4 = false) → (∃ t5 : Bool → Prop, (∀ (t6 : Bool), t5 t6 → (∃ t7 : (List S_rectolaw6_file) → Prop, (∀ (y3 : (List S_rectolaw6_file)), t7 y3 → (y3.length ≤ 9223372036854775807) → (simfs_FS_Ops_p q6 (fun (q7 : S_simfs_FS) (r7 : Int) => ((inR .i64 r7) → (∃ t8 : Bool → S_simfs_FS → Prop, (∀ (t9 : Bool) (r8 : S_simfs_FS), t8 t9 r8 → (((t9 = true) → Q false) ∧ ((t9 = false) → (v0 y3 z1 r8)))) ∧ (journal_Recover_p q7 (ByteArray.mk #[46, 106]) (fun (s5 : S_simfs_FS) (s0 : Int) => ((inR .i64 s0) → (((s0 = (0 : Int)) → (simfs_FS_Ops_p s5 (fun (q8 : S_simfs_FS) (r9 : Int) => ((inR .i64 r9) → (t8 (!decide (r9 = r7)) q8))))) ∧ ((¬ (s0 = (0 : Int))) → (t8 true s5))))))))))) ∧ (((t6 = true) → (t7 y5)) ∧ ((t6 = false) → (rectolaw6_same_p t2 z4 (fun (q0 : Bool) => ((((!q0) = true) → Q false) ∧ (((!q0) = false) → (t7 z4))))))))) ∧ (((z3 = (0 : Int)) → (rectolaw6_same_p t2 y5 (fun (k7 : Bool) => (t5 k7)))) ∧ ((¬ (z3 = (0 : Int))) → (t5 false))))))) ∧ (((r6 = true) → (((t3 = (0 : Int)) → (y8 (!k6))) ∧ ((¬ (t3 = (0 : Int))) → (y8 true)))) ∧ ((¬ (r6 = true)) → (y8 true)))))))))))))))) ∧ (((r4 = true) → (simfs_FS_On_p s4 (fun (q9 : S_simfs_FS) => (simfs_FS_Arm_p q9 (1000000 : Int) ([] : List Bool) (fun (k0 : S_simfs_FS) => (t0 k0)))))) ∧ ((r4 = false) → (t0 s4))))))))) ∧ (((z6 < (3 : Int)) → (simfs_FS_Off_p y7 (fun (k1 : S_simfs_FS) (k8 : Bool) => (u3 k8 k1)))) ∧ ((¬ (z6 < (3 : Int))) → (u3 false y7))))))))) ∧ (((z3 = (0 : Int)) → (v9 false)) ∧ ((¬ (z3 = (0 : Int))) → (v9 (!decide (z3 = (11 : Int)))))))))) ∧ (((v4 = true) → (v5 (11 : Int))) ∧ ((v4 = false) → (v5 y6))))) ∧ (((y6 = (0 : Int)) → (v3 (!k3))) ∧ ((¬ (y6 = (0 : Int))) → (v3 false)))))))))))))))))))) ∧ (((z2 < (cuts.length : Int)) → ((inL cuts z2) ∧ ((inR .u8 (lget cuts z2)) → (simfs_FS_Arm_p y4 (lget cuts z2) keep (fun (k2 : S_simfs_FS) => ((inR .i64 (z2 + (1 : Int))) ∧ (v2 (z2 + (1 : Int)) k2))))))) ∧ ((¬ (z2 < (cuts.length : Int))) → (v2 z2 y4)))))))))))) ∧ ((¬ (z0 < (rows.length : Int))) → Q true)))))))))))))))
set_option maxRecDepth 20000 in
set_option maxHeartbeats 4000000 in
theorem rectolaw6_JournalPlays_w {X : List Nat} {w : World} {rows : (List (List S_journal_Change))} {cuts : (List Int)} {keep : (List Bool)} {z7 : Option Addr} {z5 : Nat} {z8 : Option Addr} {z6 : Nat} {z9 : Option Addr} {y0 : Nat} {Q : Bool → Prop} (h07 : Old X w) (R2 : Sl (rSl r_journal_Change) X w z7 z5 rows) (R3 : Sl (rInt .u8) X w z8 z6 cuts) (R4 : Sl rBool X w z9 y0 keep) (hp : rectolaw6_JournalPlays_p rows cuts keep Q) :
  Calls Tryz.prog 6 #[(.slice z7 rows.length z5), (.slice z8 cuts.length z6), (.slice z9 keep.length y0)] w (Ret fun v w' => ∃ (b07 : Bool), Q b07 ∧ Evo [] w w' ∧ v = (.bool b07)) := by
 have hXo := h07
 have E0 : Evo [] w w := RB.refl _ _ _
 have hS : Sub X X := Sub.refl _
 unfold rectolaw6_JournalPlays_p at hp
 refine enter_ Tryz.func6 rfl 219 [(0, (.slice z7 rows.length z5)), (1, (.slice z8 cuts.length z6)), (2, (.slice z9 keep.length y0))] (by kernel_rfl) (fun Qe hQ => ?_)
 replace hp := hp (Sl.len R2) (Sl.len R3) (Sl.len R4)
 refine sr (fun _ f07 => pv (.bool false) ?_)
 refine nt f07 (seq_ (fun _ p07 => sr (fun _ Z07 => ?_)))
 refine sq (o_call 7 #[] rfl (x_call Tryz.call7 (by kernel_rfl)) (rectolaw6_known_w (X := [])  (Old.nil _) hp) ?_)
 rintro _ Y07 ⟨n07, hp, F5, rfl⟩
 have R5 := Step.of0 X F5
 refine pv (.bool (!n07)) ?_
 refine nt Z07 ?_
 refine cond_b (!n07) (by kernel_rfl) (fun o01 => ?_) (fun o01 => ?_)
 ·
  replace hp := hp.1 o01
  refine sr (fun _ V07 => pv (.bool false) ?_)
  refine nt V07 (wp_ret (then_ret ?_))
  have U07 := Evo.then0 E0 F5
  refine end_ret hQ (.bool false) (by kernel_rfl) ?_
  exact ⟨false, hp, U07, rfl⟩
 ·
  replace hp := hp.2 o01
  refine wp_skip (then_normal (p07 _ _ _ _ (seq_ (fun _ T07 => seq_ (fun _ R07 => ?_)))))
  refine ground_ ?_
  refine join_ 1099377410048 (fun lq o07 => lq = [(39, (.bool (decide (((rows.length : Int) > (10 : Int)) ∨ (((cuts.length : Int) > (30 : Int)) ∨ ((keep.length : Int) > (60 : Int)))))))] ∧ Y07 = o07) (fun Z09 F4 => ?_) ?_
  ·
   refine reg_ (pv (.slice z7 rows.length z5) ?_)
   refine pv (.int .i64 (rows.length : Int)) ?_
   by_cases R6 : (rows.length : Int) > (10 : Int)
   ·
    refine pw (.bool true) (x_dt (p := (rows.length : Int) > (10 : Int)) (by kernel_rfl) R6) ?_
    refine pv (.bool true) ?_
    refine no ?_
    refine no ?_
    refine no ?_
    refine pv (.bool true) ?_
    refine pv (.bool true) ?_
    refine no ?_
    refine no ?_
    refine no ?_
    refine pv (.bool true) ?_
    refine nil_ (then_normal (F4 _ _ _ ⟨[(39, (.bool (decide (((rows.length : Int) > (10 : Int)) ∨ (((cuts.length : Int) > (30 : Int)) ∨ ((keep.length : Int) > (60 : Int)))))))], fit_mk (fun _ _ => rfl) (by kernel_rfl) (vs_cons (Eq.trans (b := (.bool true)) (by kernel_rfl) (dec_t (iff_true_intro (Or.inl R6))).symm) vs_nil), rfl, rfl⟩))
   ·
    refine pw (.bool false) (x_df (p := (rows.length : Int) > (10 : Int)) (by kernel_rfl) R6) ?_
    refine pv (.bool false) ?_
    refine pv (.slice z8 cuts.length z6) ?_
    refine pv (.int .i64 (cuts.length : Int)) ?_
    by_cases F6 : (cuts.length : Int) > (30 : Int)
    ·
     refine pw (.bool true) (x_dt (p := (cuts.length : Int) > (30 : Int)) (by kernel_rfl) F6) ?_
     refine pv (.bool true) ?_
     refine pv (.bool true) ?_
     refine no ?_
     refine no ?_
     refine no ?_
     refine pv (.bool true) ?_
     refine nil_ (then_normal (F4 _ _ _ ⟨[(39, (.bool (decide (((rows.length : Int) > (10 : Int)) ∨ (((cuts.length : Int) > (30 : Int)) ∨ ((keep.length : Int) > (60 : Int)))))))], fit_mk (fun _ _ => rfl) (by kernel_rfl) (vs_cons (Eq.trans (b := (.bool true)) (by kernel_rfl) (dec_t ((or_iff_right R6).trans (iff_true_intro (Or.inl F6)))).symm) vs_nil), rfl, rfl⟩))
    ·
     refine pw (.bool false) (x_df (p := (cuts.length : Int) > (30 : Int)) (by kernel_rfl) F6) ?_
     refine pv (.bool false) ?_
     refine pv (.bool false) ?_
     refine pv (.slice z9 keep.length y0) ?_
     refine pv (.int .i64 (keep.length : Int)) ?_
     refine pv (.bool (decide ((keep.length : Int) > (60 : Int)))) ?_
     refine pv (.bool (decide ((keep.length : Int) > (60 : Int)))) ?_
     refine nil_ (then_normal (F4 _ _ _ ⟨[(39, (.bool (decide (((rows.length : Int) > (10 : Int)) ∨ (((cuts.length : Int) > (30 : Int)) ∨ ((keep.length : Int) > (60 : Int)))))))], fit_mk (fun _ _ => rfl) (by kernel_rfl) (vs_cons (Eq.trans (b := (.bool (decide ((keep.length : Int) > (60 : Int))))) (by kernel_rfl) (dec_d ((or_iff_right R6).trans ((or_iff_right F6).trans Iff.rfl))).symm) vs_nil), rfl, rfl⟩))
  ·
   rintro _ o07 Y09 ⟨rfl, hw⟩
   subst hw
   refine then_normal (R07 _ _ _ _ ?_)
   refine cond_d (((rows.length : Int) > (10 : Int)) ∨ (((cuts.length : Int) > (30 : Int)) ∨ ((keep.length : Int) > (60 : Int)))) (by kernel_rfl) (fun c01 => ?_) (fun c01 => ?_)
   ·
    replace hp := hp.1 c01
    refine sr (fun _ P07 => pv (.bool true) ?_)
    refine nt P07 (wp_ret (then_ret ?_))
    have N07 := Evo.then0 E0 F5
    refine end_ret hQ (.bool true) (by kernel_rfl) ?_
    exact ⟨true, hp, N07, rfl⟩
   ·
    replace hp := hp.2 c01
    refine wp_skip (then_normal (T07 _ _ _ _ (sr (fun _ M07 => ?_))))
    have B00 := Sl.step R2 R5
    have E00 := Sl.step R3 R5
    have F00 := Sl.step R4 R5
    have F7 := Old.step hXo R5
    have c07 := Evo.then0 E0 F5
    have e07 := Sub.trans hS (Step.up R5)
    refine sq (o_call 11 #[(.int .i64 (0 : Int))] rfl (x_call Tryz.call11 (by kernel_rfl)) (simfs_New_w (X := X) (quota := (0 : Int)) F7 (by decide : inR .i64 (0 : Int)) hp) ?_)
    rintro _ V09 ⟨a07, hp, L07, z2, i07, f4, rfl, a01⟩
    have K07 := MO.re a01 (Wr.trans a01.wr (Wr.nil [] _) c07.size)
    refine pv (.pointer (some ⟨z2, 0, none⟩)) ?_
    refine nt M07 (sr (fun _ J07 => pv (.slice none 0 0) ?_))
    refine nt J07 (sr (fun _ I07 => pv (.int .i64 (0 : Int)) ?_))
    refine nt I07 (seq_ (fun _ H07 => sr (fun _ G07 => pv (.int .i64 (0 : Int)) ?_)))
    refine nt G07 (wp_block ?_)
    have R7 := Sl.step B00 f4
    have R8 := Sl.step E00 f4
    have R9 := Sl.step F00 f4
    have O00 := Old.step F7 f4
    have C03 := Evo.then0 c07 (Step.evo f4)
    have e01 := Sub.trans e07 (Step.up f4)
    obtain ⟨B03, F8, i01, hp⟩ := hp
    refine loop_ 842498333348457493583344221469363458551160763204392887835498118976 (fun kq lq r7 => ∃ (v7 : List Nat) (z3 : (List S_rectolaw6_file)) (z4 : Int) (z0 : Int) (j2 : S_simfs_FS) (y5 : Option Addr) (y6 : Nat) (Z1 : List Nat), (lq = [(8, (.slice y5 z3.length y6)), (9, (.int .i64 z4)), (10, (.int .i64 z0))]) ∧ (kq = F8 z3 z4 z0 j2) ∧ (Evo [] w r7) ∧ (Old v7 r7) ∧ (Sub X v7) ∧ (Sl (rSl r_journal_Change) v7 r7 z7 z5 rows) ∧ (Sl (rInt .u8) v7 r7 z8 z6 cuts) ∧ (Sl rBool v7 r7 z9 y0 keep) ∧ (Sl r_rectolaw6_file v7 r7 y5 y6 z3) ∧ (MO o_simfs_FS 62 ([]) w.heap.size v7 r7 Z1 z2 j2) ∧ (inR .i64 z4) ∧ (inR .i64 z0) ∧ (B03 z3 z4 z0 j2)) (F8 ([] : List S_rectolaw6_file) (0 : Int) (0 : Int) a07) [(8, (.slice none ([] : List S_rectolaw6_file).length 0)), (9, (.int .i64 (0 : Int))), (10, (.int .i64 (0 : Int)))] (vs_cons (by kernel_rfl) (vs_cons (by kernel_rfl) (vs_cons (by kernel_rfl) vs_nil))) ⟨L07, ([] : List S_rectolaw6_file), (0 : Int), (0 : Int), a07, none, 0, i07, rfl, rfl, C03, O00, e01, R7, R8, R9, Sl.nil, K07, (by decide : inR .i64 (0 : Int)), (by decide : inR .i64 (0 : Int)), i01⟩ ?_
    rintro _ _ r7 V08 ⟨v7, z3, z4, z0, j2, y5, y6, Z1, rfl, rfl, Z2, S00, h01, o5, P0, P1, F9, E03, b3, b01, f01⟩ D07 p01
    replace hp := hp z3 z4 z0 j2 f01 (Sl.len F9) b3 b01
    refine seq_ (fun _ F03 => sr (fun _ O03 => pv (.int .i64 z0) ?_))
    refine pv (.slice z7 rows.length z5) ?_
    refine pv (.int .i64 (rows.length : Int)) ?_
    refine pv (.bool (decide (z0 < (rows.length : Int)))) ?_
    refine nt O03 ?_
    refine cond_d (z0 < (rows.length : Int)) (by kernel_rfl) (fun Z3 => ?_) (fun Z3 => ?_)
    ·
     replace hp := hp.1 Z3
     refine wp_skip (then_normal (F03 _ _ _ _ (seq_ (fun _ S03 => ?_))))
     obtain ⟨A03, Z01, hp⟩ := hp
     refine ground_ ?_
     refine join_ 842498333348457493583344221469363458551160763204392749297033018176 (fun lq r8 => ∃ (t9 : List Nat) (u7 : (List S_rectolaw6_file)) (u9 : Int) (l8 : S_simfs_FS) (l9 : Option Addr) (m0 : Nat) (Z4 : List Nat), (lq = [(8, (.slice l9 u7.length m0)), (9, (.int .i64 u9))]) ∧ (Evo [] w r8) ∧ (Old t9 r8) ∧ (Sub X t9) ∧ (Sl (rSl r_journal_Change) t9 r8 z7 z5 rows) ∧ (Sl (rInt .u8) t9 r8 z8 z6 cuts) ∧ (Sl rBool t9 r8 z9 y0 keep) ∧ (Sl r_rectolaw6_file t9 r8 l9 m0 u7) ∧ (MO o_simfs_FS 62 ([]) w.heap.size t9 r8 Z4 z2 l8) ∧ (inR .i64 u9) ∧ (A03 u7 u9 l8)) (fun C07 P2 => ?_) ?_
     ·
      refine wp_block (seq_ (fun _ W03 => sr (fun _ z04 => pv (.slice z7 rows.length z5) ?_)))
      refine pv (.int .i64 z0) ?_
      obtain ⟨O0, hp⟩ := hp
      obtain ⟨y04, v04, B07, Y01, E07, F07, V01, U01⟩ := Sl.atI o5 z0 O0
      obtain ⟨P3, P4, rfl, P5⟩ := V01
      replace hp := hp (Sl.len P5)
      refine pw (.pointer (some ⟨y04, v04 + z0.toNat * 1, none⟩)) (x_ixA (m := rows.length) (c := z5) (k := .i64) (i := z0) Tryz.underlying48 Tryz.sizeOf22 (by rw [← Y01]; kernel_rfl) (by kernel_rfl) O0) ?_
      refine pw (.slice P3 ((lget rows z0).length) P4) (x_load1 (by kernel_rfl) Tryz.isAgg22 (U01 0 _ rfl)) ?_
      refine sq (o_call 8 #[(.slice P3 (lget rows z0).length P4)] rfl (x_call Tryz.call8 (by rw []; kernel_rfl)) (rectolaw6_few_w (X := []) (l := lget rows z0) (Old.nil _) (Sl.less P5 (Sub.nil _)) hp) ?_)
      rintro _ U08 ⟨O1, hp, Z5, rfl⟩
      have j3 := Step.of0 v7 Z5
      refine pv (.bool (!O1)) ?_
      refine nt z04 ?_
      refine cond_b (!O1) (by kernel_rfl) (fun Z6 => ?_) (fun Z6 => ?_)
      ·
       replace hp := hp.1 Z6
       refine sr (fun _ u04 => pv (.bool true) ?_)
       refine nt u04 (wp_ret (then_ret (blk_ret (then_ret (then_ret (then_ret (blk_ret (then_ret ?_))))))))
       have t04 := Evo.then0 Z2 Z5
       refine end_ret hQ (.bool true) (by kernel_rfl) ?_
       exact ⟨true, hp, t04, rfl⟩
      ·
       replace hp := hp.2 Z6
       refine wp_skip (then_normal (W03 _ _ _ _ (seq_ (fun _ s04 => sr (fun _ r04 => pv (.int .i64 z4) ?_)))))
       refine pv (.slice z8 cuts.length z6) ?_
       refine pv (.int .i64 (cuts.length : Int)) ?_
       refine pv (.bool (decide (z4 < (cuts.length : Int)))) ?_
       refine nt r04 ?_
       have Z7 := Evo.then0 Z2 Z5
       have n9 := Old.step S00 j3
       have P6 := Sub.trans h01 (Step.up j3)
       have o6 := Sl.step o5 j3
       have g5 := Sl.step P0 j3
       have g6 := Sl.step P1 j3
       have O2 := Sl.step F9 j3
       have e8 := MO.step0 E03 j3
       obtain ⟨q04, T01, hp⟩ := hp
       refine ground_ ?_
       refine join_ 147429837401600557568 (fun lq r9 => ∃ (v8 : List Nat) (v0 : Int) (m1 : S_simfs_FS) (O3 : List Nat), (lq = [(9, (.int .i64 v0))]) ∧ (Evo [] w r9) ∧ (Old v8 r9) ∧ (Sub X v8) ∧ (Sl (rSl r_journal_Change) v8 r9 z7 z5 rows) ∧ (Sl (rInt .u8) v8 r9 z8 z6 cuts) ∧ (Sl rBool v8 r9 z9 y0 keep) ∧ (Sl r_rectolaw6_file v8 r9 y5 y6 z3) ∧ (MO o_simfs_FS 62 ([]) w.heap.size v8 r9 O3 z2 m1) ∧ (inR .i64 v0) ∧ (q04 v0 m1)) (fun O07 P7 => ?_) ?_
       ·
        refine cond_d (z4 < (cuts.length : Int)) (by kernel_rfl) (fun Z8 => ?_) (fun Z8 => ?_)
        ·
         replace hp := hp.1 Z8
         refine sr (fun _ k04 => pv (.pointer (some ⟨z2, 0, none⟩)) ?_)
         refine pv (.slice z8 cuts.length z6) ?_
         refine pv (.int .i64 z4) ?_
         obtain ⟨O4, hp⟩ := hp
         obtain ⟨j04, g04, S07, R01, A07, W07, P01, N01⟩ := Sl.atI g5 z4 O4
         obtain ⟨rfl, P8⟩ := P01
         replace hp := hp P8
         refine pw (.pointer (some ⟨j04, g04 + z4.toNat * 1, none⟩)) (x_ixA (m := cuts.length) (c := z6) (k := .i64) (i := z4) Tryz.underlying32 Tryz.sizeOf5 (by rw [← R01]; kernel_rfl) (by kernel_rfl) O4) ?_
         refine pw (.int .u8 (lget cuts z4)) (x_load1 (by kernel_rfl) Tryz.isAgg5 (N01 0 _ rfl)) ?_
         have O5 : inR .i64 (lget cuts z4) := inR_up (by decide) (by decide) P8
         refine pw (.int .i64 (lget cuts z4)) (x_conv (k := .u8) Tryz.underlying5 Tryz.underlying3 (by kernel_rfl) (wrap_inR O5)) ?_
         refine pv (.slice z9 keep.length y0) ?_
         refine sq (o_call 15 #[(.pointer (some ⟨z2, 0, none⟩)), (.int .i64 (lget cuts z4)), (.slice z9 keep.length y0)] rfl (x_call Tryz.call15 (by kernel_rfl)) (simfs_FS_Arm_w (X := v7) (f_ := j2) (n_ := lget cuts z4) (keep := keep) n9 (MO.re e8 (Wr.self _ _ (Sub.refl _))) O5 g6 hp) ?_)
         rintro _ T08 ⟨M01, hp, d04, l04, j4, rfl, O6⟩
         have m04 := MO.re O6 (Wr.trans O6.wr e8.wr Z7.size)
         refine nt k04 (reg_ (pv (.int .i64 z4) ?_))
         obtain ⟨O7, hp⟩ := hp
         refine pw (.int .i64 (z4 + (1 : Int))) (x_add2 (k := .i64) (a := z4) (b := (1 : Int)) (z4 + (1 : Int)) (by kernel_rfl) (by kernel_rfl) (wrap_inR O7)) ?_
         refine pv (.int .i64 (z4 + (1 : Int))) ?_
         refine nil_ ?_
         have n04 := Evo.thenW Z7 (Step.evo j4) e8.wr
         have A00 := Old.step n9 j4
         have L01 := Sub.trans P6 (Step.up j4)
         have P9 := Sl.step o6 j4
         have N0 := Sl.step g5 j4
         have N1 := Sl.step g6 j4
         have o04 := Sl.step O2 j4
         refine then_normal (P7 _ _ _ ⟨[(9, (.int .i64 (z4 + (1 : Int))))], fit_mk (fun _ _ => rfl) (by kernel_rfl) (vs_cons (by kernel_rfl) vs_nil), ?_⟩)
         exact ⟨d04, (z4 + (1 : Int)), M01, l04, rfl, n04, A00, L01, P9, N0, N1, o04, m04, O7, hp⟩
        ·
         replace hp := hp.2 Z8
         refine wp_skip (then_normal (P7 _ _ _ ⟨[(9, (.int .i64 z4))], fit_mk (fun _ _ => rfl) (by kernel_rfl) (vs_cons (by kernel_rfl) vs_nil), ?_⟩))
         exact ⟨v7, z4, j2, Z1, rfl, Z7, n9, P6, o6, g5, g6, O2, e8, b3, hp⟩
       ·
        rintro _ r9 R08 ⟨v8, v0, m1, O3, rfl, c04, f5, K01, o7, N2, N3, O8, a04, l6, J01⟩
        replace hp := T01 v0 m1 J01 l6
        refine then_normal (s04 _ _ _ _ (sr (fun _ e04 => pv (.slice y5 z3.length y6) ?_)))
        refine pv (.slice z7 rows.length z5) ?_
        refine pv (.int .i64 z0) ?_
        obtain ⟨O9, hp⟩ := hp
        obtain ⟨i04, h04, z08, I01, y08, v08, H01, G01⟩ := Sl.atI o7 z0 O9
        obtain ⟨N4, N5, rfl, N6⟩ := H01
        replace hp := hp (Sl.len N6)
        refine pw (.pointer (some ⟨i04, h04 + z0.toNat * 1, none⟩)) (x_ixA (m := rows.length) (c := z5) (k := .i64) (i := z0) Tryz.underlying48 Tryz.sizeOf22 (by rw [← I01]; kernel_rfl) (by kernel_rfl) O9) ?_
        refine pw (.slice N4 ((lget rows z0).length) N5) (x_load1 (by kernel_rfl) Tryz.isAgg22 (G01 0 _ rfl)) ?_
        refine sq (o_call 10 #[(.slice y5 z3.length y6), (.slice N4 (lget rows z0).length N5)] rfl (x_call Tryz.call10 (by rw []; kernel_rfl)) (rectolaw6_after_w (X := v8) (a := z3) (l := lget rows z0) f5 O8 N6 hp) ?_)
        rintro _ P08 ⟨y4, q0, hp, S0, y1, y2, rfl, N7⟩
        have j5 := Step.of0 v8 S0
        replace hp := hp (Sl.len N7)
        refine pv (.tuple #[(.slice y1 y4.length y2), (.bool q0)]) ?_
        refine pv (.slice y1 y4.length y2) ?_
        refine pv (.bool q0) ?_
        refine pv (.slice y1 y4.length y2) ?_
        refine pv (.bool q0) ?_
        refine nt e04 (sr (fun _ b04 => pv (.pointer (some ⟨z2, 0, none⟩)) ?_))
        refine pv (.slice z7 rows.length z5) ?_
        refine pv (.int .i64 z0) ?_
        obtain ⟨S2, hp⟩ := hp
        have o8 := Sl.step o7 j5
        obtain ⟨f04, p04, u08, D01, t08, s08, C01, B01⟩ := Sl.atI o8 z0 S2
        obtain ⟨N8, N9, rfl, M0⟩ := C01
        replace hp := hp (Sl.len M0)
        refine pw (.pointer (some ⟨f04, p04 + z0.toNat * 1, none⟩)) (x_ixA (m := rows.length) (c := z5) (k := .i64) (i := z0) Tryz.underlying48 Tryz.sizeOf22 (by rw [← D01]; kernel_rfl) (by kernel_rfl) S2) ?_
        refine pw (.slice N8 ((lget rows z0).length) N9) (x_load1 (by kernel_rfl) Tryz.isAgg22 (B01 0 _ rfl)) ?_
        have S3 := Evo.then0 c04 S0
        have f6 := Old.step f5 j5
        have E01 := Sub.trans K01 (Step.up j5)
        have M1 := Sl.step N2 j5
        have M2 := Sl.step N3 j5
        have Z04 := Sl.step O8 j5
        have Z9 := MO.step0 a04 j5
        refine sq (o_call 12 #[(.pointer (some ⟨z2, 0, none⟩)), (.string (ByteArray.mk #[46, 106])), (.slice N8 (lget rows z0).length N9)] rfl (x_call Tryz.call12 (by rw []; kernel_rfl)) (journal_Do_w (X := v8) (f_ := m1) (dir := (ByteArray.mk #[46, 106])) (l := lget rows z0) f6 (MO.re Z9 (Wr.self _ _ (Sub.refl _))) (by decide : (ByteArray.mk #[46, 106]).size ≤ maxLen) M0 hp) ?_)
        rintro _ N08 ⟨r6, v1, hp, Y0, m2, q1, rfl, S4, F01⟩
        have Y04 := MO.re S4 (Wr.trans S4.wr Z9.wr S3.size)
        replace hp := hp F01
        refine pv (.int .i64 v1) ?_
        refine nt b04 (sr (fun _ V04 => pv (.slice z7 rows.length z5) ?_))
        refine pv (.int .i64 z0) ?_
        obtain ⟨S5, hp⟩ := hp
        have o9 := Sl.step o8 q1
        obtain ⟨U04, T04, r08, O01, q08, k08, S01, A01⟩ := Sl.atI o9 z0 S5
        obtain ⟨M3, M4, rfl, M5⟩ := S01
        replace hp := hp (Sl.len M5)
        refine pw (.pointer (some ⟨U04, T04 + z0.toNat * 1, none⟩)) (x_ixA (m := rows.length) (c := z5) (k := .i64) (i := z0) Tryz.underlying48 Tryz.sizeOf22 (by rw [← O01]; kernel_rfl) (by kernel_rfl) S5) ?_
        refine pw (.slice M3 ((lget rows z0).length) M4) (x_load1 (by kernel_rfl) Tryz.isAgg22 (A01 0 _ rfl)) ?_
        refine sq (o_call 9 #[(.string (ByteArray.mk #[46, 106])), (.slice M3 (lget rows z0).length M4)] rfl (x_call Tryz.call9 (by rw []; kernel_rfl)) (rectolaw6_wrong_w (X := []) (dir := (ByteArray.mk #[46, 106])) (l := lget rows z0) (Old.nil _) (by decide : (ByteArray.mk #[46, 106]).size ≤ maxLen) (Sl.less M5 (Sub.nil _)) hp) ?_)
        rintro _ M08 ⟨j6, hp, S6, rfl, M6⟩
        have q2 := Step.of0 Y0 S6
        replace hp := hp M6
        refine pv (.int .i64 j6) ?_
        refine nt V04 (seq_ (fun _ R04 => seq_ (fun _ P04 => ?_)))
        have S7 := Evo.then0 (Evo.thenW S3 (Step.evo q1) Z9.wr) S6
        have f7 := Old.step (Old.step f6 q1) q2
        have M7 := Sub.trans (Sub.trans E01 (Step.up q1)) (Step.up q2)
        have c0 := Sl.step o9 q2
        have c1 := Sl.step (Sl.step M1 q1) q2
        have c2 := Sl.step (Sl.step M2 q1) q2
        have S8 := Sl.step (Sl.step Z04 q1) q2
        have M8 := Sl.step (Sl.step N7 q1) q2
        have S9 := MO.step0 Y04 q2
        obtain ⟨N04, W01, hp⟩ := hp
        refine ground_ ?_
        refine join_ 9748777809372369664830603264 (fun lq s0 => ∃ (v9 : List Nat) (m3 : Bool), (lq = [(92, (.bool m3))]) ∧ (Evo [] w s0) ∧ (Old v9 s0) ∧ (Sub X v9) ∧ (Sl (rSl r_journal_Change) v9 s0 z7 z5 rows) ∧ (Sl (rInt .u8) v9 s0 z8 z6 cuts) ∧ (Sl rBool v9 s0 z9 y0 keep) ∧ (Sl r_rectolaw6_file v9 s0 y5 y6 z3) ∧ (Sl r_rectolaw6_file v9 s0 y1 y2 y4) ∧ (MO o_simfs_FS 62 ([]) w.heap.size v9 s0 m2 z2 r6) ∧ (N04 m3)) (fun j08 M9 => ?_) ?_
        ·
         refine reg_ (pv (.int .i64 j6) ?_)
         by_cases e9 : j6 = (0 : Int)
         ·
          replace hp := hp.1 e9
          refine pw (.bool true) (x_dt (p := j6 = (0 : Int)) (by kernel_rfl) e9) ?_
          refine pv (.bool true) ?_
          refine pv (.bool q0) ?_
          refine pv (.bool (!q0)) ?_
          refine pv (.bool (!q0)) ?_
          refine nil_ (then_normal (M9 _ _ _ ⟨[(92, (.bool (!q0)))], fit_mk (fun _ _ => rfl) (by kernel_rfl) (vs_cons (by kernel_rfl) vs_nil), ?_⟩))
          exact ⟨Y0, (!q0), rfl, S7, f7, M7, c0, c1, c2, S8, M8, S9, hp⟩
         ·
          replace hp := hp.2 e9
          refine pw (.bool false) (x_df (p := j6 = (0 : Int)) (by kernel_rfl) e9) ?_
          refine pv (.bool false) ?_
          refine no ?_
          refine no ?_
          refine pv (.bool false) ?_
          refine nil_ (then_normal (M9 _ _ _ ⟨[(92, (.bool false))], fit_mk (fun _ _ => rfl) (by kernel_rfl) (vs_cons (by kernel_rfl) vs_nil), ?_⟩))
          exact ⟨Y0, false, rfl, S7, f7, M7, c0, c1, c2, S8, M8, S9, hp⟩
        ·
         rintro _ s0 L08 ⟨v9, m3, rfl, A0, f8, L0, c3, c4, c5, A1, L1, A2, z02⟩
         replace hp := W01 m3 z02
         refine then_normal (P04 _ _ _ _ ?_)
         obtain ⟨M04, y02, hp⟩ := hp
         refine ground_ ?_
         refine join_ 16384 (fun lq s1 => ∃ (v3 : List Nat) (y3 : Int), (lq = [(14, (.int .i64 y3))]) ∧ (Evo [] w s1) ∧ (Old v3 s1) ∧ (Sub X v3) ∧ (Sl (rSl r_journal_Change) v3 s1 z7 z5 rows) ∧ (Sl (rInt .u8) v3 s1 z8 z6 cuts) ∧ (Sl rBool v3 s1 z9 y0 keep) ∧ (Sl r_rectolaw6_file v3 s1 y5 y6 z3) ∧ (Sl r_rectolaw6_file v3 s1 y1 y2 y4) ∧ (MO o_simfs_FS 62 ([]) w.heap.size v3 s1 m2 z2 r6) ∧ (inR .i64 y3) ∧ (M04 y3)) (fun g08 L2 => ?_) ?_
         ·
          refine cond_b m3 (by kernel_rfl) (fun Y1 => ?_) (fun Y1 => ?_)
          ·
           replace hp := hp.1 Y1
           refine reg_ (pv (.int .i64 (11 : Int)) ?_)
           refine nil_ (then_normal (L2 _ _ _ ⟨[(14, (.int .i64 (11 : Int)))], fit_mk (fun _ _ => rfl) (by kernel_rfl) (vs_cons (by kernel_rfl) vs_nil), ?_⟩))
           exact ⟨v9, (11 : Int), rfl, A0, f8, L0, c3, c4, c5, A1, L1, A2, (by decide : inR .i64 (11 : Int)), hp⟩
          ·
           replace hp := hp.2 Y1
           refine wp_skip (then_normal (L2 _ _ _ ⟨[(14, (.int .i64 j6))], fit_mk (fun _ _ => rfl) (by kernel_rfl) (vs_cons (by kernel_rfl) vs_nil), ?_⟩))
           exact ⟨v9, j6, rfl, A0, f8, L0, c3, c4, c5, A1, L1, A2, M6, hp⟩
         ·
          rintro _ s1 K08 ⟨v3, y3, rfl, m4, d6, m5, q3, q4, q5, Y2, b4, i0, W00, v02⟩
          replace hp := y02 y3 v02 W00
          refine then_normal (R04 _ _ _ _ (seq_ (fun _ L04 => sr (fun _ K04 => pv (.int .i64 v1) ?_))))
          refine pv (.bool (!decide (v1 = (13 : Int)))) ?_
          refine nt K04 ?_
          refine cond_nd (v1 = (13 : Int)) (by kernel_rfl) (fun Y3 => ?_) (fun Y3 => ?_)
          ·
           replace hp := hp.1 Y3
           refine seq_ (fun _ J04 => sr (fun _ I04 => pv (.int .i64 v1) ?_))
           refine pv (.int .i64 y3) ?_
           refine pv (.bool (!decide (v1 = y3))) ?_
           refine nt I04 ?_
           refine cond_nd (v1 = y3) (by kernel_rfl) (fun Y4 => ?_) (fun Y4 => ?_)
           ·
            replace hp := hp.1 Y4
            refine sr (fun _ H04 => pv (.bool false) ?_)
            refine nt H04 (wp_ret (then_ret (then_ret (blk_ret (then_ret (then_ret (then_ret (blk_ret (then_ret ?_)))))))))
            refine end_ret hQ (.bool false) (by kernel_rfl) ?_
            exact ⟨false, hp, m4, rfl⟩
           ·
            replace hp := hp.2 Y4
            refine wp_skip (then_normal (J04 _ _ _ _ (seq_ (fun _ G04 => sr (fun _ D04 => pv (.int .i64 v1) ?_)))))
            refine pv (.bool (decide (v1 = (0 : Int)))) ?_
            refine nt D04 ?_
            obtain ⟨C04, u02, hp⟩ := hp
            refine ground_ ?_
            refine join_ 1267650600228229401496703205632 (fun lq q6 => ∃ (s2 : List Nat) (y9 : (List S_rectolaw6_file)) (q7 : Option Addr) (q8 : Nat), (lq = [(8, (.slice q7 y9.length q8))]) ∧ (Evo [] w q6) ∧ (Old s2 q6) ∧ (Sub X s2) ∧ (Sl (rSl r_journal_Change) s2 q6 z7 z5 rows) ∧ (Sl (rInt .u8) s2 q6 z8 z6 cuts) ∧ (Sl rBool s2 q6 z9 y0 keep) ∧ (MO o_simfs_FS 62 ([]) w.heap.size s2 q6 m2 z2 r6) ∧ (Sl r_rectolaw6_file s2 q6 q7 q8 y9) ∧ (C04 y9)) (fun d08 L3 => ?_) ?_
            ·
             refine cond_d (v1 = (0 : Int)) (by kernel_rfl) (fun Y5 => ?_) (fun Y5 => ?_)
             ·
              replace hp := hp.1 Y5
              refine reg_ (pv (.slice y1 y4.length y2) ?_)
              refine pv (.slice y1 y4.length y2) ?_
              refine nil_ (then_normal (L3 _ _ _ ⟨[(8, (.slice y1 y4.length y2))], fit_mk (fun _ _ => rfl) (by kernel_rfl) (vs_cons (by kernel_rfl) vs_nil), ?_⟩))
              exact ⟨v3, y4, y1, y2, rfl, m4, d6, m5, q3, q4, q5, i0, b4, hp⟩
             ·
              replace hp := hp.2 Y5
              refine wp_skip (then_normal (L3 _ _ _ ⟨[(8, (.slice y5 z3.length y6))], fit_mk (fun _ _ => rfl) (by kernel_rfl) (vs_cons (by kernel_rfl) vs_nil), ?_⟩))
              exact ⟨v3, z3, y5, y6, rfl, m4, d6, m5, q3, q4, q5, i0, Y2, hp⟩
            ·
             rintro _ q6 J08 ⟨s2, y9, q7, q8, rfl, A3, f9, t02, L4, L5, L6, Y6, A4, s02⟩
             replace hp := u02 y9 s02 (Sl.len A4)
             refine then_normal (G04 _ _ _ _ (sr (fun _ B04 => pv (.pointer (some ⟨z2, 0, none⟩)) ?_)))
             refine sq (o_call 19 #[(.pointer (some ⟨z2, 0, none⟩)), (.string (ByteArray.mk #[46, 106]))] rfl (x_call Tryz.call19 (by kernel_rfl)) (journal_Idle_w (X := s2) (f_ := r6) (dir := (ByteArray.mk #[46, 106])) f9 (MO.re Y6 (Wr.self _ _ (Sub.refl _))) (by decide : (ByteArray.mk #[46, 106]).size ≤ maxLen) hp) ?_)
             rintro _ I08 ⟨r02, s3, j7, hp, E04, H08, j8, rfl, A5, q02⟩
             have Y7 := MO.re A5 (Wr.trans A5.wr Y6.wr A3.size)
             replace hp := hp q02
             refine pv (.tuple #[(.bool s3), (.int .i64 j7)]) ?_
             refine pv (.bool s3) ?_
             refine pv (.int .i64 j7) ?_
             refine pv (.bool s3) ?_
             refine pv (.int .i64 j7) ?_
             refine nt B04 (sr (fun _ F04 => pv (.pointer (some ⟨z2, 0, none⟩)) ?_))
             have A6 := Evo.thenW A3 (Step.evo j8) Y6.wr
             have p0 := Old.step f9 j8
             have k02 := Sub.trans t02 (Step.up j8)
             have L7 := Sl.step L4 j8
             have L8 := Sl.step L5 j8
             have L9 := Sl.step L6 j8
             have O04 := Sl.step A4 j8
             refine sq (o_call 13 #[(.pointer (some ⟨z2, 0, none⟩)), (.string (ByteArray.mk #[46, 106]))] rfl (x_call Tryz.call13 (by kernel_rfl)) (rectolaw6_all_w (X := E04) (f_ := r02) (dir := (ByteArray.mk #[46, 106])) p0 (MO.re Y7 (Wr.self _ _ (Sub.refl _))) (by decide : (ByteArray.mk #[46, 106]).size ≤ maxLen) hp) ?_)
             rintro _ G08 ⟨K0, d7, i1, hp, d8, A7, g7, g8, j9, rfl, A8, K1⟩
             have m6 := MO.re A8 (Wr.trans A8.wr Y7.wr A6.size)
             replace hp := hp (Sl.len K1)
             refine pv (.tuple #[(.slice g7 d7.length g8), (.bool i1)]) ?_
             refine pv (.slice g7 d7.length g8) ?_
             refine pv (.bool i1) ?_
             refine pv (.slice g7 d7.length g8) ?_
             refine pv (.bool i1) ?_
             refine nt F04 (seq_ (fun _ S04 => seq_ (fun _ A04 => ?_)))
             have m7 := Evo.thenW A6 (Step.evo j9) Y7.wr
             have j1 := Old.step p0 j9
             have g9 := Sub.trans k02 (Step.up j9)
             have t6 := Sl.step L7 j9
             have t7 := Sl.step L8 j9
             have t8 := Sl.step L9 j9
             have d9 := Sl.step O04 j9
             obtain ⟨W04, j02, hp⟩ := hp
             refine ground_ ?_
             refine join_ 2722256339219078440293182594205981081600 (fun lq q9 => ∃ (s4 : List Nat) (m8 : Bool), (lq = [(130, (.bool m8))]) ∧ (Evo [] w q9) ∧ (Old s4 q9) ∧ (Sub X s4) ∧ (Sl (rSl r_journal_Change) s4 q9 z7 z5 rows) ∧ (Sl (rInt .u8) s4 q9 z8 z6 cuts) ∧ (Sl rBool s4 q9 z9 y0 keep) ∧ (Sl r_rectolaw6_file s4 q9 q7 q8 y9) ∧ (MO o_simfs_FS 62 ([]) w.heap.size s4 q9 A7 z2 K0) ∧ (W04 m8)) (fun l08 d0 => ?_) ?_
             ·
              refine reg_ (pv (.int .i64 j7) ?_)
              by_cases i2 : j7 = (0 : Int)
              ·
               replace hp := hp.1 i2
               refine pw (.bool false) (x_ndf (p := j7 = (0 : Int)) (by kernel_rfl) i2) ?_
               refine pv (.bool false) ?_
               by_cases i3 : i1 = true
               ·
                replace hp := hp.1 i3
                refine pw (.bool true) (x_bt (by kernel_rfl) i3) ?_
                refine pv (.bool false) ?_
                refine pv (.bool false) ?_
                refine pv (.bool false) ?_
                refine pv (.slice g7 d7.length g8) ?_
                refine pv (.slice q7 y9.length q8) ?_
                refine sq (o_call 14 #[(.slice g7 d7.length g8), (.slice q7 y9.length q8)] (by kernel_rfl) (x_call Tryz.call14 (by kernel_rfl)) (rectolaw6_same_w (X := []) (a := d7) (b := y9) (Old.nil _) (Sl.less K1 (Sub.nil _)) (Sl.less d9 (Sub.nil _)) hp) ?_)
                rintro _ D08 ⟨z05, hp, i4, rfl⟩
                have y8 := Step.of0 d8 i4
                cases z05
                ·
                 replace hp := hp.2 rfl
                 refine pv (.bool true) ?_
                 refine pv (.bool true) ?_
                 refine pv (.bool true) ?_
                 refine no ?_
                 refine no ?_
                 refine no ?_
                 refine no ?_
                 refine no ?_
                 refine no ?_
                 refine pv (.bool true) ?_
                 refine nil_ ?_
                 have y05 := Evo.then0 m7 i4
                 have z01 := Old.step j1 y8
                 have g02 := Sub.trans g9 (Step.up y8)
                 have K2 := Sl.step t6 y8
                 have K3 := Sl.step t7 y8
                 have K4 := Sl.step t8 y8
                 have v05 := Sl.step d9 y8
                 have u05 := MO.step0 m6 y8
                 refine then_normal (d0 _ _ _ ⟨[(130, (.bool true))], fit_mk (fun _ _ => rfl) (by kernel_rfl) (vs_cons (by kernel_rfl) vs_nil), ?_⟩)
                 exact ⟨d8, true, rfl, y05, z01, g02, K2, K3, K4, v05, u05, hp⟩
                ·
                 replace hp := hp.1 rfl
                 refine pv (.bool false) ?_
                 refine pv (.bool false) ?_
                 refine pv (.bool false) ?_
                 refine pv (.int .i64 v1) ?_
                 by_cases i5 : v1 = (0 : Int)
                 ·
                  replace hp := hp.1 i5
                  refine pw (.bool true) (x_dt (p := v1 = (0 : Int)) (by kernel_rfl) i5) ?_
                  refine pv (.bool true) ?_
                  refine pv (.bool s3) ?_
                  refine pv (.bool (!s3)) ?_
                  refine pv (.bool (!s3)) ?_
                  refine pv (.bool (!s3)) ?_
                  refine nil_ ?_
                  have t05 := Evo.then0 m7 i4
                  have y01 := Old.step j1 y8
                  have d02 := Sub.trans g9 (Step.up y8)
                  have K5 := Sl.step t6 y8
                  have K6 := Sl.step t7 y8
                  have K7 := Sl.step t8 y8
                  have s05 := Sl.step d9 y8
                  have r05 := MO.step0 m6 y8
                  refine then_normal (d0 _ _ _ ⟨[(130, (.bool (!s3)))], fit_mk (fun _ _ => rfl) (by kernel_rfl) (vs_cons (by kernel_rfl) vs_nil), ?_⟩)
                  exact ⟨d8, (!s3), rfl, t05, y01, d02, K5, K6, K7, s05, r05, hp⟩
                 ·
                  replace hp := hp.2 i5
                  refine pw (.bool false) (x_df (p := v1 = (0 : Int)) (by kernel_rfl) i5) ?_
                  refine pv (.bool false) ?_
                  refine no ?_
                  refine no ?_
                  refine pv (.bool false) ?_
                  refine pv (.bool false) ?_
                  refine nil_ ?_
                  have q05 := Evo.then0 m7 i4
                  have v01 := Old.step j1 y8
                  have l02 := Sub.trans g9 (Step.up y8)
                  have K8 := Sl.step t6 y8
                  have K9 := Sl.step t7 y8
                  have J0 := Sl.step t8 y8
                  have k05 := Sl.step d9 y8
                  have j05 := MO.step0 m6 y8
                  refine then_normal (d0 _ _ _ ⟨[(130, (.bool false))], fit_mk (fun _ _ => rfl) (by kernel_rfl) (vs_cons (by kernel_rfl) vs_nil), ?_⟩)
                  exact ⟨d8, false, rfl, q05, v01, l02, K8, K9, J0, k05, j05, hp⟩
               ·
                replace hp := hp.2 i3
                refine pw (.bool false) (x_bf (by kernel_rfl) i3) ?_
                refine pv (.bool true) ?_
                refine pv (.bool true) ?_
                refine pv (.bool true) ?_
                refine no ?_
                refine no ?_
                refine no ?_
                refine no ?_
                refine pv (.bool true) ?_
                refine pv (.bool true) ?_
                refine no ?_
                refine no ?_
                refine no ?_
                refine no ?_
                refine no ?_
                refine no ?_
                refine pv (.bool true) ?_
                refine nil_ (then_normal (d0 _ _ _ ⟨[(130, (.bool true))], fit_mk (fun _ _ => rfl) (by kernel_rfl) (vs_cons (by kernel_rfl) vs_nil), ?_⟩))
                exact ⟨d8, true, rfl, m7, j1, g9, t6, t7, t8, d9, m6, hp⟩
              ·
               replace hp := hp.2 i2
               refine pw (.bool true) (x_ndt (p := j7 = (0 : Int)) (by kernel_rfl) i2) ?_
               refine pv (.bool true) ?_
               refine no ?_
               refine no ?_
               refine pv (.bool true) ?_
               refine pv (.bool true) ?_
               refine no ?_
               refine no ?_
               refine no ?_
               refine no ?_
               refine pv (.bool true) ?_
               refine pv (.bool true) ?_
               refine no ?_
               refine no ?_
               refine no ?_
               refine no ?_
               refine no ?_
               refine no ?_
               refine pv (.bool true) ?_
               refine nil_ (then_normal (d0 _ _ _ ⟨[(130, (.bool true))], fit_mk (fun _ _ => rfl) (by kernel_rfl) (vs_cons (by kernel_rfl) vs_nil), ?_⟩))
               exact ⟨d8, true, rfl, m7, j1, g9, t6, t7, t8, d9, m6, hp⟩
             ·
              rintro _ q9 C08 ⟨s4, m8, rfl, A9, u01, m02, J1, J2, J3, g05, d05, n02⟩
              replace hp := j02 m8 n02
              refine then_normal (A04 _ _ _ _ ?_)
              refine cond_b m8 (by kernel_rfl) (fun Y8 => ?_) (fun Y8 => ?_)
              ·
               replace hp := hp.1 Y8
               refine sr (fun _ l05 => pv (.bool false) ?_)
               refine nt l05 (wp_ret (then_ret (then_ret (blk_ret (then_ret (then_ret (then_ret (blk_ret (then_ret ?_)))))))))
               refine end_ret hQ (.bool false) (by kernel_rfl) ?_
               exact ⟨false, hp, A9, rfl⟩
              ·
               replace hp := hp.2 Y8
               refine wp_skip (then_normal (S04 _ _ _ _ ?_))
               refine wp_exit ?_
               refine then_exit (blk_exit (then_normal (P2 _ _ _ ⟨[(8, (.slice q7 y9.length q8)), (9, (.int .i64 v0))], fit_mk (AgB.nest (AgB.look (AgB.nest (AgB.look (AgB.nest (AgB.look (AgB.nest (AgB.look (AgB.nest (AgB.look (fun _ _ => rfl) (by kernel_rfl)) (by kernel_rfl) (by kernel_rfl)) (by kernel_rfl)) (by kernel_rfl) (by kernel_rfl)) (by kernel_rfl)) (by kernel_rfl) (by kernel_rfl)) (by kernel_rfl)) (by kernel_rfl) (by kernel_rfl)) (by kernel_rfl)) (by kernel_rfl) (by kernel_rfl)) (by kernel_rfl) (vs_cons (by kernel_rfl) (vs_cons (by kernel_rfl) vs_nil)), ?_⟩)))
               exact ⟨s4, y9, v0, K0, q7, q8, A7, rfl, A9, u01, m02, J1, J2, J3, g05, d05, l6, hp⟩
          ·
           replace hp := hp.2 Y3
           refine wp_skip (then_normal (L04 _ _ _ _ (seq_ (fun _ m05 => seq_ (fun _ n05 => ?_)))))
           obtain ⟨o05, o02, hp⟩ := hp
           refine ground_ ?_
           refine join_ 171502312928152985585540802145611178573824 (fun lq s5 => ∃ (t1 : List Nat) (m9 : Bool), (lq = [(136, (.bool m9))]) ∧ (Evo [] w s5) ∧ (Old t1 s5) ∧ (Sub X t1) ∧ (Sl (rSl r_journal_Change) t1 s5 z7 z5 rows) ∧ (Sl (rInt .u8) t1 s5 z8 z6 cuts) ∧ (Sl rBool t1 s5 z9 y0 keep) ∧ (Sl r_rectolaw6_file t1 s5 y5 y6 z3) ∧ (Sl r_rectolaw6_file t1 s5 y1 y2 y4) ∧ (MO o_simfs_FS 62 ([]) w.heap.size t1 s5 m2 z2 r6) ∧ (o05 m9)) (fun m08 J4 => ?_) ?_
           ·
            refine reg_ (pv (.int .i64 y3) ?_)
            by_cases i6 : y3 = (0 : Int)
            ·
             replace hp := hp.1 i6
             refine pw (.bool false) (x_ndf (p := y3 = (0 : Int)) (by kernel_rfl) i6) ?_
             refine pv (.bool false) ?_
             refine no ?_
             refine no ?_
             refine pv (.bool false) ?_
             refine nil_ (then_normal (J4 _ _ _ ⟨[(136, (.bool false))], fit_mk (fun _ _ => rfl) (by kernel_rfl) (vs_cons (by kernel_rfl) vs_nil), ?_⟩))
             exact ⟨v3, false, rfl, m4, d6, m5, q3, q4, q5, Y2, b4, i0, hp⟩
            ·
             replace hp := hp.2 i6
             refine pw (.bool true) (x_ndt (p := y3 = (0 : Int)) (by kernel_rfl) i6) ?_
             refine pv (.bool true) ?_
             refine pv (.int .i64 y3) ?_
             refine pv (.bool (!decide (y3 = (11 : Int)))) ?_
             refine pv (.bool (!decide (y3 = (11 : Int)))) ?_
             refine nil_ (then_normal (J4 _ _ _ ⟨[(136, (.bool (!decide (y3 = (11 : Int)))))], fit_mk (fun _ _ => rfl) (by kernel_rfl) (vs_cons (by kernel_rfl) vs_nil), ?_⟩))
             exact ⟨v3, (!decide (y3 = (11 : Int))), rfl, m4, d6, m5, q3, q4, q5, Y2, b4, i0, hp⟩
           ·
            rintro _ s5 B08 ⟨t1, m9, rfl, W0, t01, c02, J5, J6, J7, c05, a02, a05, e02⟩
            replace hp := o02 m9 e02
            refine then_normal (n05 _ _ _ _ ?_)
            refine cond_b m9 (by kernel_rfl) (fun Y9 => ?_) (fun Y9 => ?_)
            ·
             replace hp := hp.1 Y9
             refine sr (fun _ e05 => pv (.bool false) ?_)
             refine nt e05 (wp_ret (then_ret (blk_ret (then_ret (then_ret (then_ret (blk_ret (then_ret ?_))))))))
             refine end_ret hQ (.bool false) (by kernel_rfl) ?_
             exact ⟨false, hp, W0, rfl⟩
            ·
             replace hp := hp.2 Y9
             refine wp_skip (then_normal (m05 _ _ _ _ (seq_ (fun _ i05 => sr (fun _ h05 => pv (.int .i64 (0 : Int)) ?_)))))
             refine nt h05 (wp_block ?_)
             obtain ⟨b05, W1, i02, hp⟩ := hp
             refine loop_ 187072209404131001666551165294436427510894041760256 (fun kq lq s6 => ∃ (u1 : List Nat) (z1 : Int) (y7 : Int) (g0 : S_simfs_FS) (V0 : List Nat), (lq = [(9, (.int .i64 z1)), (19, (.int .i64 y7))]) ∧ (kq = W1 z1 y7 g0) ∧ (Evo [] w s6) ∧ (Old u1 s6) ∧ (Sub X u1) ∧ (Sl (rSl r_journal_Change) u1 s6 z7 z5 rows) ∧ (Sl (rInt .u8) u1 s6 z8 z6 cuts) ∧ (Sl rBool u1 s6 z9 y0 keep) ∧ (Sl r_rectolaw6_file u1 s6 y5 y6 z3) ∧ (Sl r_rectolaw6_file u1 s6 y1 y2 y4) ∧ (MO o_simfs_FS 62 ([]) w.heap.size u1 s6 V0 z2 g0) ∧ (inR .i64 z1) ∧ (inR .i64 y7) ∧ (b05 z1 y7 g0)) (W1 v0 (0 : Int) r6) [(9, (.int .i64 v0)), (19, (.int .i64 (0 : Int)))] (vs_cons (by kernel_rfl) (vs_cons (by kernel_rfl) vs_nil)) ⟨t1, v0, (0 : Int), r6, m2, rfl, rfl, W0, t01, c02, J5, J6, J7, c05, a02, a05, l6, (by decide : inR .i64 (0 : Int)), i02⟩ ?_
             rintro _ _ s6 E08 ⟨u1, z1, y7, g0, V0, rfl, rfl, V1, o0, J8, c6, c7, c8, W2, J9, i7, l7, h02, b02⟩ n08 f02
             replace hp := hp z1 y7 g0 b02 l7 h02
             refine seq_ (fun _ f05 => seq_ (fun _ p05 => ?_))
             obtain ⟨Z05, p02, hp⟩ := hp
             refine ground_ ?_
             refine join_ 10976148027401791077474611337319115428724736 (fun lq s7 => ∃ (u2 : List Nat) (n0 : Bool) (l0 : S_simfs_FS) (W3 : List Nat), (lq = [(142, (.bool n0))]) ∧ (Evo [] w s7) ∧ (Old u2 s7) ∧ (Sub X u2) ∧ (Sl (rSl r_journal_Change) u2 s7 z7 z5 rows) ∧ (Sl (rInt .u8) u2 s7 z8 z6 cuts) ∧ (Sl rBool u2 s7 z9 y0 keep) ∧ (Sl r_rectolaw6_file u2 s7 y5 y6 z3) ∧ (Sl r_rectolaw6_file u2 s7 y1 y2 y4) ∧ (MO o_simfs_FS 62 ([]) w.heap.size u2 s7 W3 z2 l0) ∧ (Z05 n0 l0)) (fun o08 I0 => ?_) ?_
             ·
              refine reg_ (pv (.int .i64 y7) ?_)
              by_cases i9 : y7 < (3 : Int)
              ·
               replace hp := hp.1 i9
               refine pw (.bool true) (x_dt (p := y7 < (3 : Int)) (by kernel_rfl) i9) ?_
               refine pv (.bool true) ?_
               refine pv (.pointer (some ⟨z2, 0, none⟩)) ?_
               refine sq (o_call 20 #[(.pointer (some ⟨z2, 0, none⟩))] (by kernel_rfl) (x_call Tryz.call20 (by kernel_rfl)) (simfs_FS_Off_w (X := u1) (f_ := g0) o0 (MO.re i7 (Wr.self _ _ (Sub.refl _))) hp) ?_)
               rintro _ F08 ⟨Z02, V2, hp, Y05, V05, k0, rfl, W4⟩
               have U05 := MO.re W4 (Wr.trans W4.wr i7.wr V1.size)
               refine pv (.bool V2) ?_
               refine nil_ ?_
               have T05 := Evo.thenW V1 (Step.evo k0) i7.wr
               have s01 := Old.step o0 k0
               have Y02 := Sub.trans J8 (Step.up k0)
               have I1 := Sl.step c6 k0
               have I2 := Sl.step c7 k0
               have I3 := Sl.step c8 k0
               have R05 := Sl.step W2 k0
               have V02 := Sl.step J9 k0
               refine then_normal (I0 _ _ _ ⟨[(142, (.bool V2))], fit_mk (fun _ _ => rfl) (by kernel_rfl) (vs_cons (by kernel_rfl) vs_nil), ?_⟩)
               exact ⟨Y05, V2, Z02, V05, rfl, T05, s01, Y02, I1, I2, I3, R05, V02, U05, hp⟩
              ·
               replace hp := hp.2 i9
               refine pw (.bool false) (x_df (p := y7 < (3 : Int)) (by kernel_rfl) i9) ?_
               refine pv (.bool false) ?_
               refine no ?_
               refine no ?_
               refine pv (.bool false) ?_
               refine nil_ (then_normal (I0 _ _ _ ⟨[(142, (.bool false))], fit_mk (fun _ _ => rfl) (by kernel_rfl) (vs_cons (by kernel_rfl) vs_nil), ?_⟩))
               exact ⟨u1, false, g0, V0, rfl, V1, o0, J8, c6, c7, c8, W2, J9, i7, hp⟩
             ·
              rintro _ s7 O08 ⟨u2, n0, l0, W3, rfl, h0, l1, I4, c9, a0, a1, W5, I5, l2, U02⟩
              replace hp := p02 n0 l0 U02
              refine then_normal (p05 _ _ _ _ ?_)
              refine cond_b n0 (by kernel_rfl) (fun V3 => ?_) (fun V3 => ?_)
              ·
               replace hp := hp.1 V3
               refine wp_skip (then_normal (f05 _ _ _ _ (seq_ (fun _ P05 => wp_block (sr (fun _ N05 => pv (.pointer (some ⟨z2, 0, none⟩)) ?_))))))
               refine sq (o_call 17 #[(.pointer (some ⟨z2, 0, none⟩))] rfl (x_call Tryz.call17 (by kernel_rfl)) (simfs_FS_On_w (X := u2) (f_ := l0) l1 (MO.re l2 (Wr.self _ _ (Sub.refl _))) hp) ?_)
               rintro _ S08 ⟨b5, hp, W6, W7, k1, rfl, W8⟩
               have W9 := MO.re W8 (Wr.trans W8.wr l2.wr h0.size)
               refine nt N05 (seq_ (fun _ M05 => seq_ (fun _ L05 => ?_)))
               have z00 := Evo.thenW h0 (Step.evo k1) l2.wr
               have p1 := Old.step l1 k1
               have I6 := Sub.trans I4 (Step.up k1)
               have a2 := Sl.step c9 k1
               have a3 := Sl.step a0 k1
               have a4 := Sl.step a1 k1
               have y00 := Sl.step W5 k1
               have I7 := Sl.step I5 k1
               obtain ⟨K05, T02, hp⟩ := hp
               refine ground_ ?_
               refine join_ 45493520205002471208732865276202657472200048640 (fun lq s8 => ∃ (u3 : List Nat) (n1 : Bool), (lq = [(154, (.bool n1))]) ∧ (Evo [] w s8) ∧ (Old u3 s8) ∧ (Sub X u3) ∧ (Sl (rSl r_journal_Change) u3 s8 z7 z5 rows) ∧ (Sl (rInt .u8) u3 s8 z8 z6 cuts) ∧ (Sl rBool u3 s8 z9 y0 keep) ∧ (Sl r_rectolaw6_file u3 s8 y5 y6 z3) ∧ (Sl r_rectolaw6_file u3 s8 y1 y2 y4) ∧ (MO o_simfs_FS 62 ([]) w.heap.size u3 s8 W7 z2 b5) ∧ (K05 n1)) (fun c08 I8 => ?_) ?_
               ·
                refine reg_ (pv (.int .i64 z1) ?_)
                refine pv (.slice z8 cuts.length z6) ?_
                refine pv (.int .i64 (cuts.length : Int)) ?_
                by_cases h1 : z1 < (cuts.length : Int)
                ·
                 replace hp := hp.1 h1
                 refine pw (.bool true) (x_dt (p := z1 < (cuts.length : Int)) (by kernel_rfl) h1) ?_
                 refine pv (.bool true) ?_
                 refine pv (.int .i64 y7) ?_
                 refine pv (.bool (decide (y7 < (2 : Int)))) ?_
                 refine pv (.bool (decide (y7 < (2 : Int)))) ?_
                 refine nil_ (then_normal (I8 _ _ _ ⟨[(154, (.bool (decide (y7 < (2 : Int)))))], fit_mk (fun _ _ => rfl) (by kernel_rfl) (vs_cons (by kernel_rfl) vs_nil), ?_⟩))
                 exact ⟨W6, (decide (y7 < (2 : Int))), rfl, z00, p1, I6, a2, a3, a4, y00, I7, W9, hp⟩
                ·
                 replace hp := hp.2 h1
                 refine pw (.bool false) (x_df (p := z1 < (cuts.length : Int)) (by kernel_rfl) h1) ?_
                 refine pv (.bool false) ?_
                 refine no ?_
                 refine no ?_
                 refine pv (.bool false) ?_
                 refine nil_ (then_normal (I8 _ _ _ ⟨[(154, (.bool false))], fit_mk (fun _ _ => rfl) (by kernel_rfl) (vs_cons (by kernel_rfl) vs_nil), ?_⟩))
                 exact ⟨W6, false, rfl, z00, p1, I6, a2, a3, a4, y00, I7, W9, hp⟩
               ·
                rintro _ s8 A08 ⟨u3, n1, rfl, V4, o1, I9, a5, d1, d2, v00, H0, h2, R02⟩
                replace hp := T02 n1 R02
                refine then_normal (L05 _ _ _ _ ?_)
                obtain ⟨J05, P02, hp⟩ := hp
                refine ground_ ?_
                refine join_ 46722380468422302666324049495898672784625593483776 (fun lq s9 => ∃ (t2 : List Nat) (t0 : Int) (n2 : S_simfs_FS) (u00 : List Nat), (lq = [(9, (.int .i64 t0))]) ∧ (Evo [] w s9) ∧ (Old t2 s9) ∧ (Sub X t2) ∧ (Sl (rSl r_journal_Change) t2 s9 z7 z5 rows) ∧ (Sl (rInt .u8) t2 s9 z8 z6 cuts) ∧ (Sl rBool t2 s9 z9 y0 keep) ∧ (Sl r_rectolaw6_file t2 s9 y5 y6 z3) ∧ (Sl r_rectolaw6_file t2 s9 y1 y2 y4) ∧ (MO o_simfs_FS 62 ([]) w.heap.size t2 s9 u00 z2 n2) ∧ (inR .i64 t0) ∧ (J05 t0 n2)) (fun a08 H1 => ?_) ?_
                ·
                 refine cond_b n1 (by kernel_rfl) (fun V5 => ?_) (fun V5 => ?_)
                 ·
                  replace hp := hp.1 V5
                  refine sr (fun _ I05 => pv (.pointer (some ⟨z2, 0, none⟩)) ?_)
                  refine pv (.slice z8 cuts.length z6) ?_
                  refine pv (.int .i64 z1) ?_
                  obtain ⟨t00, hp⟩ := hp
                  obtain ⟨H05, G05, e08, N02, i08, h08, M02, L02⟩ := Sl.atI d1 z1 t00
                  obtain ⟨rfl, H2⟩ := M02
                  replace hp := hp H2
                  refine pw (.pointer (some ⟨H05, G05 + z1.toNat * 1, none⟩)) (x_ixA (m := cuts.length) (c := z6) (k := .i64) (i := z1) Tryz.underlying32 Tryz.sizeOf5 (by rw [← N02]; kernel_rfl) (by kernel_rfl) t00) ?_
                  refine pw (.int .u8 (lget cuts z1)) (x_load1 (by kernel_rfl) Tryz.isAgg5 (L02 0 _ rfl)) ?_
                  have s00 : inR .i64 (lget cuts z1) := inR_up (by decide) (by decide) H2
                  refine pw (.int .i64 (lget cuts z1)) (x_conv (k := .u8) Tryz.underlying5 Tryz.underlying3 (by kernel_rfl) (wrap_inR s00)) ?_
                  refine pv (.slice z9 keep.length y0) ?_
                  refine sq (o_call 15 #[(.pointer (some ⟨z2, 0, none⟩)), (.int .i64 (lget cuts z1)), (.slice z9 keep.length y0)] rfl (x_call Tryz.call15 (by kernel_rfl)) (simfs_FS_Arm_w (X := u3) (f_ := b5) (n_ := lget cuts z1) (keep := keep) o1 (MO.re h2 (Wr.self _ _ (Sub.refl _))) s00 d2 hp) ?_)
                  rintro _ W08 ⟨K02, hp, D05, C05, k2, rfl, r00⟩
                  have B05 := MO.re r00 (Wr.trans r00.wr h2.wr V4.size)
                  refine nt I05 (reg_ (pv (.int .i64 z1) ?_))
                  obtain ⟨q00, hp⟩ := hp
                  refine pw (.int .i64 (z1 + (1 : Int))) (x_add2 (k := .i64) (a := z1) (b := (1 : Int)) (z1 + (1 : Int)) (by kernel_rfl) (by kernel_rfl) (wrap_inR q00)) ?_
                  refine pv (.int .i64 (z1 + (1 : Int))) ?_
                  refine nil_ ?_
                  have E05 := Evo.thenW V4 (Step.evo k2) h2.wr
                  have r01 := Old.step o1 k2
                  have J02 := Sub.trans I9 (Step.up k2)
                  have H3 := Sl.step a5 k2
                  have H4 := Sl.step d1 k2
                  have H5 := Sl.step d2 k2
                  have F05 := Sl.step v00 k2
                  have I02 := Sl.step H0 k2
                  refine then_normal (H1 _ _ _ ⟨[(9, (.int .i64 (z1 + (1 : Int))))], fit_mk (fun _ _ => rfl) (by kernel_rfl) (vs_cons (by kernel_rfl) vs_nil), ?_⟩)
                  exact ⟨D05, (z1 + (1 : Int)), K02, C05, rfl, E05, r01, J02, H3, H4, H5, F05, I02, B05, q00, hp⟩
                 ·
                  replace hp := hp.2 V5
                  refine wp_skip (then_normal (H1 _ _ _ ⟨[(9, (.int .i64 z1))], fit_mk (fun _ _ => rfl) (by kernel_rfl) (vs_cons (by kernel_rfl) vs_nil), ?_⟩))
                  exact ⟨u3, z1, b5, W7, rfl, V4, o1, I9, a5, d1, d2, v00, H0, h2, l7, hp⟩
                ·
                 rintro _ s9 z09 ⟨t2, t0, n2, u00, rfl, k00, p2, H02, H6, H7, H8, O05, G02, V6, b6, D02⟩
                 replace hp := P02 t0 n2 D02 b6
                 refine then_normal (M05 _ _ _ _ (reg_ (pv (.pointer (some ⟨z2, 0, none⟩)) ?_)))
                 refine sq (o_call 18 #[(.pointer (some ⟨z2, 0, none⟩)), (.string (ByteArray.mk #[46, 106]))] rfl (x_call Tryz.call18 (by kernel_rfl)) (journal_Recover_w (X := t2) (f_ := n2) (dir := (ByteArray.mk #[46, 106])) p2 (MO.re V6 (Wr.self _ _ (Sub.refl _))) (by decide : (ByteArray.mk #[46, 106]).size ≤ maxLen) hp) ?_)
                 rintro _ y09 ⟨C02, v09, hp, S05, A05, k3, rfl, j00, B02⟩
                 have W05 := MO.re j00 (Wr.trans j00.wr V6.wr k00.size)
                 replace hp := hp B02
                 refine nil_ (blk_normal (then_normal (P05 _ _ _ _ (reg_ (pv (.int .i64 y7) ?_)))))
                 obtain ⟨g00, hp⟩ := hp
                 refine pw (.int .i64 (y7 + (1 : Int))) (x_add2 (k := .i64) (a := y7) (b := (1 : Int)) (y7 + (1 : Int)) (by kernel_rfl) (by kernel_rfl) (wrap_inR g00)) ?_
                 refine pv (.int .i64 (y7 + (1 : Int))) ?_
                 refine nil_ ?_
                 have z06 := Evo.thenW k00 (Step.evo k3) V6.wr
                 have q01 := Old.step p2 k3
                 have E02 := Sub.trans H02 (Step.up k3)
                 have H9 := Sl.step H6 k3
                 have G0 := Sl.step H7 k3
                 have G1 := Sl.step H8 k3
                 have y06 := Sl.step O05 k3
                 have F02 := Sl.step G02 k3
                 refine then_normal (f02 _ _ _ ⟨_, [(9, (.int .i64 t0)), (19, (.int .i64 (y7 + (1 : Int))))], hp.2, fit_mk (AgB.nest (AgB.look (AgB.nest (AgB.look (AgB.nest (AgB.look (AgB.mix _ _ _) (by kernel_rfl)) (by kernel_rfl) (by kernel_rfl)) (by kernel_rfl)) (by kernel_rfl) (by kernel_rfl)) (by kernel_rfl)) (by kernel_rfl) (by kernel_rfl)) (by kernel_rfl) (vs_cons (by kernel_rfl) (vs_cons (by kernel_rfl) vs_nil)), ?_⟩)
                 exact ⟨S05, t0, (y7 + (1 : Int)), C02, A05, rfl, rfl, z06, q01, E02, H9, G0, G1, y06, F02, W05, b6, g00, hp.1⟩
              ·
               replace hp := hp.2 V3
               refine wp_exit ?_
               refine then_exit (then_exit (blk_exit (then_normal (i05 _ _ _ _ (seq_ (fun _ v06 => sr (fun _ u06 => pv (.pointer (some ⟨z2, 0, none⟩)) ?_)))))))
               refine sq (o_call 20 #[(.pointer (some ⟨z2, 0, none⟩))] rfl (x_call Tryz.call20 (by kernel_rfl)) (simfs_FS_Off_w (X := u2) (f_ := l0) l1 (MO.re l2 (Wr.self _ _ (Sub.refl _))) hp) ?_)
               rintro _ u09 ⟨G2, t06, hp, d00, s06, k4, rfl, l00⟩
               have h3 := MO.re l00 (Wr.trans l00.wr l2.wr h0.size)
               refine nt u06 ?_
               have V7 := Evo.thenW h0 (Step.evo k4) l2.wr
               have o2 := Old.step l1 k4
               have G3 := Sub.trans I4 (Step.up k4)
               have a6 := Sl.step c9 k4
               have a7 := Sl.step a0 k4
               have a8 := Sl.step a1 k4
               have m00 := Sl.step W5 k4
               have G4 := Sl.step I5 k4
               obtain ⟨r06, O02, hp⟩ := hp
               refine ground_ ?_
               refine join_ 11224332574701334411804299515261053590957561930055680 (fun lq r0 => ∃ (t3 : List Nat) (n3 : S_simfs_FS) (n00 : List Nat), (lq = []) ∧ (Evo [] w r0) ∧ (Old t3 r0) ∧ (Sub X t3) ∧ (Sl (rSl r_journal_Change) t3 r0 z7 z5 rows) ∧ (Sl (rInt .u8) t3 r0 z8 z6 cuts) ∧ (Sl rBool t3 r0 z9 y0 keep) ∧ (Sl r_rectolaw6_file t3 r0 y5 y6 z3) ∧ (Sl r_rectolaw6_file t3 r0 y1 y2 y4) ∧ (MO o_simfs_FS 62 ([]) w.heap.size t3 r0 n00 z2 n3) ∧ (r06 n3)) (fun b08 G5 => ?_) ?_
               ·
                refine cond_b t06 (by kernel_rfl) (fun V8 => ?_) (fun V8 => ?_)
                ·
                 replace hp := hp.1 V8
                 refine sr (fun _ q06 => pv (.pointer (some ⟨z2, 0, none⟩)) ?_)
                 refine sq (o_call 17 #[(.pointer (some ⟨z2, 0, none⟩))] rfl (x_call Tryz.call17 (by kernel_rfl)) (simfs_FS_On_w (X := d00) (f_ := G2) o2 (MO.re h3 (Wr.self _ _ (Sub.refl _))) hp) ?_)
                 rintro _ t09 ⟨S02, hp, k06, s09, k5, rfl, o00⟩
                 have V9 := MO.re o00 (Wr.trans o00.wr h3.wr V7.size)
                 refine nt q06 (reg_ (pv (.pointer (some ⟨z2, 0, none⟩)) ?_))
                 have c00 := Evo.thenW V7 (Step.evo k5) h3.wr
                 have p3 := Old.step o2 k5
                 have A02 := Sub.trans G3 (Step.up k5)
                 have G6 := Sl.step a6 k5
                 have G7 := Sl.step a7 k5
                 have G8 := Sl.step a8 k5
                 have j06 := Sl.step m00 k5
                 have W02 := Sl.step G4 k5
                 refine sq (o_call 15 #[(.pointer (some ⟨z2, 0, none⟩)), (.int .i64 (1000000 : Int)), (.slice none (([] : List Bool)).length 0)] rfl (x_call Tryz.call15 (by rw []; kernel_rfl)) (simfs_FS_Arm_w (X := k06) (f_ := S02) (n_ := (1000000 : Int)) (keep := ([] : List Bool)) p3 (MO.re V9 (Wr.self _ _ (Sub.refl _))) (by decide : inR .i64 (1000000 : Int)) Sl.nil hp) ?_)
                 rintro _ r09 ⟨z03, hp, g06, d06, k6, rfl, a00⟩
                 have l06 := MO.re a00 (Wr.trans a00.wr V9.wr c00.size)
                 refine nil_ ?_
                 have m06 := Evo.thenW c00 (Step.evo k6) V9.wr
                 have k01 := Old.step p3 k6
                 have y03 := Sub.trans A02 (Step.up k6)
                 have G9 := Sl.step G6 k6
                 have D0 := Sl.step G7 k6
                 have D1 := Sl.step G8 k6
                 have n06 := Sl.step j06 k6
                 have v03 := Sl.step W02 k6
                 refine then_normal (G5 _ _ _ ⟨[], fit_mk (fun _ _ => rfl) (by kernel_rfl) vs_nil, ?_⟩)
                 exact ⟨g06, z03, d06, rfl, m06, k01, y03, G9, D0, D1, n06, v03, l06, hp⟩
                ·
                 replace hp := hp.2 V8
                 refine wp_skip (then_normal (G5 _ _ _ ⟨[], fit_mk (fun _ _ => rfl) (by kernel_rfl) vs_nil, ?_⟩))
                 exact ⟨d00, G2, s06, rfl, V7, o2, G3, a6, a7, a8, m00, G4, h3, hp⟩
               ·
                rintro _ r0 q09 ⟨t3, n3, n00, rfl, U0, p4, u03, D2, D3, D4, o06, t03, h4, s03⟩
                replace hp := O02 n3 s03
                refine then_normal (v06 _ _ _ _ (seq_ (fun _ c06 => sr (fun _ a06 => pv (.pointer (some ⟨z2, 0, none⟩)) ?_))))
                refine sq (o_call 18 #[(.pointer (some ⟨z2, 0, none⟩)), (.string (ByteArray.mk #[46, 106]))] rfl (x_call Tryz.call18 (by kernel_rfl)) (journal_Recover_w (X := t3) (f_ := n3) (dir := (ByteArray.mk #[46, 106])) p4 (MO.re h4 (Wr.self _ _ (Sub.refl _))) (by decide : (ByteArray.mk #[46, 106]).size ≤ maxLen) hp) ?_)
                rintro _ k09 ⟨r03, e00, hp, e06, j09, r1, rfl, i00, q03⟩
                have U1 := MO.re i00 (Wr.trans i00.wr h4.wr U0.size)
                replace hp := hp q03
                refine pv (.bool (!decide (e00 = (0 : Int)))) ?_
                refine nt a06 ?_
                refine cond_nd (e00 = (0 : Int)) (by kernel_rfl) (fun U2 => ?_) (fun U2 => ?_)
                ·
                 replace hp := hp.1 U2
                 refine sr (fun _ i06 => pv (.bool false) ?_)
                 refine nt i06 (wp_ret (then_ret (blk_ret (then_ret (then_ret (then_ret (blk_ret (then_ret ?_))))))))
                 have h06 := Evo.thenW U0 (Step.evo r1) h4.wr
                 refine end_ret hQ (.bool false) (by kernel_rfl) ?_
                 exact ⟨false, hp, h06, rfl⟩
                ·
                 replace hp := hp.2 U2
                 refine wp_skip (then_normal (c06 _ _ _ _ (sr (fun _ b06 => pv (.pointer (some ⟨z2, 0, none⟩)) ?_))))
                 have h00 := Evo.thenW U0 (Step.evo r1) h4.wr
                 have p5 := Old.step p4 r1
                 have k03 := Sub.trans u03 (Step.up r1)
                 have D5 := Sl.step D2 r1
                 have D6 := Sl.step D3 r1
                 have D7 := Sl.step D4 r1
                 have f06 := Sl.step o06 r1
                 have j03 := Sl.step t03 r1
                 refine sq (o_call 13 #[(.pointer (some ⟨z2, 0, none⟩)), (.string (ByteArray.mk #[46, 106]))] rfl (x_call Tryz.call13 (by kernel_rfl)) (rectolaw6_all_w (X := e06) (f_ := r03) (dir := (ByteArray.mk #[46, 106])) p5 (MO.re U1 (Wr.self _ _ (Sub.refl _))) (by decide : (ByteArray.mk #[46, 106]).size ≤ maxLen) hp) ?_)
                 rintro _ g09 ⟨g03, u4, h5, hp, p06, d09, u5, u6, k7, rfl, b00, D8⟩
                 have U3 := MO.re b00 (Wr.trans b00.wr U1.wr h00.size)
                 replace hp := hp (Sl.len D8)
                 refine pv (.tuple #[(.slice u5 u4.length u6), (.bool h5)]) ?_
                 refine pv (.slice u5 u4.length u6) ?_
                 refine pv (.bool h5) ?_
                 refine pv (.slice u5 u4.length u6) ?_
                 refine pv (.bool h5) ?_
                 refine nt b06 (sr (fun _ Z06 => pv (.pointer (some ⟨z2, 0, none⟩)) ?_))
                 have f00 := Evo.thenW h00 (Step.evo k7) U1.wr
                 have p6 := Old.step p5 k7
                 have d03 := Sub.trans k03 (Step.up k7)
                 have D9 := Sl.step D5 k7
                 have C0 := Sl.step D6 k7
                 have C1 := Sl.step D7 k7
                 have Y06 := Sl.step f06 k7
                 have l03 := Sl.step j03 k7
                 refine sq (o_call 19 #[(.pointer (some ⟨z2, 0, none⟩)), (.string (ByteArray.mk #[46, 106]))] rfl (x_call Tryz.call19 (by kernel_rfl)) (journal_Idle_w (X := p06) (f_ := g03) (dir := (ByteArray.mk #[46, 106])) p6 (MO.re U3 (Wr.self _ _ (Sub.refl _))) (by decide : (ByteArray.mk #[46, 106]).size ≤ maxLen) hp) ?_)
                 rintro _ l09 ⟨n4, k8, g1, hp, U4, U5, r2, rfl, p00, m03⟩
                 have U6 := MO.re p00 (Wr.trans p00.wr U3.wr f00.size)
                 replace hp := hp m03
                 refine pv (.tuple #[(.bool k8), (.int .i64 g1)]) ?_
                 refine pv (.bool k8) ?_
                 refine pv (.int .i64 g1) ?_
                 refine pv (.bool k8) ?_
                 refine pv (.int .i64 g1) ?_
                 refine nt Z06 (seq_ (fun _ V06 => seq_ (fun _ U06 => ?_)))
                 have U7 := Evo.thenW f00 (Step.evo r2) U3.wr
                 have o3 := Old.step p6 r2
                 have b7 := Sub.trans d03 (Step.up r2)
                 have d3 := Sl.step D9 r2
                 have d4 := Sl.step C0 r2
                 have d5 := Sl.step C1 r2
                 have U8 := Sl.step Y06 r2
                 have b8 := Sl.step l03 r2
                 have b9 := Sl.step D8 r2
                 obtain ⟨T06, n03, hp⟩ := hp
                 refine ground_ ?_
                 refine join_ 100335548051571475334437696561585042869886087807604801667072 (fun lq t4 => ∃ (v4 : List Nat) (n5 : Bool), (lq = [(195, (.bool n5))]) ∧ (Evo [] w t4) ∧ (Old v4 t4) ∧ (Sub X v4) ∧ (Sl (rSl r_journal_Change) v4 t4 z7 z5 rows) ∧ (Sl (rInt .u8) v4 t4 z8 z6 cuts) ∧ (Sl rBool v4 t4 z9 y0 keep) ∧ (Sl r_rectolaw6_file v4 t4 y5 y6 z3) ∧ (Sl r_rectolaw6_file v4 t4 y1 y2 y4) ∧ (Sl r_rectolaw6_file v4 t4 u5 u6 u4) ∧ (MO o_simfs_FS 62 ([]) w.heap.size v4 t4 U5 z2 n4) ∧ (T06 n5)) (fun f08 f0 => ?_) ?_
                 ·
                  refine reg_ ?_
                  by_cases h6 : h5 = true
                  ·
                   replace hp := hp.1 h6
                   refine pw (.bool true) (x_bt (by kernel_rfl) h6) ?_
                   refine pv (.bool false) ?_
                   refine pv (.bool false) ?_
                   refine pv (.int .i64 g1) ?_
                   by_cases h7 : g1 = (0 : Int)
                   ·
                    replace hp := hp.1 h7
                    refine pw (.bool false) (x_ndf (p := g1 = (0 : Int)) (by kernel_rfl) h7) ?_
                    refine pv (.bool false) ?_
                    refine pv (.bool false) ?_
                    refine pv (.bool k8) ?_
                    refine pv (.bool (!k8)) ?_
                    refine pv (.bool (!k8)) ?_
                    refine nil_ (then_normal (f0 _ _ _ ⟨[(195, (.bool (!k8)))], fit_mk (fun _ _ => rfl) (by kernel_rfl) (vs_cons (by kernel_rfl) vs_nil), ?_⟩))
                    exact ⟨U4, (!k8), rfl, U7, o3, b7, d3, d4, d5, U8, b8, b9, U6, hp⟩
                   ·
                    replace hp := hp.2 h7
                    refine pw (.bool true) (x_ndt (p := g1 = (0 : Int)) (by kernel_rfl) h7) ?_
                    refine pv (.bool true) ?_
                    refine pv (.bool true) ?_
                    refine no ?_
                    refine no ?_
                    refine pv (.bool true) ?_
                    refine nil_ (then_normal (f0 _ _ _ ⟨[(195, (.bool true))], fit_mk (fun _ _ => rfl) (by kernel_rfl) (vs_cons (by kernel_rfl) vs_nil), ?_⟩))
                    exact ⟨U4, true, rfl, U7, o3, b7, d3, d4, d5, U8, b8, b9, U6, hp⟩
                  ·
                   replace hp := hp.2 h6
                   refine pw (.bool false) (x_bf (by kernel_rfl) h6) ?_
                   refine pv (.bool true) ?_
                   refine pv (.bool true) ?_
                   refine no ?_
                   refine no ?_
                   refine pv (.bool true) ?_
                   refine pv (.bool true) ?_
                   refine no ?_
                   refine no ?_
                   refine pv (.bool true) ?_
                   refine nil_ (then_normal (f0 _ _ _ ⟨[(195, (.bool true))], fit_mk (fun _ _ => rfl) (by kernel_rfl) (vs_cons (by kernel_rfl) vs_nil), ?_⟩))
                   exact ⟨U4, true, rfl, U7, o3, b7, d3, d4, d5, U8, b8, b9, U6, hp⟩
                 ·
                  rintro _ t4 m09 ⟨v4, n5, rfl, U9, p7, C2, a9, e0, e1, Z00, f1, f2, Y00, o03⟩
                  replace hp := n03 n5 o03
                  refine then_normal (U06 _ _ _ _ ?_)
                  refine cond_b n5 (by kernel_rfl) (fun T0 => ?_) (fun T0 => ?_)
                  ·
                   replace hp := hp.1 T0
                   refine sr (fun _ R06 => pv (.bool false) ?_)
                   refine nt R06 (wp_ret (then_ret (blk_ret (then_ret (then_ret (then_ret (blk_ret (then_ret ?_))))))))
                   refine end_ret hQ (.bool false) (by kernel_rfl) ?_
                   exact ⟨false, hp, U9, rfl⟩
                  ·
                   replace hp := hp.2 T0
                   refine wp_skip (then_normal (V06 _ _ _ _ (seq_ (fun _ P06 => seq_ (fun _ N06 => ?_)))))
                   obtain ⟨M06, c03, hp⟩ := hp
                   refine ground_ ?_
                   refine join_ 12755070726305735312114324107957978157519986263150918130204672 (fun lq t5 => ∃ (v5 : List Nat) (n6 : Bool), (lq = [(202, (.bool n6))]) ∧ (Evo [] w t5) ∧ (Old v5 t5) ∧ (Sub X v5) ∧ (Sl (rSl r_journal_Change) v5 t5 z7 z5 rows) ∧ (Sl (rInt .u8) v5 t5 z8 z6 cuts) ∧ (Sl rBool v5 t5 z9 y0 keep) ∧ (Sl r_rectolaw6_file v5 t5 y5 y6 z3) ∧ (Sl r_rectolaw6_file v5 t5 y1 y2 y4) ∧ (Sl r_rectolaw6_file v5 t5 u5 u6 u4) ∧ (MO o_simfs_FS 62 ([]) w.heap.size v5 t5 U5 z2 n4) ∧ (M06 n6)) (fun p08 C3 => ?_) ?_
                   ·
                    refine reg_ (pv (.int .i64 y3) ?_)
                    by_cases h8 : y3 = (0 : Int)
                    ·
                     replace hp := hp.1 h8
                     refine pw (.bool true) (x_dt (p := y3 = (0 : Int)) (by kernel_rfl) h8) ?_
                     refine pv (.bool true) ?_
                     refine pv (.slice u5 u4.length u6) ?_
                     refine pv (.slice y1 y4.length y2) ?_
                     refine sq (o_call 14 #[(.slice u5 u4.length u6), (.slice y1 y4.length y2)] (by kernel_rfl) (x_call Tryz.call14 (by kernel_rfl)) (rectolaw6_same_w (X := []) (a := u4) (b := y4) (Old.nil _) (Sl.less f2 (Sub.nil _)) (Sl.less f1 (Sub.nil _)) hp) ?_)
                     rintro _ n09 ⟨T1, hp, V00, rfl⟩
                     have r3 := Step.of0 v4 V00
                     refine pv (.bool T1) ?_
                     refine nil_ ?_
                     have L06 := Evo.then0 U9 V00
                     have j01 := Old.step p7 r3
                     have a03 := Sub.trans C2 (Step.up r3)
                     have C4 := Sl.step a9 r3
                     have C5 := Sl.step e0 r3
                     have C6 := Sl.step e1 r3
                     have K06 := Sl.step Z00 r3
                     have e03 := Sl.step f1 r3
                     have i03 := Sl.step f2 r3
                     have J06 := MO.step0 Y00 r3
                     refine then_normal (C3 _ _ _ ⟨[(202, (.bool T1))], fit_mk (fun _ _ => rfl) (by kernel_rfl) (vs_cons (by kernel_rfl) vs_nil), ?_⟩)
                     exact ⟨v4, T1, rfl, L06, j01, a03, C4, C5, C6, K06, e03, i03, J06, hp⟩
                    ·
                     replace hp := hp.2 h8
                     refine pw (.bool false) (x_df (p := y3 = (0 : Int)) (by kernel_rfl) h8) ?_
                     refine pv (.bool false) ?_
                     refine no ?_
                     refine no ?_
                     refine no ?_
                     refine pv (.bool false) ?_
                     refine nil_ (then_normal (C3 _ _ _ ⟨[(202, (.bool false))], fit_mk (fun _ _ => rfl) (by kernel_rfl) (vs_cons (by kernel_rfl) vs_nil), ?_⟩))
                     exact ⟨v4, false, rfl, U9, p7, C2, a9, e0, e1, Z00, f1, f2, Y00, hp⟩
                   ·
                    rintro _ t5 o09 ⟨v5, n6, rfl, T2, p8, C7, e2, e3, e4, U00, h03, b03, T00, f03⟩
                    replace hp := c03 n6 f03
                    refine then_normal (N06 _ _ _ _ ?_)
                    obtain ⟨I06, p03, hp⟩ := hp
                    refine ground_ ?_
                    refine join_ 398520634976229588334406598900608325425506342458132623154741568 (fun lq k9 => ∃ (r4 : List Nat) (v6 : (List S_rectolaw6_file)) (l3 : Option Addr) (l4 : Nat), (lq = [(8, (.slice l3 v6.length l4))]) ∧ (Evo [] w k9) ∧ (Old r4 k9) ∧ (Sub X r4) ∧ (Sl (rSl r_journal_Change) r4 k9 z7 z5 rows) ∧ (Sl (rInt .u8) r4 k9 z8 z6 cuts) ∧ (Sl rBool r4 k9 z9 y0 keep) ∧ (MO o_simfs_FS 62 ([]) w.heap.size r4 k9 U5 z2 n4) ∧ (Sl r_rectolaw6_file r4 k9 l3 l4 v6) ∧ (I06 v6)) (fun Z08 C8 => ?_) ?_
                    ·
                     refine cond_b n6 (by kernel_rfl) (fun T3 => ?_) (fun T3 => ?_)
                     ·
                      replace hp := hp.1 T3
                      refine reg_ (pv (.slice y1 y4.length y2) ?_)
                      refine pv (.slice y1 y4.length y2) ?_
                      refine nil_ (then_normal (C8 _ _ _ ⟨[(8, (.slice y1 y4.length y2))], fit_mk (fun _ _ => rfl) (by kernel_rfl) (vs_cons (by kernel_rfl) vs_nil), ?_⟩))
                      exact ⟨v5, y4, y1, y2, rfl, T2, p8, C7, e2, e3, e4, T00, h03, hp⟩
                     ·
                      replace hp := hp.2 T3
                      refine sr (fun _ H06 => pv (.slice u5 u4.length u6) ?_)
                      refine pv (.slice y5 z3.length y6) ?_
                      refine sq (o_call 14 #[(.slice u5 u4.length u6), (.slice y5 z3.length y6)] rfl (x_call Tryz.call14 (by kernel_rfl)) (rectolaw6_same_w (X := []) (a := u4) (b := z3) (Old.nil _) (Sl.less b03 (Sub.nil _)) (Sl.less U00 (Sub.nil _)) hp) ?_)
                      rintro _ c09 ⟨R00, hp, T4, rfl⟩
                      have g2 := Step.of0 v5 T4
                      refine pv (.bool (!R00)) ?_
                      refine nt H06 ?_
                      refine cond_b (!R00) (by kernel_rfl) (fun T5 => ?_) (fun T5 => ?_)
                      ·
                       replace hp := hp.1 T5
                       refine sr (fun _ G06 => pv (.bool false) ?_)
                       refine nt G06 (wp_ret (then_ret (then_ret (blk_ret (then_ret (then_ret (then_ret (blk_ret (then_ret ?_)))))))))
                       have D06 := Evo.then0 T2 T4
                       refine end_ret hQ (.bool false) (by kernel_rfl) ?_
                       exact ⟨false, hp, D06, rfl⟩
                      ·
                       replace hp := hp.2 T5
                       refine wp_skip ?_
                       have C06 := Evo.then0 T2 T4
                       have g01 := Old.step p8 g2
                       have Z03 := Sub.trans C7 (Step.up g2)
                       have C9 := Sl.step e2 g2
                       have B0 := Sl.step e3 g2
                       have B1 := Sl.step e4 g2
                       have B06 := MO.step0 T00 g2
                       have E06 := Sl.step U00 g2
                       refine then_normal (C8 _ _ _ ⟨[(8, (.slice y5 z3.length y6))], fit_mk (fun _ _ => rfl) (by kernel_rfl) (vs_cons (by kernel_rfl) vs_nil), ?_⟩)
                       exact ⟨v5, z3, y5, y6, rfl, C06, g01, Z03, C9, B0, B1, B06, E06, hp⟩
                    ·
                     rintro _ k9 a09 ⟨r4, v6, l3, l4, rfl, P00, p9, Y03, B2, B3, B4, T6, N00, V03⟩
                     replace hp := p03 v6 V03 (Sl.len N00)
                     refine then_normal (P06 _ _ _ _ (sr (fun _ F06 => pv (.pointer (some ⟨z2, 0, none⟩)) ?_)))
                     refine sq (o_call 21 #[(.pointer (some ⟨z2, 0, none⟩))] rfl (x_call Tryz.call21 (by kernel_rfl)) (simfs_FS_Ops_w (X := r4) (f_ := n4) p9 (MO.re T6 (Wr.self _ _ (Sub.refl _))) hp) ?_)
                     rintro _ e09 ⟨U03, l5, hp, O06, i09, g3, rfl, M00, T03⟩
                     have h9 := MO.re M00 (Wr.trans M00.wr T6.wr P00.size)
                     replace hp := hp T03
                     refine pv (.int .i64 l5) ?_
                     refine nt F06 (seq_ (fun _ S06 => ?_))
                     have T7 := Evo.thenW P00 (Step.evo g3) T6.wr
                     have o4 := Old.step p9 g3
                     have B5 := Sub.trans Y03 (Step.up g3)
                     have e5 := Sl.step B2 g3
                     have e6 := Sl.step B3 g3
                     have e7 := Sl.step B4 g3
                     have L00 := Sl.step N00 g3
                     obtain ⟨A06, R03, hp⟩ := hp
                     refine ground_ ?_
                     refine join_ 840852828791136287541189252286806108046178027338759310171139211264 (fun lq j0 => ∃ (r5 : List Nat) (n7 : Bool) (n8 : S_simfs_FS) (T8 : List Nat), (lq = [(218, (.bool n7))]) ∧ (Evo [] w j0) ∧ (Old r5 j0) ∧ (Sub X r5) ∧ (Sl (rSl r_journal_Change) r5 j0 z7 z5 rows) ∧ (Sl (rInt .u8) r5 j0 z8 z6 cuts) ∧ (Sl rBool r5 j0 z9 y0 keep) ∧ (Sl r_rectolaw6_file r5 j0 l3 l4 v6) ∧ (MO o_simfs_FS 62 ([]) w.heap.size r5 j0 T8 z2 n8) ∧ (A06 n7 n8)) (fun Y08 B6 => ?_) ?_
                     ·
                      refine reg_ (pv (.pointer (some ⟨z2, 0, none⟩)) ?_)
                      refine sq (o_call 18 #[(.pointer (some ⟨z2, 0, none⟩)), (.string (ByteArray.mk #[46, 106]))] rfl (x_call Tryz.call18 (by kernel_rfl)) (journal_Recover_w (X := O06) (f_ := U03) (dir := (ByteArray.mk #[46, 106])) o4 (MO.re h9 (Wr.self _ _ (Sub.refl _))) (by decide : (ByteArray.mk #[46, 106]).size ≤ maxLen) hp) ?_)
                      rintro _ h09 ⟨B7, T9, hp, K00, W06, v2, rfl, J00, P03⟩
                      have b0 := MO.re J00 (Wr.trans J00.wr h9.wr T7.size)
                      replace hp := hp P03
                      by_cases b1 : T9 = (0 : Int)
                      ·
                       replace hp := hp.1 b1
                       refine pw (.bool false) (x_ndf (p := T9 = (0 : Int)) (by kernel_rfl) b1) ?_
                       refine pv (.bool false) ?_
                       refine pv (.pointer (some ⟨z2, 0, none⟩)) ?_
                       have I00 := Evo.thenW T7 (Step.evo v2) h9.wr
                       have Z0 := Old.step o4 v2
                       have N03 := Sub.trans B5 (Step.up v2)
                       have B8 := Sl.step e5 v2
                       have B9 := Sl.step e6 v2
                       have E1 := Sl.step e7 v2
                       have z07 := Sl.step L00 v2
                       refine sq (o_call 21 #[(.pointer (some ⟨z2, 0, none⟩))] (by kernel_rfl) (x_call Tryz.call21 (by kernel_rfl)) (simfs_FS_Ops_w (X := K00) (f_ := B7) Z0 (MO.re b0 (Wr.self _ _ (Sub.refl _))) hp) ?_)
                       rintro _ b09 ⟨M03, b2, hp, y07, v07, g4, rfl, H00, L03⟩
                       have u07 := MO.re H00 (Wr.trans H00.wr b0.wr I00.size)
                       replace hp := hp L03
                       refine pv (.int .i64 l5) ?_
                       refine pv (.bool (!decide (b2 = l5))) ?_
                       refine pv (.bool (!decide (b2 = l5))) ?_
                       refine nil_ ?_
                       have t07 := Evo.thenW I00 (Step.evo g4) b0.wr
                       have d01 := Old.step Z0 g4
                       have K03 := Sub.trans N03 (Step.up g4)
                       have E2 := Sl.step B8 g4
                       have E3 := Sl.step B9 g4
                       have E4 := Sl.step E1 g4
                       have s07 := Sl.step z07 g4
                       refine then_normal (B6 _ _ _ ⟨[(218, (.bool (!decide (b2 = l5))))], fit_mk (fun _ _ => rfl) (by kernel_rfl) (vs_cons (by kernel_rfl) vs_nil), ?_⟩)
                       exact ⟨y07, (!decide (b2 = l5)), M03, v07, rfl, t07, d01, K03, E2, E3, E4, s07, u07, hp⟩
                      ·
                       replace hp := hp.2 b1
                       refine pw (.bool true) (x_ndt (p := T9 = (0 : Int)) (by kernel_rfl) b1) ?_
                       refine pv (.bool true) ?_
                       refine no ?_
                       refine no ?_
                       refine no ?_
                       refine no ?_
                       refine pv (.bool true) ?_
                       refine nil_ ?_
                       have r07 := Evo.thenW T7 (Step.evo v2) h9.wr
                       have l01 := Old.step o4 v2
                       have J03 := Sub.trans B5 (Step.up v2)
                       have E5 := Sl.step e5 v2
                       have E6 := Sl.step e6 v2
                       have E7 := Sl.step e7 v2
                       have q07 := Sl.step L00 v2
                       refine then_normal (B6 _ _ _ ⟨[(218, (.bool true))], fit_mk (fun _ _ => rfl) (by kernel_rfl) (vs_cons (by kernel_rfl) vs_nil), ?_⟩)
                       exact ⟨K00, true, B7, W06, rfl, r07, l01, J03, E5, E6, E7, q07, b0, hp⟩
                     ·
                      rintro _ j0 f09 ⟨r5, n7, n8, T8, rfl, G00, m01, I03, E8, E9, F0, k07, j07, H03⟩
                      replace hp := R03 n7 n8 H03
                      refine then_normal (S06 _ _ _ _ ?_)
                      refine cond_b n7 (by kernel_rfl) (fun R1 => ?_) (fun R1 => ?_)
                      ·
                       replace hp := hp.1 R1
                       refine sr (fun _ g07 => pv (.bool false) ?_)
                       refine nt g07 (wp_ret (blk_ret (then_ret (then_ret (then_ret (blk_ret (then_ret ?_)))))))
                       refine end_ret hQ (.bool false) (by kernel_rfl) ?_
                       exact ⟨false, hp, G00, rfl⟩
                      ·
                       replace hp := hp.2 R1
                       refine wp_skip (blk_normal (then_normal (P2 _ _ _ ⟨[(8, (.slice l3 v6.length l4)), (9, (.int .i64 z1))], fit_mk (AgB.nest (AgB.look (AgB.nest (AgB.look (AgB.nest (AgB.look (AgB.nest (AgB.look (AgB.nest (AgB.look (AgB.nest (AgB.look (AgB.nest (AgB.nest (AgB.look (AgB.nest (AgB.look (AgB.nest (AgB.look (AgB.nest (AgB.look (fun _ _ => rfl) (by kernel_rfl)) (by kernel_rfl) (by kernel_rfl)) (by kernel_rfl)) (by kernel_rfl) (by kernel_rfl)) (by kernel_rfl)) (by kernel_rfl) (by kernel_rfl)) (by kernel_rfl)) (by kernel_rfl) (by kernel_rfl)) (by kernel_rfl) (by kernel_rfl)) (by kernel_rfl)) (by kernel_rfl) (by kernel_rfl)) (by kernel_rfl)) (by kernel_rfl) (by kernel_rfl)) (by kernel_rfl)) (by kernel_rfl) (by kernel_rfl)) (by kernel_rfl)) (by kernel_rfl) (by kernel_rfl)) (by kernel_rfl)) (by kernel_rfl) (by kernel_rfl)) (by kernel_rfl)) (by kernel_rfl) (by kernel_rfl)) (by kernel_rfl) (vs_cons (by kernel_rfl) (vs_cons (by kernel_rfl) vs_nil)), ?_⟩)))
                       exact ⟨r5, v6, z1, n8, l3, l4, T8, rfl, G00, m01, I03, E8, E9, F0, k07, j07, l7, hp⟩
     ·
      rintro _ r8 p09 ⟨t9, u7, u9, l8, l9, m0, Z4, rfl, d07, n01, G03, F1, F2, F3, D00, l07, f3, D03⟩
      replace hp := Z01 u7 u9 l8 D03 (Sl.len D00) f3
      refine then_normal (S03 _ _ _ _ (reg_ (pv (.int .i64 z0) ?_)))
      obtain ⟨C00, hp⟩ := hp
      refine pw (.int .i64 (z0 + (1 : Int))) (x_add2 (k := .i64) (a := z0) (b := (1 : Int)) (z0 + (1 : Int)) (by kernel_rfl) (by kernel_rfl) (wrap_inR C00)) ?_
      refine pv (.int .i64 (z0 + (1 : Int))) ?_
      refine nil_ (then_normal (p01 _ _ _ ⟨_, [(8, (.slice l9 u7.length m0)), (9, (.int .i64 u9)), (10, (.int .i64 (z0 + (1 : Int))))], hp.2, fit_mk (AgB.nest (AgB.look (AgB.mix _ _ _) (by kernel_rfl)) (by kernel_rfl) (by kernel_rfl)) (by kernel_rfl) (vs_cons (by kernel_rfl) (vs_cons (by kernel_rfl) (vs_cons (by kernel_rfl) vs_nil))), ?_⟩))
      exact ⟨t9, u7, u9, (z0 + (1 : Int)), l8, l9, m0, Z4, rfl, rfl, d07, n01, G03, F1, F2, F3, D00, l07, f3, C00, hp.1⟩
    ·
     replace hp := hp.2 Z3
     refine wp_exit ?_
     refine then_exit (then_exit (blk_exit (then_normal (H07 _ _ _ _ (sr (fun _ m07 => pv (.bool true) ?_))))))
     refine nt m07 (wp_ret ?_)
     refine end_ret hQ (.bool true) (by kernel_rfl) ?_
     exact ⟨true, hp, Z2, rfl⟩
end Go.Proofs.YtlkfoebophjhfaaGreatDoor
