/- Walks of functions: what each asks and computes, as a plain predicate, and the contract from it. -/
import Derived.Test.YtlkfoebophjhfaaGreatDoorChecked
import Derived.Test.YtlkfoebophjhfaaGreatDoorJa10
namespace Go.Proofs.YtlkfoebophjhfaaGreatDoor
open Go
def rectolaw6_JournalWhole_p (n_ : Int) (cuts : (List Int)) (keep : (List Bool)) (Q : Bool → Prop) : Prop :=
 ((inR .u8 n_) → ((cuts.length ≤ 9223372036854775807) → ((keep.length ≤ 9223372036854775807) → (rectolaw6_known_p  (fun (u4 : Bool) => ((((!u4) = true) → Q false) ∧ (((!u4) = false) → (((((cuts.length : Int) > (12 : Int)) ∨ ((keep.length : Int) > (60 : Int))) → Q true) ∧ ((¬ (((cuts.length : Int) > (12 : Int)) ∨ ((keep.length : Int) > (60 : Int)))) → (simfs_New_p (0 : Int) (fun (u5 : S_simfs_FS) => ((inR .i64 ((2 : Int) + (n_ % (5 : Int)))) ∧ (∃ (y2 : Int → Int → S_simfs_FS → Prop) (v3 : Int → Int → S_simfs_FS → Nat), (y2 (0 : Int) (0 : Int) u5) ∧ (∀ (z7 : Int) (z4 : Int) (y3 : S_simfs_FS), (y2 z7 z4 y3) → (inR .u8 z7) → (inR .i64 z4) → (((z4 < (cuts.length : Int)) → ((inL cuts z4) ∧ ((inR .u8 (lget cuts z4)) → (simfs_FS_Arm_p y3 ((lget cuts z4) % (24 : Int)) keep (fun (v9 : S_simfs_FS) => (∃ y4 : Int → S_simfs_FS → Prop, (∀ (z8 : Int) (v4 : S_simfs_FS), y4 z8 v4 → (inR .u8 z8) → (simfs_FS_Cut_p v4 keep (fun (u1 : S_simfs_FS) => (simfs_FS_On_p u1 (fun (u2 : S_simfs_FS) => (journal_Recover_p u2 (ByteArray.mk #[46, 106]) (fun (u3 : S_simfs_FS) (y5 : Int) => ((inR .i64 y5) → (((¬ (y5 = (0 : Int))) → Q false) ∧ ((y5 = (0 : Int)) → (rectolaw6_all_p u3 (ByteArray.mk #[46, 106]) (fun (v2 : S_simfs_FS) (z0 : (List S_rectolaw6_file)) (v5 : Bool) => ((z0.length ≤ 9223372036854775807) → (∃ z9 : Bool → Prop, (∀ (y6 : Bool), z9 y6 → (((y6 = true) → Q false) ∧ ((y6 = false) → (∃ (y7 : Int → Prop) (v6 : Int → Nat), (y7 (1 : Int)) ∧ (∀ (z1 : Int), (y7 z1) → (inR .i64 z1) → (((z1 < (z0.length : Int)) → ((inL z0 z1) ∧ ((((lget z0 z1).path).size ≤ maxLen) → ((inR .i64 ((lget z0 z1).mode)) → ((((lget z0 z1).data).size ≤ maxLen) → ((inL z0 (0 : Int)) ∧ ((((lget z0 (0 : Int)).path).size ≤ maxLen) → ((inR .i64 ((lget z0 (0 : Int)).mode)) → ((((lget z0 (0 : Int)).data).size ≤ maxLen) → (((¬ (((lget z0 z1).data : ByteArray) = (lget z0 (0 : Int)).data)) → Q false) ∧ ((((lget z0 z1).data : ByteArray) = (lget z0 (0 : Int)).data) → ((inR .i64 (z1 + (1 : Int))) ∧ ((y7 (z1 + (1 : Int))) ∧ v6 (z1 + (1 : Int)) < v6 z1))))))))))))) ∧ ((¬ (z1 < (z0.length : Int))) → ((inR .i64 (z4 + (1 : Int))) ∧ ((y2 z8 (z4 + (1 : Int)) v2) ∧ v3 z8 (z4 + (1 : Int)) v2 < v3 z7 z4 y3))))))))) ∧ (((v5 = true) → ((((z0.length : Int) = (0 : Int)) → (z9 false)) ∧ ((¬ ((z0.length : Int) = (0 : Int))) → (z9 (!decide ((z0.length : Int) = ((2 : Int) + (n_ % (5 : Int))))))))) ∧ ((¬ (v5 = true)) → (z9 true))))))))))))))))) ∧ (∃ (y8 : Int → Int → S_simfs_FS → Prop) (v7 : Int → Int → S_simfs_FS → Nat), (y8 z7 (0 : Int) v9) ∧ (∀ (z5 : Int) (z2 : Int) (y0 : S_simfs_FS), (y8 z5 z2 y0) → (inR .u8 z5) → (inR .i64 z2) → (((z2 < (4 : Int)) → (∃ (y9 : (List S_journal_Change) → Int → Prop) (v8 : (List S_journal_Change) → Int → Nat), (y9 ([] : List S_journal_Change) (0 : Int)) ∧ (∀ (z6 : (List S_journal_Change)) (z3 : Int), (y9 z6 z3) → (z6.length ≤ 9223372036854775807) → (inR .i64 z3) → (((z3 < ((2 : Int) + (n_ % (5 : Int)))) → ((inR .i64 ((97 : Int) + z3)) ∧ ((((ByteArray.mk #[102]) ++ (strOfNums ([iwrap .u8 ((97 : Int) + z3)]))).size ≤ maxLen) ∧ (((z6.length + ([(S_journal_Change.mk ((ByteArray.mk #[102]) ++ (strOfNums ([iwrap .u8 ((97 : Int) + z3)]))) false (1 : Int) ([(z5 + (1 : Int)) % 256]))]).length) * 56 ≤ 140737488355328) ∧ (∀ v0 : List S_journal_Change, v0 = (z6 ++ ([(S_journal_Change.mk ((ByteArray.mk #[102]) ++ (strOfNums ([iwrap .u8 ((97 : Int) + z3)]))) false (1 : Int) ([(z5 + (1 : Int)) % 256]))])) → ((inR .i64 (z3 + (1 : Int))) ∧ ((y9 v0 (z3 + (1 : Int))) ∧ v8 v0 (z3 + (1 : Int)) < v8 z6 z3))))))) ∧ ((¬ (z3 < ((2 : Int) + (n_ % (5 : Int))))) → (journal_Do_p y0 (ByteArray.mk #[46, 106]) z6 (fun (y1 : S_simfs_FS) (v1 : Int) => ((inR .i64 v1) → (((v1 = (13 : Int)) → (y4 ((z5 + (1 : Int)) % 256) y1)) ∧ ((¬ (v1 = (13 : Int))) → ((inR .i64 (z2 + (1 : Int))) ∧ ((y8 ((z5 + (1 : Int)) % 256) (z2 + (1 : Int)) y1) ∧ v7 ((z5 + (1 : Int)) % 256) (z2 + (1 : Int)) y1 < v7 z5 z2 y0)))))))))))) ∧ ((¬ (z2 < (4 : Int))) → (y4 z5 y0))))))))))) ∧ ((¬ (z4 < (cuts.length : Int))) → Q true))))))))))))))))
set_option maxRecDepth 20000 in
set_option maxHeartbeats 4000000 in
theorem rectolaw6_JournalWhole_w {X : List Nat} {w : World} {n_ : Int} {cuts : (List Int)} {keep : (List Bool)} {y0 : Option Addr} {z8 : Nat} {z6 : Option Addr} {z7 : Nat} {Q : Bool → Prop} (p2 : Old X w) (s5 : inR .u8 n_) (l1 : Sl (rInt .u8) X w y0 z8 cuts) (l2 : Sl rBool X w z6 z7 keep) (hp : rectolaw6_JournalWhole_p n_ cuts keep Q) :
  Calls Tryz.prog 5 #[(.int .u8 n_), (.slice y0 cuts.length z8), (.slice z6 keep.length z7)] w (Ret fun v w' => ∃ (H0 : Bool), Q H0 ∧ Evo [] w w' ∧ v = (.bool H0)) := by
 have hXo := p2
 have E0 : Evo [] w w := RB.refl _ _ _
 have hS : Sub X X := Sub.refl _
 unfold rectolaw6_JournalWhole_p at hp
 refine enter_ Tryz.func5 rfl 116 [(0, (.int .u8 n_)), (1, (.slice y0 cuts.length z8)), (2, (.slice z6 keep.length z7))] (by kernel_rfl) (fun Qe hQ => ?_)
 replace hp := hp s5
 replace hp := hp (Sl.len l1)
 replace hp := hp (Sl.len l2)
 refine seq_ (fun _ E5 => ?_)
 refine reg_ ?_
 refine sq (o_pv (.bool false) rfl (by kernel_rfl) ?_)
 refine nil_ ?_
 refine then_normal (E5 _ _ _ _ ?_)
 refine seq_ (fun _ E6 => ?_)
 refine seq_ (fun _ H1 => ?_)
 refine reg_ ?_
 refine sq (o_call 7 #[] rfl (x_call Tryz.call7 (by kernel_rfl)) (rectolaw6_known_w (X := [])  (Old.nil _) hp) ?_)
 rintro _ H2 ⟨I4, hp, c1, rfl⟩
 have c2 := Step.of0 X c1
 refine sq (o_pv (.bool (!I4)) rfl (by kernel_rfl) ?_)
 refine nil_ ?_
 refine then_normal (H1 _ _ _ _ ?_)
 refine cond_b (!I4) (by kernel_rfl) (fun p3 => ?_) (fun p3 => ?_)
 ·
  replace hp := hp.1 p3
  refine seq_ (fun _ H3 => ?_)
  refine reg_ ?_
  refine sq (o_pv (.bool false) rfl (by kernel_rfl) ?_)
  refine nil_ ?_
  refine then_normal (H3 _ _ _ _ ?_)
  refine wp_ret ?_
  refine then_ret ?_
  have H4 := (Evo.then0 E0 c1)
  refine end_ret hQ (.bool false) (by kernel_rfl) ?_
  exact ⟨false, hp, H4, rfl⟩
 ·
  replace hp := hp.2 p3
  refine wp_skip ?_
  refine then_normal (E6 _ _ _ _ ?_)
  refine seq_ (fun _ H5 => ?_)
  refine seq_ (fun _ H6 => ?_)
  refine ground_ ?_
  refine join_ 133693440 (fun lq I5 => lq = [(26, (.bool (decide (((cuts.length : Int) > (12 : Int)) ∨ ((keep.length : Int) > (60 : Int))))))] ∧ H2 = I5) (fun E7 p4 => ?_) ?_
  ·
   refine reg_ ?_
   refine sq (o_pv (.slice y0 cuts.length z8) rfl (by kernel_rfl) ?_)
   refine sq (o_pv (.int .i64 (cuts.length : Int)) rfl (by kernel_rfl) ?_)
   by_cases c3 : (cuts.length : Int) > (12 : Int)
   ·
    refine sq (o_pv (.bool true) rfl (x_dt (p := (cuts.length : Int) > (12 : Int)) (by kernel_rfl) c3) ?_)
    refine sq (o_pv (.bool true) rfl (by kernel_rfl) ?_)
    refine sq (o_not (by kernel_rfl) ?_)
    refine sq (o_not (by kernel_rfl) ?_)
    refine sq (o_not (by kernel_rfl) ?_)
    refine sq (o_pv (.bool true) rfl (by kernel_rfl) ?_)
    refine nil_ ?_
    refine then_normal (p4 _ _ _ ⟨[(26, (.bool (decide (((cuts.length : Int) > (12 : Int)) ∨ ((keep.length : Int) > (60 : Int))))))], fit_mk (fun _ _ => rfl) (by kernel_rfl) (vs_cons (Eq.trans (b := (.bool true)) (by kernel_rfl) (dec_t (iff_true_intro (Or.inl c3))).symm) vs_nil), rfl, rfl⟩)
   ·
    refine sq (o_pv (.bool false) rfl (x_df (p := (cuts.length : Int) > (12 : Int)) (by kernel_rfl) c3) ?_)
    refine sq (o_pv (.bool false) rfl (by kernel_rfl) ?_)
    refine sq (o_pv (.slice z6 keep.length z7) (by kernel_rfl) (by kernel_rfl) ?_)
    refine sq (o_pv (.int .i64 (keep.length : Int)) (by kernel_rfl) (by kernel_rfl) ?_)
    refine sq (o_pv (.bool (decide ((keep.length : Int) > (60 : Int)))) (by kernel_rfl) (by kernel_rfl) ?_)
    refine sq (o_pv (.bool (decide ((keep.length : Int) > (60 : Int)))) rfl (by kernel_rfl) ?_)
    refine nil_ ?_
    refine then_normal (p4 _ _ _ ⟨[(26, (.bool (decide (((cuts.length : Int) > (12 : Int)) ∨ ((keep.length : Int) > (60 : Int))))))], fit_mk (fun _ _ => rfl) (by kernel_rfl) (vs_cons (Eq.trans (b := (.bool (decide ((keep.length : Int) > (60 : Int))))) (by kernel_rfl) (dec_d ((or_iff_right c3).trans Iff.rfl)).symm) vs_nil), rfl, rfl⟩)
  ·
   rintro _ I5 E8 ⟨rfl, hw⟩
   subst hw
   refine then_normal (H6 _ _ _ _ ?_)
   refine cond_d (((cuts.length : Int) > (12 : Int)) ∨ ((keep.length : Int) > (60 : Int))) (by kernel_rfl) (fun p5 => ?_) (fun p5 => ?_)
   ·
    replace hp := hp.1 p5
    refine seq_ (fun _ H7 => ?_)
    refine reg_ ?_
    refine sq (o_pv (.bool true) rfl (by kernel_rfl) ?_)
    refine nil_ ?_
    refine then_normal (H7 _ _ _ _ ?_)
    refine wp_ret ?_
    refine then_ret ?_
    have H8 := (Evo.then0 E0 c1)
    refine end_ret hQ (.bool true) (by kernel_rfl) ?_
    exact ⟨true, hp, H8, rfl⟩
   ·
    replace hp := hp.2 p5
    refine wp_skip ?_
    refine then_normal (H5 _ _ _ _ ?_)
    refine seq_ (fun _ H9 => ?_)
    refine reg_ ?_
    have f2 := (Sl.step l1 c2)
    have f3 := (Sl.step l2 c2)
    have c4 := (Old.step hXo c2)
    have I6 := (Evo.then0 E0 c1)
    have I8 := (Sub.trans hS (Step.up c2))
    refine sq (o_call 11 #[(.int .i64 (0 : Int))] rfl (x_call Tryz.call11 (by kernel_rfl)) (simfs_New_w (X := X) (quota := (0 : Int)) c4 (by decide : inR .i64 (0 : Int)) hp) ?_)
    rintro _ E9 ⟨I7, hp, G0, z9, I9, l3, rfl, p6⟩
    have G1 := MO.re p6 (Wr.trans p6.wr (Wr.nil [] _) I6.size)
    refine sq (o_pv (.pointer (some ⟨z9, 0, none⟩)) rfl (by kernel_rfl) ?_)
    refine nil_ ?_
    refine then_normal (H9 _ _ _ _ ?_)
    refine seq_ (fun _ G2 => ?_)
    refine reg_ ?_
    refine sq (o_pv (.int .u8 n_) rfl (by kernel_rfl) ?_)
    refine sq (o_pv (.int .u8 (n_ % (5 : Int))) rfl (x_rem2 (k := .u8) (a := n_) (b := (5 : Int)) (n_ % (5 : Int)) (by kernel_rfl) (by kernel_rfl) (inR_nn s5) (by decide) rfl (wrap_inR (inR_rem (inR_nn s5) (by decide) s5 (by decide : inR .u8 (5 : Int))))) ?_)
    have G3 : inR .i64 (n_ % (5 : Int)) := inR_up (by decide) (by decide) (inR_rem (inR_nn s5) (by decide) s5 (by decide : inR .u8 (5 : Int)))
    refine sq (o_pv (.int .i64 (n_ % (5 : Int))) rfl (x_conv (k := .u8) Tryz.underlying5 Tryz.underlying3 (by kernel_rfl) (wrap_inR G3)) ?_)
    obtain ⟨G4, hp⟩ := hp
    refine sq (o_pv (.int .i64 ((2 : Int) + (n_ % (5 : Int)))) rfl (x_add2 (k := .i64) (a := (2 : Int)) (b := n_ % (5 : Int)) ((2 : Int) + (n_ % (5 : Int))) (by kernel_rfl) (by kernel_rfl) (wrap_inR G4)) ?_)
    refine sq (o_pv (.int .i64 ((2 : Int) + (n_ % (5 : Int)))) rfl (by kernel_rfl) ?_)
    refine nil_ ?_
    refine then_normal (G2 _ _ _ _ ?_)
    refine seq_ (fun _ G5 => ?_)
    refine reg_ ?_
    refine sq (o_pv (.int .u8 (0 : Int)) rfl (by kernel_rfl) ?_)
    refine nil_ ?_
    refine then_normal (G5 _ _ _ _ ?_)
    refine seq_ (fun _ G6 => ?_)
    refine seq_ (fun _ G7 => ?_)
    refine reg_ ?_
    refine sq (o_pv (.int .i64 (0 : Int)) rfl (by kernel_rfl) ?_)
    refine nil_ ?_
    refine then_normal (G7 _ _ _ _ ?_)
    refine wp_block ?_
    have l4 := (Sl.step f2 l3)
    have l5 := (Sl.step f3 l3)
    have f4 := (Old.step c4 l3)
    have R1 := (Evo.then0 I6 (Step.evo l3))
    have p7 := (Sub.trans I8 (Step.up l3))
    obtain ⟨R2, c5, p8, hp⟩ := hp
    refine loop_ 83076749736557242056487936972684864 (fun kq lq u6 => ∃ (v3 : List Nat) (y7 : Int) (z2 : Int) (u7 : S_simfs_FS) (c6 : List Nat), (lq = [(9, (.int .u8 y7)), (10, (.int .i64 z2))]) ∧ (kq = c5 y7 z2 u7) ∧ (Evo [] w u6) ∧ (Old v3 u6) ∧ (Sub X v3) ∧ (Sl (rInt .u8) v3 u6 y0 z8 cuts) ∧ (Sl rBool v3 u6 z6 z7 keep) ∧ (MO o_simfs_FS 62 ([]) w.heap.size v3 u6 c6 z9 u7) ∧ (inR .u8 y7) ∧ (inR .i64 z2) ∧ (R2 y7 z2 u7)) (c5 (0 : Int) (0 : Int) I7) [(9, (.int .u8 (0 : Int))), (10, (.int .i64 (0 : Int)))] (vs_cons (by kernel_rfl) (vs_cons (by kernel_rfl) vs_nil)) ⟨G0, (0 : Int), (0 : Int), I7, I9, rfl, rfl, R1, f4, p7, l4, l5, G1, (by decide : inR .u8 (0 : Int)), (by decide : inR .i64 (0 : Int)), p8⟩ ?_
    rintro _ _ u6 C1 ⟨v3, y7, z2, u7, c6, rfl, rfl, k9, k1, p9, s8, s9, j0, l6, Z0, Z1⟩ G8 Z2
    replace hp := hp y7 z2 u7 Z1 l6 Z0
    refine seq_ (fun _ R3 => ?_)
    refine seq_ (fun _ R4 => ?_)
    refine reg_ ?_
    refine sq (o_pv (.int .i64 z2) rfl (by kernel_rfl) ?_)
    refine sq (o_pv (.slice y0 cuts.length z8) rfl (by kernel_rfl) ?_)
    refine sq (o_pv (.int .i64 (cuts.length : Int)) rfl (by kernel_rfl) ?_)
    refine sq (o_pv (.bool (decide (z2 < (cuts.length : Int)))) rfl (by kernel_rfl) ?_)
    refine nil_ ?_
    refine then_normal (R4 _ _ _ _ ?_)
    refine cond_d (z2 < (cuts.length : Int)) (by kernel_rfl) (fun j1 => ?_) (fun j1 => ?_)
    ·
     replace hp := hp.1 j1
     refine wp_skip ?_
     refine then_normal (R3 _ _ _ _ ?_)
     refine seq_ (fun _ R5 => ?_)
     refine wp_block ?_
     refine seq_ (fun _ R6 => ?_)
     refine reg_ ?_
     refine sq (o_pv (.pointer (some ⟨z9, 0, none⟩)) rfl (by kernel_rfl) ?_)
     refine sq (o_pv (.slice y0 cuts.length z8) rfl (by kernel_rfl) ?_)
     refine sq (o_pv (.int .i64 z2) rfl (by kernel_rfl) ?_)
     obtain ⟨c7, hp⟩ := hp
     obtain ⟨R7, R8, G9, Z3, D0, D1, Z4, Z5⟩ := Sl.atI s8 z2 c7
     obtain ⟨rfl, v2⟩ := Z4
     replace hp := hp v2
     refine sq (o_pv (.pointer (some ⟨R7, R8 + z2.toNat * 1, none⟩)) rfl (x_ixA (m := cuts.length) (c := z8) (k := .i64) (i := z2) Tryz.underlying32 Tryz.sizeOf5 (by rw [← Z3]; kernel_rfl) (by kernel_rfl) c7) ?_)
     refine sq (o_pv (.int .u8 (lget cuts z2)) rfl (x_load1 (by kernel_rfl) Tryz.isAgg5 (Z5 0 _ rfl)) ?_)
     refine sq (o_pv (.int .u8 ((lget cuts z2) % (24 : Int))) rfl (x_rem2 (k := .u8) (a := lget cuts z2) (b := (24 : Int)) ((lget cuts z2) % (24 : Int)) (by kernel_rfl) (by kernel_rfl) (inR_nn v2) (by decide) rfl (wrap_inR (inR_rem (inR_nn v2) (by decide) v2 (by decide : inR .u8 (24 : Int))))) ?_)
     have c8 : inR .i64 ((lget cuts z2) % (24 : Int)) := inR_up (by decide) (by decide) (inR_rem (inR_nn v2) (by decide) v2 (by decide : inR .u8 (24 : Int)))
     refine sq (o_pv (.int .i64 ((lget cuts z2) % (24 : Int))) rfl (x_conv (k := .u8) Tryz.underlying5 Tryz.underlying3 (by kernel_rfl) (wrap_inR c8)) ?_)
     refine sq (o_pv (.slice z6 keep.length z7) rfl (by kernel_rfl) ?_)
     refine sq (o_call 15 #[(.pointer (some ⟨z9, 0, none⟩)), (.int .i64 ((lget cuts z2) % (24 : Int))), (.slice z6 keep.length z7)] rfl (x_call Tryz.call15 (by kernel_rfl)) (simfs_FS_Arm_w (X := v3) (f_ := u7) (n_ := (lget cuts z2) % (24 : Int)) (keep := keep) k1 (MO.re j0 (Wr.self _ _ (Sub.refl _))) c8 s9 hp) ?_)
     rintro _ C2 ⟨l7, hp, R9, P0, t5, rfl, c9⟩
     have P1 := MO.re c9 (Wr.trans c9.wr j0.wr k9.size)
     refine nil_ ?_
     refine then_normal (R6 _ _ _ _ ?_)
     refine seq_ (fun _ P2 => ?_)
     refine seq_ (fun _ P3 => ?_)
     refine reg_ ?_
     refine sq (o_pv (.int .i64 (0 : Int)) rfl (by kernel_rfl) ?_)
     refine nil_ ?_
     refine then_normal (P3 _ _ _ _ ?_)
     have P4 := (Evo.thenW k9 (Step.evo t5) j0.wr)
     have f5 := (Old.step k1 t5)
     have Z6 := (Sub.trans p9 (Step.up t5))
     have l8 := (Sl.step s8 t5)
     have l9 := (Sl.step s9 t5)
     obtain ⟨P5, Z7, hp⟩ := hp
     refine ground_ ?_
     refine join_ 18889465790741092514304 (fun lq u9 => ∃ (v4 : List Nat) (v5 : Int) (t6 : S_simfs_FS) (a0 : List Nat), (lq = [(9, (.int .u8 v5))]) ∧ (Evo [] w u9) ∧ (Old v4 u9) ∧ (Sub X v4) ∧ (Sl (rInt .u8) v4 u9 y0 z8 cuts) ∧ (Sl rBool v4 u9 z6 z7 keep) ∧ (MO o_simfs_FS 62 ([]) w.heap.size v4 u9 a0 z9 t6) ∧ (inR .u8 v5) ∧ (P5 v5 t6)) (fun D2 m0 => ?_) ?_
     ·
      refine wp_block ?_
      obtain ⟨P6, a1, Z8, hp⟩ := hp
      refine loop_ 18889465790741092514304 (fun kq lq t0 => ∃ (y8 : List Nat) (z4 : Int) (z3 : Int) (y9 : S_simfs_FS) (t7 : List Nat), (lq = [(9, (.int .u8 z4)), (11, (.int .i64 z3))]) ∧ (kq = a1 z4 z3 y9) ∧ (Evo [] w t0) ∧ (Old y8 t0) ∧ (Sub X y8) ∧ (Sl (rInt .u8) y8 t0 y0 z8 cuts) ∧ (Sl rBool y8 t0 z6 z7 keep) ∧ (MO o_simfs_FS 62 ([]) w.heap.size y8 t0 t7 z9 y9) ∧ (inR .u8 z4) ∧ (inR .i64 z3) ∧ (P6 z4 z3 y9)) (a1 y7 (0 : Int) l7) [(9, (.int .u8 y7)), (11, (.int .i64 (0 : Int)))] (vs_cons (by kernel_rfl) (vs_cons (by kernel_rfl) vs_nil)) ⟨R9, y7, (0 : Int), l7, P0, rfl, rfl, P4, f5, Z6, l8, l9, P1, l6, (by decide : inR .i64 (0 : Int)), Z8⟩ ?_
      rintro _ _ t0 C3 ⟨y8, z4, z3, y9, t7, rfl, rfl, a2, k2, m1, r0, r1, a3, m2, m3, Z9⟩ D3 Y0
      replace hp := hp z4 z3 y9 Z9 m2 m3
      refine seq_ (fun _ P7 => ?_)
      refine seq_ (fun _ P8 => ?_)
      refine reg_ ?_
      refine sq (o_pv (.int .i64 z3) rfl (by kernel_rfl) ?_)
      refine sq (o_pv (.bool (decide (z3 < (4 : Int)))) rfl (by kernel_rfl) ?_)
      refine nil_ ?_
      refine then_normal (P8 _ _ _ _ ?_)
      refine cond_d (z3 < (4 : Int)) (by kernel_rfl) (fun j2 => ?_) (fun j2 => ?_)
      ·
       replace hp := hp.1 j2
       refine wp_skip ?_
       refine then_normal (P7 _ _ _ _ ?_)
       refine seq_ (fun _ P9 => ?_)
       refine wp_block ?_
       refine seq_ (fun _ N0 => ?_)
       refine reg_ ?_
       refine sq (o_pv (.int .u8 z4) rfl (by kernel_rfl) ?_)
       refine sq (o_pv (.int .u8 ((z4 + (1 : Int)) % 256)) rfl (x_add2 (k := .u8) (a := z4) (b := (1 : Int)) ((z4 + (1 : Int)) % 256) (by kernel_rfl) (by kernel_rfl) (wrap_u8_mod _)) ?_)
       refine sq (o_pv (.int .u8 ((z4 + (1 : Int)) % 256)) rfl (by kernel_rfl) ?_)
       refine nil_ ?_
       refine then_normal (N0 _ _ _ _ ?_)
       refine seq_ (fun _ N1 => ?_)
       refine reg_ ?_
       refine sq (o_pv (.slice none 0 0) rfl (by kernel_rfl) ?_)
       refine nil_ ?_
       refine then_normal (N1 _ _ _ _ ?_)
       refine seq_ (fun _ N2 => ?_)
       refine seq_ (fun _ N3 => ?_)
       refine reg_ ?_
       refine sq (o_pv (.int .i64 (0 : Int)) rfl (by kernel_rfl) ?_)
       refine nil_ ?_
       refine then_normal (N3 _ _ _ _ ?_)
       refine wp_block ?_
       obtain ⟨N4, a4, Y1, hp⟩ := hp
       refine loop_ 1180582613518156574720 (fun kq lq v6 => ∃ (v0 : List Nat) (y3 : (List S_journal_Change)) (z0 : Int) (v7 : Option Addr) (t1 : Nat) (t2 : Nat), (lq = [(12, (.slice v7 t1 t2)), (13, (.int .i64 z0))]) ∧ (kq = a4 y3 z0) ∧ (Evo [] w v6) ∧ (Old v0 v6) ∧ (Sub X v0) ∧ (Sl (rInt .u8) v0 v6 y0 z8 cuts) ∧ (Sl rBool v0 v6 z6 z7 keep) ∧ (MO o_simfs_FS 62 ([]) w.heap.size v0 v6 t7 z9 y9) ∧ (OS r_journal_Change ([]) w.heap.size v0 v6 34 v7 t1 t2 y3) ∧ (Ap (t7) (blkL v7)) ∧ (inR .i64 z0) ∧ (N4 y3 z0)) (a4 ([] : List S_journal_Change) (0 : Int)) [(12, (.slice none 0 0)), (13, (.int .i64 (0 : Int)))] (vs_cons (by kernel_rfl) (vs_cons (by kernel_rfl) vs_nil)) ⟨y8, ([] : List S_journal_Change), (0 : Int), none, 0, 0, rfl, rfl, a2, k2, m1, r0, r1, a3, (OS.nil _ _ _ _), (Ap.nil_r _), (by decide : inR .i64 (0 : Int)), Y1⟩ ?_
       rintro _ _ v6 C4 ⟨v0, y3, z0, v7, t1, t2, rfl, rfl, j3, k3, m4, r2, r3, j4, t8, j5, Y2, Y3⟩ D4 Y4
       replace hp := hp y3 z0 Y3 (OS.len t8) Y2
       refine seq_ (fun _ N5 => ?_)
       refine seq_ (fun _ N6 => ?_)
       refine reg_ ?_
       refine sq (o_pv (.int .i64 z0) rfl (by kernel_rfl) ?_)
       refine sq (o_pv (.int .i64 ((2 : Int) + (n_ % (5 : Int)))) rfl (by kernel_rfl) ?_)
       refine sq (o_pv (.bool (decide (z0 < ((2 : Int) + (n_ % (5 : Int)))))) rfl (by kernel_rfl) ?_)
       refine nil_ ?_
       refine then_normal (N6 _ _ _ _ ?_)
       refine cond_d (z0 < ((2 : Int) + (n_ % (5 : Int)))) (by kernel_rfl) (fun j6 => ?_) (fun j6 => ?_)
       ·
        replace hp := hp.1 j6
        refine wp_skip ?_
        refine then_normal (N5 _ _ _ _ ?_)
        refine seq_ (fun _ N7 => ?_)
        refine wp_block ?_
        refine reg_ ?_
        refine sq (o_pv (.slice v7 t1 t2) rfl (by kernel_rfl) ?_)
        refine sq (o_pv (.int .i64 z0) rfl (by kernel_rfl) ?_)
        obtain ⟨N8, hp⟩ := hp
        refine sq (o_pv (.int .i64 ((97 : Int) + z0)) rfl (x_add2 (k := .i64) (a := (97 : Int)) (b := z0) ((97 : Int) + z0) (by kernel_rfl) (by kernel_rfl) (wrap_inR N8)) ?_)
        refine sq (o_pv (.int .u8 (iwrap .u8 ((97 : Int) + z0))) rfl (x_convw (k := .i64) Tryz.underlying3 Tryz.underlying5 (by kernel_rfl)) ?_)
        refine sq (o_rowX (R := (rInt .u8)) [(.int .u8 (iwrap .u8 ((97 : Int) + z0)))] [iwrap .u8 ((97 : Int) + z0)] 5 1 (X := v0) (B := w.heap.size) j3.size rfl (by kernel_rfl) (Flat.cons (cs := [(.int .u8 (iwrap .u8 ((97 : Int) + z0)))]) (rInt_mk (inR_iwrap _ _)) Flat.nil) rfl (by decide) ?_)
        intro N9 C5 M0 v8 a5 C6
        refine sq (o_pv (.string (strOfNums ([iwrap .u8 ((97 : Int) + z0)]))) rfl (x_b2s_sl (a := (some ⟨N9, 0, none⟩)) (len := 1) (c := 1) ([iwrap .u8 ((97 : Int) + z0)]) Tryz.underlying32 Tryz.underlying5 Tryz.underlying9 (by kernel_rfl) a5.1 (OS.rd a5)) ?_)
        obtain ⟨a6, hp⟩ := hp
        refine sq (o_pv (.string ((ByteArray.mk #[102]) ++ (strOfNums ([iwrap .u8 ((97 : Int) + z0)])))) rfl (x_cat (by kernel_rfl) (by kernel_rfl) a6) ?_)
        refine sq (o_pv (.int .u8 ((z4 + (1 : Int)) % 256)) rfl (by kernel_rfl) ?_)
        have a7 := (MO.step0 j4 v8)
        have a8 := (OS.step0 t8 v8)
        have a9 := (Evo.then0 j3 (Step.evo v8))
        refine sq (o_rowX (R := (rInt .u8)) [(.int .u8 ((z4 + (1 : Int)) % 256))] [(z4 + (1 : Int)) % 256] 5 1 (X := M0) (B := w.heap.size) a9.size rfl (by kernel_rfl) (Flat.cons (cs := [(.int .u8 ((z4 + (1 : Int)) % 256))]) (rInt_mk (inR_u8_mod _)) Flat.nil) rfl (by decide) ?_)
        intro j7 C7 C8 v9 e0 e1
        have M1 := e1 _ (MO.old a7)
        have M2 := e1 _ (OS.old a8)
        refine sq (o_pv (.agg #[(.string ((ByteArray.mk #[102]) ++ (strOfNums ([iwrap .u8 ((97 : Int) + z0)])))), (.bool false), (.int .i64 (1 : Int)), (.slice (some ⟨j7, 0, none⟩) 1 1)]) rfl (by kernel_rfl) ?_)
        have Y5 := (Sub.trans (Sub.trans m4 (Step.up v8)) (Step.up v9))
        have M3 := (Evo.then0 a9 (Step.evo v9))
        have f6 := (Old.step (Old.step k3 v8) v9)
        have m5 := (Sl.step (Sl.step r2 v8) v9)
        have m6 := (Sl.step (Sl.step r3 v8) v9)
        have e2 := (MO.step0 a7 v9)
        have e3 := (OS.step0 a8 v9)
        have Y6 := OS.apold e0 p2
        obtain ⟨M4, t9, M5, q5⟩ := OS.release e0
        have M6 := (MO.less e2 t9 (q5 _ M1 (MO.mem e2)))
        have M7 := (OS.less e3 t9 (q5 _ M2 (OS.mem e3)))
        have e4 := M3
        refine sq (o_rowX (R := r_journal_Change) [(.string ((ByteArray.mk #[102]) ++ (strOfNums ([iwrap .u8 ((97 : Int) + z0)])))), (.bool false), (.int .i64 (1 : Int)), (.slice (some ⟨j7, 0, none⟩) 1 1)] [(S_journal_Change.mk ((ByteArray.mk #[102]) ++ (strOfNums ([iwrap .u8 ((97 : Int) + z0)]))) false (1 : Int) ([(z4 + (1 : Int)) % 256]))] 34 1 (X := M4) (B := w.heap.size) e4.size rfl (by kernel_rfl) (Flat.cons (cs := [(.string ((ByteArray.mk #[102]) ++ (strOfNums ([iwrap .u8 ((97 : Int) + z0)])))), (.bool false), (.int .i64 (1 : Int)), (.slice (some ⟨j7, 0, none⟩) 1 1)]) (r_journal_Change_mk a6 (by decide : inR .i64 (1 : Int)) M5 rfl) Flat.nil) rfl (by decide) ?_)
        intro C9 B0 M8 u1 e5 B1
        obtain ⟨M9, hp⟩ := hp
        have e6 := (OS.step0 M7 u1)
        have e7 := (MO.step0 M6 u1)
        have e8 := (Evo.then0 e4 (Step.evo u1))
        refine sq (o_appX (R := r_journal_Change) (X := M8) (B := w.heap.size) (L := y3) (M := [(S_journal_Change.mk ((ByteArray.mk #[102]) ++ (strOfNums ([iwrap .u8 ((97 : Int) + z0)]))) false (1 : Int) ([(z4 + (1 : Int)) % 256]))]) rfl elT22 rfl e8.size e6 (OS.src e5) e5.1 (by kernel_rfl) (by kernel_rfl) M9 ?_)
        intro j8 j9 g0 B2 L0 t3 e9 Y7
        obtain ⟨i0, m7⟩ : ∃ y, y = (y3 ++ ([(S_journal_Change.mk ((ByteArray.mk #[102]) ++ (strOfNums ([iwrap .u8 ((97 : Int) + z0)]))) false (1 : Int) ([(z4 + (1 : Int)) % 256]))])) := ⟨_, rfl⟩
        replace hp := hp i0 m7
        rw [← m7] at e9
        have L1 := Y7 _ j5 (MO.old e7)
        refine sq (o_pv (.slice j8 j9 g0) rfl (by kernel_rfl) ?_)
        refine nil_ ?_
        refine blk_normal ?_
        refine then_normal (N7 _ _ _ _ ?_)
        refine reg_ ?_
        refine sq (o_pv (.int .i64 z0) rfl (by kernel_rfl) ?_)
        obtain ⟨i1, hp⟩ := hp
        refine sq (o_pv (.int .i64 (z0 + (1 : Int))) rfl (x_add2 (k := .i64) (a := z0) (b := (1 : Int)) (z0 + (1 : Int)) (by kernel_rfl) (by kernel_rfl) (wrap_inR i1)) ?_)
        refine sq (o_pv (.int .i64 (z0 + (1 : Int))) rfl (by kernel_rfl) ?_)
        refine nil_ ?_
        have L2 := (Evo.thenW e8 (Step.evo t3) e6.2.2)
        have f7 := (Old.step (Old.step (Old.less f6 t9) u1) t3)
        have Y8 := (Sub.trans (Sub.trans (q5 _ Y6 Y5) (Step.up u1)) (Step.up t3))
        have m8 := (Sl.step (Sl.step (Sl.less m5 t9) u1) t3)
        have m9 := (Sl.step (Sl.step (Sl.less m6 t9) u1) t3)
        have L3 := (MO.step e7 t3 j5)
        refine then_normal (Y4 _ _ _ ⟨_, [(12, (.slice j8 j9 g0)), (13, (.int .i64 (z0 + (1 : Int))))], hp.2, fit_mk (AgB.mix _ _ _) (by kernel_rfl) (vs_cons (by kernel_rfl) (vs_cons (by kernel_rfl) vs_nil)), ?_⟩)
        exact ⟨L0, i0, (z0 + (1 : Int)), j8, j9, g0, rfl, rfl, L2, f7, Y8, m8, m9, L3, e9, L1, i1, hp.1⟩
       ·
        replace hp := hp.2 j6
        refine wp_exit ?_
        refine then_exit ?_
        refine then_exit ?_
        refine blk_exit ?_
        refine then_normal (N2 _ _ _ _ ?_)
        refine seq_ (fun _ L4 => ?_)
        refine reg_ ?_
        refine sq (o_pv (.pointer (some ⟨z9, 0, none⟩)) rfl (by kernel_rfl) ?_)
        refine sq (o_pv (.slice v7 t1 t2) rfl (by kernel_rfl) ?_)
        have Y9 := OS.apold t8 p2
        obtain ⟨L5, r9, L6, n0⟩ := OS.release t8
        obtain rfl : t1 = y3.length := t8.1
        have g1 := j3
        have s6 := (Old.less k3 r9)
        have n1 := (n0 _ Y9 m4)
        have r4 := (Sl.less r2 r9)
        have r5 := (Sl.less r3 r9)
        have q0 := (MO.less j4 r9 (n0 _ j5 (MO.mem j4)))
        refine sq (o_call 12 #[(.pointer (some ⟨z9, 0, none⟩)), (.string (ByteArray.mk #[46, 106])), (.slice v7 y3.length t2)] rfl (x_call Tryz.call12 (by kernel_rfl)) (journal_Do_w (X := L5) (f_ := y9) (dir := (ByteArray.mk #[46, 106])) (l := y3) s6 (MO.re q0 (Wr.self _ _ (Sub.refl _))) (by decide : (ByteArray.mk #[46, 106]).size ≤ maxLen) L6 hp) ?_)
        rintro _ B3 ⟨n2, i2, hp, i3, i4, y4, rfl, i5, V0⟩
        have i6 := MO.re i5 (Wr.trans i5.wr q0.wr g1.size)
        replace hp := hp V0
        refine sq (o_pv (.bool (decide (i2 = (13 : Int)))) rfl (by kernel_rfl) ?_)
        refine nil_ ?_
        refine then_normal (L4 _ _ _ _ ?_)
        refine cond_d (i2 = (13 : Int)) (by kernel_rfl) (fun g2 => ?_) (fun g2 => ?_)
        ·
         replace hp := hp.1 g2
         refine wp_exit ?_
         refine blk_exit_ne rfl ?_
         refine then_exit ?_
         refine then_exit ?_
         refine blk_exit ?_
         have L7 := (Evo.thenW g1 (Step.evo y4) q0.wr)
         have f8 := (Old.step s6 y4)
         have V1 := (Sub.trans n1 (Step.up y4))
         have n3 := (Sl.step r4 y4)
         have n4 := (Sl.step r5 y4)
         refine then_normal (m0 _ _ _ ⟨[(9, (.int .u8 ((z4 + (1 : Int)) % 256)))], fit_mk (AgB.nest (AgB.nest (fun _ _ => rfl) (by kernel_rfl) (by kernel_rfl)) (by kernel_rfl) (by kernel_rfl)) (by kernel_rfl) (vs_cons (by kernel_rfl) vs_nil), ?_⟩)
         exact ⟨i3, ((z4 + (1 : Int)) % 256), n2, i4, rfl, L7, f8, V1, n3, n4, i6, (inR_u8_mod _), hp⟩
        ·
         replace hp := hp.2 g2
         refine wp_skip ?_
         refine blk_normal ?_
         refine then_normal (P9 _ _ _ _ ?_)
         refine reg_ ?_
         refine sq (o_pv (.int .i64 z3) rfl (by kernel_rfl) ?_)
         obtain ⟨i7, hp⟩ := hp
         refine sq (o_pv (.int .i64 (z3 + (1 : Int))) rfl (x_add2 (k := .i64) (a := z3) (b := (1 : Int)) (z3 + (1 : Int)) (by kernel_rfl) (by kernel_rfl) (wrap_inR i7)) ?_)
         refine sq (o_pv (.int .i64 (z3 + (1 : Int))) rfl (by kernel_rfl) ?_)
         refine nil_ ?_
         have L8 := (Evo.thenW g1 (Step.evo y4) q0.wr)
         have f9 := (Old.step s6 y4)
         have V2 := (Sub.trans n1 (Step.up y4))
         have n5 := (Sl.step r4 y4)
         have n6 := (Sl.step r5 y4)
         refine then_normal (Y0 _ _ _ ⟨_, [(9, (.int .u8 ((z4 + (1 : Int)) % 256))), (11, (.int .i64 (z3 + (1 : Int))))], hp.2, fit_mk (AgB.nest (AgB.mix _ _ _) (by kernel_rfl) (by kernel_rfl)) (by kernel_rfl) (vs_cons (by kernel_rfl) (vs_cons (by kernel_rfl) vs_nil)), ?_⟩)
         exact ⟨i3, ((z4 + (1 : Int)) % 256), (z3 + (1 : Int)), n2, i4, rfl, rfl, L8, f9, V2, n5, n6, i6, (inR_u8_mod _), i7, hp.1⟩
      ·
       replace hp := hp.2 j2
       refine wp_exit ?_
       refine then_exit ?_
       refine then_exit ?_
       refine blk_exit ?_
       refine then_normal (m0 _ _ _ ⟨[(9, (.int .u8 z4))], fit_mk (AgB.nest (fun _ _ => rfl) (by kernel_rfl) (by kernel_rfl)) (by kernel_rfl) (vs_cons (by kernel_rfl) vs_nil), ?_⟩)
       exact ⟨y8, z4, y9, t7, rfl, a2, k2, m1, r0, r1, a3, m2, hp⟩
     ·
      rintro _ u9 B4 ⟨v4, v5, t6, a0, rfl, i9, k4, V3, n7, r6, g3, n8, V4⟩
      replace hp := Z7 v5 t6 V4 n8
      refine then_normal (P2 _ _ _ _ ?_)
      refine seq_ (fun _ L9 => ?_)
      refine reg_ ?_
      refine sq (o_pv (.pointer (some ⟨z9, 0, none⟩)) rfl (by kernel_rfl) ?_)
      refine sq (o_pv (.slice z6 keep.length z7) rfl (by kernel_rfl) ?_)
      refine sq (o_call 16 #[(.pointer (some ⟨z9, 0, none⟩)), (.slice z6 keep.length z7)] rfl (x_call Tryz.call16 (by kernel_rfl)) (simfs_FS_Cut_w (X := v4) (f_ := t6) (keep := keep) k4 (MO.re g3 (Wr.self _ _ (Sub.refl _))) r6 hp) ?_)
      rintro _ B5 ⟨V5, hp, K0, B6, s0, rfl, h0⟩
      have g4 := MO.re h0 (Wr.trans h0.wr g3.wr i9.size)
      refine nil_ ?_
      refine then_normal (L9 _ _ _ _ ?_)
      refine seq_ (fun _ K1 => ?_)
      refine reg_ ?_
      refine sq (o_pv (.pointer (some ⟨z9, 0, none⟩)) rfl (by kernel_rfl) ?_)
      have h1 := (Evo.thenW i9 (Step.evo s0) g3.wr)
      have k5 := (Old.step k4 s0)
      have V6 := (Sub.trans V3 (Step.up s0))
      have n9 := (Sl.step n7 s0)
      have o0 := (Sl.step r6 s0)
      refine sq (o_call 17 #[(.pointer (some ⟨z9, 0, none⟩))] rfl (x_call Tryz.call17 (by kernel_rfl)) (simfs_FS_On_w (X := K0) (f_ := V5) k5 (MO.re g4 (Wr.self _ _ (Sub.refl _))) hp) ?_)
      rintro _ B7 ⟨V7, hp, K2, B8, s1, rfl, h2⟩
      have q1 := MO.re h2 (Wr.trans h2.wr g4.wr h1.size)
      refine nil_ ?_
      refine then_normal (K1 _ _ _ _ ?_)
      refine seq_ (fun _ K3 => ?_)
      refine seq_ (fun _ K4 => ?_)
      refine reg_ ?_
      refine sq (o_pv (.pointer (some ⟨z9, 0, none⟩)) rfl (by kernel_rfl) ?_)
      have g5 := (Evo.thenW h1 (Step.evo s1) g4.wr)
      have k6 := (Old.step k5 s1)
      have V8 := (Sub.trans V6 (Step.up s1))
      have o1 := (Sl.step n9 s1)
      have o2 := (Sl.step o0 s1)
      refine sq (o_call 18 #[(.pointer (some ⟨z9, 0, none⟩)), (.string (ByteArray.mk #[46, 106]))] rfl (x_call Tryz.call18 (by kernel_rfl)) (journal_Recover_w (X := K2) (f_ := V7) (dir := (ByteArray.mk #[46, 106])) k6 (MO.re q1 (Wr.self _ _ (Sub.refl _))) (by decide : (ByteArray.mk #[46, 106]).size ≤ maxLen) hp) ?_)
      rintro _ B9 ⟨V9, h3, hp, K5, E1, t4, rfl, h4, U0⟩
      have g6 := MO.re h4 (Wr.trans h4.wr q1.wr g5.size)
      replace hp := hp U0
      refine sq (o_pv (.bool (!decide (h3 = (0 : Int)))) rfl (by kernel_rfl) ?_)
      refine nil_ ?_
      refine then_normal (K4 _ _ _ _ ?_)
      refine cond_nd (h3 = (0 : Int)) (by kernel_rfl) (fun g7 => ?_) (fun g7 => ?_)
      ·
       replace hp := hp.1 g7
       refine seq_ (fun _ K6 => ?_)
       refine reg_ ?_
       refine sq (o_pv (.bool false) rfl (by kernel_rfl) ?_)
       refine nil_ ?_
       refine then_normal (K6 _ _ _ _ ?_)
       refine wp_ret ?_
       refine then_ret ?_
       refine blk_ret ?_
       refine then_ret ?_
       refine then_ret ?_
       refine blk_ret ?_
       refine then_ret ?_
       have K7 := (Evo.thenW g5 (Step.evo t4) q1.wr)
       refine end_ret hQ (.bool false) (by kernel_rfl) ?_
       exact ⟨false, hp, K7, rfl⟩
      ·
       replace hp := hp.2 g7
       refine wp_skip ?_
       refine then_normal (K3 _ _ _ _ ?_)
       refine seq_ (fun _ K8 => ?_)
       refine reg_ ?_
       refine sq (o_pv (.pointer (some ⟨z9, 0, none⟩)) rfl (by kernel_rfl) ?_)
       have h5 := (Evo.thenW g5 (Step.evo t4) q1.wr)
       have k7 := (Old.step k6 t4)
       have U1 := (Sub.trans V8 (Step.up t4))
       have o3 := (Sl.step o1 t4)
       have o4 := (Sl.step o2 t4)
       refine sq (o_call 13 #[(.pointer (some ⟨z9, 0, none⟩)), (.string (ByteArray.mk #[46, 106]))] rfl (x_call Tryz.call13 (by kernel_rfl)) (rectolaw6_all_w (X := K5) (f_ := V9) (dir := (ByteArray.mk #[46, 106])) k7 (MO.re g6 (Wr.self _ _ (Sub.refl _))) (by decide : (ByteArray.mk #[46, 106]).size ≤ maxLen) hp) ?_)
       rintro _ E2 ⟨q6, z1, q2, hp, g8, g9, y2, y1, s2, rfl, h6, s3⟩
       have d0 := MO.re h6 (Wr.trans h6.wr g6.wr h5.size)
       replace hp := hp (Sl.len s3)
       refine sq (o_pv (.tuple #[(.slice y2 z1.length y1), (.bool q2)]) rfl (by kernel_rfl) ?_)
       refine sq (o_pv (.slice y2 z1.length y1) rfl (by kernel_rfl) ?_)
       refine sq (o_pv (.bool q2) rfl (by kernel_rfl) ?_)
       refine sq (o_pv (.slice y2 z1.length y1) rfl (by kernel_rfl) ?_)
       refine sq (o_pv (.bool q2) rfl (by kernel_rfl) ?_)
       refine nil_ ?_
       refine then_normal (K8 _ _ _ _ ?_)
       refine seq_ (fun _ K9 => ?_)
       refine seq_ (fun _ J0 => ?_)
       have d1 := (Evo.thenW h5 (Step.evo s2) g6.wr)
       have s7 := (Old.step k7 s2)
       have q7 := (Sub.trans U1 (Step.up s2))
       have u4 := (Sl.step o3 s2)
       have u5 := (Sl.step o4 s2)
       obtain ⟨J1, U2, hp⟩ := hp
       refine ground_ ?_
       refine join_ 1267495857723318728962340814848 (fun lq u2 => ∃ (v1 : List Nat) (s4 : Bool), (lq = [(99, (.bool s4))]) ∧ (Evo [] w u2) ∧ (Old v1 u2) ∧ (Sub X v1) ∧ (Sl (rInt .u8) v1 u2 y0 z8 cuts) ∧ (Sl rBool v1 u2 z6 z7 keep) ∧ (Sl r_rectolaw6_file v1 u2 y2 y1 z1) ∧ (MO o_simfs_FS 62 ([]) w.heap.size v1 u2 g9 z9 q6) ∧ (J1 s4)) (fun D5 q8 => ?_) ?_
       ·
        refine reg_ ?_
        by_cases q3 : q2 = true
        ·
         replace hp := hp.1 q3
         refine sq (o_pv (.bool true) rfl (x_bt (by kernel_rfl) q3) ?_)
         refine sq (o_pv (.bool false) rfl (by kernel_rfl) ?_)
         refine sq (o_pv (.bool false) rfl (by kernel_rfl) ?_)
         refine sq (o_pv (.slice y2 z1.length y1) (by kernel_rfl) (by kernel_rfl) ?_)
         refine sq (o_pv (.int .i64 (z1.length : Int)) (by kernel_rfl) (by kernel_rfl) ?_)
         by_cases q4 : (z1.length : Int) = (0 : Int)
         ·
          replace hp := hp.1 q4
          refine sq (o_pv (.bool false) (by kernel_rfl) (x_ndf (p := (z1.length : Int) = (0 : Int)) (by kernel_rfl) q4) ?_)
          refine sq (o_pv (.bool false) (by kernel_rfl) (by kernel_rfl) ?_)
          refine sq (o_not (by kernel_rfl) ?_)
          refine sq (o_not (by kernel_rfl) ?_)
          refine sq (o_not (by kernel_rfl) ?_)
          refine sq (o_not (by kernel_rfl) ?_)
          refine sq (o_pv (.bool false) (by kernel_rfl) (by kernel_rfl) ?_)
          refine sq (o_pv (.bool false) rfl (by kernel_rfl) ?_)
          refine nil_ ?_
          refine then_normal (q8 _ _ _ ⟨[(99, (.bool false))], fit_mk (fun _ _ => rfl) (by kernel_rfl) (vs_cons (by kernel_rfl) vs_nil), ?_⟩)
          exact ⟨g8, false, rfl, d1, s7, q7, u4, u5, s3, d0, hp⟩
         ·
          replace hp := hp.2 q4
          refine sq (o_pv (.bool true) (by kernel_rfl) (x_ndt (p := (z1.length : Int) = (0 : Int)) (by kernel_rfl) q4) ?_)
          refine sq (o_pv (.bool true) (by kernel_rfl) (by kernel_rfl) ?_)
          refine sq (o_pv (.slice y2 z1.length y1) (by kernel_rfl) (by kernel_rfl) ?_)
          refine sq (o_pv (.int .i64 (z1.length : Int)) (by kernel_rfl) (by kernel_rfl) ?_)
          refine sq (o_pv (.int .i64 ((2 : Int) + (n_ % (5 : Int)))) (by kernel_rfl) (by kernel_rfl) ?_)
          refine sq (o_pv (.bool (!decide ((z1.length : Int) = ((2 : Int) + (n_ % (5 : Int)))))) (by kernel_rfl) (by kernel_rfl) ?_)
          refine sq (o_pv (.bool (!decide ((z1.length : Int) = ((2 : Int) + (n_ % (5 : Int)))))) (by kernel_rfl) (by kernel_rfl) ?_)
          refine sq (o_pv (.bool (!decide ((z1.length : Int) = ((2 : Int) + (n_ % (5 : Int)))))) rfl (by kernel_rfl) ?_)
          refine nil_ ?_
          refine then_normal (q8 _ _ _ ⟨[(99, (.bool (!decide ((z1.length : Int) = ((2 : Int) + (n_ % (5 : Int)))))))], fit_mk (fun _ _ => rfl) (by kernel_rfl) (vs_cons (by kernel_rfl) vs_nil), ?_⟩)
          exact ⟨g8, (!decide ((z1.length : Int) = ((2 : Int) + (n_ % (5 : Int))))), rfl, d1, s7, q7, u4, u5, s3, d0, hp⟩
        ·
         replace hp := hp.2 q3
         refine sq (o_pv (.bool false) rfl (x_bf (by kernel_rfl) q3) ?_)
         refine sq (o_pv (.bool true) rfl (by kernel_rfl) ?_)
         refine sq (o_pv (.bool true) rfl (by kernel_rfl) ?_)
         refine sq (o_not (by kernel_rfl) ?_)
         refine sq (o_not (by kernel_rfl) ?_)
         refine sq (o_not (by kernel_rfl) ?_)
         refine sq (o_not (by kernel_rfl) ?_)
         refine sq (o_not (by kernel_rfl) ?_)
         refine sq (o_not (by kernel_rfl) ?_)
         refine sq (o_not (by kernel_rfl) ?_)
         refine sq (o_not (by kernel_rfl) ?_)
         refine sq (o_not (by kernel_rfl) ?_)
         refine sq (o_pv (.bool true) rfl (by kernel_rfl) ?_)
         refine nil_ ?_
         refine then_normal (q8 _ _ _ ⟨[(99, (.bool true))], fit_mk (fun _ _ => rfl) (by kernel_rfl) (vs_cons (by kernel_rfl) vs_nil), ?_⟩)
         exact ⟨g8, true, rfl, d1, s7, q7, u4, u5, s3, d0, hp⟩
       ·
        rintro _ u2 E3 ⟨v1, s4, rfl, h7, p0, U3, o5, o6, U4, J2, U5⟩
        replace hp := U2 s4 U5
        refine then_normal (J0 _ _ _ _ ?_)
        refine cond_b s4 (by kernel_rfl) (fun d2 => ?_) (fun d2 => ?_)
        ·
         replace hp := hp.1 d2
         refine seq_ (fun _ J3 => ?_)
         refine reg_ ?_
         refine sq (o_pv (.bool false) rfl (by kernel_rfl) ?_)
         refine nil_ ?_
         refine then_normal (J3 _ _ _ _ ?_)
         refine wp_ret ?_
         refine then_ret ?_
         refine blk_ret ?_
         refine then_ret ?_
         refine then_ret ?_
         refine blk_ret ?_
         refine then_ret ?_
         refine end_ret hQ (.bool false) (by kernel_rfl) ?_
         exact ⟨false, hp, h7, rfl⟩
        ·
         replace hp := hp.2 d2
         refine wp_skip ?_
         refine then_normal (K9 _ _ _ _ ?_)
         refine seq_ (fun _ J4 => ?_)
         refine reg_ ?_
         refine sq (o_pv (.int .i64 (1 : Int)) rfl (by kernel_rfl) ?_)
         refine nil_ ?_
         refine then_normal (J4 _ _ _ _ ?_)
         refine wp_block ?_
         obtain ⟨J5, h8, U6, hp⟩ := hp
         refine loop_ 83075482085957013827086444564381760 (fun kq lq y5 => ∃ (y6 : List Nat) (z5 : Int), (lq = [(16, (.int .i64 z5))]) ∧ (kq = h8 z5) ∧ (Evo [] w y5) ∧ (Old y6 y5) ∧ (Sub X y6) ∧ (Sl (rInt .u8) y6 y5 y0 z8 cuts) ∧ (Sl rBool y6 y5 z6 z7 keep) ∧ (Sl r_rectolaw6_file y6 y5 y2 y1 z1) ∧ (MO o_simfs_FS 62 ([]) w.heap.size y6 y5 g9 z9 q6) ∧ (inR .i64 z5) ∧ (J5 z5)) (h8 (1 : Int)) [(16, (.int .i64 (1 : Int)))] (vs_cons (by kernel_rfl) vs_nil) ⟨v1, (1 : Int), rfl, rfl, h7, p0, U3, o5, o6, U4, J2, (by decide : inR .i64 (1 : Int)), U6⟩ ?_
         rintro _ _ y5 E4 ⟨y6, z5, rfl, rfl, h9, k8, o7, r7, r8, U7, b0, U8, U9⟩ D6 T0
         replace hp := hp z5 U9 U8
         refine seq_ (fun _ J6 => ?_)
         refine seq_ (fun _ J7 => ?_)
         refine reg_ ?_
         refine sq (o_pv (.int .i64 z5) rfl (by kernel_rfl) ?_)
         refine sq (o_pv (.slice y2 z1.length y1) rfl (by kernel_rfl) ?_)
         refine sq (o_pv (.int .i64 (z1.length : Int)) rfl (by kernel_rfl) ?_)
         refine sq (o_pv (.bool (decide (z5 < (z1.length : Int)))) rfl (by kernel_rfl) ?_)
         refine nil_ ?_
         refine then_normal (J7 _ _ _ _ ?_)
         refine cond_d (z5 < (z1.length : Int)) (by kernel_rfl) (fun d3 => ?_) (fun d3 => ?_)
         ·
          replace hp := hp.1 d3
          refine wp_skip ?_
          refine then_normal (J6 _ _ _ _ ?_)
          refine seq_ (fun _ J8 => ?_)
          refine wp_block ?_
          refine seq_ (fun _ J9 => ?_)
          refine reg_drawn (RB y5.heap.size []) 10 (by kernel_rfl) (fun b1 q9 => ?_)
          have I0 := Evo.of_drew q9
          have b2 : b1.heap.size = y5.heap.size := by rw [q9]
          clear q9
          have u3 := Step.of0 y6 I0
          have o8 := RB.refl y5.heap.size [] b1
          have b3 := (Evo.then0 h9 (Step.evo u3))
          have p1 := (Old.step k8 u3)
          have T1 := (Sub.trans o7 (Step.up u3))
          have o9 := (Sl.step r7 u3)
          have c0 := (Sl.step r8 u3)
          have k0 := (Sl.step U7 u3)
          have I1 := (MO.step0 b0 u3)
          refine r_take 0 (.slice y2 z1.length y1) (RB.pre _ _) rfl (by kernel_rfl) (fun _ _ _ h => hQ.panic _ _ _ _ _ h) (.inl ⟨rfl, fun wq hq => (by kernel_rfl)⟩) ?_
          refine r_take 1 (.int .i64 z5) (RB.pre _ _) rfl (by kernel_rfl) (fun _ _ _ h => hQ.panic _ _ _ _ _ h) (.inl ⟨rfl, fun wq hq => (by kernel_rfl)⟩) ?_
          obtain ⟨b4, hp⟩ := hp
          obtain ⟨b5, b6, D7, T2, D8, T3, T4, T5⟩ := Sl.atI k0 z5 b4
          obtain ⟨rfl, d4, d5, d6⟩ := r_rectolaw6_file_open T4
          replace hp := hp d4
          replace hp := hp d5
          replace hp := hp d6
          refine r_take 2 (.pointer (some ⟨b5, b6 + z5.toNat * 3, none⟩)) (RB.pre _ _) rfl (by kernel_rfl) (fun _ _ _ h => hQ.panic _ _ _ _ _ h) (.inl ⟨rfl, fun wq hq => (x_ixA (m := z1.length) (c := y1) (k := .i64) (i := z5) Tryz.underlying27 Tryz.sizeOf41 (by rw [← T2]; kernel_rfl) (by kernel_rfl) b4)⟩) ?_
          refine r_take 3 (.pointer (some ⟨b5, b6 + z5.toNat * 3 + 2, none⟩)) (RB.pre _ _) rfl (by kernel_rfl) (fun _ _ _ h => hQ.panic _ _ _ _ _ h) (.inl ⟨rfl, fun wq hq => (by kernel_rfl)⟩) ?_
          refine r_take 4 (.string ((lget z1 z5).data)) (RB.pre _ _) rfl (by kernel_rfl) (fun _ _ _ h => hQ.panic _ _ _ _ _ h) (.inl ⟨rfl, fun wq hq => (x_load1 (by kernel_rfl) Tryz.isAgg9 ((CellsAt.rb T5 (RB.trans o8 hq) (Nat.lt_of_lt_of_eq T3 b2) (fun h => by cases h)) 2 _ rfl))⟩) ?_
          refine r_take 5 (.slice y2 z1.length y1) (RB.pre _ _) rfl (by kernel_rfl) (fun _ _ _ h => hQ.panic _ _ _ _ _ h) (.inl ⟨rfl, fun wq hq => (by kernel_rfl)⟩) ?_
          obtain ⟨b7, hp⟩ := hp
          obtain ⟨b8, b9, D9, T6, C0, T7, T8, T9⟩ := Sl.atI k0 (0 : Int) b7
          obtain ⟨rfl, d7, d8, d9⟩ := r_rectolaw6_file_open T8
          replace hp := hp d7
          replace hp := hp d8
          replace hp := hp d9
          refine r_take 6 (.pointer (some ⟨b8, b9 + (0 : Int).toNat * 3, none⟩)) (RB.pre _ _) rfl (by kernel_rfl) (fun _ _ _ h => hQ.panic _ _ _ _ _ h) (.inl ⟨rfl, fun wq hq => (x_ixA (m := z1.length) (c := y1) (k := .i64) (i := (0 : Int)) Tryz.underlying27 Tryz.sizeOf41 (by rw [← T6]; kernel_rfl) (by kernel_rfl) b7)⟩) ?_
          refine r_take 7 (.pointer (some ⟨b8, b9 + (0 : Int).toNat * 3 + 2, none⟩)) (RB.pre _ _) rfl (by kernel_rfl) (fun _ _ _ h => hQ.panic _ _ _ _ _ h) (.inl ⟨rfl, fun wq hq => (by kernel_rfl)⟩) ?_
          refine r_take 8 (.string ((lget z1 (0 : Int)).data)) (RB.pre _ _) rfl (by kernel_rfl) (fun _ _ _ h => hQ.panic _ _ _ _ _ h) (.inl ⟨rfl, fun wq hq => (x_load1 (by kernel_rfl) Tryz.isAgg9 ((CellsAt.rb T9 (RB.trans o8 hq) (Nat.lt_of_lt_of_eq T7 b2) (fun h => by cases h)) 2 _ rfl))⟩) ?_
          refine r_take 9 (.bool (!decide (((lget z1 z5).data : ByteArray) = (lget z1 (0 : Int)).data))) (RB.pre _ _) rfl (by kernel_rfl) (fun _ _ _ h => hQ.panic _ _ _ _ _ h) (.inl ⟨rfl, fun wq hq => (x_strne (by kernel_rfl) (by kernel_rfl))⟩) ?_
          refine r_done (by kernel_rfl) ?_
          refine then_normal (J9 _ _ _ _ ?_)
          refine cond_nd (((lget z1 z5).data : ByteArray) = (lget z1 (0 : Int)).data) (by kernel_rfl) (fun l0 => ?_) (fun l0 => ?_)
          ·
           replace hp := hp.1 l0
           refine seq_ (fun _ I2 => ?_)
           refine reg_ ?_
           refine sq (o_pv (.bool false) rfl (by kernel_rfl) ?_)
           refine nil_ ?_
           refine then_normal (I2 _ _ _ _ ?_)
           refine wp_ret ?_
           refine blk_ret ?_
           refine then_ret ?_
           refine then_ret ?_
           refine blk_ret ?_
           refine blk_ret ?_
           refine then_ret ?_
           refine then_ret ?_
           refine blk_ret ?_
           refine then_ret ?_
           refine end_ret hQ (.bool false) (by kernel_rfl) ?_
           exact ⟨false, hp, b3, rfl⟩
          ·
           replace hp := hp.2 l0
           refine wp_skip ?_
           refine blk_normal ?_
           refine then_normal (J8 _ _ _ _ ?_)
           refine reg_ ?_
           refine sq (o_pv (.int .i64 z5) rfl (by kernel_rfl) ?_)
           obtain ⟨f0, hp⟩ := hp
           refine sq (o_pv (.int .i64 (z5 + (1 : Int))) rfl (x_add2 (k := .i64) (a := z5) (b := (1 : Int)) (z5 + (1 : Int)) (by kernel_rfl) (by kernel_rfl) (wrap_inR f0)) ?_)
           refine sq (o_pv (.int .i64 (z5 + (1 : Int))) rfl (by kernel_rfl) ?_)
           refine nil_ ?_
           refine then_normal (T0 _ _ _ ⟨_, [(16, (.int .i64 (z5 + (1 : Int))))], hp.2, fit_mk (AgB.mix _ _ _) (by kernel_rfl) (vs_cons (by kernel_rfl) vs_nil), ?_⟩)
           exact ⟨y6, (z5 + (1 : Int)), rfl, rfl, b3, p1, T1, o9, c0, k0, I1, f0, hp.1⟩
         ·
          replace hp := hp.2 d3
          refine wp_exit ?_
          refine then_exit ?_
          refine then_exit ?_
          refine blk_exit ?_
          refine blk_normal ?_
          refine then_normal (R5 _ _ _ _ ?_)
          refine reg_ ?_
          refine sq (o_pv (.int .i64 z2) rfl (by kernel_rfl) ?_)
          obtain ⟨f1, hp⟩ := hp
          refine sq (o_pv (.int .i64 (z2 + (1 : Int))) rfl (x_add2 (k := .i64) (a := z2) (b := (1 : Int)) (z2 + (1 : Int)) (by kernel_rfl) (by kernel_rfl) (wrap_inR f1)) ?_)
          refine sq (o_pv (.int .i64 (z2 + (1 : Int))) rfl (by kernel_rfl) ?_)
          refine nil_ ?_
          refine then_normal (Z2 _ _ _ ⟨_, [(9, (.int .u8 v5)), (10, (.int .i64 (z2 + (1 : Int))))], hp.2, fit_mk (AgB.nest (AgB.nest (AgB.look (AgB.nest (AgB.look (AgB.mix _ _ _) (by kernel_rfl)) (by kernel_rfl) (by kernel_rfl)) (by kernel_rfl)) (by kernel_rfl) (by kernel_rfl)) (by kernel_rfl) (by kernel_rfl)) (by kernel_rfl) (vs_cons (by kernel_rfl) (vs_cons (by kernel_rfl) vs_nil)), ?_⟩)
          exact ⟨y6, v5, (z2 + (1 : Int)), q6, g9, rfl, rfl, h9, k8, o7, r7, r8, b0, n8, f1, hp.1⟩
    ·
     replace hp := hp.2 j1
     refine wp_exit ?_
     refine then_exit ?_
     refine then_exit ?_
     refine blk_exit ?_
     refine then_normal (G6 _ _ _ _ ?_)
     refine seq_ (fun _ I3 => ?_)
     refine reg_ ?_
     refine sq (o_pv (.bool true) rfl (by kernel_rfl) ?_)
     refine nil_ ?_
     refine then_normal (I3 _ _ _ _ ?_)
     refine wp_ret ?_
     refine end_ret hQ (.bool true) (by kernel_rfl) ?_
     exact ⟨true, hp, k9, rfl⟩
end Go.Proofs.YtlkfoebophjhfaaGreatDoor
