/- Walks of functions: what each asks and computes, as a plain predicate, and the contract from it. -/
import Derived.Test.YtlkfoebophjhfaaGreatDoorChecked
import Derived.Test.YtlkfoebophjhfaaGreatDoorJa7
namespace Go.Proofs.YtlkfoebophjhfaaGreatDoor
open Go
def rectolaw6_JournalMoves_p (b : (List Int)) (c : (List Int)) (up : Bool) (Q : Bool → Prop) : Prop :=
 ((b.length ≤ 9223372036854775807) → ((c.length ≤ 9223372036854775807) → (rectolaw6_known_p  (fun (y2 : Bool) => ((((!y2) = true) → Q false) ∧ (((!y2) = false) → (((((b.length : Int) > (300 : Int)) ∨ ((c.length : Int) > (300 : Int))) → Q true) ∧ ((¬ (((b.length : Int) > (300 : Int)) ∨ ((c.length : Int) > (300 : Int)))) → (simfs_New_p (0 : Int) (fun (y4 : S_simfs_FS) => (∃ z6 : ByteArray → ByteArray → Prop, (∀ (z2 : ByteArray) (z3 : ByteArray), z6 z2 z3 → (z2.size ≤ maxLen) → (z3.size ≤ maxLen) → (journal_Do_p y4 (ByteArray.mk #[46, 106]) ([(S_journal_Change.mk z2 false (1 : Int) b)]) (fun (y3 : S_simfs_FS) (z7 : Int) => ((inR .i64 z7) → (journal_Do_p y3 (ByteArray.mk #[46, 106]) ([(S_journal_Change.mk z3 false (1 : Int) c)]) (fun (y0 : S_simfs_FS) (z4 : Int) => ((inR .i64 z4) → (journal_Do_p y0 (ByteArray.mk #[46, 106]) ([(S_journal_Change.mk z3 false (2 : Int) c), (S_journal_Change.mk z2 true (0 : Int) ([] : List Int))]) (fun (y1 : S_simfs_FS) (z5 : Int) => ((inR .i64 z5) → (rectolaw6_all_p y1 (ByteArray.mk #[46, 106]) (fun (y5 : S_simfs_FS) (z0 : (List S_rectolaw6_file)) (z8 : Bool) => ((z0.length ≤ 9223372036854775807) → (∃ z1 : Bool → Prop, (∀ (z9 : Bool), z1 z9 → Q z9) ∧ (((z7 = (0 : Int)) → (((z4 = (11 : Int)) → (((z5 = (0 : Int)) → (((z8 = true) → ((((z0.length : Int) = (1 : Int)) → ((inL z0 (0 : Int)) ∧ ((((lget z0 (0 : Int)).path).size ≤ maxLen) → ((inR .i64 ((lget z0 (0 : Int)).mode)) → ((((lget z0 (0 : Int)).data).size ≤ maxLen) → (((((lget z0 (0 : Int)).path : ByteArray) = z3) → ((inL z0 (0 : Int)) ∧ ((((lget z0 (0 : Int)).path).size ≤ maxLen) → ((inR .i64 ((lget z0 (0 : Int)).mode)) → ((((lget z0 (0 : Int)).data).size ≤ maxLen) → (((((lget z0 (0 : Int)).data : ByteArray) = strOfNums c) → ((inL z0 (0 : Int)) ∧ ((((lget z0 (0 : Int)).path).size ≤ maxLen) → ((inR .i64 ((lget z0 (0 : Int)).mode)) → ((((lget z0 (0 : Int)).data).size ≤ maxLen) → (z1 (decide (((lget z0 (0 : Int)).mode) = (2 : Int))))))))) ∧ ((¬ (((lget z0 (0 : Int)).data : ByteArray) = strOfNums c)) → (z1 false)))))))) ∧ ((¬ (((lget z0 (0 : Int)).path : ByteArray) = z3)) → (z1 false)))))))) ∧ ((¬ ((z0.length : Int) = (1 : Int))) → (z1 false)))) ∧ ((¬ (z8 = true)) → (z1 false)))) ∧ ((¬ (z5 = (0 : Int))) → (z1 false)))) ∧ ((¬ (z4 = (11 : Int))) → (z1 false)))) ∧ ((¬ (z7 = (0 : Int))) → (z1 false))))))))))))))))) ∧ (((up = true) → (z6 (ByteArray.mk #[100, 47, 97]) (ByteArray.mk #[100]))) ∧ ((up = false) → (z6 (ByteArray.mk #[100]) (ByteArray.mk #[100, 47, 97])))))))))))))))
set_option maxRecDepth 20000 in
set_option maxHeartbeats 4000000 in
theorem rectolaw6_JournalMoves_w {X : List Nat} {w : World} {b : (List Int)} {c : (List Int)} {up : Bool} {y4 : Option Addr} {y5 : Nat} {z5 : Option Addr} {z6 : Nat} {Q : Bool → Prop} (r7 : Old X w) (o3 : Sl (rInt .u8) X w y4 y5 b) (o4 : Sl (rInt .u8) X w z5 z6 c) (hp : rectolaw6_JournalMoves_p b c up Q) :
  Calls Tryz.prog 4 #[(.slice y4 b.length y5), (.slice z5 c.length z6), (.bool up)] w (Ret fun v w' => ∃ (h6 : Bool), Q h6 ∧ Evo [] w w' ∧ v = (.bool h6)) := by
 have hXo := r7
 have E0 : Evo [] w w := RB.refl _ _ _
 have hS : Sub X X := Sub.refl _
 unfold rectolaw6_JournalMoves_p at hp
 refine enter_ Tryz.func4 rfl 94 [(0, (.slice y4 b.length y5)), (1, (.slice z5 c.length z6)), (2, (.bool up))] (by kernel_rfl) (fun Qe hQ => ?_)
 replace hp := hp (Sl.len o3)
 replace hp := hp (Sl.len o4)
 refine seq_ (fun _ p8 => ?_)
 refine reg_ ?_
 refine sq (o_pv (.bool false) rfl (by kernel_rfl) ?_)
 refine nil_ ?_
 refine then_normal (p8 _ _ _ _ ?_)
 refine seq_ (fun _ p9 => ?_)
 refine seq_ (fun _ Z0 => ?_)
 refine reg_ ?_
 refine sq (o_call 7 #[] rfl (x_call Tryz.call7 (by kernel_rfl)) (rectolaw6_known_w (X := [])  (Old.nil _) hp) ?_)
 rintro _ h7 ⟨o5, hp, r8, rfl⟩
 have r9 := Step.of0 X r8
 refine sq (o_pv (.bool (!o5)) rfl (by kernel_rfl) ?_)
 refine nil_ ?_
 refine then_normal (Z0 _ _ _ _ ?_)
 refine cond_b (!o5) (by kernel_rfl) (fun q9 => ?_) (fun q9 => ?_)
 ·
  replace hp := hp.1 q9
  refine seq_ (fun _ h8 => ?_)
  refine reg_ ?_
  refine sq (o_pv (.bool false) rfl (by kernel_rfl) ?_)
  refine nil_ ?_
  refine then_normal (h8 _ _ _ _ ?_)
  refine wp_ret ?_
  refine then_ret ?_
  have h9 := (Evo.then0 E0 r8)
  refine end_ret hQ (.bool false) (by kernel_rfl) ?_
  exact ⟨false, hp, h9, rfl⟩
 ·
  replace hp := hp.2 q9
  refine wp_skip ?_
  refine then_normal (p9 _ _ _ _ ?_)
  refine seq_ (fun _ b0 => ?_)
  refine seq_ (fun _ b1 => ?_)
  refine ground_ ?_
  refine join_ 33423360 (fun lq o6 => lq = [(24, (.bool (decide (((b.length : Int) > (300 : Int)) ∨ ((c.length : Int) > (300 : Int))))))] ∧ h7 = o6) (fun Z1 k0 => ?_) ?_
  ·
   refine reg_ ?_
   refine sq (o_pv (.slice y4 b.length y5) rfl (by kernel_rfl) ?_)
   refine sq (o_pv (.int .i64 (b.length : Int)) rfl (by kernel_rfl) ?_)
   by_cases q0 : (b.length : Int) > (300 : Int)
   ·
    refine sq (o_pv (.bool true) rfl (x_dt (p := (b.length : Int) > (300 : Int)) (by kernel_rfl) q0) ?_)
    refine sq (o_pv (.bool true) rfl (by kernel_rfl) ?_)
    refine sq (o_not (by kernel_rfl) ?_)
    refine sq (o_not (by kernel_rfl) ?_)
    refine sq (o_not (by kernel_rfl) ?_)
    refine sq (o_pv (.bool true) rfl (by kernel_rfl) ?_)
    refine nil_ ?_
    refine then_normal (k0 _ _ _ ⟨[(24, (.bool (decide (((b.length : Int) > (300 : Int)) ∨ ((c.length : Int) > (300 : Int))))))], fit_mk (fun _ _ => rfl) (by kernel_rfl) (vs_cons (Eq.trans (b := (.bool true)) (by kernel_rfl) (dec_t (iff_true_intro (Or.inl q0))).symm) vs_nil), rfl, rfl⟩)
   ·
    refine sq (o_pv (.bool false) rfl (x_df (p := (b.length : Int) > (300 : Int)) (by kernel_rfl) q0) ?_)
    refine sq (o_pv (.bool false) rfl (by kernel_rfl) ?_)
    refine sq (o_pv (.slice z5 c.length z6) (by kernel_rfl) (by kernel_rfl) ?_)
    refine sq (o_pv (.int .i64 (c.length : Int)) (by kernel_rfl) (by kernel_rfl) ?_)
    refine sq (o_pv (.bool (decide ((c.length : Int) > (300 : Int)))) (by kernel_rfl) (by kernel_rfl) ?_)
    refine sq (o_pv (.bool (decide ((c.length : Int) > (300 : Int)))) rfl (by kernel_rfl) ?_)
    refine nil_ ?_
    refine then_normal (k0 _ _ _ ⟨[(24, (.bool (decide (((b.length : Int) > (300 : Int)) ∨ ((c.length : Int) > (300 : Int))))))], fit_mk (fun _ _ => rfl) (by kernel_rfl) (vs_cons (Eq.trans (b := (.bool (decide ((c.length : Int) > (300 : Int))))) (by kernel_rfl) (dec_d ((or_iff_right q0).trans Iff.rfl)).symm) vs_nil), rfl, rfl⟩)
  ·
   rintro _ o6 Y6 ⟨rfl, hw⟩
   subst hw
   refine then_normal (b1 _ _ _ _ ?_)
   refine cond_d (((b.length : Int) > (300 : Int)) ∨ ((c.length : Int) > (300 : Int))) (by kernel_rfl) (fun k1 => ?_) (fun k1 => ?_)
   ·
    replace hp := hp.1 k1
    refine seq_ (fun _ b2 => ?_)
    refine reg_ ?_
    refine sq (o_pv (.bool true) rfl (by kernel_rfl) ?_)
    refine nil_ ?_
    refine then_normal (b2 _ _ _ _ ?_)
    refine wp_ret ?_
    refine then_ret ?_
    have b3 := (Evo.then0 E0 r8)
    refine end_ret hQ (.bool true) (by kernel_rfl) ?_
    exact ⟨true, hp, b3, rfl⟩
   ·
    replace hp := hp.2 k1
    refine wp_skip ?_
    refine then_normal (b0 _ _ _ _ ?_)
    refine seq_ (fun _ b4 => ?_)
    refine reg_ ?_
    have c6 := (Sl.step o3 r9)
    have c7 := (Sl.step o4 r9)
    have q1 := (Old.step hXo r9)
    have o7 := (Evo.then0 E0 r8)
    have c8 := (Sub.trans hS (Step.up r9))
    refine sq (o_call 11 #[(.int .i64 (0 : Int))] rfl (x_call Tryz.call11 (by kernel_rfl)) (simfs_New_w (X := X) (quota := (0 : Int)) q1 (by decide : inR .i64 (0 : Int)) hp) ?_)
    rintro _ Y7 ⟨o8, hp, o9, z9, c9, t3, rfl, k2⟩
    have c0 := MO.re k2 (Wr.trans k2.wr (Wr.nil [] _) o7.size)
    refine sq (o_pv (.pointer (some ⟨z9, 0, none⟩)) rfl (by kernel_rfl) ?_)
    refine nil_ ?_
    refine then_normal (b4 _ _ _ _ ?_)
    refine seq_ (fun _ b5 => ?_)
    refine reg_ ?_
    refine sq (o_pv (.string (ByteArray.mk #[100])) rfl (by kernel_rfl) ?_)
    refine nil_ ?_
    refine then_normal (b5 _ _ _ _ ?_)
    refine seq_ (fun _ b6 => ?_)
    refine reg_ ?_
    refine sq (o_pv (.string (ByteArray.mk #[100, 47, 97])) rfl (by kernel_rfl) ?_)
    refine nil_ ?_
    refine then_normal (b6 _ _ _ _ ?_)
    refine seq_ (fun _ b7 => ?_)
    refine seq_ (fun _ b8 => ?_)
    refine reg_ ?_
    refine sq (o_pv (.bool up) rfl (by kernel_rfl) ?_)
    refine nil_ ?_
    refine then_normal (b8 _ _ _ _ ?_)
    have k3 := (Sl.step c6 t3)
    have k4 := (Sl.step c7 t3)
    have q2 := (Old.step q1 t3)
    have c1 := (Evo.then0 o7 (Step.evo t3))
    have k5 := (Sub.trans c8 (Step.up t3))
    obtain ⟨b9, a0, hp⟩ := hp
    refine ground_ ?_
    refine join_ 768 (fun lq v5 => ∃ (y8 : List Nat) (z0 : ByteArray) (z1 : ByteArray), (lq = [(8, (.string z0)), (9, (.string z1))]) ∧ (Evo [] w v5) ∧ (Old y8 v5) ∧ (Sub X y8) ∧ (Sl (rInt .u8) y8 v5 y4 y5 b) ∧ (Sl (rInt .u8) y8 v5 z5 z6 c) ∧ (MO o_simfs_FS 62 ([]) w.heap.size y8 v5 c9 z9 o8) ∧ (z0.size ≤ maxLen) ∧ (z1.size ≤ maxLen) ∧ (b9 z0 z1)) (fun Z2 k6 => ?_) ?_
    ·
     refine cond_b up (by kernel_rfl) (fun k7 => ?_) (fun k7 => ?_)
     ·
      replace hp := hp.1 k7
      refine seq_ (fun _ f0 => ?_)
      refine reg_ ?_
      refine sq (o_pv (.string (ByteArray.mk #[100, 47, 97])) rfl (by kernel_rfl) ?_)
      refine nil_ ?_
      refine then_normal (f0 _ _ _ _ ?_)
      refine reg_ ?_
      refine sq (o_pv (.string (ByteArray.mk #[100])) rfl (by kernel_rfl) ?_)
      refine nil_ ?_
      refine then_normal (k6 _ _ _ ⟨[(8, (.string (ByteArray.mk #[100, 47, 97]))), (9, (.string (ByteArray.mk #[100])))], fit_mk (fun _ _ => rfl) (by kernel_rfl) (vs_cons (by kernel_rfl) (vs_cons (by kernel_rfl) vs_nil)), ?_⟩)
      exact ⟨o9, (ByteArray.mk #[100, 47, 97]), (ByteArray.mk #[100]), rfl, c1, q2, k5, k3, k4, c0, (by decide : (ByteArray.mk #[100, 47, 97]).size ≤ maxLen), (by decide : (ByteArray.mk #[100]).size ≤ maxLen), hp⟩
     ·
      replace hp := hp.2 k7
      refine wp_skip ?_
      refine then_normal (k6 _ _ _ ⟨[(8, (.string (ByteArray.mk #[100]))), (9, (.string (ByteArray.mk #[100, 47, 97])))], fit_mk (fun _ _ => rfl) (by kernel_rfl) (vs_cons (by kernel_rfl) (vs_cons (by kernel_rfl) vs_nil)), ?_⟩)
      exact ⟨o9, (ByteArray.mk #[100]), (ByteArray.mk #[100, 47, 97]), rfl, c1, q2, k5, k3, k4, c0, (by decide : (ByteArray.mk #[100]).size ≤ maxLen), (by decide : (ByteArray.mk #[100, 47, 97]).size ≤ maxLen), hp⟩
    ·
     rintro _ v5 Y8 ⟨y8, z0, z1, rfl, c2, d7, a1, a2, a3, c3, y3, y9, a4⟩
     replace hp := a0 z0 z1 a4 y3 y9
     refine then_normal (b7 _ _ _ _ ?_)
     refine seq_ (fun _ f1 => ?_)
     refine reg_ ?_
     refine sq (o_pv (.pointer (some ⟨z9, 0, none⟩)) rfl (by kernel_rfl) ?_)
     refine sq (o_pv (.string z0) rfl (by kernel_rfl) ?_)
     refine sq (o_pv (.slice y4 b.length y5) rfl (by kernel_rfl) ?_)
     refine sq (o_pv (.agg #[(.string z0), (.bool false), (.int .i64 (1 : Int)), (.slice y4 b.length y5)]) rfl (by kernel_rfl) ?_)
     refine sq (o_rowX (R := r_journal_Change) [(.string z0), (.bool false), (.int .i64 (1 : Int)), (.slice y4 b.length y5)] [(S_journal_Change.mk z0 false (1 : Int) b)] 34 1 (X := y8) (B := w.heap.size) c2.size rfl (by kernel_rfl) (Flat.cons (cs := [(.string z0), (.bool false), (.int .i64 (1 : Int)), (.slice y4 b.length y5)]) (r_journal_Change_mk y3 (by decide : inR .i64 (1 : Int)) a2 rfl) Flat.nil) rfl (by decide) ?_)
     intro f2 Y9 V0 t4 k8 f3
     have f4 := f3 _ (MO.old c3)
     have a5 := (Sub.trans a1 (Step.up t4))
     have f5 := (Evo.then0 c2 (Step.evo t4))
     have d8 := (Old.step d7 t4)
     have a6 := (Sl.step a3 t4)
     have c4 := (MO.step0 c3 t4)
     have a7 := OS.apold k8 r7
     obtain ⟨f6, k9, f7, j0⟩ := OS.release k8
     have c5 := f5
     have q3 := (Old.less d8 k9)
     have a8 := (j0 _ a7 a5)
     have a9 := (Sl.less a6 k9)
     have j1 := (MO.less c4 k9 (j0 _ f4 (MO.mem c4)))
     refine sq (o_call 12 #[(.pointer (some ⟨z9, 0, none⟩)), (.string (ByteArray.mk #[46, 106])), (.slice (some ⟨f2, 0, none⟩) ([(S_journal_Change.mk z0 false (1 : Int) b)]).length 1)] rfl (x_call Tryz.call12 (by rw [← show 1 = ([(S_journal_Change.mk z0 false (1 : Int) b)]).length from k8.1]; kernel_rfl)) (journal_Do_w (X := f6) (f_ := o8) (dir := (ByteArray.mk #[46, 106])) (l := [(S_journal_Change.mk z0 false (1 : Int) b)]) q3 (MO.re j1 (Wr.self _ _ (Sub.refl _))) (by decide : (ByteArray.mk #[46, 106]).size ≤ maxLen) f7 hp) ?_)
     rintro _ Z3 ⟨e0, t5, hp, e1, Z4, v6, rfl, j2, d9⟩
     have j3 := MO.re j2 (Wr.trans j2.wr j1.wr c5.size)
     replace hp := hp d9
     refine sq (o_pv (.int .i64 t5) rfl (by kernel_rfl) ?_)
     refine nil_ ?_
     refine then_normal (f1 _ _ _ _ ?_)
     refine seq_ (fun _ e2 => ?_)
     refine reg_ ?_
     refine sq (o_pv (.pointer (some ⟨z9, 0, none⟩)) rfl (by kernel_rfl) ?_)
     refine sq (o_pv (.string z1) rfl (by kernel_rfl) ?_)
     refine sq (o_pv (.slice z5 c.length z6) rfl (by kernel_rfl) ?_)
     refine sq (o_pv (.agg #[(.string z1), (.bool false), (.int .i64 (1 : Int)), (.slice z5 c.length z6)]) rfl (by kernel_rfl) ?_)
     have q4 := (Sl.step a9 v6)
     have j4 := (Evo.thenW c5 (Step.evo v6) j1.wr)
     refine sq (o_rowX (R := r_journal_Change) [(.string z1), (.bool false), (.int .i64 (1 : Int)), (.slice z5 c.length z6)] [(S_journal_Change.mk z1 false (1 : Int) c)] 34 1 (X := e1) (B := w.heap.size) j4.size rfl (by kernel_rfl) (Flat.cons (cs := [(.string z1), (.bool false), (.int .i64 (1 : Int)), (.slice z5 c.length z6)]) (r_journal_Change_mk y9 (by decide : inR .i64 (1 : Int)) q4 rfl) Flat.nil) rfl (by decide) ?_)
     intro e3 Z5 Z6 v0 s8 e4
     have e5 := e4 _ (MO.old j3)
     have l0 := (Sub.trans (Sub.trans a8 (Step.up v6)) (Step.up v0))
     have e6 := (Evo.then0 j4 (Step.evo v0))
     have j5 := (Old.step (Old.step q3 v6) v0)
     have l1 := (Sl.step q4 v0)
     have j6 := (MO.step0 j3 v0)
     have l2 := OS.apold s8 r7
     obtain ⟨e7, s9, e8, q5⟩ := OS.release s8
     have j7 := e6
     have t6 := (Old.less j5 s9)
     have l3 := (q5 _ l2 l0)
     have l4 := (Sl.less l1 s9)
     have r0 := (MO.less j6 s9 (q5 _ e5 (MO.mem j6)))
     refine sq (o_call 12 #[(.pointer (some ⟨z9, 0, none⟩)), (.string (ByteArray.mk #[46, 106])), (.slice (some ⟨e3, 0, none⟩) ([(S_journal_Change.mk z1 false (1 : Int) c)]).length 1)] rfl (x_call Tryz.call12 (by rw [← show 1 = ([(S_journal_Change.mk z1 false (1 : Int) c)]).length from s8.1]; kernel_rfl)) (journal_Do_w (X := e7) (f_ := e0) (dir := (ByteArray.mk #[46, 106])) (l := [(S_journal_Change.mk z1 false (1 : Int) c)]) t6 (MO.re r0 (Wr.self _ _ (Sub.refl _))) (by decide : (ByteArray.mk #[46, 106]).size ≤ maxLen) e8 hp) ?_)
     rintro _ Z7 ⟨l5, v1, hp, e9, Z8, v7, rfl, j8, l6⟩
     have j9 := MO.re j8 (Wr.trans j8.wr r0.wr j7.size)
     replace hp := hp l6
     refine sq (o_pv (.int .i64 v1) rfl (by kernel_rfl) ?_)
     refine nil_ ?_
     refine then_normal (e2 _ _ _ _ ?_)
     refine seq_ (fun _ i0 => ?_)
     refine reg_ ?_
     refine sq (o_pv (.pointer (some ⟨z9, 0, none⟩)) rfl (by kernel_rfl) ?_)
     refine sq (o_pv (.string z1) rfl (by kernel_rfl) ?_)
     refine sq (o_pv (.slice z5 c.length z6) rfl (by kernel_rfl) ?_)
     refine sq (o_pv (.agg #[(.string z1), (.bool false), (.int .i64 (2 : Int)), (.slice z5 c.length z6)]) rfl (by kernel_rfl) ?_)
     refine sq (o_pv (.string z0) rfl (by kernel_rfl) ?_)
     refine sq (o_pv (.agg #[(.string z0), (.bool true), (.int .i64 (0 : Int)), (.slice none 0 0)]) rfl (by kernel_rfl) ?_)
     have q6 := (Sl.step l4 v7)
     have g0 := (Evo.thenW j7 (Step.evo v7) r0.wr)
     refine sq (o_rowX (R := r_journal_Change) [(.string z1), (.bool false), (.int .i64 (2 : Int)), (.slice z5 c.length z6), (.string z0), (.bool true), (.int .i64 (0 : Int)), (.slice none 0 0)] [(S_journal_Change.mk z1 false (2 : Int) c), (S_journal_Change.mk z0 true (0 : Int) ([] : List Int))] 34 2 (X := e9) (B := w.heap.size) g0.size rfl (by kernel_rfl) (Flat.cons (cs := [(.string z1), (.bool false), (.int .i64 (2 : Int)), (.slice z5 c.length z6)]) (r_journal_Change_mk y9 (by decide : inR .i64 (2 : Int)) q6 rfl) (Flat.cons (cs := [(.string z0), (.bool true), (.int .i64 (0 : Int)), (.slice none 0 0)]) (r_journal_Change_mk y3 (by decide : inR .i64 (0 : Int)) (Sl.nil) rfl) Flat.nil)) rfl (by decide) ?_)
     intro i1 Z9 Y0 v2 r1 i2
     have i3 := i2 _ (MO.old j9)
     have l7 := (Sub.trans (Sub.trans l3 (Step.up v7)) (Step.up v2))
     have i4 := (Evo.then0 g0 (Step.evo v2))
     have g1 := (Old.step (Old.step t6 v7) v2)
     have l8 := (Sl.step q6 v2)
     have g2 := (MO.step0 j9 v2)
     have l9 := OS.apold r1 r7
     obtain ⟨i5, r2, i6, q7⟩ := OS.release r1
     have g3 := i4
     have t7 := (Old.less g1 r2)
     have m0 := (q7 _ l9 l7)
     have m1 := (Sl.less l8 r2)
     have r3 := (MO.less g2 r2 (q7 _ i3 (MO.mem g2)))
     refine sq (o_call 12 #[(.pointer (some ⟨z9, 0, none⟩)), (.string (ByteArray.mk #[46, 106])), (.slice (some ⟨i1, 0, none⟩) ([(S_journal_Change.mk z1 false (2 : Int) c), (S_journal_Change.mk z0 true (0 : Int) ([] : List Int))]).length 2)] rfl (x_call Tryz.call12 (by rw [← show 2 = ([(S_journal_Change.mk z1 false (2 : Int) c), (S_journal_Change.mk z0 true (0 : Int) ([] : List Int))]).length from r1.1]; kernel_rfl)) (journal_Do_w (X := i5) (f_ := l5) (dir := (ByteArray.mk #[46, 106])) (l := [(S_journal_Change.mk z1 false (2 : Int) c), (S_journal_Change.mk z0 true (0 : Int) ([] : List Int))]) t7 (MO.re r3 (Wr.self _ _ (Sub.refl _))) (by decide : (ByteArray.mk #[46, 106]).size ≤ maxLen) i6 hp) ?_)
     rintro _ Y1 ⟨m2, v3, hp, i7, Y2, v8, rfl, g4, m3⟩
     have g5 := MO.re g4 (Wr.trans g4.wr r3.wr g3.size)
     replace hp := hp m3
     refine sq (o_pv (.int .i64 v3) rfl (by kernel_rfl) ?_)
     refine nil_ ?_
     refine then_normal (i0 _ _ _ _ ?_)
     refine seq_ (fun _ i9 => ?_)
     refine reg_ ?_
     refine sq (o_pv (.pointer (some ⟨z9, 0, none⟩)) rfl (by kernel_rfl) ?_)
     have h0 := (Evo.thenW g3 (Step.evo v8) r3.wr)
     have t8 := (Old.step t7 v8)
     have m4 := (Sub.trans m0 (Step.up v8))
     have m5 := (Sl.step m1 v8)
     refine sq (o_call 13 #[(.pointer (some ⟨z9, 0, none⟩)), (.string (ByteArray.mk #[46, 106]))] rfl (x_call Tryz.call13 (by kernel_rfl)) (rectolaw6_all_w (X := i7) (f_ := m2) (dir := (ByteArray.mk #[46, 106])) t8 (MO.re g5 (Wr.self _ _ (Sub.refl _))) (by decide : (ByteArray.mk #[46, 106]).size ≤ maxLen) hp) ?_)
     rintro _ r4 ⟨f9, z2, v9, hp, y0, Y3, y1, z3, u1, rfl, Y4, q8⟩
     replace hp := hp (Sl.len q8)
     refine sq (o_pv (.tuple #[(.slice y1 z2.length z3), (.bool v9)]) rfl (by kernel_rfl) ?_)
     refine sq (o_pv (.slice y1 z2.length z3) rfl (by kernel_rfl) ?_)
     refine sq (o_pv (.bool v9) rfl (by kernel_rfl) ?_)
     refine sq (o_pv (.slice y1 z2.length z3) rfl (by kernel_rfl) ?_)
     refine sq (o_pv (.bool v9) rfl (by kernel_rfl) ?_)
     refine nil_ ?_
     refine then_normal (i9 _ _ _ _ ?_)
     refine seq_ (fun _ h1 => ?_)
     have h2 := (Evo.thenW h0 (Step.evo u1) g5.wr)
     have g6 := (Old.step t8 u1)
     have m6 := (Sub.trans m4 (Step.up u1))
     have m7 := (Sl.step m5 u1)
     obtain ⟨h3, m8, hp⟩ := hp
     refine ground_ ?_
     refine join_ 19807040628561580798758617152 (fun lq r5 => ∃ (r6 : List Nat) (y6 : Bool), (lq = [(6, (.bool y6))]) ∧ (Evo [] w r5) ∧ (Old r6 r5) ∧ (Sub X r6) ∧ (h3 y6)) (fun p0 z7 => ?_) ?_
     ·
      refine reg_drawn (RB r4.heap.size []) 42 (by kernel_rfl) (fun g7 u2 => ?_)
      have h4 := Evo.of_drew u2
      have u3 : g7.heap.size = r4.heap.size := by rw [u2]
      clear u2
      have v4 := Step.of0 y0 h4
      have y7 := RB.refl r4.heap.size [] g7
      have y2 := (Evo.then0 h2 (Step.evo v4))
      have z4 := (Old.step g6 v4)
      have z8 := (Sub.trans m6 (Step.up v4))
      have m9 := (Sl.step m7 v4)
      have u4 := (Sl.step q8 v4)
      refine r_take 0 (.int .i64 t5) (RB.pre _ _) rfl (by kernel_rfl) (fun _ _ _ h => hQ.panic _ _ _ _ _ h) (.inl ⟨rfl, fun wq hq => (by kernel_rfl)⟩) ?_
      by_cases u5 : t5 = (0 : Int)
      ·
       replace hp := hp.1 u5
       refine r_take 1 (.bool true) (RB.pre _ _) rfl (by kernel_rfl) (fun _ _ _ h => hQ.panic _ _ _ _ _ h) (.inl ⟨rfl, fun wq hq => (x_dt (p := t5 = (0 : Int)) (by kernel_rfl) u5)⟩) ?_
       refine r_take 2 (.bool true) (RB.pre _ _) rfl (by kernel_rfl) (fun _ _ _ h => hQ.panic _ _ _ _ _ h) (.inl ⟨rfl, fun wq hq => (by kernel_rfl)⟩) ?_
       refine r_take 3 (.int .i64 v1) (RB.pre _ _) rfl (by kernel_rfl) (fun _ _ _ h => hQ.panic _ _ _ _ _ h) (.inl ⟨(by kernel_rfl), fun wq hq => (by kernel_rfl)⟩) ?_
       by_cases u6 : v1 = (11 : Int)
       ·
        replace hp := hp.1 u6
        refine r_take 4 (.bool true) (RB.pre _ _) rfl (by kernel_rfl) (fun _ _ _ h => hQ.panic _ _ _ _ _ h) (.inl ⟨(by kernel_rfl), fun wq hq => (x_dt (p := v1 = (11 : Int)) (by kernel_rfl) u6)⟩) ?_
        refine r_take 5 (.bool true) (RB.pre _ _) rfl (by kernel_rfl) (fun _ _ _ h => hQ.panic _ _ _ _ _ h) (.inl ⟨rfl, fun wq hq => (by kernel_rfl)⟩) ?_
        refine r_take 6 (.bool true) (RB.pre _ _) rfl (by kernel_rfl) (fun _ _ _ h => hQ.panic _ _ _ _ _ h) (.inl ⟨rfl, fun wq hq => (by kernel_rfl)⟩) ?_
        refine r_take 7 (.int .i64 v3) (RB.pre _ _) rfl (by kernel_rfl) (fun _ _ _ h => hQ.panic _ _ _ _ _ h) (.inl ⟨(by kernel_rfl), fun wq hq => (by kernel_rfl)⟩) ?_
        by_cases u7 : v3 = (0 : Int)
        ·
         replace hp := hp.1 u7
         refine r_take 8 (.bool true) (RB.pre _ _) rfl (by kernel_rfl) (fun _ _ _ h => hQ.panic _ _ _ _ _ h) (.inl ⟨(by kernel_rfl), fun wq hq => (x_dt (p := v3 = (0 : Int)) (by kernel_rfl) u7)⟩) ?_
         refine r_take 9 (.bool true) (RB.pre _ _) rfl (by kernel_rfl) (fun _ _ _ h => hQ.panic _ _ _ _ _ h) (.inl ⟨rfl, fun wq hq => (by kernel_rfl)⟩) ?_
         refine r_take 10 (.bool true) (RB.pre _ _) rfl (by kernel_rfl) (fun _ _ _ h => hQ.panic _ _ _ _ _ h) (.inl ⟨rfl, fun wq hq => (by kernel_rfl)⟩) ?_
         by_cases u9 : v9 = true
         ·
          replace hp := hp.1 u9
          refine r_take 11 (.bool true) (RB.pre _ _) rfl (by kernel_rfl) (fun _ _ _ h => hQ.panic _ _ _ _ _ h) (.inl ⟨(by kernel_rfl), fun wq hq => (x_bt (by kernel_rfl) u9)⟩) ?_
          refine r_take 12 (.bool true) (RB.pre _ _) rfl (by kernel_rfl) (fun _ _ _ h => hQ.panic _ _ _ _ _ h) (.inl ⟨rfl, fun wq hq => (by kernel_rfl)⟩) ?_
          refine r_take 13 (.bool true) (RB.pre _ _) rfl (by kernel_rfl) (fun _ _ _ h => hQ.panic _ _ _ _ _ h) (.inl ⟨rfl, fun wq hq => (by kernel_rfl)⟩) ?_
          refine r_take 14 (.slice y1 z2.length z3) (RB.pre _ _) rfl (by kernel_rfl) (fun _ _ _ h => hQ.panic _ _ _ _ _ h) (.inl ⟨(by kernel_rfl), fun wq hq => (by kernel_rfl)⟩) ?_
          refine r_take 15 (.int .i64 (z2.length : Int)) (RB.pre _ _) rfl (by kernel_rfl) (fun _ _ _ h => hQ.panic _ _ _ _ _ h) (.inl ⟨(by kernel_rfl), fun wq hq => (by kernel_rfl)⟩) ?_
          by_cases t0 : (z2.length : Int) = (1 : Int)
          ·
           replace hp := hp.1 t0
           refine r_take 16 (.bool true) (RB.pre _ _) rfl (by kernel_rfl) (fun _ _ _ h => hQ.panic _ _ _ _ _ h) (.inl ⟨(by kernel_rfl), fun wq hq => (x_dt (p := (z2.length : Int) = (1 : Int)) (by kernel_rfl) t0)⟩) ?_
           refine r_take 17 (.bool true) (RB.pre _ _) rfl (by kernel_rfl) (fun _ _ _ h => hQ.panic _ _ _ _ _ h) (.inl ⟨rfl, fun wq hq => (by kernel_rfl)⟩) ?_
           refine r_take 18 (.bool true) (RB.pre _ _) rfl (by kernel_rfl) (fun _ _ _ h => hQ.panic _ _ _ _ _ h) (.inl ⟨rfl, fun wq hq => (by kernel_rfl)⟩) ?_
           refine r_take 19 (.slice y1 z2.length z3) (RB.pre _ _) rfl (by kernel_rfl) (fun _ _ _ h => hQ.panic _ _ _ _ _ h) (.inl ⟨(by kernel_rfl), fun wq hq => (by kernel_rfl)⟩) ?_
           obtain ⟨g8, hp⟩ := hp
           obtain ⟨g9, d0, p1, n0, p2, n1, n2, n3⟩ := Sl.atI u4 (0 : Int) g8
           obtain ⟨rfl, t9, s0, s1⟩ := r_rectolaw6_file_open n2
           replace hp := hp t9
           replace hp := hp s0
           replace hp := hp s1
           refine r_take 20 (.pointer (some ⟨g9, d0 + (0 : Int).toNat * 3, none⟩)) (RB.pre _ _) rfl (by kernel_rfl) (fun _ _ _ h => hQ.panic _ _ _ _ _ h) (.inl ⟨(by kernel_rfl), fun wq hq => (x_ixA (m := z2.length) (c := z3) (k := .i64) (i := (0 : Int)) Tryz.underlying27 Tryz.sizeOf41 (by rw [← n0]; kernel_rfl) (by kernel_rfl) g8)⟩) ?_
           refine r_take 21 (.pointer (some ⟨g9, d0 + (0 : Int).toNat * 3, none⟩)) (RB.pre _ _) rfl (by kernel_rfl) (fun _ _ _ h => hQ.panic _ _ _ _ _ h) (.inl ⟨(by kernel_rfl), fun wq hq => (by kernel_rfl)⟩) ?_
           refine r_take 22 (.string ((lget z2 (0 : Int)).path)) (RB.pre _ _) rfl (by kernel_rfl) (fun _ _ _ h => hQ.panic _ _ _ _ _ h) (.inl ⟨(by kernel_rfl), fun wq hq => (x_load1 (by kernel_rfl) Tryz.isAgg9 ((CellsAt.rb n3 (RB.trans y7 hq) (Nat.lt_of_lt_of_eq n1 u3) (fun h => by cases h)) 0 _ rfl))⟩) ?_
           refine r_take 23 (.string z1) (RB.pre _ _) rfl (by kernel_rfl) (fun _ _ _ h => hQ.panic _ _ _ _ _ h) (.inl ⟨(by kernel_rfl), fun wq hq => (by kernel_rfl)⟩) ?_
           by_cases t1 : ((lget z2 (0 : Int)).path : ByteArray) = z1
           ·
            replace hp := hp.1 t1
            refine r_take 24 (.bool true) (RB.pre _ _) rfl (by kernel_rfl) (fun _ _ _ h => hQ.panic _ _ _ _ _ h) (.inl ⟨(by kernel_rfl), fun wq hq => (x_dt (p := ((lget z2 (0 : Int)).path : ByteArray) = z1) (x_streq (by kernel_rfl) (by kernel_rfl)) t1)⟩) ?_
            refine r_take 25 (.bool true) (RB.pre _ _) rfl (by kernel_rfl) (fun _ _ _ h => hQ.panic _ _ _ _ _ h) (.inl ⟨rfl, fun wq hq => (by kernel_rfl)⟩) ?_
            refine r_take 26 (.bool true) (RB.pre _ _) rfl (by kernel_rfl) (fun _ _ _ h => hQ.panic _ _ _ _ _ h) (.inl ⟨rfl, fun wq hq => (by kernel_rfl)⟩) ?_
            refine r_take 27 (.slice y1 z2.length z3) (RB.pre _ _) rfl (by kernel_rfl) (fun _ _ _ h => hQ.panic _ _ _ _ _ h) (.inl ⟨(by kernel_rfl), fun wq hq => (by kernel_rfl)⟩) ?_
            obtain ⟨d1, hp⟩ := hp
            obtain ⟨d2, d3, p3, n4, p4, n5, n6, n7⟩ := Sl.atI u4 (0 : Int) d1
            obtain ⟨rfl, s2, s3, s4⟩ := r_rectolaw6_file_open n6
            replace hp := hp s2
            replace hp := hp s3
            replace hp := hp s4
            refine r_take 28 (.pointer (some ⟨d2, d3 + (0 : Int).toNat * 3, none⟩)) (RB.pre _ _) rfl (by kernel_rfl) (fun _ _ _ h => hQ.panic _ _ _ _ _ h) (.inl ⟨(by kernel_rfl), fun wq hq => (x_ixA (m := z2.length) (c := z3) (k := .i64) (i := (0 : Int)) Tryz.underlying27 Tryz.sizeOf41 (by rw [← n4]; kernel_rfl) (by kernel_rfl) d1)⟩) ?_
            refine r_take 29 (.pointer (some ⟨d2, d3 + (0 : Int).toNat * 3 + 2, none⟩)) (RB.pre _ _) rfl (by kernel_rfl) (fun _ _ _ h => hQ.panic _ _ _ _ _ h) (.inl ⟨(by kernel_rfl), fun wq hq => (by kernel_rfl)⟩) ?_
            refine r_take 30 (.string ((lget z2 (0 : Int)).data)) (RB.pre _ _) rfl (by kernel_rfl) (fun _ _ _ h => hQ.panic _ _ _ _ _ h) (.inl ⟨(by kernel_rfl), fun wq hq => (x_load1 (by kernel_rfl) Tryz.isAgg9 ((CellsAt.rb n7 (RB.trans y7 hq) (Nat.lt_of_lt_of_eq n5 u3) (fun h => by cases h)) 2 _ rfl))⟩) ?_
            refine r_take 31 (.slice z5 c.length z6) (RB.pre _ _) rfl (by kernel_rfl) (fun _ _ _ h => hQ.panic _ _ _ _ _ h) (.inl ⟨(by kernel_rfl), fun wq hq => (by kernel_rfl)⟩) ?_
            refine r_take 32 (.string (strOfNums c)) (RB.pre _ _) rfl (by kernel_rfl) (fun _ _ _ h => hQ.panic _ _ _ _ _ h) (.inl ⟨(by kernel_rfl), fun wq hq => (x_b2s_sl (a := z5) (len := c.length) (c := z6) c Tryz.underlying32 Tryz.underlying5 Tryz.underlying9 (by kernel_rfl) rfl (Sl.step m9 (stepR (RB.trans y7 hq) u3 (Sub.nil _))))⟩) ?_
            by_cases t2 : ((lget z2 (0 : Int)).data : ByteArray) = strOfNums c
            ·
             replace hp := hp.1 t2
             refine r_take 33 (.bool true) (RB.pre _ _) rfl (by kernel_rfl) (fun _ _ _ h => hQ.panic _ _ _ _ _ h) (.inl ⟨(by kernel_rfl), fun wq hq => (x_dt (p := ((lget z2 (0 : Int)).data : ByteArray) = strOfNums c) (x_streq (by kernel_rfl) (by kernel_rfl)) t2)⟩) ?_
             refine r_take 34 (.bool true) (RB.pre _ _) rfl (by kernel_rfl) (fun _ _ _ h => hQ.panic _ _ _ _ _ h) (.inl ⟨rfl, fun wq hq => (by kernel_rfl)⟩) ?_
             refine r_take 35 (.bool true) (RB.pre _ _) rfl (by kernel_rfl) (fun _ _ _ h => hQ.panic _ _ _ _ _ h) (.inl ⟨rfl, fun wq hq => (by kernel_rfl)⟩) ?_
             refine r_take 36 (.slice y1 z2.length z3) (RB.pre _ _) rfl (by kernel_rfl) (fun _ _ _ h => hQ.panic _ _ _ _ _ h) (.inl ⟨(by kernel_rfl), fun wq hq => (by kernel_rfl)⟩) ?_
             obtain ⟨d4, hp⟩ := hp
             obtain ⟨d5, d6, p5, n8, p6, n9, o0, o1⟩ := Sl.atI u4 (0 : Int) d4
             obtain ⟨rfl, s5, s6, s7⟩ := r_rectolaw6_file_open o0
             replace hp := hp s5
             replace hp := hp s6
             replace hp := hp s7
             refine r_take 37 (.pointer (some ⟨d5, d6 + (0 : Int).toNat * 3, none⟩)) (RB.pre _ _) rfl (by kernel_rfl) (fun _ _ _ h => hQ.panic _ _ _ _ _ h) (.inl ⟨(by kernel_rfl), fun wq hq => (x_ixA (m := z2.length) (c := z3) (k := .i64) (i := (0 : Int)) Tryz.underlying27 Tryz.sizeOf41 (by rw [← n8]; kernel_rfl) (by kernel_rfl) d4)⟩) ?_
             refine r_take 38 (.pointer (some ⟨d5, d6 + (0 : Int).toNat * 3 + 1, none⟩)) (RB.pre _ _) rfl (by kernel_rfl) (fun _ _ _ h => hQ.panic _ _ _ _ _ h) (.inl ⟨(by kernel_rfl), fun wq hq => (by kernel_rfl)⟩) ?_
             refine r_take 39 (.int .i64 ((lget z2 (0 : Int)).mode)) (RB.pre _ _) rfl (by kernel_rfl) (fun _ _ _ h => hQ.panic _ _ _ _ _ h) (.inl ⟨(by kernel_rfl), fun wq hq => (x_load1 (by kernel_rfl) Tryz.isAgg3 ((CellsAt.rb o1 (RB.trans y7 hq) (Nat.lt_of_lt_of_eq n9 u3) (fun h => by cases h)) 1 _ rfl))⟩) ?_
             refine r_take 40 (.bool (decide (((lget z2 (0 : Int)).mode) = (2 : Int)))) (RB.pre _ _) rfl (by kernel_rfl) (fun _ _ _ h => hQ.panic _ _ _ _ _ h) (.inl ⟨(by kernel_rfl), fun wq hq => (by kernel_rfl)⟩) ?_
             refine r_take 41 (.bool (decide (((lget z2 (0 : Int)).mode) = (2 : Int)))) (RB.pre _ _) rfl (by kernel_rfl) (fun _ _ _ h => hQ.panic _ _ _ _ _ h) (.inl ⟨rfl, fun wq hq => (by kernel_rfl)⟩) ?_
             refine r_ready [42] (by kernel_rfl) rfl (all_cons ⟨_, _, _, _, _, _, rfl, ?_⟩ all_nil)
             refine o_pv (.bool (decide (((lget z2 (0 : Int)).mode) = (2 : Int)))) rfl (by kernel_rfl) ?_
             refine ⟨fun h => absurd h (by decide), ?_⟩
             refine r_done (by kernel_rfl) ?_
             refine then_normal (z7 _ _ _ ⟨[(6, (.bool (decide (((lget z2 (0 : Int)).mode) = (2 : Int)))))], fit_mk (fun _ _ => rfl) (by kernel_rfl) (vs_cons (by kernel_rfl) vs_nil), ?_⟩)
             exact ⟨y0, (decide (((lget z2 (0 : Int)).mode) = (2 : Int))), rfl, y2, z4, z8, hp⟩
            ·
             replace hp := hp.2 t2
             refine r_take 33 (.bool false) (RB.pre _ _) rfl (by kernel_rfl) (fun _ _ _ h => hQ.panic _ _ _ _ _ h) (.inl ⟨(by kernel_rfl), fun wq hq => (x_df (p := ((lget z2 (0 : Int)).data : ByteArray) = strOfNums c) (x_streq (by kernel_rfl) (by kernel_rfl)) t2)⟩) ?_
             refine r_take 34 (.bool false) (RB.pre _ _) rfl (by kernel_rfl) (fun _ _ _ h => hQ.panic _ _ _ _ _ h) (.inl ⟨rfl, fun wq hq => (by kernel_rfl)⟩) ?_
             refine r_take 35 (.bool false) (RB.pre _ _) rfl (by kernel_rfl) (fun _ _ _ h => hQ.panic _ _ _ _ _ h) (.inl ⟨rfl, fun wq hq => (by kernel_rfl)⟩) ?_
             refine r_take 36 undef (RB.pre _ _) rfl (by kernel_rfl) (fun _ _ _ h => hQ.panic _ _ _ _ _ h) (.inr ⟨by kernel_rfl, rfl⟩) ?_
             refine r_take 37 undef (RB.pre _ _) rfl (by kernel_rfl) (fun _ _ _ h => hQ.panic _ _ _ _ _ h) (.inr ⟨by kernel_rfl, rfl⟩) ?_
             refine r_take 38 undef (RB.pre _ _) rfl (by kernel_rfl) (fun _ _ _ h => hQ.panic _ _ _ _ _ h) (.inr ⟨by kernel_rfl, rfl⟩) ?_
             refine r_take 39 undef (RB.pre _ _) rfl (by kernel_rfl) (fun _ _ _ h => hQ.panic _ _ _ _ _ h) (.inr ⟨by kernel_rfl, rfl⟩) ?_
             refine r_take 40 undef (RB.pre _ _) rfl (by kernel_rfl) (fun _ _ _ h => hQ.panic _ _ _ _ _ h) (.inr ⟨by kernel_rfl, rfl⟩) ?_
             refine r_take 41 (.bool false) (RB.pre _ _) rfl (by kernel_rfl) (fun _ _ _ h => hQ.panic _ _ _ _ _ h) (.inl ⟨rfl, fun wq hq => (by kernel_rfl)⟩) ?_
             refine r_ready [42] (by kernel_rfl) rfl (all_cons ⟨_, _, _, _, _, _, rfl, ?_⟩ all_nil)
             refine o_pv (.bool false) rfl (by kernel_rfl) ?_
             refine ⟨fun h => absurd h (by decide), ?_⟩
             refine r_done (by kernel_rfl) ?_
             refine then_normal (z7 _ _ _ ⟨[(6, (.bool false))], fit_mk (fun _ _ => rfl) (by kernel_rfl) (vs_cons (by kernel_rfl) vs_nil), ?_⟩)
             exact ⟨y0, false, rfl, y2, z4, z8, hp⟩
           ·
            replace hp := hp.2 t1
            refine r_take 24 (.bool false) (RB.pre _ _) rfl (by kernel_rfl) (fun _ _ _ h => hQ.panic _ _ _ _ _ h) (.inl ⟨(by kernel_rfl), fun wq hq => (x_df (p := ((lget z2 (0 : Int)).path : ByteArray) = z1) (x_streq (by kernel_rfl) (by kernel_rfl)) t1)⟩) ?_
            refine r_take 25 (.bool false) (RB.pre _ _) rfl (by kernel_rfl) (fun _ _ _ h => hQ.panic _ _ _ _ _ h) (.inl ⟨rfl, fun wq hq => (by kernel_rfl)⟩) ?_
            refine r_take 26 (.bool false) (RB.pre _ _) rfl (by kernel_rfl) (fun _ _ _ h => hQ.panic _ _ _ _ _ h) (.inl ⟨rfl, fun wq hq => (by kernel_rfl)⟩) ?_
            refine r_take 27 undef (RB.pre _ _) rfl (by kernel_rfl) (fun _ _ _ h => hQ.panic _ _ _ _ _ h) (.inr ⟨by kernel_rfl, rfl⟩) ?_
            refine r_take 28 undef (RB.pre _ _) rfl (by kernel_rfl) (fun _ _ _ h => hQ.panic _ _ _ _ _ h) (.inr ⟨by kernel_rfl, rfl⟩) ?_
            refine r_take 29 undef (RB.pre _ _) rfl (by kernel_rfl) (fun _ _ _ h => hQ.panic _ _ _ _ _ h) (.inr ⟨by kernel_rfl, rfl⟩) ?_
            refine r_take 30 undef (RB.pre _ _) rfl (by kernel_rfl) (fun _ _ _ h => hQ.panic _ _ _ _ _ h) (.inr ⟨by kernel_rfl, rfl⟩) ?_
            refine r_take 31 undef (RB.pre _ _) rfl (by kernel_rfl) (fun _ _ _ h => hQ.panic _ _ _ _ _ h) (.inr ⟨by kernel_rfl, rfl⟩) ?_
            refine r_take 32 undef (RB.pre _ _) rfl (by kernel_rfl) (fun _ _ _ h => hQ.panic _ _ _ _ _ h) (.inr ⟨by kernel_rfl, rfl⟩) ?_
            refine r_take 33 undef (RB.pre _ _) rfl (by kernel_rfl) (fun _ _ _ h => hQ.panic _ _ _ _ _ h) (.inr ⟨by kernel_rfl, rfl⟩) ?_
            refine r_take 34 (.bool false) (RB.pre _ _) rfl (by kernel_rfl) (fun _ _ _ h => hQ.panic _ _ _ _ _ h) (.inl ⟨rfl, fun wq hq => (by kernel_rfl)⟩) ?_
            refine r_take 35 (.bool false) (RB.pre _ _) rfl (by kernel_rfl) (fun _ _ _ h => hQ.panic _ _ _ _ _ h) (.inl ⟨rfl, fun wq hq => (by kernel_rfl)⟩) ?_
            refine r_take 36 undef (RB.pre _ _) rfl (by kernel_rfl) (fun _ _ _ h => hQ.panic _ _ _ _ _ h) (.inr ⟨by kernel_rfl, rfl⟩) ?_
            refine r_take 37 undef (RB.pre _ _) rfl (by kernel_rfl) (fun _ _ _ h => hQ.panic _ _ _ _ _ h) (.inr ⟨by kernel_rfl, rfl⟩) ?_
            refine r_take 38 undef (RB.pre _ _) rfl (by kernel_rfl) (fun _ _ _ h => hQ.panic _ _ _ _ _ h) (.inr ⟨by kernel_rfl, rfl⟩) ?_
            refine r_take 39 undef (RB.pre _ _) rfl (by kernel_rfl) (fun _ _ _ h => hQ.panic _ _ _ _ _ h) (.inr ⟨by kernel_rfl, rfl⟩) ?_
            refine r_take 40 undef (RB.pre _ _) rfl (by kernel_rfl) (fun _ _ _ h => hQ.panic _ _ _ _ _ h) (.inr ⟨by kernel_rfl, rfl⟩) ?_
            refine r_take 41 (.bool false) (RB.pre _ _) rfl (by kernel_rfl) (fun _ _ _ h => hQ.panic _ _ _ _ _ h) (.inl ⟨rfl, fun wq hq => (by kernel_rfl)⟩) ?_
            refine r_ready [42] (by kernel_rfl) rfl (all_cons ⟨_, _, _, _, _, _, rfl, ?_⟩ all_nil)
            refine o_pv (.bool false) rfl (by kernel_rfl) ?_
            refine ⟨fun h => absurd h (by decide), ?_⟩
            refine r_done (by kernel_rfl) ?_
            refine then_normal (z7 _ _ _ ⟨[(6, (.bool false))], fit_mk (fun _ _ => rfl) (by kernel_rfl) (vs_cons (by kernel_rfl) vs_nil), ?_⟩)
            exact ⟨y0, false, rfl, y2, z4, z8, hp⟩
          ·
           replace hp := hp.2 t0
           refine r_take 16 (.bool false) (RB.pre _ _) rfl (by kernel_rfl) (fun _ _ _ h => hQ.panic _ _ _ _ _ h) (.inl ⟨(by kernel_rfl), fun wq hq => (x_df (p := (z2.length : Int) = (1 : Int)) (by kernel_rfl) t0)⟩) ?_
           refine r_take 17 (.bool false) (RB.pre _ _) rfl (by kernel_rfl) (fun _ _ _ h => hQ.panic _ _ _ _ _ h) (.inl ⟨rfl, fun wq hq => (by kernel_rfl)⟩) ?_
           refine r_take 18 (.bool false) (RB.pre _ _) rfl (by kernel_rfl) (fun _ _ _ h => hQ.panic _ _ _ _ _ h) (.inl ⟨rfl, fun wq hq => (by kernel_rfl)⟩) ?_
           refine r_take 19 undef (RB.pre _ _) rfl (by kernel_rfl) (fun _ _ _ h => hQ.panic _ _ _ _ _ h) (.inr ⟨by kernel_rfl, rfl⟩) ?_
           refine r_take 20 undef (RB.pre _ _) rfl (by kernel_rfl) (fun _ _ _ h => hQ.panic _ _ _ _ _ h) (.inr ⟨by kernel_rfl, rfl⟩) ?_
           refine r_take 21 undef (RB.pre _ _) rfl (by kernel_rfl) (fun _ _ _ h => hQ.panic _ _ _ _ _ h) (.inr ⟨by kernel_rfl, rfl⟩) ?_
           refine r_take 22 undef (RB.pre _ _) rfl (by kernel_rfl) (fun _ _ _ h => hQ.panic _ _ _ _ _ h) (.inr ⟨by kernel_rfl, rfl⟩) ?_
           refine r_take 23 undef (RB.pre _ _) rfl (by kernel_rfl) (fun _ _ _ h => hQ.panic _ _ _ _ _ h) (.inr ⟨by kernel_rfl, rfl⟩) ?_
           refine r_take 24 undef (RB.pre _ _) rfl (by kernel_rfl) (fun _ _ _ h => hQ.panic _ _ _ _ _ h) (.inr ⟨by kernel_rfl, rfl⟩) ?_
           refine r_take 25 (.bool false) (RB.pre _ _) rfl (by kernel_rfl) (fun _ _ _ h => hQ.panic _ _ _ _ _ h) (.inl ⟨rfl, fun wq hq => (by kernel_rfl)⟩) ?_
           refine r_take 26 (.bool false) (RB.pre _ _) rfl (by kernel_rfl) (fun _ _ _ h => hQ.panic _ _ _ _ _ h) (.inl ⟨rfl, fun wq hq => (by kernel_rfl)⟩) ?_
           refine r_take 27 undef (RB.pre _ _) rfl (by kernel_rfl) (fun _ _ _ h => hQ.panic _ _ _ _ _ h) (.inr ⟨by kernel_rfl, rfl⟩) ?_
           refine r_take 28 undef (RB.pre _ _) rfl (by kernel_rfl) (fun _ _ _ h => hQ.panic _ _ _ _ _ h) (.inr ⟨by kernel_rfl, rfl⟩) ?_
           refine r_take 29 undef (RB.pre _ _) rfl (by kernel_rfl) (fun _ _ _ h => hQ.panic _ _ _ _ _ h) (.inr ⟨by kernel_rfl, rfl⟩) ?_
           refine r_take 30 undef (RB.pre _ _) rfl (by kernel_rfl) (fun _ _ _ h => hQ.panic _ _ _ _ _ h) (.inr ⟨by kernel_rfl, rfl⟩) ?_
           refine r_take 31 undef (RB.pre _ _) rfl (by kernel_rfl) (fun _ _ _ h => hQ.panic _ _ _ _ _ h) (.inr ⟨by kernel_rfl, rfl⟩) ?_
           refine r_take 32 undef (RB.pre _ _) rfl (by kernel_rfl) (fun _ _ _ h => hQ.panic _ _ _ _ _ h) (.inr ⟨by kernel_rfl, rfl⟩) ?_
           refine r_take 33 undef (RB.pre _ _) rfl (by kernel_rfl) (fun _ _ _ h => hQ.panic _ _ _ _ _ h) (.inr ⟨by kernel_rfl, rfl⟩) ?_
           refine r_take 34 (.bool false) (RB.pre _ _) rfl (by kernel_rfl) (fun _ _ _ h => hQ.panic _ _ _ _ _ h) (.inl ⟨rfl, fun wq hq => (by kernel_rfl)⟩) ?_
           refine r_take 35 (.bool false) (RB.pre _ _) rfl (by kernel_rfl) (fun _ _ _ h => hQ.panic _ _ _ _ _ h) (.inl ⟨rfl, fun wq hq => (by kernel_rfl)⟩) ?_
           refine r_take 36 undef (RB.pre _ _) rfl (by kernel_rfl) (fun _ _ _ h => hQ.panic _ _ _ _ _ h) (.inr ⟨by kernel_rfl, rfl⟩) ?_
           refine r_take 37 undef (RB.pre _ _) rfl (by kernel_rfl) (fun _ _ _ h => hQ.panic _ _ _ _ _ h) (.inr ⟨by kernel_rfl, rfl⟩) ?_
           refine r_take 38 undef (RB.pre _ _) rfl (by kernel_rfl) (fun _ _ _ h => hQ.panic _ _ _ _ _ h) (.inr ⟨by kernel_rfl, rfl⟩) ?_
           refine r_take 39 undef (RB.pre _ _) rfl (by kernel_rfl) (fun _ _ _ h => hQ.panic _ _ _ _ _ h) (.inr ⟨by kernel_rfl, rfl⟩) ?_
           refine r_take 40 undef (RB.pre _ _) rfl (by kernel_rfl) (fun _ _ _ h => hQ.panic _ _ _ _ _ h) (.inr ⟨by kernel_rfl, rfl⟩) ?_
           refine r_take 41 (.bool false) (RB.pre _ _) rfl (by kernel_rfl) (fun _ _ _ h => hQ.panic _ _ _ _ _ h) (.inl ⟨rfl, fun wq hq => (by kernel_rfl)⟩) ?_
           refine r_ready [42] (by kernel_rfl) rfl (all_cons ⟨_, _, _, _, _, _, rfl, ?_⟩ all_nil)
           refine o_pv (.bool false) rfl (by kernel_rfl) ?_
           refine ⟨fun h => absurd h (by decide), ?_⟩
           refine r_done (by kernel_rfl) ?_
           refine then_normal (z7 _ _ _ ⟨[(6, (.bool false))], fit_mk (fun _ _ => rfl) (by kernel_rfl) (vs_cons (by kernel_rfl) vs_nil), ?_⟩)
           exact ⟨y0, false, rfl, y2, z4, z8, hp⟩
         ·
          replace hp := hp.2 u9
          refine r_take 11 (.bool false) (RB.pre _ _) rfl (by kernel_rfl) (fun _ _ _ h => hQ.panic _ _ _ _ _ h) (.inl ⟨(by kernel_rfl), fun wq hq => (x_bf (by kernel_rfl) u9)⟩) ?_
          refine r_take 12 (.bool false) (RB.pre _ _) rfl (by kernel_rfl) (fun _ _ _ h => hQ.panic _ _ _ _ _ h) (.inl ⟨rfl, fun wq hq => (by kernel_rfl)⟩) ?_
          refine r_take 13 (.bool false) (RB.pre _ _) rfl (by kernel_rfl) (fun _ _ _ h => hQ.panic _ _ _ _ _ h) (.inl ⟨rfl, fun wq hq => (by kernel_rfl)⟩) ?_
          refine r_take 14 undef (RB.pre _ _) rfl (by kernel_rfl) (fun _ _ _ h => hQ.panic _ _ _ _ _ h) (.inr ⟨by kernel_rfl, rfl⟩) ?_
          refine r_take 15 undef (RB.pre _ _) rfl (by kernel_rfl) (fun _ _ _ h => hQ.panic _ _ _ _ _ h) (.inr ⟨by kernel_rfl, rfl⟩) ?_
          refine r_take 16 undef (RB.pre _ _) rfl (by kernel_rfl) (fun _ _ _ h => hQ.panic _ _ _ _ _ h) (.inr ⟨by kernel_rfl, rfl⟩) ?_
          refine r_take 17 (.bool false) (RB.pre _ _) rfl (by kernel_rfl) (fun _ _ _ h => hQ.panic _ _ _ _ _ h) (.inl ⟨rfl, fun wq hq => (by kernel_rfl)⟩) ?_
          refine r_take 18 (.bool false) (RB.pre _ _) rfl (by kernel_rfl) (fun _ _ _ h => hQ.panic _ _ _ _ _ h) (.inl ⟨rfl, fun wq hq => (by kernel_rfl)⟩) ?_
          refine r_take 19 undef (RB.pre _ _) rfl (by kernel_rfl) (fun _ _ _ h => hQ.panic _ _ _ _ _ h) (.inr ⟨by kernel_rfl, rfl⟩) ?_
          refine r_take 20 undef (RB.pre _ _) rfl (by kernel_rfl) (fun _ _ _ h => hQ.panic _ _ _ _ _ h) (.inr ⟨by kernel_rfl, rfl⟩) ?_
          refine r_take 21 undef (RB.pre _ _) rfl (by kernel_rfl) (fun _ _ _ h => hQ.panic _ _ _ _ _ h) (.inr ⟨by kernel_rfl, rfl⟩) ?_
          refine r_take 22 undef (RB.pre _ _) rfl (by kernel_rfl) (fun _ _ _ h => hQ.panic _ _ _ _ _ h) (.inr ⟨by kernel_rfl, rfl⟩) ?_
          refine r_take 23 undef (RB.pre _ _) rfl (by kernel_rfl) (fun _ _ _ h => hQ.panic _ _ _ _ _ h) (.inr ⟨by kernel_rfl, rfl⟩) ?_
          refine r_take 24 undef (RB.pre _ _) rfl (by kernel_rfl) (fun _ _ _ h => hQ.panic _ _ _ _ _ h) (.inr ⟨by kernel_rfl, rfl⟩) ?_
          refine r_take 25 (.bool false) (RB.pre _ _) rfl (by kernel_rfl) (fun _ _ _ h => hQ.panic _ _ _ _ _ h) (.inl ⟨rfl, fun wq hq => (by kernel_rfl)⟩) ?_
          refine r_take 26 (.bool false) (RB.pre _ _) rfl (by kernel_rfl) (fun _ _ _ h => hQ.panic _ _ _ _ _ h) (.inl ⟨rfl, fun wq hq => (by kernel_rfl)⟩) ?_
          refine r_take 27 undef (RB.pre _ _) rfl (by kernel_rfl) (fun _ _ _ h => hQ.panic _ _ _ _ _ h) (.inr ⟨by kernel_rfl, rfl⟩) ?_
          refine r_take 28 undef (RB.pre _ _) rfl (by kernel_rfl) (fun _ _ _ h => hQ.panic _ _ _ _ _ h) (.inr ⟨by kernel_rfl, rfl⟩) ?_
          refine r_take 29 undef (RB.pre _ _) rfl (by kernel_rfl) (fun _ _ _ h => hQ.panic _ _ _ _ _ h) (.inr ⟨by kernel_rfl, rfl⟩) ?_
          refine r_take 30 undef (RB.pre _ _) rfl (by kernel_rfl) (fun _ _ _ h => hQ.panic _ _ _ _ _ h) (.inr ⟨by kernel_rfl, rfl⟩) ?_
          refine r_take 31 undef (RB.pre _ _) rfl (by kernel_rfl) (fun _ _ _ h => hQ.panic _ _ _ _ _ h) (.inr ⟨by kernel_rfl, rfl⟩) ?_
          refine r_take 32 undef (RB.pre _ _) rfl (by kernel_rfl) (fun _ _ _ h => hQ.panic _ _ _ _ _ h) (.inr ⟨by kernel_rfl, rfl⟩) ?_
          refine r_take 33 undef (RB.pre _ _) rfl (by kernel_rfl) (fun _ _ _ h => hQ.panic _ _ _ _ _ h) (.inr ⟨by kernel_rfl, rfl⟩) ?_
          refine r_take 34 (.bool false) (RB.pre _ _) rfl (by kernel_rfl) (fun _ _ _ h => hQ.panic _ _ _ _ _ h) (.inl ⟨rfl, fun wq hq => (by kernel_rfl)⟩) ?_
          refine r_take 35 (.bool false) (RB.pre _ _) rfl (by kernel_rfl) (fun _ _ _ h => hQ.panic _ _ _ _ _ h) (.inl ⟨rfl, fun wq hq => (by kernel_rfl)⟩) ?_
          refine r_take 36 undef (RB.pre _ _) rfl (by kernel_rfl) (fun _ _ _ h => hQ.panic _ _ _ _ _ h) (.inr ⟨by kernel_rfl, rfl⟩) ?_
          refine r_take 37 undef (RB.pre _ _) rfl (by kernel_rfl) (fun _ _ _ h => hQ.panic _ _ _ _ _ h) (.inr ⟨by kernel_rfl, rfl⟩) ?_
          refine r_take 38 undef (RB.pre _ _) rfl (by kernel_rfl) (fun _ _ _ h => hQ.panic _ _ _ _ _ h) (.inr ⟨by kernel_rfl, rfl⟩) ?_
          refine r_take 39 undef (RB.pre _ _) rfl (by kernel_rfl) (fun _ _ _ h => hQ.panic _ _ _ _ _ h) (.inr ⟨by kernel_rfl, rfl⟩) ?_
          refine r_take 40 undef (RB.pre _ _) rfl (by kernel_rfl) (fun _ _ _ h => hQ.panic _ _ _ _ _ h) (.inr ⟨by kernel_rfl, rfl⟩) ?_
          refine r_take 41 (.bool false) (RB.pre _ _) rfl (by kernel_rfl) (fun _ _ _ h => hQ.panic _ _ _ _ _ h) (.inl ⟨rfl, fun wq hq => (by kernel_rfl)⟩) ?_
          refine r_ready [42] (by kernel_rfl) rfl (all_cons ⟨_, _, _, _, _, _, rfl, ?_⟩ all_nil)
          refine o_pv (.bool false) rfl (by kernel_rfl) ?_
          refine ⟨fun h => absurd h (by decide), ?_⟩
          refine r_done (by kernel_rfl) ?_
          refine then_normal (z7 _ _ _ ⟨[(6, (.bool false))], fit_mk (fun _ _ => rfl) (by kernel_rfl) (vs_cons (by kernel_rfl) vs_nil), ?_⟩)
          exact ⟨y0, false, rfl, y2, z4, z8, hp⟩
        ·
         replace hp := hp.2 u7
         refine r_take 8 (.bool false) (RB.pre _ _) rfl (by kernel_rfl) (fun _ _ _ h => hQ.panic _ _ _ _ _ h) (.inl ⟨(by kernel_rfl), fun wq hq => (x_df (p := v3 = (0 : Int)) (by kernel_rfl) u7)⟩) ?_
         refine r_take 9 (.bool false) (RB.pre _ _) rfl (by kernel_rfl) (fun _ _ _ h => hQ.panic _ _ _ _ _ h) (.inl ⟨rfl, fun wq hq => (by kernel_rfl)⟩) ?_
         refine r_take 10 (.bool false) (RB.pre _ _) rfl (by kernel_rfl) (fun _ _ _ h => hQ.panic _ _ _ _ _ h) (.inl ⟨rfl, fun wq hq => (by kernel_rfl)⟩) ?_
         refine r_take 11 undef (RB.pre _ _) rfl (by kernel_rfl) (fun _ _ _ h => hQ.panic _ _ _ _ _ h) (.inr ⟨by kernel_rfl, rfl⟩) ?_
         refine r_take 12 (.bool false) (RB.pre _ _) rfl (by kernel_rfl) (fun _ _ _ h => hQ.panic _ _ _ _ _ h) (.inl ⟨rfl, fun wq hq => (by kernel_rfl)⟩) ?_
         refine r_take 13 (.bool false) (RB.pre _ _) rfl (by kernel_rfl) (fun _ _ _ h => hQ.panic _ _ _ _ _ h) (.inl ⟨rfl, fun wq hq => (by kernel_rfl)⟩) ?_
         refine r_take 14 undef (RB.pre _ _) rfl (by kernel_rfl) (fun _ _ _ h => hQ.panic _ _ _ _ _ h) (.inr ⟨by kernel_rfl, rfl⟩) ?_
         refine r_take 15 undef (RB.pre _ _) rfl (by kernel_rfl) (fun _ _ _ h => hQ.panic _ _ _ _ _ h) (.inr ⟨by kernel_rfl, rfl⟩) ?_
         refine r_take 16 undef (RB.pre _ _) rfl (by kernel_rfl) (fun _ _ _ h => hQ.panic _ _ _ _ _ h) (.inr ⟨by kernel_rfl, rfl⟩) ?_
         refine r_take 17 (.bool false) (RB.pre _ _) rfl (by kernel_rfl) (fun _ _ _ h => hQ.panic _ _ _ _ _ h) (.inl ⟨rfl, fun wq hq => (by kernel_rfl)⟩) ?_
         refine r_take 18 (.bool false) (RB.pre _ _) rfl (by kernel_rfl) (fun _ _ _ h => hQ.panic _ _ _ _ _ h) (.inl ⟨rfl, fun wq hq => (by kernel_rfl)⟩) ?_
         refine r_take 19 undef (RB.pre _ _) rfl (by kernel_rfl) (fun _ _ _ h => hQ.panic _ _ _ _ _ h) (.inr ⟨by kernel_rfl, rfl⟩) ?_
         refine r_take 20 undef (RB.pre _ _) rfl (by kernel_rfl) (fun _ _ _ h => hQ.panic _ _ _ _ _ h) (.inr ⟨by kernel_rfl, rfl⟩) ?_
         refine r_take 21 undef (RB.pre _ _) rfl (by kernel_rfl) (fun _ _ _ h => hQ.panic _ _ _ _ _ h) (.inr ⟨by kernel_rfl, rfl⟩) ?_
         refine r_take 22 undef (RB.pre _ _) rfl (by kernel_rfl) (fun _ _ _ h => hQ.panic _ _ _ _ _ h) (.inr ⟨by kernel_rfl, rfl⟩) ?_
         refine r_take 23 undef (RB.pre _ _) rfl (by kernel_rfl) (fun _ _ _ h => hQ.panic _ _ _ _ _ h) (.inr ⟨by kernel_rfl, rfl⟩) ?_
         refine r_take 24 undef (RB.pre _ _) rfl (by kernel_rfl) (fun _ _ _ h => hQ.panic _ _ _ _ _ h) (.inr ⟨by kernel_rfl, rfl⟩) ?_
         refine r_take 25 (.bool false) (RB.pre _ _) rfl (by kernel_rfl) (fun _ _ _ h => hQ.panic _ _ _ _ _ h) (.inl ⟨rfl, fun wq hq => (by kernel_rfl)⟩) ?_
         refine r_take 26 (.bool false) (RB.pre _ _) rfl (by kernel_rfl) (fun _ _ _ h => hQ.panic _ _ _ _ _ h) (.inl ⟨rfl, fun wq hq => (by kernel_rfl)⟩) ?_
         refine r_take 27 undef (RB.pre _ _) rfl (by kernel_rfl) (fun _ _ _ h => hQ.panic _ _ _ _ _ h) (.inr ⟨by kernel_rfl, rfl⟩) ?_
         refine r_take 28 undef (RB.pre _ _) rfl (by kernel_rfl) (fun _ _ _ h => hQ.panic _ _ _ _ _ h) (.inr ⟨by kernel_rfl, rfl⟩) ?_
         refine r_take 29 undef (RB.pre _ _) rfl (by kernel_rfl) (fun _ _ _ h => hQ.panic _ _ _ _ _ h) (.inr ⟨by kernel_rfl, rfl⟩) ?_
         refine r_take 30 undef (RB.pre _ _) rfl (by kernel_rfl) (fun _ _ _ h => hQ.panic _ _ _ _ _ h) (.inr ⟨by kernel_rfl, rfl⟩) ?_
         refine r_take 31 undef (RB.pre _ _) rfl (by kernel_rfl) (fun _ _ _ h => hQ.panic _ _ _ _ _ h) (.inr ⟨by kernel_rfl, rfl⟩) ?_
         refine r_take 32 undef (RB.pre _ _) rfl (by kernel_rfl) (fun _ _ _ h => hQ.panic _ _ _ _ _ h) (.inr ⟨by kernel_rfl, rfl⟩) ?_
         refine r_take 33 undef (RB.pre _ _) rfl (by kernel_rfl) (fun _ _ _ h => hQ.panic _ _ _ _ _ h) (.inr ⟨by kernel_rfl, rfl⟩) ?_
         refine r_take 34 (.bool false) (RB.pre _ _) rfl (by kernel_rfl) (fun _ _ _ h => hQ.panic _ _ _ _ _ h) (.inl ⟨rfl, fun wq hq => (by kernel_rfl)⟩) ?_
         refine r_take 35 (.bool false) (RB.pre _ _) rfl (by kernel_rfl) (fun _ _ _ h => hQ.panic _ _ _ _ _ h) (.inl ⟨rfl, fun wq hq => (by kernel_rfl)⟩) ?_
         refine r_take 36 undef (RB.pre _ _) rfl (by kernel_rfl) (fun _ _ _ h => hQ.panic _ _ _ _ _ h) (.inr ⟨by kernel_rfl, rfl⟩) ?_
         refine r_take 37 undef (RB.pre _ _) rfl (by kernel_rfl) (fun _ _ _ h => hQ.panic _ _ _ _ _ h) (.inr ⟨by kernel_rfl, rfl⟩) ?_
         refine r_take 38 undef (RB.pre _ _) rfl (by kernel_rfl) (fun _ _ _ h => hQ.panic _ _ _ _ _ h) (.inr ⟨by kernel_rfl, rfl⟩) ?_
         refine r_take 39 undef (RB.pre _ _) rfl (by kernel_rfl) (fun _ _ _ h => hQ.panic _ _ _ _ _ h) (.inr ⟨by kernel_rfl, rfl⟩) ?_
         refine r_take 40 undef (RB.pre _ _) rfl (by kernel_rfl) (fun _ _ _ h => hQ.panic _ _ _ _ _ h) (.inr ⟨by kernel_rfl, rfl⟩) ?_
         refine r_take 41 (.bool false) (RB.pre _ _) rfl (by kernel_rfl) (fun _ _ _ h => hQ.panic _ _ _ _ _ h) (.inl ⟨rfl, fun wq hq => (by kernel_rfl)⟩) ?_
         refine r_ready [42] (by kernel_rfl) rfl (all_cons ⟨_, _, _, _, _, _, rfl, ?_⟩ all_nil)
         refine o_pv (.bool false) rfl (by kernel_rfl) ?_
         refine ⟨fun h => absurd h (by decide), ?_⟩
         refine r_done (by kernel_rfl) ?_
         refine then_normal (z7 _ _ _ ⟨[(6, (.bool false))], fit_mk (fun _ _ => rfl) (by kernel_rfl) (vs_cons (by kernel_rfl) vs_nil), ?_⟩)
         exact ⟨y0, false, rfl, y2, z4, z8, hp⟩
       ·
        replace hp := hp.2 u6
        refine r_take 4 (.bool false) (RB.pre _ _) rfl (by kernel_rfl) (fun _ _ _ h => hQ.panic _ _ _ _ _ h) (.inl ⟨(by kernel_rfl), fun wq hq => (x_df (p := v1 = (11 : Int)) (by kernel_rfl) u6)⟩) ?_
        refine r_take 5 (.bool false) (RB.pre _ _) rfl (by kernel_rfl) (fun _ _ _ h => hQ.panic _ _ _ _ _ h) (.inl ⟨rfl, fun wq hq => (by kernel_rfl)⟩) ?_
        refine r_take 6 (.bool false) (RB.pre _ _) rfl (by kernel_rfl) (fun _ _ _ h => hQ.panic _ _ _ _ _ h) (.inl ⟨rfl, fun wq hq => (by kernel_rfl)⟩) ?_
        refine r_take 7 undef (RB.pre _ _) rfl (by kernel_rfl) (fun _ _ _ h => hQ.panic _ _ _ _ _ h) (.inr ⟨by kernel_rfl, rfl⟩) ?_
        refine r_take 8 undef (RB.pre _ _) rfl (by kernel_rfl) (fun _ _ _ h => hQ.panic _ _ _ _ _ h) (.inr ⟨by kernel_rfl, rfl⟩) ?_
        refine r_take 9 (.bool false) (RB.pre _ _) rfl (by kernel_rfl) (fun _ _ _ h => hQ.panic _ _ _ _ _ h) (.inl ⟨rfl, fun wq hq => (by kernel_rfl)⟩) ?_
        refine r_take 10 (.bool false) (RB.pre _ _) rfl (by kernel_rfl) (fun _ _ _ h => hQ.panic _ _ _ _ _ h) (.inl ⟨rfl, fun wq hq => (by kernel_rfl)⟩) ?_
        refine r_take 11 undef (RB.pre _ _) rfl (by kernel_rfl) (fun _ _ _ h => hQ.panic _ _ _ _ _ h) (.inr ⟨by kernel_rfl, rfl⟩) ?_
        refine r_take 12 (.bool false) (RB.pre _ _) rfl (by kernel_rfl) (fun _ _ _ h => hQ.panic _ _ _ _ _ h) (.inl ⟨rfl, fun wq hq => (by kernel_rfl)⟩) ?_
        refine r_take 13 (.bool false) (RB.pre _ _) rfl (by kernel_rfl) (fun _ _ _ h => hQ.panic _ _ _ _ _ h) (.inl ⟨rfl, fun wq hq => (by kernel_rfl)⟩) ?_
        refine r_take 14 undef (RB.pre _ _) rfl (by kernel_rfl) (fun _ _ _ h => hQ.panic _ _ _ _ _ h) (.inr ⟨by kernel_rfl, rfl⟩) ?_
        refine r_take 15 undef (RB.pre _ _) rfl (by kernel_rfl) (fun _ _ _ h => hQ.panic _ _ _ _ _ h) (.inr ⟨by kernel_rfl, rfl⟩) ?_
        refine r_take 16 undef (RB.pre _ _) rfl (by kernel_rfl) (fun _ _ _ h => hQ.panic _ _ _ _ _ h) (.inr ⟨by kernel_rfl, rfl⟩) ?_
        refine r_take 17 (.bool false) (RB.pre _ _) rfl (by kernel_rfl) (fun _ _ _ h => hQ.panic _ _ _ _ _ h) (.inl ⟨rfl, fun wq hq => (by kernel_rfl)⟩) ?_
        refine r_take 18 (.bool false) (RB.pre _ _) rfl (by kernel_rfl) (fun _ _ _ h => hQ.panic _ _ _ _ _ h) (.inl ⟨rfl, fun wq hq => (by kernel_rfl)⟩) ?_
        refine r_take 19 undef (RB.pre _ _) rfl (by kernel_rfl) (fun _ _ _ h => hQ.panic _ _ _ _ _ h) (.inr ⟨by kernel_rfl, rfl⟩) ?_
        refine r_take 20 undef (RB.pre _ _) rfl (by kernel_rfl) (fun _ _ _ h => hQ.panic _ _ _ _ _ h) (.inr ⟨by kernel_rfl, rfl⟩) ?_
        refine r_take 21 undef (RB.pre _ _) rfl (by kernel_rfl) (fun _ _ _ h => hQ.panic _ _ _ _ _ h) (.inr ⟨by kernel_rfl, rfl⟩) ?_
        refine r_take 22 undef (RB.pre _ _) rfl (by kernel_rfl) (fun _ _ _ h => hQ.panic _ _ _ _ _ h) (.inr ⟨by kernel_rfl, rfl⟩) ?_
        refine r_take 23 undef (RB.pre _ _) rfl (by kernel_rfl) (fun _ _ _ h => hQ.panic _ _ _ _ _ h) (.inr ⟨by kernel_rfl, rfl⟩) ?_
        refine r_take 24 undef (RB.pre _ _) rfl (by kernel_rfl) (fun _ _ _ h => hQ.panic _ _ _ _ _ h) (.inr ⟨by kernel_rfl, rfl⟩) ?_
        refine r_take 25 (.bool false) (RB.pre _ _) rfl (by kernel_rfl) (fun _ _ _ h => hQ.panic _ _ _ _ _ h) (.inl ⟨rfl, fun wq hq => (by kernel_rfl)⟩) ?_
        refine r_take 26 (.bool false) (RB.pre _ _) rfl (by kernel_rfl) (fun _ _ _ h => hQ.panic _ _ _ _ _ h) (.inl ⟨rfl, fun wq hq => (by kernel_rfl)⟩) ?_
        refine r_take 27 undef (RB.pre _ _) rfl (by kernel_rfl) (fun _ _ _ h => hQ.panic _ _ _ _ _ h) (.inr ⟨by kernel_rfl, rfl⟩) ?_
        refine r_take 28 undef (RB.pre _ _) rfl (by kernel_rfl) (fun _ _ _ h => hQ.panic _ _ _ _ _ h) (.inr ⟨by kernel_rfl, rfl⟩) ?_
        refine r_take 29 undef (RB.pre _ _) rfl (by kernel_rfl) (fun _ _ _ h => hQ.panic _ _ _ _ _ h) (.inr ⟨by kernel_rfl, rfl⟩) ?_
        refine r_take 30 undef (RB.pre _ _) rfl (by kernel_rfl) (fun _ _ _ h => hQ.panic _ _ _ _ _ h) (.inr ⟨by kernel_rfl, rfl⟩) ?_
        refine r_take 31 undef (RB.pre _ _) rfl (by kernel_rfl) (fun _ _ _ h => hQ.panic _ _ _ _ _ h) (.inr ⟨by kernel_rfl, rfl⟩) ?_
        refine r_take 32 undef (RB.pre _ _) rfl (by kernel_rfl) (fun _ _ _ h => hQ.panic _ _ _ _ _ h) (.inr ⟨by kernel_rfl, rfl⟩) ?_
        refine r_take 33 undef (RB.pre _ _) rfl (by kernel_rfl) (fun _ _ _ h => hQ.panic _ _ _ _ _ h) (.inr ⟨by kernel_rfl, rfl⟩) ?_
        refine r_take 34 (.bool false) (RB.pre _ _) rfl (by kernel_rfl) (fun _ _ _ h => hQ.panic _ _ _ _ _ h) (.inl ⟨rfl, fun wq hq => (by kernel_rfl)⟩) ?_
        refine r_take 35 (.bool false) (RB.pre _ _) rfl (by kernel_rfl) (fun _ _ _ h => hQ.panic _ _ _ _ _ h) (.inl ⟨rfl, fun wq hq => (by kernel_rfl)⟩) ?_
        refine r_take 36 undef (RB.pre _ _) rfl (by kernel_rfl) (fun _ _ _ h => hQ.panic _ _ _ _ _ h) (.inr ⟨by kernel_rfl, rfl⟩) ?_
        refine r_take 37 undef (RB.pre _ _) rfl (by kernel_rfl) (fun _ _ _ h => hQ.panic _ _ _ _ _ h) (.inr ⟨by kernel_rfl, rfl⟩) ?_
        refine r_take 38 undef (RB.pre _ _) rfl (by kernel_rfl) (fun _ _ _ h => hQ.panic _ _ _ _ _ h) (.inr ⟨by kernel_rfl, rfl⟩) ?_
        refine r_take 39 undef (RB.pre _ _) rfl (by kernel_rfl) (fun _ _ _ h => hQ.panic _ _ _ _ _ h) (.inr ⟨by kernel_rfl, rfl⟩) ?_
        refine r_take 40 undef (RB.pre _ _) rfl (by kernel_rfl) (fun _ _ _ h => hQ.panic _ _ _ _ _ h) (.inr ⟨by kernel_rfl, rfl⟩) ?_
        refine r_take 41 (.bool false) (RB.pre _ _) rfl (by kernel_rfl) (fun _ _ _ h => hQ.panic _ _ _ _ _ h) (.inl ⟨rfl, fun wq hq => (by kernel_rfl)⟩) ?_
        refine r_ready [42] (by kernel_rfl) rfl (all_cons ⟨_, _, _, _, _, _, rfl, ?_⟩ all_nil)
        refine o_pv (.bool false) rfl (by kernel_rfl) ?_
        refine ⟨fun h => absurd h (by decide), ?_⟩
        refine r_done (by kernel_rfl) ?_
        refine then_normal (z7 _ _ _ ⟨[(6, (.bool false))], fit_mk (fun _ _ => rfl) (by kernel_rfl) (vs_cons (by kernel_rfl) vs_nil), ?_⟩)
        exact ⟨y0, false, rfl, y2, z4, z8, hp⟩
      ·
       replace hp := hp.2 u5
       refine r_take 1 (.bool false) (RB.pre _ _) rfl (by kernel_rfl) (fun _ _ _ h => hQ.panic _ _ _ _ _ h) (.inl ⟨rfl, fun wq hq => (x_df (p := t5 = (0 : Int)) (by kernel_rfl) u5)⟩) ?_
       refine r_take 2 (.bool false) (RB.pre _ _) rfl (by kernel_rfl) (fun _ _ _ h => hQ.panic _ _ _ _ _ h) (.inl ⟨rfl, fun wq hq => (by kernel_rfl)⟩) ?_
       refine r_take 3 undef (RB.pre _ _) rfl (by kernel_rfl) (fun _ _ _ h => hQ.panic _ _ _ _ _ h) (.inr ⟨by kernel_rfl, rfl⟩) ?_
       refine r_take 4 undef (RB.pre _ _) rfl (by kernel_rfl) (fun _ _ _ h => hQ.panic _ _ _ _ _ h) (.inr ⟨by kernel_rfl, rfl⟩) ?_
       refine r_take 5 (.bool false) (RB.pre _ _) rfl (by kernel_rfl) (fun _ _ _ h => hQ.panic _ _ _ _ _ h) (.inl ⟨rfl, fun wq hq => (by kernel_rfl)⟩) ?_
       refine r_take 6 (.bool false) (RB.pre _ _) rfl (by kernel_rfl) (fun _ _ _ h => hQ.panic _ _ _ _ _ h) (.inl ⟨rfl, fun wq hq => (by kernel_rfl)⟩) ?_
       refine r_take 7 undef (RB.pre _ _) rfl (by kernel_rfl) (fun _ _ _ h => hQ.panic _ _ _ _ _ h) (.inr ⟨by kernel_rfl, rfl⟩) ?_
       refine r_take 8 undef (RB.pre _ _) rfl (by kernel_rfl) (fun _ _ _ h => hQ.panic _ _ _ _ _ h) (.inr ⟨by kernel_rfl, rfl⟩) ?_
       refine r_take 9 (.bool false) (RB.pre _ _) rfl (by kernel_rfl) (fun _ _ _ h => hQ.panic _ _ _ _ _ h) (.inl ⟨rfl, fun wq hq => (by kernel_rfl)⟩) ?_
       refine r_take 10 (.bool false) (RB.pre _ _) rfl (by kernel_rfl) (fun _ _ _ h => hQ.panic _ _ _ _ _ h) (.inl ⟨rfl, fun wq hq => (by kernel_rfl)⟩) ?_
       refine r_take 11 undef (RB.pre _ _) rfl (by kernel_rfl) (fun _ _ _ h => hQ.panic _ _ _ _ _ h) (.inr ⟨by kernel_rfl, rfl⟩) ?_
       refine r_take 12 (.bool false) (RB.pre _ _) rfl (by kernel_rfl) (fun _ _ _ h => hQ.panic _ _ _ _ _ h) (.inl ⟨rfl, fun wq hq => (by kernel_rfl)⟩) ?_
       refine r_take 13 (.bool false) (RB.pre _ _) rfl (by kernel_rfl) (fun _ _ _ h => hQ.panic _ _ _ _ _ h) (.inl ⟨rfl, fun wq hq => (by kernel_rfl)⟩) ?_
       refine r_take 14 undef (RB.pre _ _) rfl (by kernel_rfl) (fun _ _ _ h => hQ.panic _ _ _ _ _ h) (.inr ⟨by kernel_rfl, rfl⟩) ?_
       refine r_take 15 undef (RB.pre _ _) rfl (by kernel_rfl) (fun _ _ _ h => hQ.panic _ _ _ _ _ h) (.inr ⟨by kernel_rfl, rfl⟩) ?_
       refine r_take 16 undef (RB.pre _ _) rfl (by kernel_rfl) (fun _ _ _ h => hQ.panic _ _ _ _ _ h) (.inr ⟨by kernel_rfl, rfl⟩) ?_
       refine r_take 17 (.bool false) (RB.pre _ _) rfl (by kernel_rfl) (fun _ _ _ h => hQ.panic _ _ _ _ _ h) (.inl ⟨rfl, fun wq hq => (by kernel_rfl)⟩) ?_
       refine r_take 18 (.bool false) (RB.pre _ _) rfl (by kernel_rfl) (fun _ _ _ h => hQ.panic _ _ _ _ _ h) (.inl ⟨rfl, fun wq hq => (by kernel_rfl)⟩) ?_
       refine r_take 19 undef (RB.pre _ _) rfl (by kernel_rfl) (fun _ _ _ h => hQ.panic _ _ _ _ _ h) (.inr ⟨by kernel_rfl, rfl⟩) ?_
       refine r_take 20 undef (RB.pre _ _) rfl (by kernel_rfl) (fun _ _ _ h => hQ.panic _ _ _ _ _ h) (.inr ⟨by kernel_rfl, rfl⟩) ?_
       refine r_take 21 undef (RB.pre _ _) rfl (by kernel_rfl) (fun _ _ _ h => hQ.panic _ _ _ _ _ h) (.inr ⟨by kernel_rfl, rfl⟩) ?_
       refine r_take 22 undef (RB.pre _ _) rfl (by kernel_rfl) (fun _ _ _ h => hQ.panic _ _ _ _ _ h) (.inr ⟨by kernel_rfl, rfl⟩) ?_
       refine r_take 23 undef (RB.pre _ _) rfl (by kernel_rfl) (fun _ _ _ h => hQ.panic _ _ _ _ _ h) (.inr ⟨by kernel_rfl, rfl⟩) ?_
       refine r_take 24 undef (RB.pre _ _) rfl (by kernel_rfl) (fun _ _ _ h => hQ.panic _ _ _ _ _ h) (.inr ⟨by kernel_rfl, rfl⟩) ?_
       refine r_take 25 (.bool false) (RB.pre _ _) rfl (by kernel_rfl) (fun _ _ _ h => hQ.panic _ _ _ _ _ h) (.inl ⟨rfl, fun wq hq => (by kernel_rfl)⟩) ?_
       refine r_take 26 (.bool false) (RB.pre _ _) rfl (by kernel_rfl) (fun _ _ _ h => hQ.panic _ _ _ _ _ h) (.inl ⟨rfl, fun wq hq => (by kernel_rfl)⟩) ?_
       refine r_take 27 undef (RB.pre _ _) rfl (by kernel_rfl) (fun _ _ _ h => hQ.panic _ _ _ _ _ h) (.inr ⟨by kernel_rfl, rfl⟩) ?_
       refine r_take 28 undef (RB.pre _ _) rfl (by kernel_rfl) (fun _ _ _ h => hQ.panic _ _ _ _ _ h) (.inr ⟨by kernel_rfl, rfl⟩) ?_
       refine r_take 29 undef (RB.pre _ _) rfl (by kernel_rfl) (fun _ _ _ h => hQ.panic _ _ _ _ _ h) (.inr ⟨by kernel_rfl, rfl⟩) ?_
       refine r_take 30 undef (RB.pre _ _) rfl (by kernel_rfl) (fun _ _ _ h => hQ.panic _ _ _ _ _ h) (.inr ⟨by kernel_rfl, rfl⟩) ?_
       refine r_take 31 undef (RB.pre _ _) rfl (by kernel_rfl) (fun _ _ _ h => hQ.panic _ _ _ _ _ h) (.inr ⟨by kernel_rfl, rfl⟩) ?_
       refine r_take 32 undef (RB.pre _ _) rfl (by kernel_rfl) (fun _ _ _ h => hQ.panic _ _ _ _ _ h) (.inr ⟨by kernel_rfl, rfl⟩) ?_
       refine r_take 33 undef (RB.pre _ _) rfl (by kernel_rfl) (fun _ _ _ h => hQ.panic _ _ _ _ _ h) (.inr ⟨by kernel_rfl, rfl⟩) ?_
       refine r_take 34 (.bool false) (RB.pre _ _) rfl (by kernel_rfl) (fun _ _ _ h => hQ.panic _ _ _ _ _ h) (.inl ⟨rfl, fun wq hq => (by kernel_rfl)⟩) ?_
       refine r_take 35 (.bool false) (RB.pre _ _) rfl (by kernel_rfl) (fun _ _ _ h => hQ.panic _ _ _ _ _ h) (.inl ⟨rfl, fun wq hq => (by kernel_rfl)⟩) ?_
       refine r_take 36 undef (RB.pre _ _) rfl (by kernel_rfl) (fun _ _ _ h => hQ.panic _ _ _ _ _ h) (.inr ⟨by kernel_rfl, rfl⟩) ?_
       refine r_take 37 undef (RB.pre _ _) rfl (by kernel_rfl) (fun _ _ _ h => hQ.panic _ _ _ _ _ h) (.inr ⟨by kernel_rfl, rfl⟩) ?_
       refine r_take 38 undef (RB.pre _ _) rfl (by kernel_rfl) (fun _ _ _ h => hQ.panic _ _ _ _ _ h) (.inr ⟨by kernel_rfl, rfl⟩) ?_
       refine r_take 39 undef (RB.pre _ _) rfl (by kernel_rfl) (fun _ _ _ h => hQ.panic _ _ _ _ _ h) (.inr ⟨by kernel_rfl, rfl⟩) ?_
       refine r_take 40 undef (RB.pre _ _) rfl (by kernel_rfl) (fun _ _ _ h => hQ.panic _ _ _ _ _ h) (.inr ⟨by kernel_rfl, rfl⟩) ?_
       refine r_take 41 (.bool false) (RB.pre _ _) rfl (by kernel_rfl) (fun _ _ _ h => hQ.panic _ _ _ _ _ h) (.inl ⟨rfl, fun wq hq => (by kernel_rfl)⟩) ?_
       refine r_ready [42] (by kernel_rfl) rfl (all_cons ⟨_, _, _, _, _, _, rfl, ?_⟩ all_nil)
       refine o_pv (.bool false) rfl (by kernel_rfl) ?_
       refine ⟨fun h => absurd h (by decide), ?_⟩
       refine r_done (by kernel_rfl) ?_
       refine then_normal (z7 _ _ _ ⟨[(6, (.bool false))], fit_mk (fun _ _ => rfl) (by kernel_rfl) (vs_cons (by kernel_rfl) vs_nil), ?_⟩)
       exact ⟨y0, false, rfl, y2, z4, z8, hp⟩
     ·
      rintro _ r5 Y5 ⟨r6, y6, rfl, h5, f8, p7, o2⟩
      replace hp := m8 y6 o2
      refine then_normal (h1 _ _ _ _ ?_)
      refine wp_ret ?_
      refine end_ret hQ (.bool y6) (by kernel_rfl) ?_
      exact ⟨y6, hp, h5, rfl⟩
end Go.Proofs.YtlkfoebophjhfaaGreatDoor
