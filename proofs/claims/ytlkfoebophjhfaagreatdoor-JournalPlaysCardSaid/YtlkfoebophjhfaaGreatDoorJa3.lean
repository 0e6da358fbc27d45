/- Walks of functions: what each asks and computes, as a plain predicate, and the contract from it. -/
import Derived.Test.YtlkfoebophjhfaaGreatDoorChecked
import Derived.Test.YtlkfoebophjhfaaGreatDoorPk
import Derived.Test.YtlkfoebophjhfaaGreatDoorJa2
namespace Go.Proofs.YtlkfoebophjhfaaGreatDoor
open Go
theorem elT22 : ElemT Tryz.prog 22 34 4 56 := elemT_mk (i := Tryz.t34) (z := (.agg #[(.string (ByteArray.mk #[])), (.bool false), (.int .i64 0), (.slice none 0 0)])) (by kernel_rfl) (by kernel_rfl) (by kernel_rfl) (by kernel_rfl) Tryz.underlying22 Tryz.sizeOf34 (by decide) (by decide)
theorem elT43 : ElemT Tryz.prog 43 4 1 1 := elemT_mk (i := Tryz.t4) (z := (.bool false)) (by kernel_rfl) (by kernel_rfl) (by kernel_rfl) (by kernel_rfl) Tryz.underlying43 Tryz.sizeOf4 (by decide) (by decide)
def journal_read_p (b : (List Int)) (Q : (List S_journal_Change) → Bool → Prop) : Prop :=
 ((b.length ≤ 9223372036854775807) → (codec_Of_p b (fun (v2 : S_codec_Dec) => (codec_Dec_Int_p v2 (fun (v1 : S_codec_Dec) (y2 : Int) => ((inR .i64 y2) → (∃ (z5 : (List S_journal_Change) → Int → S_codec_Dec → Prop) (y3 : (List S_journal_Change) → Int → S_codec_Dec → Nat), (z5 ([] : List S_journal_Change) (0 : Int) v1) ∧ (∀ (z0 : (List S_journal_Change)) (z1 : Int) (z2 : S_codec_Dec), (z5 z0 z1 z2) → (z0.length ≤ 9223372036854775807) → (inR .i64 z1) → (∃ z3 : Bool → S_codec_Dec → Prop, (∀ (z6 : Bool) (z7 : S_codec_Dec), z3 z6 z7 → (((z6 = true) → (codec_Dec_Text_p z7 (fun (y9 : S_codec_Dec) (z8 : ByteArray) => ((z8.size ≤ maxLen) → (codec_Dec_Int_p y9 (fun (y4 : S_codec_Dec) (z9 : Int) => ((inR .i64 z9) → (((z0.length + ([(S_journal_Change.mk z8 (decide (z9 = (1 : Int))) (0 : Int) ([] : List Int))]).length) * 56 ≤ 140737488355328) ∧ (∀ y0 : List S_journal_Change, y0 = (z0 ++ ([(S_journal_Change.mk z8 (decide (z9 = (1 : Int))) (0 : Int) ([] : List Int))])) → ((inR .i64 (z1 + (1 : Int))) ∧ ((z5 y0 (z1 + (1 : Int)) y4) ∧ y3 y0 (z1 + (1 : Int)) y4 < y3 z0 z1 z2))))))))))) ∧ ((z6 = false) → (∃ z4 : Bool → Prop, (∀ (y5 : Bool), z4 y5 → Q z0 y5) ∧ (codec_Dec_Err_p z7 (fun (v0 : S_codec_Dec) (y6 : PErr) => (((y6.isNil = true) → (codec_Dec_Left_p v0 (fun (v3 : S_codec_Dec) (y1 : Int) => ((inR .i64 y1) → (((y1 = (0 : Int)) → (z4 (decide ((z0.length : Int) = y2)))) ∧ ((¬ (y1 = (0 : Int))) → (z4 false))))))) ∧ ((¬ (y6.isNil = true)) → (z4 false))))))))) ∧ (((z1 < y2) → (codec_Dec_Err_p z2 (fun (y7 : S_codec_Dec) (y8 : PErr) => (((y8.isNil = true) → (z3 (decide (z1 < (256 : Int))) y7)) ∧ ((¬ (y8.isNil = true)) → (z3 false y7)))))) ∧ ((¬ (z1 < y2)) → (z3 false z2))))))))))))
set_option maxRecDepth 20000 in
set_option maxHeartbeats 4000000 in
theorem journal_read_w {X : List Nat} {w : World} {b : (List Int)} {t8 : Option Addr} {t9 : Nat} {Q : (List S_journal_Change) → Bool → Prop} (l7 : Old X w) (l8 : Sl (rInt .u8) X w t8 t9 b) (hp : journal_read_p b Q) :
  Calls Tryz.prog 37 #[(.slice t8 b.length t9)] w (Ret fun v w' => ∃ (m2 : (List S_journal_Change)) (c9 : Bool), Q m2 c9 ∧ Evo [] w w' ∧ ∃ (q2 : Option Addr) (q3 : Nat), v = .tuple #[(.slice q2 m2.length q3), (.bool c9)] ∧ Sl r_journal_Change X w' q2 q3 m2) := by
 have hXo := l7
 have E0 : Evo [] w w := RB.refl _ _ _
 have hS : Sub X X := Sub.refl _
 unfold journal_read_p at hp
 refine enter_ Tryz.func37 rfl 50 [(0, (.slice t8 b.length t9))] (by kernel_rfl) (fun Qe hQ => ?_)
 replace hp := hp (Sl.len l8)
 refine sr (fun _ e3 => pv (.slice none 0 0) ?_)
 refine pv (.bool false) ?_
 refine nt e3 (sr (fun _ e4 => pv (.slice t8 b.length t9) ?_))
 refine sq (o_call 64 #[(.slice t8 b.length t9)] rfl (x_call Tryz.call64 (by kernel_rfl)) (codec_Of_w (X := X) (b := b) hXo l8 hp) ?_)
 rintro _ h7 ⟨e5, hp, e6, z5, e7, m3, rfl, q4⟩
 have q5 := MO.re q4 (Wr.trans q4.wr (Wr.nil [] _) E0.size)
 refine pv (.pointer (some ⟨z5, 0, none⟩)) ?_
 refine nt e4 (sr (fun _ a0 => pv (.pointer (some ⟨z5, 0, none⟩)) ?_))
 have r6 := Old.step hXo m3
 have l9 := Evo.then0 E0 (Step.evo m3)
 have m4 := Sub.trans hS (Step.up m3)
 refine sq (o_call 65 #[(.pointer (some ⟨z5, 0, none⟩))] rfl (x_call Tryz.call65 (by kernel_rfl)) (codec_Dec_Int_w (X := e6) (d := e5) r6 (MO.re q5 (Wr.self _ _ (Sub.refl _))) hp) ?_)
 rintro _ h6 ⟨m0, z6, hp, a1, a2, q6, rfl, m1, m5⟩
 have a3 := MO.re m1 (Wr.trans m1.wr q5.wr l9.size)
 replace hp := hp m5
 refine pv (.int .i64 z6) ?_
 refine nt a0 (sr (fun _ a4 => pv (.slice none 0 0) ?_))
 refine nt a4 (seq_ (fun _ a5 => sr (fun _ a6 => pv (.int .i64 (0 : Int)) ?_)))
 refine nt a6 (wp_block ?_)
 have q7 := Old.step r6 q6
 have m6 := Evo.thenW l9 (Step.evo q6) q5.wr
 have g7 := Sub.trans m4 (Step.up q6)
 obtain ⟨m7, q8, g8, hp⟩ := hp
 refine loop_ 34359734464 (fun kq lq v0 => ∃ (y1 : List Nat) (z0 : (List S_journal_Change)) (z1 : Int) (y2 : S_codec_Dec) (z2 : Option Addr) (z3 : Nat) (z4 : Nat) (u1 : List Nat), (lq = [(6, (.slice z2 z3 z4)), (7, (.int .i64 z1))]) ∧ (kq = q8 z0 z1 y2) ∧ (Evo [] w v0) ∧ (Old y1 v0) ∧ (Sub X y1) ∧ (OS r_journal_Change ([]) w.heap.size y1 v0 34 z2 z3 z4 z0) ∧ (MO o_codec_Dec 128 ([]) w.heap.size y1 v0 u1 z5 y2) ∧ (Ap (blkL z2) (u1)) ∧ (inR .i64 z1) ∧ (m7 z0 z1 y2)) (q8 ([] : List S_journal_Change) (0 : Int) m0) [(6, (.slice none 0 0)), (7, (.int .i64 (0 : Int)))] (vs_cons (by kernel_rfl) (vs_cons (by kernel_rfl) vs_nil)) ⟨a1, ([] : List S_journal_Change), (0 : Int), m0, none, 0, 0, a2, rfl, rfl, m6, q7, g7, (OS.nil _ _ _ _), a3, (Ap.nil_l _), (by decide : inR .i64 (0 : Int)), g8⟩ ?_
 rintro _ _ v0 e8 ⟨y1, z0, z1, y2, z2, z3, z4, u1, rfl, rfl, u2, y6, u3, v1, v2, u4, g9, d0⟩ a8 d1
 replace hp := hp z0 z1 y2 d0 (OS.len v1) g9
 refine seq_ (fun _ m8 => seq_ (fun _ m9 => ?_))
 obtain ⟨n0, d2, hp⟩ := hp
 refine ground_ ?_
 refine join_ 16773120 (fun lq v3 => ∃ (y3 : List Nat) (v4 : Bool) (y7 : S_codec_Dec) (s1 : List Nat), (lq = [(23, (.bool v4))]) ∧ (Evo [] w v3) ∧ (Old y3 v3) ∧ (Sub X y3) ∧ (OS r_journal_Change ([]) w.heap.size y3 v3 34 z2 z3 z4 z0) ∧ (MO o_codec_Dec 128 ([]) w.heap.size y3 v3 s1 z5 y7) ∧ (Ap (blkL z2) (s1)) ∧ (n0 v4 y7)) (fun a9 u5 => ?_) ?_
 ·
  refine reg_ (pv (.int .i64 z1) ?_)
  refine pv (.int .i64 z6) ?_
  by_cases u6 : z1 < z6
  ·
   replace hp := hp.1 u6
   refine pw (.bool true) (x_dt (p := z1 < z6) (by kernel_rfl) u6) ?_
   refine pv (.bool true) ?_
   refine pv (.pointer (some ⟨z5, 0, none⟩)) ?_
   refine sq (o_call 66 #[(.pointer (some ⟨z5, 0, none⟩))] (by kernel_rfl) (x_call Tryz.call66 (by kernel_rfl)) (codec_Dec_Err_w (X := y1) (d := y2) y6 (MO.re v2 (Wr.self _ _ (Sub.refl _))) hp) ?_)
   rintro e0 e9 ⟨q9, s2, hp, k0, k1, _, z7, rfl, s3, r7⟩
   have k2 := MO.re s3 (Wr.trans s3.wr v2.wr u2.size)
   have k3 := Ap.grow s3.wr u4 (OS.old v1) (Nat.le_refl _)
   by_cases u7 : s2.isNil = true
   ·
    replace hp := hp.1 u7
    refine pw (.bool true) (x_bt (x_err_eq s2 r7 Tryz.underlying113 (by kernel_rfl)) u7) ?_
    refine pv (.bool true) ?_
    refine pv (.bool true) ?_
    refine pv (.int .i64 z1) ?_
    refine pv (.bool (decide (z1 < (256 : Int)))) ?_
    refine pv (.bool (decide (z1 < (256 : Int)))) ?_
    refine nil_ ?_
    have n1 := Evo.thenW u2 (Step.evo z7) v2.wr
    have k4 := Old.step y6 z7
    have d3 := Sub.trans u3 (Step.up z7)
    have n2 := OS.step v1 z7 u4
    refine then_normal (u5 _ _ _ ⟨[(23, (.bool (decide (z1 < (256 : Int)))))], fit_mk (fun _ _ => rfl) (by kernel_rfl) (vs_cons (by kernel_rfl) vs_nil), ?_⟩)
    exact ⟨k0, (decide (z1 < (256 : Int))), q9, k1, rfl, n1, k4, d3, n2, k2, k3, hp⟩
   ·
    replace hp := hp.2 u7
    refine pw (.bool false) (x_bf (x_err_eq s2 r7 Tryz.underlying113 (by kernel_rfl)) u7) ?_
    refine pv (.bool false) ?_
    refine pv (.bool false) ?_
    refine no ?_
    refine no ?_
    refine pv (.bool false) ?_
    refine nil_ ?_
    have n3 := Evo.thenW u2 (Step.evo z7) v2.wr
    have k5 := Old.step y6 z7
    have d4 := Sub.trans u3 (Step.up z7)
    have n4 := OS.step v1 z7 u4
    refine then_normal (u5 _ _ _ ⟨[(23, (.bool false))], fit_mk (fun _ _ => rfl) (by kernel_rfl) (vs_cons (by kernel_rfl) vs_nil), ?_⟩)
    exact ⟨k0, false, q9, k1, rfl, n3, k5, d4, n4, k2, k3, hp⟩
  ·
   replace hp := hp.2 u6
   refine pw (.bool false) (x_df (p := z1 < z6) (by kernel_rfl) u6) ?_
   refine pv (.bool false) ?_
   refine no ?_
   refine no ?_
   refine no ?_
   refine pv (.bool false) ?_
   refine pv (.bool false) ?_
   refine no ?_
   refine no ?_
   refine pv (.bool false) ?_
   refine nil_ (then_normal (u5 _ _ _ ⟨[(23, (.bool false))], fit_mk (fun _ _ => rfl) (by kernel_rfl) (vs_cons (by kernel_rfl) vs_nil), ?_⟩))
   exact ⟨y1, false, y2, u1, rfl, u2, y6, u3, v1, v2, u4, hp⟩
 ·
  rintro _ v3 i0 ⟨y3, v4, y7, s1, rfl, v5, z8, u9, v6, y4, v7, d5⟩
  replace hp := d2 v4 y7 d5
  refine then_normal (m9 _ _ _ _ ?_)
  refine cond_b v4 (by kernel_rfl) (fun s4 => ?_) (fun s4 => ?_)
  ·
   replace hp := hp.1 s4
   refine wp_skip (then_normal (m8 _ _ _ _ (seq_ (fun _ n5 => wp_block (reg_ (pv (.slice z2 z3 z4) ?_))))))
   refine pv (.pointer (some ⟨z5, 0, none⟩)) ?_
   refine sq (o_call 67 #[(.pointer (some ⟨z5, 0, none⟩))] rfl (x_call Tryz.call67 (by kernel_rfl)) (codec_Dec_Text_w (X := y3) (d := y7) z8 (MO.re y4 (Wr.self _ _ (Sub.refl _))) hp) ?_)
   rintro _ i1 ⟨n6, y8, hp, n7, i2, t0, rfl, s5, r8⟩
   have s6 := MO.re s5 (Wr.trans s5.wr y4.wr v5.size)
   have k6 := Ap.grow s5.wr v7 (OS.old v6) (Nat.le_refl _)
   replace hp := hp r8
   refine pv (.pointer (some ⟨z5, 0, none⟩)) ?_
   have k7 := Evo.thenW v5 (Step.evo t0) y4.wr
   have s0 := Old.step z8 t0
   have d6 := Sub.trans u9 (Step.up t0)
   have k8 := OS.step v6 t0 v7
   refine sq (o_call 65 #[(.pointer (some ⟨z5, 0, none⟩))] rfl (x_call Tryz.call65 (by kernel_rfl)) (codec_Dec_Int_w (X := n7) (d := n6) s0 (MO.re s6 (Wr.self _ _ (Sub.refl _))) hp) ?_)
   rintro _ i3 ⟨n8, y5, hp, n9, o0, t1, rfl, s7, d7⟩
   have o1 := MO.re s7 (Wr.trans s7.wr s6.wr k7.size)
   have k9 := Ap.grow s7.wr k6 (OS.old k8) (Nat.le_refl _)
   replace hp := hp d7
   refine pv (.bool (decide (y5 = (1 : Int)))) ?_
   refine pv (.agg #[(.string y8), (.bool (decide (y5 = (1 : Int)))), (.int .i64 (0 : Int)), (.slice none 0 0)]) ?_
   have o2 := OS.step k8 t1 k6
   have j0 := Evo.thenW k7 (Step.evo t1) s6.wr
   refine sq (o_rowX (R := r_journal_Change) [(.string y8), (.bool (decide (y5 = (1 : Int)))), (.int .i64 (0 : Int)), (.slice none 0 0)] [(S_journal_Change.mk y8 (decide (y5 = (1 : Int))) (0 : Int) ([] : List Int))] 34 1 (X := n9) (B := w.heap.size) j0.size rfl (by kernel_rfl) (Flat.cons (cs := [(.string y8), (.bool (decide (y5 = (1 : Int)))), (.int .i64 (0 : Int)), (.slice none 0 0)]) (r_journal_Change_mk r8 (by decide : inR .i64 (0 : Int)) (Sl.nil) rfl) Flat.nil) rfl (by decide) ?_)
   intro i4 i5 o3 v8 j1 i6
   obtain ⟨o4, hp⟩ := hp
   have j2 := OS.step0 o2 v8
   have j3 := MO.step0 o1 v8
   have j4 := Evo.then0 j0 (Step.evo v8)
   refine sq (o_appX (R := r_journal_Change) (X := o3) (B := w.heap.size) (L := z0) (M := [(S_journal_Change.mk y8 (decide (y5 = (1 : Int))) (0 : Int) ([] : List Int))]) rfl elT22 rfl j4.size j2 (OS.src j1) j1.1 (by kernel_rfl) (by kernel_rfl) o4 ?_)
   intro s8 s9 r0 i7 o5 t2 j5 d8
   obtain ⟨j6, r9⟩ : ∃ y, y = (z0 ++ ([(S_journal_Change.mk y8 (decide (y5 = (1 : Int))) (0 : Int) ([] : List Int))])) := ⟨_, rfl⟩
   replace hp := hp j6 r9
   rw [← r9] at j5
   have o6 := d8 _ (Ap.symm k9) (MO.old j3)
   refine pv (.slice s8 s9 r0) ?_
   refine nil_ (blk_normal (then_normal (n5 _ _ _ _ (reg_ (pv (.int .i64 z1) ?_)))))
   obtain ⟨j7, hp⟩ := hp
   refine pw (.int .i64 (z1 + (1 : Int))) (x_add2 (k := .i64) (a := z1) (b := (1 : Int)) (z1 + (1 : Int)) (by kernel_rfl) (by kernel_rfl) (wrap_inR j7)) ?_
   refine pv (.int .i64 (z1 + (1 : Int))) ?_
   refine nil_ ?_
   have o7 := Evo.thenW j4 (Step.evo t2) j2.2.2
   have j8 := Old.step (Old.step (Old.step s0 t1) v8) t2
   have d9 := Sub.trans (Sub.trans (Sub.trans d6 (Step.up t1)) (Step.up v8)) (Step.up t2)
   have o8 := MO.step j3 t2 (Ap.symm k9)
   refine then_normal (d1 _ _ _ ⟨_, [(6, (.slice s8 s9 r0)), (7, (.int .i64 (z1 + (1 : Int))))], hp.2, fit_mk (AgB.nest (AgB.look (AgB.mix _ _ _) (by kernel_rfl)) (by kernel_rfl) (by kernel_rfl)) (by kernel_rfl) (vs_cons (by kernel_rfl) (vs_cons (by kernel_rfl) vs_nil)), ?_⟩)
   exact ⟨o5, j6, (z1 + (1 : Int)), n8, s8, s9, r0, o0, rfl, rfl, o7, j8, d9, j5, o8, (Ap.symm o6), j7, hp.1⟩
  ·
   replace hp := hp.2 s4
   refine wp_exit ?_
   refine then_exit (then_exit (blk_exit (then_normal (a5 _ _ _ _ (seq_ (fun _ o9 => ?_))))))
   obtain ⟨c0, l0, hp⟩ := hp
   refine ground_ ?_
   refine join_ 1125865547104268 (fun lq t3 => ∃ (t4 : List Nat) (y9 : Bool), (lq = [(2, (.slice z2 z3 z4)), (3, (.bool y9))]) ∧ (Evo [] w t3) ∧ (Old t4 t3) ∧ (Sub X t4) ∧ (OS r_journal_Change ([]) w.heap.size t4 t3 34 z2 z3 z4 z0) ∧ (c0 y9)) (fun e1 t5 => ?_) ?_
   ·
    refine reg_ (pv (.slice z2 z3 z4) ?_)
    refine pv (.pointer (some ⟨z5, 0, none⟩)) ?_
    refine sq (o_call 66 #[(.pointer (some ⟨z5, 0, none⟩))] rfl (x_call Tryz.call66 (by kernel_rfl)) (codec_Dec_Err_w (X := y3) (d := y7) z8 (MO.re y4 (Wr.self _ _ (Sub.refl _))) hp) ?_)
    rintro e2 i9 ⟨c1, r1, hp, j9, h0, _, z9, rfl, r2, q0⟩
    have r3 := MO.re r2 (Wr.trans r2.wr y4.wr v5.size)
    have g0 := Ap.grow r2.wr v7 (OS.old v6) (Nat.le_refl _)
    by_cases t6 : r1.isNil = true
    ·
     replace hp := hp.1 t6
     refine pw (.bool true) (x_bt (x_err_eq r1 q0 Tryz.underlying113 (by kernel_rfl)) t6) ?_
     refine pv (.bool true) ?_
     refine pv (.pointer (some ⟨z5, 0, none⟩)) ?_
     have g1 := Evo.thenW v5 (Step.evo z9) y4.wr
     have v9 := Old.step z8 z9
     have q1 := Sub.trans u9 (Step.up z9)
     have r4 := OS.step v6 z9 v7
     refine sq (o_call 68 #[(.pointer (some ⟨z5, 0, none⟩))] (by kernel_rfl) (x_call Tryz.call68 (by kernel_rfl)) (codec_Dec_Left_w (X := j9) (d := c1) v9 (MO.re r3 (Wr.self _ _ (Sub.refl _))) hp) ?_)
     rintro _ h1 ⟨h2, r5, hp, g2, h3, y0, rfl, h4, l1⟩
     replace hp := hp l1
     by_cases t7 : r5 = (0 : Int)
     ·
      replace hp := hp.1 t7
      refine pw (.bool true) (x_dt (p := r5 = (0 : Int)) (by kernel_rfl) t7) ?_
      refine pv (.bool true) ?_
      refine pv (.bool true) ?_
      refine pv (.slice z2 z3 z4) ?_
      refine pw (.int .i64 (z0.length : Int)) (by rw [← show z3 = z0.length from r4.1]; kernel_rfl) ?_
      refine pv (.int .i64 z6) ?_
      refine pv (.bool (decide ((z0.length : Int) = z6))) ?_
      refine pv (.bool (decide ((z0.length : Int) = z6))) ?_
      refine pv (.slice z2 z3 z4) ?_
      refine pv (.bool (decide ((z0.length : Int) = z6))) ?_
      refine nil_ ?_
      have c2 := Evo.thenW g1 (Step.evo y0) r3.wr
      have g3 := Old.step v9 y0
      have l2 := Sub.trans q1 (Step.up y0)
      have c3 := OS.step r4 y0 g0
      refine then_normal (t5 _ _ _ ⟨[(2, (.slice z2 z3 z4)), (3, (.bool (decide ((z0.length : Int) = z6))))], fit_mk (fun _ _ => rfl) (by kernel_rfl) (vs_cons (by kernel_rfl) (vs_cons (by kernel_rfl) vs_nil)), ?_⟩)
      exact ⟨g2, (decide ((z0.length : Int) = z6)), rfl, c2, g3, l2, c3, hp⟩
     ·
      replace hp := hp.2 t7
      refine pw (.bool false) (x_df (p := r5 = (0 : Int)) (by kernel_rfl) t7) ?_
      refine pv (.bool false) ?_
      refine pv (.bool false) ?_
      refine no ?_
      refine no ?_
      refine no ?_
      refine no ?_
      refine pv (.bool false) ?_
      refine pv (.slice z2 z3 z4) ?_
      refine pv (.bool false) ?_
      refine nil_ ?_
      have c4 := Evo.thenW g1 (Step.evo y0) r3.wr
      have g4 := Old.step v9 y0
      have l3 := Sub.trans q1 (Step.up y0)
      have c5 := OS.step r4 y0 g0
      refine then_normal (t5 _ _ _ ⟨[(2, (.slice z2 z3 z4)), (3, (.bool false))], fit_mk (fun _ _ => rfl) (by kernel_rfl) (vs_cons (by kernel_rfl) (vs_cons (by kernel_rfl) vs_nil)), ?_⟩)
      exact ⟨g2, false, rfl, c4, g4, l3, c5, hp⟩
    ·
     replace hp := hp.2 t6
     refine pw (.bool false) (x_bf (x_err_eq r1 q0 Tryz.underlying113 (by kernel_rfl)) t6) ?_
     refine pv (.bool false) ?_
     refine no ?_
     refine no ?_
     refine no ?_
     refine pv (.bool false) ?_
     refine pv (.bool false) ?_
     refine no ?_
     refine no ?_
     refine no ?_
     refine no ?_
     refine pv (.bool false) ?_
     refine pv (.slice z2 z3 z4) ?_
     refine pv (.bool false) ?_
     refine nil_ ?_
     have c6 := Evo.thenW v5 (Step.evo z9) y4.wr
     have g5 := Old.step z8 z9
     have l4 := Sub.trans u9 (Step.up z9)
     have c7 := OS.step v6 z9 v7
     refine then_normal (t5 _ _ _ ⟨[(2, (.slice z2 z3 z4)), (3, (.bool false))], fit_mk (fun _ _ => rfl) (by kernel_rfl) (vs_cons (by kernel_rfl) (vs_cons (by kernel_rfl) vs_nil)), ?_⟩)
     exact ⟨j9, false, rfl, c6, g5, l4, c7, hp⟩
   ·
    rintro _ t3 h5 ⟨t4, y9, rfl, c8, a7, l5, g6, l6⟩
    replace hp := l0 y9 l6
    refine then_normal (o9 _ _ _ _ (wp_ret ?_))
    refine end_ret hQ (.tuple #[(.slice z2 z3 z4), (.bool y9)]) (by kernel_rfl) ?_
    exact ⟨z0, y9, hp, c8, z2, z4, (by (rw [show z3 = z0.length from g6.1]); first | done | rfl), (OS.out g6 l5 l7)⟩
def slices_Clone_journal_Change_journal_Change_p (s : (List S_journal_Change)) (Q : (List S_journal_Change) → Prop) : Prop :=
 ((s.length ≤ 9223372036854775807) → ((s.length * 56 ≤ 140737488355328) ∧ Q s))
set_option maxRecDepth 20000 in
set_option maxHeartbeats 4000000 in
theorem slices_Clone_journal_Change_journal_Change_w {X : List Nat} {w : World} {s : (List S_journal_Change)} {z0 : Option Addr} {z1 : Nat} {Q : (List S_journal_Change) → Prop} (y5 : Old X w) (z2 : Sq r_journal_Change X w z0 z1 s) (hp : slices_Clone_journal_Change_journal_Change_p s Q) :
  Calls Tryz.prog 69 #[(.slice z0 s.length z1)] w (Ret fun v w' => ∃ (z8 : (List S_journal_Change)), Q z8 ∧ Evo [] w w' ∧ ∃ (y2 : Option Addr) (y6 : Nat), v = .slice y2 z8.length y6 ∧ OS r_journal_Change [] w.heap.size (blkL y2 ++ X) w' 34 y2 z8.length y6 z8) := by
 have hXo := y5
 have E0 : Evo [] w w := RB.refl _ _ _
 have hS : Sub X X := Sub.refl _
 unfold slices_Clone_journal_Change_journal_Change_p at hp
 refine enter_ Tryz.func69 rfl 8 [(0, (.slice z0 s.length z1))] (by kernel_rfl) (fun Qe hQ => ?_)
 replace hp := hp (Sq.len z2)
 refine sr (fun _ v1 => pv (.slice none 0 0) ?_)
 refine nt v1 (seq_ (fun _ v2 => sr (fun _ y7 => pv (.slice z0 s.length z1) ?_)))
 rcases z0 with _ | ad
 ·
  obtain rfl : s = [] := z2.2.elim (fun h => h.1) (fun ⟨b, o, xs, h, _⟩ => by cases h)
  replace hp := hp.2
  refine pv (.bool true) ?_
  refine nt y7 ?_
  refine cond_t (by kernel_rfl) ?_
  refine sr (fun _ v3 => pv (.slice none 0 0) ?_)
  refine nt v3 (wp_ret (then_ret ?_))
  refine end_ret hQ (.slice none 0 0) (by kernel_rfl) ?_
  exact ⟨([] : List S_journal_Change), hp, E0, none, 0, rfl, (OS.nil _ _ _ _)⟩
 ·
  refine pv (.bool false) ?_
  refine nt y7 ?_
  refine cond_f (by kernel_rfl) ?_
  refine wp_skip (then_normal (v2 _ _ _ _ (sr (fun _ v4 => ?_))))
  refine sq (o_rowX (R := r_journal_Change) [] ([] : List S_journal_Change) 34 0 (X := X) (B := w.heap.size) E0.size rfl (by kernel_rfl) Flat.nil rfl (by decide) ?_)
  intro u1 v6 y8 z3 z9 v7
  refine pv (.slice (some ad) s.length z1) ?_
  obtain ⟨y9, hp⟩ := hp
  have y3 := Sq.step z2 z3
  have y0 := Evo.then0 E0 (Step.evo z3)
  refine sq (o_appX (R := r_journal_Change) (X := y8) (B := w.heap.size) (L := ([] : List S_journal_Change)) (M := s) rfl elT22 rfl y0.size z9 (Sq.src y3) rfl (by kernel_rfl) (by kernel_rfl) (by simpa using y9) ?_)
  intro z4 z5 z6 v8 v9 y1 z7 v5
  rw [List.nil_append] at z7
  refine pv (.slice z4 z5 z6) ?_
  refine nt v4 (wp_ret ?_)
  have y4 := Sub.trans (Sub.trans hS (Step.up z3)) (Step.up y1)
  have v0 := Evo.thenW y0 (Step.evo y1) z9.2.2
  refine end_ret hQ (.slice z4 z5 z6) (by kernel_rfl) ?_
  exact ⟨s, hp, v0, z4, z6, (by (rw [show z5 = s.length from z7.1]); first | done | rfl), (OS.give z7 y4)⟩
def journal_clean_p (l : (List S_journal_Change)) (Q : (List S_journal_Change) → Prop) : Prop :=
 ((l.length ≤ 9223372036854775807) → (slices_Clone_journal_Change_journal_Change_p l (fun (z4 : (List S_journal_Change)) => ((z4.length ≤ 9223372036854775807) → (∃ (z3 : (List S_journal_Change) → Int → Prop) (z5 : (List S_journal_Change) → Int → Nat), (z3 z4 (0 : Int)) ∧ (∀ (z1 : (List S_journal_Change)) (z0 : Int), (z3 z1 z0) → (z1.length ≤ 9223372036854775807) → (inR .i64 z0) → (((z0 < (z4.length : Int)) → ((inL z1 z0) ∧ ((((lget z1 z0).Path).size ≤ maxLen) → ((inR .i64 ((lget z1 z0).Mode)) → ((((lget z1 z0).Data).length ≤ 9223372036854775807) → (∀ z2 : List S_journal_Change, z2 = (lset z1 z0 (S_journal_Change.mk ((lget z1 z0).Path) ((lget z1 z0).Gone) (1 : Int) ((lget z1 z0).Data))) → ((inR .i64 (z0 + (1 : Int))) ∧ ((z3 z2 (z0 + (1 : Int))) ∧ z5 z2 (z0 + (1 : Int)) < z5 z1 z0)))))))) ∧ ((¬ (z0 < (z4.length : Int))) → Q z1))))))))
set_option maxRecDepth 20000 in
set_option maxHeartbeats 4000000 in
theorem journal_clean_w {X : List Nat} {w : World} {l : (List S_journal_Change)} {y1 : Option Addr} {y2 : Nat} {Q : (List S_journal_Change) → Prop} (u5 : Old X w) (u6 : Sl r_journal_Change X w y1 y2 l) (hp : journal_clean_p l Q) :
  Calls Tryz.prog 38 #[(.slice y1 l.length y2)] w (Ret fun v w' => ∃ (t1 : (List S_journal_Change)), Q t1 ∧ Evo [] w w' ∧ ∃ (v0 : Option Addr) (v1 : Nat), v = (.slice v0 t1.length v1) ∧ Sl r_journal_Change X w' v0 v1 t1) := by
 have hXo := u5
 have E0 : Evo [] w w := RB.refl _ _ _
 have hS : Sub X X := Sub.refl _
 unfold journal_clean_p at hp
 refine enter_ Tryz.func38 rfl 18 [(0, (.slice y1 l.length y2))] (by kernel_rfl) (fun Qe hQ => ?_)
 replace hp := hp (Sl.len u6)
 refine sr (fun _ r3 => pv (.slice none 0 0) ?_)
 refine nt r3 (sr (fun _ r4 => pv (.slice y1 l.length y2) ?_))
 refine sq (o_call 69 #[(.slice y1 l.length y2)] rfl (x_call Tryz.call69 (by kernel_rfl)) (slices_Clone_journal_Change_journal_Change_w (X := X) (s := l) hXo (Sl.sq u6) hp) ?_)
 rintro _ q0 ⟨z2, hp, r5, z4, z3, rfl, s2⟩
 obtain ⟨s3, t2, u7, r8⟩ := OS.own_in s2 r5 E0.size
 replace hp := hp (OS.len u7)
 refine pv (.slice z4 z2.length z3) ?_
 refine nt r4 (seq_ (fun _ s4 => sr (fun _ s5 => pv (.slice z4 z2.length z3) ?_)))
 refine pv (.int .i64 (z2.length : Int)) ?_
 refine pv (.int .i64 (0 : Int)) ?_
 refine nt s5 (wp_block ?_)
 have v9 := Old.step hXo t2
 have s6 := Evo.then0 E0 (Step.evo t2)
 have t3 := Sub.trans hS (Step.up t2)
 obtain ⟨s7, u9, t4, hp⟩ := hp
 refine loop_ 130576 (fun kq lq y7 => ∃ (y3 : List Nat) (z1 : (List S_journal_Change)) (z0 : Int), (lq = [(9, (.int .i64 z0))]) ∧ (kq = u9 z1 z0) ∧ (Evo [] w y7) ∧ (Old y3 y7) ∧ (Sub X y3) ∧ (OS r_journal_Change ([]) w.heap.size y3 y7 34 z4 z2.length z3 z1) ∧ (inR .i64 z0) ∧ (s7 z1 z0)) (u9 z2 (0 : Int)) [(9, (.int .i64 (0 : Int)))] (vs_cons (by kernel_rfl) vs_nil) ⟨s3, z2, (0 : Int), rfl, rfl, s6, v9, t3, u7, (by decide : inR .i64 (0 : Int)), t4⟩ ?_
 rintro _ _ y7 r9 ⟨y3, z1, z0, rfl, rfl, t0, u1, v2, z9, t5, t6⟩ r6 t7
 replace hp := hp z1 z0 t6 (OS.len z9) t5
 refine sr (fun _ s8 => pv (.bool (decide (z0 < (z2.length : Int)))) ?_)
 refine nt s8 (seq_ (fun _ s9 => ?_))
 refine cond_d (z0 < (z2.length : Int)) (by kernel_rfl) (fun v3 => ?_) (fun v3 => ?_)
 ·
  replace hp := hp.1 v3
  refine wp_skip (then_normal (s9 _ _ _ _ (seq_ (fun _ t8 => wp_block (sr (fun _ t9 => pv (.int .i64 z0) ?_))))))
  refine pv (.int .i64 z0) ?_
  refine nt t9 (reg_ (pv (.slice z4 z2.length z3) ?_))
  refine pv (.int .i64 z0) ?_
  obtain ⟨y0, hp⟩ := hp
  obtain ⟨v4, y5, r0, y8, r1, r2, u2, u3⟩ := OS.atX z9 z0 y0
  obtain ⟨z5, z6, rfl, z7, y4, z8⟩ := r_journal_Change_open u2
  replace hp := hp z7 y4 (Sl.len z8)
  refine pw (.pointer (some ⟨v4, y5 + z0.toNat * 4, none⟩)) (x_ixA (m := z2.length) (c := z3) (k := .i64) (i := z0) Tryz.underlying22 Tryz.sizeOf34 (by rw [← y8]; kernel_rfl) (by kernel_rfl) ⟨y0.1, by rw [z9.1]; exact y0.2⟩) ?_
  refine pv (.pointer (some ⟨v4, y5 + z0.toNat * 4 + 2, none⟩)) ?_
  refine sq (o_stPr (R := r_journal_Change) (o := y5) (v := (.int .i64 (1 : Int))) (cs := [(.string ((lget z1 z0).Path)), (.bool ((lget z1 z0).Gone)), (.int .i64 ((lget z1 z0).Mode)), (.slice z5 (((lget z1 z0).Data).length) z6)]) z0 2 [(.string ((lget z1 z0).Path)), (.bool ((lget z1 z0).Gone)), (.int .i64 (1 : Int)), (.slice z5 (((lget z1 z0).Data).length) z6)] (S_journal_Change.mk ((lget z1 z0).Path) ((lget z1 z0).Gone) (1 : Int) ((lget z1 z0).Data)) rfl z9 y8 y0 u3 rfl (by kernel_rfl) (by kernel_rfl) Tryz.sizeOf3 rfl rfl rfl (r_journal_Change_mk z7 (by decide : inR .i64 (1 : Int)) z8 rfl) ?_)
  intro r7 y6 v5
  obtain ⟨v6, y9⟩ : ∃ y, y = (lset z1 z0 (S_journal_Change.mk ((lget z1 z0).Path) ((lget z1 z0).Gone) (1 : Int) ((lget z1 z0).Data))) := ⟨_, rfl⟩
  replace hp := hp v6 y9
  rw [← y9] at v5
  refine nil_ (blk_normal (then_normal (t8 _ _ _ _ (reg_ ?_))))
  obtain ⟨v7, hp⟩ := hp
  refine pw (.int .i64 (z0 + (1 : Int))) (x_add2 (k := .i64) (a := z0) (b := (1 : Int)) (z0 + (1 : Int)) (by kernel_rfl) (by kernel_rfl) (wrap_inR v7)) ?_
  refine pv (.int .i64 (z0 + (1 : Int))) ?_
  refine nil_ ?_
  have s0 := Evo.thenW t0 (Step.evo y6) z9.2.2
  have v8 := Old.step u1 y6
  have u4 := Sub.trans v2 (Step.up y6)
  refine then_normal (t7 _ _ _ ⟨_, [(9, (.int .i64 (z0 + (1 : Int))))], hp.2, fit_mk (AgB.mix _ _ _) (by kernel_rfl) (vs_cons (by kernel_rfl) vs_nil), ?_⟩)
  exact ⟨y3, v6, (z0 + (1 : Int)), rfl, rfl, s0, v8, u4, v5, v7, hp.1⟩
 ·
  replace hp := hp.2 v3
  refine wp_exit ?_
  refine then_exit (then_exit (blk_exit (then_normal (s4 _ _ _ _ (sr (fun _ s1 => pv (.slice z4 z2.length z3) ?_))))))
  refine pv (.slice z4 z2.length z3) ?_
  refine nt s1 (wp_ret ?_)
  refine end_ret hQ (.slice z4 z2.length z3) (by kernel_rfl) ?_
  exact ⟨z1, hp, t0, z4, z3, (by (rw [show z2.length = z1.length from z9.1]); first | done | rfl), (OS.out z9 v2 u5)⟩
def slices_Clone_bool_bool_p (s : (List Bool)) (Q : (List Bool) → Prop) : Prop :=
 ((s.length ≤ 9223372036854775807) → ((s.length * 1 ≤ 140737488355328) ∧ Q s))
set_option maxRecDepth 20000 in
set_option maxHeartbeats 4000000 in
theorem slices_Clone_bool_bool_w {X : List Nat} {w : World} {s : (List Bool)} {z0 : Option Addr} {z1 : Nat} {Q : (List Bool) → Prop} (y5 : Old X w) (z2 : Sq rBool X w z0 z1 s) (hp : slices_Clone_bool_bool_p s Q) :
  Calls Tryz.prog 34 #[(.slice z0 s.length z1)] w (Ret fun v w' => ∃ (z8 : (List Bool)), Q z8 ∧ Evo [] w w' ∧ ∃ (y2 : Option Addr) (y6 : Nat), v = .slice y2 z8.length y6 ∧ OS rBool [] w.heap.size (blkL y2 ++ X) w' 4 y2 z8.length y6 z8) := by
 have hXo := y5
 have E0 : Evo [] w w := RB.refl _ _ _
 have hS : Sub X X := Sub.refl _
 unfold slices_Clone_bool_bool_p at hp
 refine enter_ Tryz.func34 rfl 8 [(0, (.slice z0 s.length z1))] (by kernel_rfl) (fun Qe hQ => ?_)
 replace hp := hp (Sq.len z2)
 refine sr (fun _ v1 => pv (.slice none 0 0) ?_)
 refine nt v1 (seq_ (fun _ v2 => sr (fun _ y7 => pv (.slice z0 s.length z1) ?_)))
 rcases z0 with _ | ad
 ·
  obtain rfl : s = [] := z2.2.elim (fun h => h.1) (fun ⟨b, o, xs, h, _⟩ => by cases h)
  replace hp := hp.2
  refine pv (.bool true) ?_
  refine nt y7 ?_
  refine cond_t (by kernel_rfl) ?_
  refine sr (fun _ v3 => pv (.slice none 0 0) ?_)
  refine nt v3 (wp_ret (then_ret ?_))
  refine end_ret hQ (.slice none 0 0) (by kernel_rfl) ?_
  exact ⟨([] : List Bool), hp, E0, none, 0, rfl, (OS.nil _ _ _ _)⟩
 ·
  refine pv (.bool false) ?_
  refine nt y7 ?_
  refine cond_f (by kernel_rfl) ?_
  refine wp_skip (then_normal (v2 _ _ _ _ (sr (fun _ v4 => ?_))))
  refine sq (o_rowX (R := rBool) [] ([] : List Bool) 4 0 (X := X) (B := w.heap.size) E0.size rfl (by kernel_rfl) Flat.nil rfl (by decide) ?_)
  intro u1 v6 y8 z3 z9 v7
  refine pv (.slice (some ad) s.length z1) ?_
  obtain ⟨y9, hp⟩ := hp
  have y3 := Sq.step z2 z3
  have y0 := Evo.then0 E0 (Step.evo z3)
  refine sq (o_appX (R := rBool) (X := y8) (B := w.heap.size) (L := ([] : List Bool)) (M := s) rfl elT43 rfl y0.size z9 (Sq.src y3) rfl (by kernel_rfl) (by kernel_rfl) (by simpa using y9) ?_)
  intro z4 z5 z6 v8 v9 y1 z7 v5
  rw [List.nil_append] at z7
  refine pv (.slice z4 z5 z6) ?_
  refine nt v4 (wp_ret ?_)
  have y4 := Sub.trans (Sub.trans hS (Step.up z3)) (Step.up y1)
  have v0 := Evo.thenW y0 (Step.evo y1) z9.2.2
  refine end_ret hQ (.slice z4 z5 z6) (by kernel_rfl) ?_
  exact ⟨s, hp, v0, z4, z6, (by (rw [show z5 = s.length from z7.1]); first | done | rfl), (OS.give z7 y4)⟩
def simfs_clash_p (l : (List (ByteArray × S_simfs_file))) (p : ByteArray) (but : ByteArray) (Q : Bool → Prop) : Prop :=
 ((p.size ≤ maxLen) → ((but.size ≤ maxLen) → (∃ (z6 : (List (ByteArray × S_simfs_file)) → Prop) (z9 : (List (ByteArray × S_simfs_file)) → Nat), (z6 l) ∧ (∀ (z2 : (List (ByteArray × S_simfs_file))), (z6 z2) → ((z2 = [] → Q false) ∧ (∀ (z4 : List (ByteArray × S_simfs_file)) (z0 : ByteArray) (z1 : S_simfs_file) (z5 : List (ByteArray × S_simfs_file)), z2 = z4 ++ (z0, z1) :: z5 → ((z0.size ≤ maxLen) → ((inR .i64 z1.mode) → ((inR .i64 z1.time) → ((inR .i64 z1.inode) → ((z1.b.length ≤ 9223372036854775807) → (∃ z7 : (List (ByteArray × S_simfs_file)) → Bool → Prop, (∀ (z3 : (List (ByteArray × S_simfs_file))) (z8 : Bool), z7 z3 z8 → (((z8 = true) → Q true) ∧ ((z8 = false) → ((z6 z3) ∧ z9 z3 < z9 z2)))) ∧ ((((z0 : ByteArray) = but) → (z7 (z4 ++ z5) false)) ∧ ((¬ ((z0 : ByteArray) = but)) → (path_Clash_p p z0 (fun (y0 : Bool) => (z7 (z4 ++ z5) y0)))))))))))))))))
set_option maxRecDepth 20000 in
set_option maxHeartbeats 4000000 in
theorem simfs_clash_w {X : List Nat} {w : World} {l : (List (ByteArray × S_simfs_file))} {p : ByteArray} {but : ByteArray} {z7 : Nat} {Q : Bool → Prop} (r7 : Old X w) (r8 : RM r_simfs_file true X w z7 l) (s5 : p.size ≤ maxLen) (t3 : but.size ≤ maxLen) (hp : simfs_clash_p l p but Q) :
  Calls Tryz.prog 62 #[(.map (some z7)), (.string p), (.string but)] w (Ret fun v w' => ∃ (r9 : Bool), Q r9 ∧ Evo [] w w' ∧ v = (.bool r9)) := by
 have hXo := r7
 have E0 : Evo [] w w := RB.refl _ _ _
 have hS : Sub X X := Sub.refl _
 unfold simfs_clash_p at hp
 refine enter_ Tryz.func62 rfl 22 [(0, (.map (some z7))), (1, (.string p)), (2, (.string but))] (by kernel_rfl) (fun Qe hQ => ?_)
 replace hp := hp s5 t3
 refine sr (fun _ q5 => pv (.bool false) ?_)
 refine nt q5 (seq_ (fun _ q6 => sr (fun _ q7 => pv (.map (some z7)) ?_)))
 refine sq (o_rangeR (X := X) (B := w.heap.size) E0.size rfl r8 Tryz.underlying59 (by kernel_rfl) ?_)
 intro s6 k4 q0 v5 q1 k3
 refine nt q7 (wp_block ?_)
 have v6 := Old.step hXo v5
 have s7 := Evo.then0 E0 (Step.evo v5)
 have t4 := Sub.trans hS (Step.up v5)
 obtain ⟨s8, v7, t5, hp⟩ := hp
 refine loop_ 4193472 (fun kq lq z8 => ∃ (z4 : List Nat) (z2 : (List (ByteArray × S_simfs_file))), (lq = []) ∧ (kq = v7 z2) ∧ (Evo [] w z8) ∧ (Old z4 z8) ∧ (Sub X z4) ∧ (ITR r_simfs_file true z4 z8 ([]) w.heap.size s6 z7 l z2 none) ∧ (s8 z2)) (v7 l) [] vs_nil ⟨q0, l, rfl, rfl, s7, v6, t4, (ITR.drop q1), t5⟩ ?_
 rintro _ _ z8 q8 ⟨z4, z2, rfl, rfl, v8, v9, t6, u1, t7⟩ q2 t8
 replace hp := hp z2 t7
 refine sr (fun _ u2 => ?_)
 refine sq (o_nextR rfl u1 (by kernel_rfl) (fun z9 => ?_) (fun y0 z0 z3 y1 q3 q9 z9 y8 y9 t9 u3 => ?_))
 ·
  replace hp := hp.1 z9
  refine pv (.bool false) ?_
  refine nt u2 (seq_ (fun _ k0 => ?_))
  refine cond_f (by kernel_rfl) ?_
  refine wp_exit ?_
  refine then_exit (then_exit (blk_exit (then_normal (q6 _ _ _ _ (sr (fun _ s9 => pv (.bool false) ?_))))))
  refine nt s9 (wp_ret ?_)
  refine end_ret hQ (.bool false) (by kernel_rfl) ?_
  exact ⟨false, hp, v8, rfl⟩
 ·
  replace hp := hp.2 y0 z0 z3 y1 z9
  replace hp := hp u3
  obtain ⟨u4, u5, rfl, y5, y6, y2, u6⟩ := r_simfs_file_open t9
  replace hp := hp y5 y6 y2 (Sl.len u6)
  refine pv (.bool true) ?_
  refine nt u2 (seq_ (fun _ r0 => ?_))
  refine cond_t (by kernel_rfl) ?_
  refine wp_skip (then_normal (r0 _ _ _ _ (wp_block (sr (fun _ r1 => pw (.tuple #[(.string z0), (.agg #[(.int .i64 z3.mode), (.int .i64 z3.time), (.int .i64 z3.inode), (.slice u4 z3.b.length u5)])]) (x_entryR y9 (by kernel_rfl)) ?_)))))
  refine pv (.string z0) ?_
  refine pv (.string z0) ?_
  refine nt r1 (seq_ (fun _ r2 => ?_))
  have u7 := Evo.thenW v8 (Step.evo y8) u1.wr
  have y7 := Old.step v9 y8
  have v3 := Sub.trans t6 (Step.up y8)
  obtain ⟨r3, s0, hp⟩ := hp
  refine ground_ ?_
  refine join_ 4177920 (fun lq y3 => ∃ (z5 : List Nat) (z1 : (List (ByteArray × S_simfs_file))) (z6 : Bool), (lq = [(21, (.bool z6))]) ∧ (Evo [] w y3) ∧ (Old z5 y3) ∧ (Sub X z5) ∧ (ITR r_simfs_file true z5 y3 ([]) w.heap.size s6 z7 l z1 none) ∧ (r3 z1 z6)) (fun q4 v4 => ?_) ?_
  ·
   refine reg_ (pv (.string z0) ?_)
   refine pv (.string but) ?_
   by_cases y4 : (z0 : ByteArray) = but
   ·
    replace hp := hp.1 y4
    refine pw (.bool false) (x_ndf (p := (z0 : ByteArray) = but) (x_strne (by kernel_rfl) (by kernel_rfl)) y4) ?_
    refine pv (.bool false) ?_
    refine no ?_
    refine no ?_
    refine no ?_
    refine pv (.bool false) ?_
    refine nil_ (then_normal (v4 _ _ _ ⟨[(21, (.bool false))], fit_mk (fun _ _ => rfl) (by kernel_rfl) (vs_cons (by kernel_rfl) vs_nil), ?_⟩))
    exact ⟨z4, (y0 ++ y1), false, rfl, u7, y7, v3, (ITR.drop y9), hp⟩
   ·
    replace hp := hp.2 y4
    refine pw (.bool true) (x_ndt (p := (z0 : ByteArray) = but) (x_strne (by kernel_rfl) (by kernel_rfl)) y4) ?_
    refine pv (.bool true) ?_
    refine pv (.string p) ?_
    refine pv (.string z0) ?_
    refine sq (o_call 49 #[(.string p), (.string z0)] (by kernel_rfl) (x_call Tryz.call49 (by kernel_rfl)) (path_Clash_w (X := []) (a := p) (b := z0) (Old.nil _) s5 u3 hp) ?_)
    rintro _ k1 ⟨v0, hp, u9, rfl⟩
    have v1 := Step.of0 z4 u9
    refine pv (.bool v0) ?_
    refine nil_ ?_
    have r4 := Evo.then0 u7 u9
    have t0 := Old.step y7 v1
    have s1 := Sub.trans v3 (Step.up v1)
    have r5 := ITR.step0 y9 v1
    refine then_normal (v4 _ _ _ ⟨[(21, (.bool v0))], fit_mk (fun _ _ => rfl) (by kernel_rfl) (vs_cons (by kernel_rfl) vs_nil), ?_⟩)
    exact ⟨z4, (y0 ++ y1), v0, rfl, r4, t0, s1, (ITR.drop r5), hp⟩
  ·
   rintro _ y3 k2 ⟨z5, z1, z6, rfl, t1, t2, s2, s3, s4⟩
   replace hp := s0 z1 z6 s4
   refine then_normal (r2 _ _ _ _ ?_)
   refine cond_b z6 (by kernel_rfl) (fun v2 => ?_) (fun v2 => ?_)
   ·
    replace hp := hp.1 v2
    refine sr (fun _ r6 => pv (.bool true) ?_)
    refine nt r6 (wp_ret (blk_ret (then_ret (blk_ret (then_ret ?_)))))
    refine end_ret hQ (.bool true) (by kernel_rfl) ?_
    exact ⟨true, hp, t1, rfl⟩
   ·
    replace hp := hp.2 v2
    refine wp_skip (blk_normal (then_normal (t8 _ _ _ ⟨_, [], hp.2, fit_mk (AgB.nest (AgB.look (AgB.mix _ _ _) (by kernel_rfl)) (by kernel_rfl) (by kernel_rfl)) (by kernel_rfl) vs_nil, ?_⟩)))
    exact ⟨z5, z1, rfl, rfl, t1, t2, s2, (ITR.drop s3), hp.1⟩
def simfs_apply_p (l : (List (ByteArray × S_simfs_file))) (o : S_simfs_op) (Q : (List (ByteArray × S_simfs_file)) → Bool → Prop) : Prop :=
 ((inR .i64 o.kind) → ((o.path.size ≤ maxLen) → ((o.to_.size ≤ maxLen) → ((inR .i64 o.file.mode) → ((inR .i64 o.file.time) → ((inR .i64 o.file.inode) → ((o.file.b.length ≤ 9223372036854775807) → ((inR .i64 ((mgetD l o.path).mode)) → ((inR .i64 ((mgetD l o.path).time)) → ((inR .i64 ((mgetD l o.path).inode)) → ((((mgetD l o.path).b).length ≤ 9223372036854775807) → (∃ z0 : (List (ByteArray × S_simfs_file)) → Prop, (∀ (z4 : (List (ByteArray × S_simfs_file))), z0 z4 → Q z4 (mhas l o.path)) ∧ (∃ z1 : (List (ByteArray × S_simfs_file)) → Prop, (∀ (z5 : (List (ByteArray × S_simfs_file))), z1 z5 → (z0 (mdel z5 o.path))) ∧ (((o.kind = (1 : Int)) → (simfs_clash_p l o.path (ByteArray.mk #[]) (fun (z6 : Bool) => (((z6 = true) → Q l false) ∧ ((z6 = false) → Q (mset l o.path o.file) true))))) ∧ ((¬ (o.kind = (1 : Int))) → (((o.kind = (2 : Int)) → (∃ z2 : Bool → Prop, (∀ (z3 : Bool), z2 z3 → (((z3 = true) → Q l false) ∧ ((z3 = false) → (z1 (mset l o.to_ (mgetD l o.path)))))) ∧ ((((mhas l o.path) = true) → (simfs_clash_p l o.to_ o.path (fun (z7 : Bool) => (z2 z7)))) ∧ ((¬ ((mhas l o.path) = true)) → (z2 true))))) ∧ ((¬ (o.kind = (2 : Int))) → (((o.kind = (3 : Int)) → (z1 l)) ∧ ((¬ (o.kind = (3 : Int))) → (z0 l))))))))))))))))))))
set_option maxRecDepth 20000 in
set_option maxHeartbeats 4000000 in
theorem simfs_apply_w {X : List Nat} {w : World} {l : (List (ByteArray × S_simfs_file))} {o : S_simfs_op} {z2 : Nat} {z1 : Option Addr} {z0 : Nat} {Q : (List (ByteArray × S_simfs_file)) → Bool → Prop} (n9 : Old X w) (r6 : OM r_simfs_file true ([z2]) w.heap.size X w z2 l) (r5 : inR .i64 o.kind) (y4 : o.path.size ≤ maxLen) (u1 : o.to_.size ≤ maxLen) (y7 : inR .i64 o.file.mode) (y8 : inR .i64 o.file.time) (z9 : inR .i64 o.file.inode) (v4 : Sl (rInt .u8) X w z1 z0 o.file.b) (hp : simfs_apply_p l o Q) :
  Calls Tryz.prog 35 #[(.map (some z2)), (.agg #[(.int .i64 o.kind), (.string o.path), (.string o.to_), (.int .i64 o.file.mode), (.int .i64 o.file.time), (.int .i64 o.file.inode), (.slice z1 o.file.b.length z0)])] w (Ret fun v w' => ∃ (o0 : (List (ByteArray × S_simfs_file))) (o1 : Bool), Q o0 o1 ∧ ∃ (X' : List Nat), Step X w ([z2]) X' w' ∧ v = (.bool o1) ∧ OM r_simfs_file true ([z2]) w.heap.size X' w' z2 o0) := by
 have hXo := n9
 have E0 : Evo [z2] w w := RB.refl _ _ _
 have hS : Sub X X := Sub.refl _
 have hN : News X w X w := News.refl _ _
 have s7 : Sub [z2] X := OM.mem r6
 unfold simfs_apply_p at hp
 refine enter_ Tryz.func35 rfl 49 [(0, (.map (some z2))), (1, (.agg #[(.int .i64 o.kind), (.string o.path), (.string o.to_), (.int .i64 o.file.mode), (.int .i64 o.file.time), (.int .i64 o.file.inode), (.slice z1 o.file.b.length z0)]))] (by kernel_rfl) (fun Qe hQ => ?_)
 replace hp := hp r5 y4 u1 y7 y8 z9 (Sl.len v4)
 refine sr (fun _ o2 => ?_)
 refine sq (o_newX [(.int .i64 o.kind), (.string o.path), (.string o.to_), (.int .i64 o.file.mode), (.int .i64 o.file.time), (.int .i64 o.file.inode), (.slice z1 o.file.b.length z0)] 76 (X := X) (B := w.heap.size) E0.size rfl (by kernel_rfl) ?_)
 intro y0 o3 o4 u9 r7 o5
 have o6 := o5 _ (OM.old r6)
 refine pv (.bool false) ?_
 refine nt o2 (sr (fun _ o7 => pv (.map (some z2)) ?_))
 refine pv (.pointer (some ⟨y0, 1, none⟩)) ?_
 refine pw (.string o.path) (x_load1 (by kernel_rfl) Tryz.isAgg9 (r7.2.1.cell' 1 rfl)) ?_
 have t8 := OM.step0 r6 u9
 obtain ⟨c9, g7, g8⟩ := MapAt.look t8.2.1 o.path [(.int .i64 (0 : Int)), (.int .i64 (0 : Int)), (.int .i64 (0 : Int)), (.slice none 0 0)] (fun _ _ => (r_simfs_file_mk (by decide : inR .i64 (0 : Int)) (by decide : inR .i64 (0 : Int)) (by decide : inR .i64 (0 : Int)) (Sl.nil) rfl))
 obtain ⟨z3, z4, rfl, u2, u3, v5, s8⟩ := r_simfs_file_open g7
 replace hp := hp u2 u3 v5 (Sl.len s8)
 refine pw (.tuple #[(.agg #[(.int .i64 ((mgetD l o.path).mode)), (.int .i64 ((mgetD l o.path).time)), (.int .i64 ((mgetD l o.path).inode)), (.slice z3 (((mgetD l o.path).b).length) z4)]), (.bool (mhas l o.path))]) (x_lookup2 (w0 := o3) (k := o.path) (v := (.agg #[(.int .i64 ((mgetD l o.path).mode)), (.int .i64 ((mgetD l o.path).time)), (.int .i64 ((mgetD l o.path).inode)), (.slice z3 (((mgetD l o.path).b).length) z4)])) (z := (.agg #[(.int .i64 (0 : Int)), (.int .i64 (0 : Int)), (.int .i64 (0 : Int)), (.slice none 0 0)])) (b := mhas l o.path) (s := 4) (bts := 48) (by kernel_rfl) (by kernel_rfl) g8 rfl Tryz.underlying59 Tryz.underlying9 (by kernel_rfl)) ?_
 refine pv (.tuple #[(.agg #[(.int .i64 ((mgetD l o.path).mode)), (.int .i64 ((mgetD l o.path).time)), (.int .i64 ((mgetD l o.path).inode)), (.slice z3 (((mgetD l o.path).b).length) z4)]), (.bool (mhas l o.path))]) ?_
 refine pv (.agg #[(.int .i64 ((mgetD l o.path).mode)), (.int .i64 ((mgetD l o.path).time)), (.int .i64 ((mgetD l o.path).inode)), (.slice z3 (((mgetD l o.path).b).length) z4)]) ?_
 refine pv (.bool (mhas l o.path)) ?_
 have g3 := Evo.then0 E0 (Step.evo u9)
 refine sq (o_newX [(.int .i64 (0 : Int)), (.int .i64 (0 : Int)), (.int .i64 (0 : Int)), (.slice none 0 0)] 74 (X := o4) (B := w.heap.size) g3.size rfl (by kernel_rfl) ?_)
 intro o8 a9 v6 v7 g4 g5
 have o9 := g5 _ (OM.old t8)
 have c0 := g5 _ (OB.old r7)
 have g9 := OM.step0 t8 v7
 have c1 := OB.step0 r7 v7
 have c2 := Evo.then0 g3 (Step.evo v7)
 refine sq (o_stB (o := 0) (v := (.agg #[(.int .i64 ((mgetD l o.path).mode)), (.int .i64 ((mgetD l o.path).time)), (.int .i64 ((mgetD l o.path).inode)), (.slice z3 (((mgetD l o.path).b).length) z4)])) [(.int .i64 ((mgetD l o.path).mode)), (.int .i64 ((mgetD l o.path).time)), (.int .i64 ((mgetD l o.path).inode)), (.slice z3 (((mgetD l o.path).b).length) z4)] rfl g4 (by kernel_rfl) (by kernel_rfl) Tryz.sizeOf74 rfl rfl rfl ?_)
 intro e0 v8 g6
 refine pv (.bool (mhas l o.path)) ?_
 refine nt o7 (seq_ (fun _ c3 => sr (fun _ c4 => pv (.pointer (some ⟨y0, 0, none⟩)) ?_)))
 have v9 := OB.step c1 v8 c0
 refine pw (.int .i64 o.kind) (x_load1 (by kernel_rfl) Tryz.isAgg3 (v9.2.1.cell' 0 rfl)) ?_
 refine nt c4 ?_
 have z5 := Sl.step (Sl.step (Sl.step v4 u9) v7) v8
 have z7 := OM.step g9 v8 o9
 have v0 := Old.step (Old.step (Old.step hXo u9) v7) v8
 have v1 := Evo.thenW c2 (Step.evo v8) (Wr.of g4.2.2)
 have y5 := Sub.trans (Sub.trans (Sub.trans hS (Step.up u9)) (Step.up v7)) (Step.up v8)
 have y6 := News.step (News.step (News.step hN u9) v7) v8
 have t7 := Sl.step (Sl.step s8 v7) v8
 obtain ⟨d0, k0, hp⟩ := hp
 refine ground_ ?_
 refine join_ 281474976645136 (fun lq u4 => ∃ (v2 : List Nat) (u5 : (List (ByteArray × S_simfs_file))), (lq = []) ∧ (Evo [z2] w u4) ∧ (Old v2 u4) ∧ (Sub X v2) ∧ (News X w v2 u4) ∧ (OM r_simfs_file true ([z2]) w.heap.size v2 u4 z2 u5) ∧ (d0 u5)) (fun c6 s9 => ?_) ?_
 ·
  refine wp_block (seq_ (fun _ d1 => ?_))
  obtain ⟨d2, k1, hp⟩ := hp
  refine ground_ ?_
  refine join_ 35184372023312 (fun lq y9 => ∃ (y1 : List Nat) (u6 : (List (ByteArray × S_simfs_file))), (lq = []) ∧ (Evo [z2] w y9) ∧ (Old y1 y9) ∧ (Sub X y1) ∧ (News X w y1 y9) ∧ (Sl (rInt .u8) y1 y9 z1 z0 o.file.b) ∧ (OB ([]) w.heap.size y1 y9 y0 [(.int .i64 o.kind), (.string o.path), (.string o.to_), (.int .i64 o.file.mode), (.int .i64 o.file.time), (.int .i64 o.file.inode), (.slice z1 o.file.b.length z0)] 76) ∧ (OM r_simfs_file true ([z2]) w.heap.size y1 y9 z2 u6) ∧ (d2 u6)) (fun c7 r0 => ?_) ?_
  ·
   refine wp_block (seq_ (fun _ d3 => wp_block (seq_ (fun _ d4 => wp_block (seq_ (fun _ d5 => seq_ (fun _ d6 => sr (fun _ d7 => pv (.bool (decide (o.kind = (1 : Int)))) ?_))))))))
   refine pv (.bool (decide (o.kind = (1 : Int)))) ?_
   refine nt d7 ?_
   refine cond_d (o.kind = (1 : Int)) (by kernel_rfl) (fun t9 => ?_) (fun t9 => ?_)
   ·
    replace hp := hp.1 t9
    refine wp_exit ?_
    refine then_exit (then_exit (blk_exit (then_normal (d4 _ _ _ _ (seq_ (fun _ a0 => seq_ (fun _ d8 => sr (fun _ d9 => pv (.map (some z2)) ?_))))))))
    refine pv (.pointer (some ⟨y0, 1, none⟩)) ?_
    refine pw (.string o.path) (x_load1 (by kernel_rfl) Tryz.isAgg9 (v9.2.1.cell' 1 rfl)) ?_
    refine sq (o_call 62 #[(.map (some z2)), (.string o.path), (.string (ByteArray.mk #[]))] rfl (x_call Tryz.call62 (by kernel_rfl)) (simfs_clash_w (X := []) (l := l) (p := o.path) (but := (ByteArray.mk #[])) (Old.nil _) (OM.rm z7) y4 (by decide : (ByteArray.mk #[]).size ≤ maxLen) hp) ?_)
    rintro _ a1 ⟨l0, hp, s0, rfl⟩
    have y2 := Step.of0 v6 s0
    refine nt d9 ?_
    refine cond_b l0 (by kernel_rfl) (fun s1 => ?_) (fun s1 => ?_)
    ·
     replace hp := hp.1 s1
     refine sr (fun _ l1 => pv (.bool false) ?_)
     refine nt l1 (wp_ret (then_ret (then_ret (blk_ret (then_ret (blk_ret (then_ret (then_ret (blk_ret (then_ret (then_ret ?_)))))))))))
     have k2 := OM.step0 z7 y2
     have l2 := Evo.then0 v1 s0
     have k3 := Sub.trans y5 (Step.up y2)
     have k4 := News.step y6 y2
     refine end_ret hQ (.bool false) (by kernel_rfl) ?_
     exact ⟨l, false, hp, v6, step_of l2 s7 k3 k4, rfl, k2⟩
    ·
     replace hp := hp.2 s1
     refine wp_skip (then_normal (d8 _ _ _ _ (sr (fun _ l3 => pv (.map (some z2)) ?_))))
     refine pv (.pointer (some ⟨y0, 1, none⟩)) ?_
     have r8 := OB.step0 v9 y2
     refine pw (.string o.path) (x_load1 (by kernel_rfl) Tryz.isAgg9 (r8.2.1.cell' 1 rfl)) ?_
     refine pv (.pointer (some ⟨y0, 3, none⟩)) ?_
     refine pw (.agg #[(.int .i64 o.file.mode), (.int .i64 o.file.time), (.int .i64 o.file.inode), (.slice z1 o.file.b.length z0)]) (x_loadN [(.int .i64 o.file.mode), (.int .i64 o.file.time), (.int .i64 o.file.inode), (.slice z1 o.file.b.length z0)] (by kernel_rfl) Tryz.isAgg74 Tryz.sizeOf74 (r8.2.1.cells' 3 rfl)) ?_
     have t0 := Sl.step z5 y2
     have r1 := OM.step0 z7 y2
     refine sq (o_mapset (cs := [(.int .i64 o.file.mode), (.int .i64 o.file.time), (.int .i64 o.file.inode), (.slice z1 o.file.b.length z0)]) (d := o.file) rfl r1 Tryz.underlying59 Tryz.underlying9 (by kernel_rfl) (by kernel_rfl) (by kernel_rfl) (r_simfs_file_mk y7 y8 z9 t0 rfl) y4 ?_)
     intro a2 s2 l4
     refine nt l3 (sr (fun _ l5 => pv (.bool true) ?_))
     refine nt l5 (wp_ret (then_ret (blk_ret (then_ret (blk_ret (then_ret (then_ret (blk_ret (then_ret (then_ret ?_))))))))))
     have l6 := Evo.thenW (Evo.then0 v1 s0) (Step.evo s2) r1.2.2
     have k5 := Sub.trans (Sub.trans y5 (Step.up y2)) (Step.up s2)
     have k6 := News.step (News.step y6 y2) s2
     refine end_ret hQ (.bool true) (by kernel_rfl) ?_
     exact ⟨(mset l o.path o.file), true, hp, v6, step_of l6 s7 k5 k6, rfl, l4⟩
   ·
    replace hp := hp.2 t9
    refine wp_skip (then_normal (d6 _ _ _ _ (seq_ (fun _ l7 => sr (fun _ l8 => pv (.bool (decide (o.kind = (2 : Int)))) ?_)))))
    refine pv (.bool (decide (o.kind = (2 : Int)))) ?_
    refine nt l8 ?_
    refine cond_d (o.kind = (2 : Int)) (by kernel_rfl) (fun s3 => ?_) (fun s3 => ?_)
    ·
     replace hp := hp.1 s3
     refine wp_exit ?_
     refine then_exit (then_exit ?_)
     refine blk_exit_ne rfl ?_
     refine then_exit (blk_exit (then_normal (d3 _ _ _ _ (seq_ (fun _ l9 => seq_ (fun _ m0 => ?_))))))
     obtain ⟨m1, k7, hp⟩ := hp
     refine ground_ ?_
     refine join_ 2196875771904 (fun lq z8 => ∃ (z6 : List Nat) (u7 : Bool), (lq = [(40, (.bool u7))]) ∧ (Evo [z2] w z8) ∧ (Old z6 z8) ∧ (Sub X z6) ∧ (News X w z6 z8) ∧ (OM r_simfs_file true ([z2]) w.heap.size z6 z8 z2 l) ∧ (Sl (rInt .u8) z6 z8 z1 z0 o.file.b) ∧ (OB ([]) w.heap.size z6 z8 y0 [(.int .i64 o.kind), (.string o.path), (.string o.to_), (.int .i64 o.file.mode), (.int .i64 o.file.time), (.int .i64 o.file.inode), (.slice z1 o.file.b.length z0)] 76) ∧ (Sl (rInt .u8) z6 z8 z3 z4 ((mgetD l o.path).b)) ∧ (OB ([]) w.heap.size z6 z8 o8 [(.int .i64 ((mgetD l o.path).mode)), (.int .i64 ((mgetD l o.path).time)), (.int .i64 ((mgetD l o.path).inode)), (.slice z3 (((mgetD l o.path).b).length) z4)] 74) ∧ (m1 u7)) (fun c8 r2 => ?_) ?_
     ·
      refine reg_ ?_
      by_cases t1 : (mhas l o.path) = true
      ·
       replace hp := hp.1 t1
       refine pw (.bool true) (x_bt (by kernel_rfl) t1) ?_
       refine pv (.bool false) ?_
       refine pv (.bool false) ?_
       refine pv (.map (some z2)) ?_
       refine pv (.pointer (some ⟨y0, 2, none⟩)) ?_
       refine pw (.string o.to_) (x_load1 (by kernel_rfl) Tryz.isAgg9 (v9.2.1.cell' 2 rfl)) ?_
       refine pv (.pointer (some ⟨y0, 1, none⟩)) ?_
       refine pw (.string o.path) (x_load1 (by kernel_rfl) Tryz.isAgg9 (v9.2.1.cell' 1 rfl)) ?_
       refine sq (o_call 62 #[(.map (some z2)), (.string o.to_), (.string o.path)] (by kernel_rfl) (x_call Tryz.call62 (by kernel_rfl)) (simfs_clash_w (X := []) (l := l) (p := o.to_) (but := o.path) (Old.nil _) (OM.rm z7) u1 y4 hp) ?_)
       rintro _ a3 ⟨s4, hp, r9, rfl⟩
       have y3 := Step.of0 v6 r9
       refine pv (.bool s4) ?_
       refine nil_ ?_
       have m2 := Evo.then0 v1 r9
       have q0 := Old.step v0 y3
       have k8 := Sub.trans y5 (Step.up y3)
       have k9 := News.step y6 y3
       have j0 := OM.step0 z7 y3
       have t2 := Sl.step z5 y3
       have m3 := OB.step0 v9 y3
       have q1 := Sl.step t7 y3
       have m4 := OB.step0 g6 y3
       refine then_normal (r2 _ _ _ ⟨[(40, (.bool s4))], fit_mk (fun _ _ => rfl) (by kernel_rfl) (vs_cons (by kernel_rfl) vs_nil), ?_⟩)
       exact ⟨v6, s4, rfl, m2, q0, k8, k9, j0, t2, m3, q1, m4, hp⟩
      ·
       replace hp := hp.2 t1
       refine pw (.bool false) (x_bf (by kernel_rfl) t1) ?_
       refine pv (.bool true) ?_
       refine pv (.bool true) ?_
       refine no ?_
       refine no ?_
       refine no ?_
       refine no ?_
       refine no ?_
       refine no ?_
       refine pv (.bool true) ?_
       refine nil_ (then_normal (r2 _ _ _ ⟨[(40, (.bool true))], fit_mk (fun _ _ => rfl) (by kernel_rfl) (vs_cons (by kernel_rfl) vs_nil), ?_⟩))
       exact ⟨v6, true, rfl, v1, v0, y5, y6, z7, z5, v9, t7, g6, hp⟩
     ·
      rintro _ z8 a4 ⟨z6, u7, rfl, q2, q3, r3, r4, t3, t4, q4, q5, m5, j1⟩
      replace hp := k7 u7 j1
      refine then_normal (m0 _ _ _ _ ?_)
      refine cond_b u7 (by kernel_rfl) (fun s5 => ?_) (fun s5 => ?_)
      ·
       replace hp := hp.1 s5
       refine sr (fun _ m6 => pv (.bool false) ?_)
       refine nt m6 (wp_ret (then_ret (blk_ret (then_ret (then_ret (blk_ret (then_ret (then_ret ?_))))))))
       refine end_ret hQ (.bool false) (by kernel_rfl) ?_
       exact ⟨l, false, hp, z6, step_of q2 s7 r3 r4, rfl, t3⟩
      ·
       replace hp := hp.2 s5
       refine wp_skip (then_normal (l9 _ _ _ _ (reg_ (pv (.map (some z2)) ?_))))
       refine pv (.pointer (some ⟨y0, 2, none⟩)) ?_
       refine pw (.string o.to_) (x_load1 (by kernel_rfl) Tryz.isAgg9 (q4.2.1.cell' 2 rfl)) ?_
       refine pw (.agg #[(.int .i64 ((mgetD l o.path).mode)), (.int .i64 ((mgetD l o.path).time)), (.int .i64 ((mgetD l o.path).inode)), (.slice z3 (((mgetD l o.path).b).length) z4)]) (x_loadN [(.int .i64 ((mgetD l o.path).mode)), (.int .i64 ((mgetD l o.path).time)), (.int .i64 ((mgetD l o.path).inode)), (.slice z3 (((mgetD l o.path).b).length) z4)] (by kernel_rfl) Tryz.isAgg74 Tryz.sizeOf74 (m5.2.1.cells' 0 rfl)) ?_
       refine sq (o_mapset (cs := [(.int .i64 ((mgetD l o.path).mode)), (.int .i64 ((mgetD l o.path).time)), (.int .i64 ((mgetD l o.path).inode)), (.slice z3 (((mgetD l o.path).b).length) z4)]) (d := (mgetD l o.path)) rfl t3 Tryz.underlying59 Tryz.underlying9 (by kernel_rfl) (by kernel_rfl) (by kernel_rfl) (r_simfs_file_mk u2 u3 v5 q5 rfl) u1 ?_)
       intro a5 v3 m7
       refine nil_ (blk_normal ?_)
       have m8 := Evo.thenW q2 (Step.evo v3) t3.2.2
       have q6 := Old.step q3 v3
       have j2 := Sub.trans r3 (Step.up v3)
       have j3 := News.step r4 v3
       have t5 := Sl.step t4 v3
       have m9 := OB.step q4 v3 (Ap.symm o6)
       refine then_normal (r0 _ _ _ ⟨[], fit_mk (AgB.nest (AgB.look (fun _ _ => rfl) (by kernel_rfl)) (by kernel_rfl) (by kernel_rfl)) (by kernel_rfl) vs_nil, ?_⟩)
       exact ⟨z6, (mset l o.to_ (mgetD l o.path)), rfl, m8, q6, j2, j3, t5, m9, m7, hp⟩
    ·
     replace hp := hp.2 s3
     refine wp_skip (then_normal (l7 _ _ _ _ (sr (fun _ n0 => pv (.bool (decide (o.kind = (3 : Int)))) ?_))))
     refine pv (.bool (decide (o.kind = (3 : Int)))) ?_
     refine nt n0 ?_
     refine cond_d (o.kind = (3 : Int)) (by kernel_rfl) (fun s6 => ?_) (fun s6 => ?_)
     ·
      replace hp := hp.1 s6
      refine wp_exit ?_
      refine then_exit ?_
      refine blk_exit_ne rfl ?_
      refine then_exit ?_
      refine blk_exit_ne rfl ?_
      refine then_exit (blk_exit (then_normal (r0 _ _ _ ⟨[], fit_mk (fun _ _ => rfl) (by kernel_rfl) vs_nil, ?_⟩)))
      exact ⟨v6, l, rfl, v1, v0, y5, y6, z5, v9, z7, hp⟩
     ·
      replace hp := hp.2 s6
      refine wp_skip (then_normal (d5 _ _ _ _ ?_))
      refine wp_exit ?_
      refine blk_exit_ne rfl ?_
      refine then_exit ?_
      refine blk_exit_ne rfl ?_
      refine then_exit ?_
      refine blk_exit_ne rfl ?_
      refine then_exit (then_exit (blk_exit (then_normal (s9 _ _ _ ⟨[], fit_mk (AgB.look (fun _ _ => rfl) (by kernel_rfl)) (by kernel_rfl) vs_nil, ?_⟩))))
      exact ⟨v6, l, rfl, v1, v0, y5, y6, z7, hp⟩
  ·
   rintro _ y9 a6 ⟨y1, u6, rfl, n1, q7, j4, j5, j6, n2, q8, j7⟩
   replace hp := k1 u6 j7
   refine then_normal (d1 _ _ _ _ (sr (fun _ n3 => pv (.map (some z2)) ?_)))
   refine pv (.pointer (some ⟨y0, 1, none⟩)) ?_
   refine pw (.string o.path) (x_load1 (by kernel_rfl) Tryz.isAgg9 (n2.2.1.cell' 1 rfl)) ?_
   refine sq (o_mapdel (k := o.path) rfl q8 Tryz.underlying59 Tryz.underlying9 (by kernel_rfl) (by kernel_rfl) ?_)
   intro a7 t6 n4
   refine nt n3 ?_
   refine wp_exit ?_
   refine blk_exit ?_
   have n5 := Evo.thenW n1 (Step.evo t6) q8.2.2
   have q9 := Old.step q7 t6
   have j8 := Sub.trans j4 (Step.up t6)
   have j9 := News.step j5 t6
   refine then_normal (s9 _ _ _ ⟨[], fit_mk (AgB.nest (AgB.look (fun _ _ => rfl) (by kernel_rfl)) (by kernel_rfl) (by kernel_rfl)) (by kernel_rfl) vs_nil, ?_⟩)
   exact ⟨y1, (mdel u6 o.path), rfl, n5, q9, j8, j9, n4, hp⟩
 ·
  rintro _ u4 a8 ⟨v2, u5, rfl, n6, c5, g0, g1, n7, g2⟩
  replace hp := k0 u5 g2
  refine then_normal (c3 _ _ _ _ (sr (fun _ n8 => pv (.bool (mhas l o.path)) ?_)))
  refine pv (.bool (mhas l o.path)) ?_
  refine nt n8 (wp_ret ?_)
  refine end_ret hQ (.bool (mhas l o.path)) (by kernel_rfl) ?_
  exact ⟨u5, (mhas l o.path), hp, v2, step_of n6 s7 g0 g1, rfl, n7⟩
def maps_Clone_map_string_simfs_file_string_simfs_file_p (m : (List (ByteArray × S_simfs_file))) (Q : (List (ByteArray × S_simfs_file)) → (List (ByteArray × S_simfs_file)) → Prop) : Prop :=
 Q m m
set_option maxRecDepth 20000 in
set_option maxHeartbeats 4000000 in
theorem maps_Clone_map_string_simfs_file_string_simfs_file_w {X : List Nat} {w : World} {m : (List (ByteArray × S_simfs_file))} {z0 : Nat} {Q : (List (ByteArray × S_simfs_file)) → (List (ByteArray × S_simfs_file)) → Prop} (z8 : Old X w) (z2 : OM r_simfs_file true ([z0]) w.heap.size X w z0 m) (hp : maps_Clone_map_string_simfs_file_string_simfs_file_p m Q) :
  Calls Tryz.prog 36 #[(.map (some z0))] w (Ret fun v w' => ∃ (z9 : (List (ByteArray × S_simfs_file))) (y0 : (List (ByteArray × S_simfs_file))), Q z9 y0 ∧ ∃ (X' : List Nat) (z1 : Nat), Step X w ([z0]) X' w' ∧ v = (.map (some z1)) ∧ OM r_simfs_file true ([z0]) w.heap.size X' w' z0 z9 ∧ OM r_simfs_file true ([]) w.heap.size X' w' z1 y0 ∧ Ap ([z0]) ([z1])) := by
 have hXo := z8
 have E0 : Evo [z0] w w := RB.refl _ _ _
 have hS : Sub X X := Sub.refl _
 have hN : News X w X w := News.refl _ _
 have y1 : Sub [z0] X := OM.mem z2
 unfold maps_Clone_map_string_simfs_file_string_simfs_file_p at hp
 refine enter_ Tryz.func36 rfl 9 [(0, (.map (some z0)))] (by kernel_rfl) (fun Qe hQ => ?_)
 refine sr (fun _ y6 => pv (.map none) ?_)
 refine nt y6 (seq_ (fun _ y7 => sr (fun _ y8 => pv (.map (some z0)) ?_)))
 refine pw (.bool false) (x_mnil_eq (r := z0) Tryz.underlying59 (by kernel_rfl) (by kernel_rfl)) ?_
 refine nt y8 ?_
 refine cond_f (by kernel_rfl) ?_
 refine wp_skip (then_normal (y7 _ _ _ _ (sr (fun _ y9 => pv (.map (some z0)) ?_))))
 refine pv (.iface 59 (.map (some z0))) ?_
 refine sq (o_mapclone (X := X) (B := w.heap.size) (t := 59) E0.size rfl Tryz.func63 (by kernel_rfl) (by kernel_rfl) (by kernel_rfl) (show _ = some Extern.MapsClone.clone by kernel_rfl) z2 (by kernel_rfl) ?_)
 intro z4 v1 v0 z3 y2 y3
 have y4 := y3 _ (OM.old z2)
 refine pw (.map (some z4)) (x_assert_map (v := (.map (some z4))) Tryz.underlying59 (by kernel_rfl)) ?_
 refine pv (.map (some z4)) ?_
 refine nt y9 (wp_ret ?_)
 have z5 := OM.step0 z2 z3
 have y5 := Evo.then0 E0 (Step.evo z3)
 have z6 := Sub.trans hS (Step.up z3)
 have z7 := News.step hN z3
 refine end_ret hQ (.map (some z4)) (by kernel_rfl) ?_
 exact ⟨m, m, hp, v0, z4, step_of y5 y1 z6 z7, rfl, z5, y2, y4⟩
def simfs_FS_Cut_p (f_ : S_simfs_FS) (keep : (List Bool)) (Q : S_simfs_FS → Prop) : Prop :=
 ((keep.length ≤ 9223372036854775807) → (slices_Clone_bool_bool_p keep (fun (z7 : (List Bool)) => ((z7.length ≤ 9223372036854775807) → ((f_.pending.length ≤ 9223372036854775807) → ((inR .i64 f_.quota) → ((inR .i64 f_.now) → ((inR .i64 f_.inodes) → ((inR .i64 f_.ops_) → ((inR .i64 f_.left) → ((f_.keep.length ≤ 9223372036854775807) → (∃ (z2 : Int → (List (ByteArray × S_simfs_file)) → Prop) (z8 : Int → (List (ByteArray × S_simfs_file)) → Nat), (z2 (0 : Int) f_.kept) ∧ (∀ (z0 : Int) (z1 : (List (ByteArray × S_simfs_file))), (z2 z0 z1) → (inR .i64 z0) → (((z0 < (f_.pending.length : Int)) → (∃ z3 : (List (ByteArray × S_simfs_file)) → Prop, (∀ (z4 : (List (ByteArray × S_simfs_file))), z3 z4 → ((inR .i64 (z0 + (1 : Int))) ∧ ((z2 (z0 + (1 : Int)) z4) ∧ z8 (z0 + (1 : Int)) z4 < z8 z0 z1))) ∧ ((inL f_.pending z0) ∧ ((inR .i64 ((lget f_.pending z0).kind)) → ((((lget f_.pending z0).path).size ≤ maxLen) → ((((lget f_.pending z0).to_).size ≤ maxLen) → ((inR .i64 (((lget f_.pending z0).file).mode)) → ((inR .i64 (((lget f_.pending z0).file).time)) → ((inR .i64 (((lget f_.pending z0).file).inode)) → (((((lget f_.pending z0).file).b).length ≤ 9223372036854775807) → (∃ z5 : Bool → Prop, (∀ (z6 : Bool), z5 z6 → (((z6 = true) → (simfs_apply_p z1 (S_simfs_op.mk ((lget f_.pending z0).kind) ((lget f_.pending z0).path) ((lget f_.pending z0).to_) ((lget f_.pending z0).file)) (fun (z9 : (List (ByteArray × S_simfs_file))) (y2 : Bool) => (z3 z9)))) ∧ ((z6 = false) → (z3 z1)))) ∧ (((z0 < (z7.length : Int)) → ((inL z7 z0) ∧ (z5 (lget z7 z0)))) ∧ ((¬ (z0 < (z7.length : Int))) → (z5 false)))))))))))))) ∧ ((¬ (z0 < (f_.pending.length : Int))) → (maps_Clone_map_string_simfs_file_string_simfs_file_p z1 (fun (y0 : (List (ByteArray × S_simfs_file))) (y1 : (List (ByteArray × S_simfs_file))) => Q (S_simfs_FS.mk y0 y1 ([] : List S_simfs_op) f_.quota f_.now f_.inodes f_.ops_ true false f_.left ([] : List Bool)))))))))))))))))))
set_option maxRecDepth 20000 in
set_option maxHeartbeats 4000000 in
theorem simfs_FS_Cut_w {X : List Nat} {w : World} {f_ : S_simfs_FS} {keep : (List Bool)} {z2 : Nat} {z5 : List Nat} {v6 : Option Addr} {v7 : Nat} {Q : S_simfs_FS → Prop} (p4 : Old X w) (j0 : MO o_simfs_FS 62 z5 w.heap.size X w z5 z2 f_) (q8 : Sl rBool X w v6 v7 keep) (hp : simfs_FS_Cut_p f_ keep Q) :
  Calls Tryz.prog 16 #[(.pointer (some ⟨z2, 0, none⟩)), (.slice v6 keep.length v7)] w (Ret fun v w' => ∃ (p5 : S_simfs_FS), Q p5 ∧ ∃ (X' : List Nat) (p6 : List Nat), Step X w z5 X' w' ∧ v = .tuple #[] ∧ MO o_simfs_FS 62 z5 w.heap.size X' w' p6 z2 p5) := by
 have hXo := p4
 have E0 : Evo z5 w w := RB.refl _ _ _
 have hS : Sub X X := Sub.refl _
 have hN : News X w X w := News.refl _ _
 have p7 : Sub z5 X := MO.mem j0
 unfold simfs_FS_Cut_p at hp
 refine enter_ Tryz.func16 rfl 55 [(0, (.pointer (some ⟨z2, 0, none⟩))), (1, (.slice v6 keep.length v7))] (by kernel_rfl) (fun Qe hQ => ?_)
 replace hp := hp (Sl.len q8)
 refine sr (fun _ V1 => pv (.slice v6 keep.length v7) ?_)
 refine sq (o_call 34 #[(.slice v6 keep.length v7)] rfl (x_call Tryz.call34 (by kernel_rfl)) (slices_Clone_bool_bool_w (X := X) (s := keep) hXo (Sl.sq q8) hp) ?_)
 rintro _ U9 ⟨v5, hp, p8, r5, s2, rfl, p9⟩
 obtain ⟨Z0, q9, a7, Z1⟩ := OS.own_in p9 p8 E0.size
 have Z2 := Z1 _ (MO.old j0)
 replace hp := hp (OS.len a7)
 refine pv (.slice r5 v5.length s2) ?_
 refine nt V1 (seq_ (fun _ Z3 => sr (fun _ Z4 => pv (.pointer (some ⟨z2, 0, none⟩)) ?_)))
 refine pv (.pointer (some ⟨z2, 0, none⟩)) ?_
 have n0 := MO.step0 j0 q9
 obtain ⟨z1, y0, v8, y6, v1, z6, z7, a8, j1, k0, j2, t5, r6, u3, s3, s4, s5, V2, a9, V3, V4, d4, U6, U7, Z5, Z6, U8⟩ := o_simfs_FS_open n0
 have Z7 := Ap.subr (Ap.symm Z2) a9
 replace hp := hp (OS.len j2) t5 r6 u3 s3 s4 (Sl.len s5)
 refine pv (.pointer (some ⟨z2, 2, none⟩)) ?_
 refine pw (.slice v8 y6 v1) (x_load1 (by kernel_rfl) Tryz.isAgg60 (a8.2.1.cell' 2 rfl)) ?_
 refine pw (.int .i64 (f_.pending.length : Int)) (by rw [← show y6 = f_.pending.length from j2.1]; kernel_rfl) ?_
 refine pv (.int .i64 (0 : Int)) ?_
 refine nt Z4 (wp_block ?_)
 have d5 := Old.step hXo q9
 have e0 := Evo.then0 E0 (Step.evo q9)
 have n1 := Sub.trans hS (Step.up q9)
 have n2 := News.step hN q9
 obtain ⟨e1, d6, n3, hp⟩ := hp
 refine loop_ 34359730224 (fun kq lq y7 => ∃ (y1 : List Nat) (z0 : Int) (v2 : (List (ByteArray × S_simfs_file))), (lq = [(13, (.int .i64 z0))]) ∧ (kq = d6 z0 v2) ∧ (Evo z5 w y7) ∧ (Old y1 y7) ∧ (Sub X y1) ∧ (News X w y1 y7) ∧ (OS rBool ([]) w.heap.size y1 y7 4 r5 v5.length s2 v5) ∧ (OS r_simfs_op z5 w.heap.size y1 y7 76 v8 y6 v1 f_.pending) ∧ (OM r_simfs_file true z5 w.heap.size y1 y7 y0 f_.files) ∧ (Sl rBool y1 y7 z6 z7 f_.keep) ∧ (OM r_simfs_file true z5 w.heap.size y1 y7 z1 v2) ∧ (OB z5 w.heap.size y1 y7 z2 [(.map (some z1)), (.map (some y0)), (.slice v8 y6 v1), (.int .i64 f_.quota), (.int .i64 f_.now), (.int .i64 f_.inodes), (.int .i64 f_.ops_), (.bool f_.off), (.bool f_.armed), (.int .i64 f_.left), (.slice z6 f_.keep.length z7)] 62) ∧ (inR .i64 z0) ∧ (e1 z0 v2)) (d6 (0 : Int) f_.kept) [(13, (.int .i64 (0 : Int)))] (vs_cons (by kernel_rfl) vs_nil) ⟨Z0, (0 : Int), f_.kept, rfl, rfl, e0, d5, n1, n2, a7, j2, k0, s5, j1, a8, (by decide : inR .i64 (0 : Int)), n3⟩ ?_
 rintro _ _ y7 V5 ⟨y1, z0, v2, rfl, rfl, s6, k1, g1, g2, d7, s0, u4, k2, s7, t3, n4, n5⟩ Z9 n6
 replace hp := hp z0 v2 n5 n4
 refine sr (fun _ e2 => pv (.bool (decide (z0 < (f_.pending.length : Int)))) ?_)
 refine nt e2 (seq_ (fun _ e3 => ?_))
 refine cond_d (z0 < (f_.pending.length : Int)) (by kernel_rfl) (fun j3 => ?_) (fun j3 => ?_)
 ·
  replace hp := hp.1 j3
  refine wp_skip (then_normal (e3 _ _ _ _ (seq_ (fun _ e4 => ?_))))
  obtain ⟨e5, n7, hp⟩ := hp
  refine ground_ ?_
  refine join_ 17179836464 (fun lq y8 => ∃ (y3 : List Nat) (s8 : (List (ByteArray × S_simfs_file))), (lq = []) ∧ (Evo z5 w y8) ∧ (Old y3 y8) ∧ (Sub X y3) ∧ (News X w y3 y8) ∧ (OS rBool ([]) w.heap.size y3 y8 4 r5 v5.length s2 v5) ∧ (OS r_simfs_op z5 w.heap.size y3 y8 76 v8 y6 v1 f_.pending) ∧ (OM r_simfs_file true z5 w.heap.size y3 y8 y0 f_.files) ∧ (Sl rBool y3 y8 z6 z7 f_.keep) ∧ (OM r_simfs_file true z5 w.heap.size y3 y8 z1 s8) ∧ (OB z5 w.heap.size y3 y8 z2 [(.map (some z1)), (.map (some y0)), (.slice v8 y6 v1), (.int .i64 f_.quota), (.int .i64 f_.now), (.int .i64 f_.inodes), (.int .i64 f_.ops_), (.bool f_.off), (.bool f_.armed), (.int .i64 f_.left), (.slice z6 f_.keep.length z7)] 62) ∧ (e5 s8)) (fun Y0 g3 => ?_) ?_
  ·
   refine wp_block (sr (fun _ e6 => pv (.int .i64 z0) ?_))
   obtain ⟨j4, hp⟩ := hp
   obtain ⟨e7, e8, Y1, n8, Y2, Y3, n9, o0⟩ := OS.atX s0 z0 j4
   obtain ⟨z3, z4, rfl, t6, t7, s9, v3, v4, v0, u5⟩ := r_simfs_op_open n9
   replace hp := hp t6 t7 s9 v3 v4 v0 (Sl.len u5)
   refine pw (.pointer (some ⟨e7, e8 + z0.toNat * 7, none⟩)) (x_ixA (m := y6) (c := v1) (k := .i64) (i := z0) Tryz.underlying60 Tryz.sizeOf76 (by rw [← n8]; kernel_rfl) (by kernel_rfl) ⟨j4.1, by rw [s0.1]; exact j4.2⟩) ?_
   refine pw (.agg #[(.int .i64 ((lget f_.pending z0).kind)), (.string ((lget f_.pending z0).path)), (.string ((lget f_.pending z0).to_)), (.int .i64 (((lget f_.pending z0).file).mode)), (.int .i64 (((lget f_.pending z0).file).time)), (.int .i64 (((lget f_.pending z0).file).inode)), (.slice z3 ((((lget f_.pending z0).file).b).length) z4)]) (x_loadN [(.int .i64 ((lget f_.pending z0).kind)), (.string ((lget f_.pending z0).path)), (.string ((lget f_.pending z0).to_)), (.int .i64 (((lget f_.pending z0).file).mode)), (.int .i64 (((lget f_.pending z0).file).time)), (.int .i64 (((lget f_.pending z0).file).inode)), (.slice z3 ((((lget f_.pending z0).file).b).length) z4)] (by kernel_rfl) Tryz.isAgg76 Tryz.sizeOf76 o0) ?_
   refine sq (o_newX [(.int .i64 (0 : Int)), (.string (ByteArray.mk #[])), (.string (ByteArray.mk #[])), (.int .i64 (0 : Int)), (.int .i64 (0 : Int)), (.int .i64 (0 : Int)), (.slice none 0 0)] 76 (X := y1) (B := w.heap.size) s6.size rfl (by kernel_rfl) ?_)
   intro e9 V6 d8 y4 d9 r0
   have i0 := r0 _ (OS.old d7)
   have i1 := r0 _ (OS.old s0)
   have i2 := r0 _ (OM.old u4)
   have l0 := r0 _ (OM.old s7)
   have i3 := r0 _ (OB.old t3)
   refine pv (.int .i64 z0) ?_
   have i4 := OS.step0 d7 y4
   have o1 := OS.step0 s0 y4
   have r7 := OM.step0 u4 y4
   have i5 := OM.step0 s7 y4
   have i6 := OB.step0 t3 y4
   have i7 := Evo.then0 s6 (Step.evo y4)
   refine sq (o_stB (o := 0) (v := (.agg #[(.int .i64 ((lget f_.pending z0).kind)), (.string ((lget f_.pending z0).path)), (.string ((lget f_.pending z0).to_)), (.int .i64 (((lget f_.pending z0).file).mode)), (.int .i64 (((lget f_.pending z0).file).time)), (.int .i64 (((lget f_.pending z0).file).inode)), (.slice z3 ((((lget f_.pending z0).file).b).length) z4)])) [(.int .i64 ((lget f_.pending z0).kind)), (.string ((lget f_.pending z0).path)), (.string ((lget f_.pending z0).to_)), (.int .i64 (((lget f_.pending z0).file).mode)), (.int .i64 (((lget f_.pending z0).file).time)), (.int .i64 (((lget f_.pending z0).file).inode)), (.slice z3 ((((lget f_.pending z0).file).b).length) z4)] rfl d9 (by kernel_rfl) (by kernel_rfl) Tryz.sizeOf76 rfl rfl rfl ?_)
   intro V7 y5 l1
   refine nt e6 (seq_ (fun _ i9 => ?_))
   have l2 := Evo.thenW i7 (Step.evo y5) (Wr.of d9.2.2)
   have k3 := Old.step (Old.step k1 y4) y5
   have g4 := Sub.trans (Sub.trans g1 (Step.up y4)) (Step.up y5)
   have g5 := News.step (News.step g2 y4) y5
   have r8 := OS.step i4 y5 i0
   have g6 := OS.step o1 y5 i1
   have u6 := OM.step r7 y5 i2
   have t8 := Sl.step (Sl.step k2 y4) y5
   have l3 := OM.step i5 y5 l0
   have l4 := OB.step i6 y5 i3
   have u7 := Sl.step (Sl.step u5 y4) y5
   obtain ⟨h0, o2, hp⟩ := hp
   refine ground_ ?_
   refine join_ 268173312 (fun lq z8 => ∃ (z9 : List Nat) (r1 : Bool), (lq = [(27, (.bool r1))]) ∧ (Evo z5 w z8) ∧ (Old z9 z8) ∧ (Sub X z9) ∧ (News X w z9 z8) ∧ (OS rBool ([]) w.heap.size z9 z8 4 r5 v5.length s2 v5) ∧ (OS r_simfs_op z5 w.heap.size z9 z8 76 v8 y6 v1 f_.pending) ∧ (OM r_simfs_file true z5 w.heap.size z9 z8 z1 v2) ∧ (OM r_simfs_file true z5 w.heap.size z9 z8 y0 f_.files) ∧ (Sl rBool z9 z8 z6 z7 f_.keep) ∧ (OB z5 w.heap.size z9 z8 z2 [(.map (some z1)), (.map (some y0)), (.slice v8 y6 v1), (.int .i64 f_.quota), (.int .i64 f_.now), (.int .i64 f_.inodes), (.int .i64 f_.ops_), (.bool f_.off), (.bool f_.armed), (.int .i64 f_.left), (.slice z6 f_.keep.length z7)] 62) ∧ (Sl (rInt .u8) z9 z8 z3 z4 (((lget f_.pending z0).file).b)) ∧ (OB ([]) w.heap.size z9 z8 e9 [(.int .i64 ((lget f_.pending z0).kind)), (.string ((lget f_.pending z0).path)), (.string ((lget f_.pending z0).to_)), (.int .i64 (((lget f_.pending z0).file).mode)), (.int .i64 (((lget f_.pending z0).file).time)), (.int .i64 (((lget f_.pending z0).file).inode)), (.slice z3 ((((lget f_.pending z0).file).b).length) z4)] 76) ∧ (h0 r1)) (fun Y4 g7 => ?_) ?_
   ·
    refine reg_ (pv (.int .i64 z0) ?_)
    refine pv (.slice r5 v5.length s2) ?_
    refine pv (.int .i64 (v5.length : Int)) ?_
    by_cases r9 : z0 < (v5.length : Int)
    ·
     replace hp := hp.1 r9
     refine pw (.bool true) (x_dt (p := z0 < (v5.length : Int)) (by kernel_rfl) r9) ?_
     refine pv (.bool true) ?_
     refine pv (.slice r5 v5.length s2) ?_
     refine pv (.int .i64 z0) ?_
     obtain ⟨j5, hp⟩ := hp
     obtain ⟨h1, h2, Y5, o3, Y6, Y7, o4, o5⟩ := Sl.atI (OS.rd r8) z0 j5
     obtain rfl := o4
     refine pw (.pointer (some ⟨h1, h2 + z0.toNat * 1, none⟩)) (x_ixA (m := v5.length) (c := s2) (k := .i64) (i := z0) Tryz.underlying43 Tryz.sizeOf4 (by rw [← o3]; kernel_rfl) (by kernel_rfl) ⟨j5.1, by rw [r8.1]; exact j5.2⟩) ?_
     refine pw (.bool (lget v5 z0)) (x_load1 (by kernel_rfl) Tryz.isAgg4 (o5 0 _ rfl)) ?_
     refine pv (.bool (lget v5 z0)) ?_
     refine nil_ (then_normal (g7 _ _ _ ⟨[(27, (.bool (lget v5 z0)))], fit_mk (fun _ _ => rfl) (by kernel_rfl) (vs_cons (by kernel_rfl) vs_nil), ?_⟩))
     exact ⟨d8, (lget v5 z0), rfl, l2, k3, g4, g5, r8, g6, l3, u6, t8, l4, u7, l1, hp⟩
    ·
     replace hp := hp.2 r9
     refine pw (.bool false) (x_df (p := z0 < (v5.length : Int)) (by kernel_rfl) r9) ?_
     refine pv (.bool false) ?_
     refine no ?_
     refine no ?_
     refine no ?_
     refine no ?_
     refine pv (.bool false) ?_
     refine nil_ (then_normal (g7 _ _ _ ⟨[(27, (.bool false))], fit_mk (fun _ _ => rfl) (by kernel_rfl) (vs_cons (by kernel_rfl) vs_nil), ?_⟩))
     exact ⟨d8, false, rfl, l2, k3, g4, g5, r8, g6, l3, u6, t8, l4, u7, l1, hp⟩
   ·
    rintro _ z8 V8 ⟨z9, r1, rfl, l5, k4, g8, g9, l6, d0, j6, u9, t9, l7, q0, h3, o6⟩
    replace hp := o2 r1 o6
    refine then_normal (i9 _ _ _ _ ?_)
    refine cond_b r1 (by kernel_rfl) (fun j7 => ?_) (fun j7 => ?_)
    ·
     replace hp := hp.1 j7
     have k5 : Sub [z1] z9 := (OM.mem j6)
     refine reg_drawn (RB z8.heap.size [z1]) 6 (by kernel_rfl) (fun l8 q1 => ?_)
     have h4 := Evo.of_drew q1
     have q2 : l8.heap.size = z8.heap.size := by rw [q1]
     clear q1
     have y2 := Step.of0 z9 h4
     have s1 := RB.refl z8.heap.size [z1] l8
     have l9 := Evo.then0 l5 (Step.evo y2)
     have k6 := Old.step k4 y2
     have o7 := Sub.trans g8 (Step.up y2)
     have o8 := News.step g9 y2
     have m0 := OS.step0 l6 y2
     have d1 := OS.step0 d0 y2
     have j8 := OM.step0 j6 y2
     have t0 := OM.step0 u9 y2
     have k7 := Sl.step t9 y2
     have j9 := OB.step0 l7 y2
     have q3 := Sl.step q0 y2
     have h5 := OB.step0 h3 y2
     refine r_take 0 (.pointer (some ⟨z2, 0, none⟩)) (RB.pre _ _) rfl (by kernel_rfl) (fun _ _ _ h => hQ.panic _ _ _ _ _ h) (.inl ⟨rfl, fun wq hq => (by kernel_rfl)⟩) ?_
     refine r_take 1 (.pointer (some ⟨z2, 0, none⟩)) (RB.pre _ _) rfl (by kernel_rfl) (fun _ _ _ h => hQ.panic _ _ _ _ _ h) (.inl ⟨rfl, fun wq hq => (by kernel_rfl)⟩) ?_
     refine r_take 2 (.pointer (some ⟨z2, 0, none⟩)) (RB.pre _ _) rfl (by kernel_rfl) (fun _ _ _ h => hQ.panic _ _ _ _ _ h) (.inl ⟨rfl, fun wq hq => (by kernel_rfl)⟩) ?_
     refine r_take 3 (.map (some z1)) (RB.pre _ _) rfl (by kernel_rfl) (fun _ _ _ h => hQ.panic _ _ _ _ _ h) (.inl ⟨rfl, fun wq hq => (x_load1 (by kernel_rfl) Tryz.isAgg59 ((OB.step j9 (stepR (RB.trans s1 hq) q2 k5) d4).2.1.cell' 0 rfl))⟩) ?_
     refine r_take 4 (.agg #[(.int .i64 ((lget f_.pending z0).kind)), (.string ((lget f_.pending z0).path)), (.string ((lget f_.pending z0).to_)), (.int .i64 (((lget f_.pending z0).file).mode)), (.int .i64 (((lget f_.pending z0).file).time)), (.int .i64 (((lget f_.pending z0).file).inode)), (.slice z3 ((((lget f_.pending z0).file).b).length) z4)]) (RB.pre _ _) rfl (by kernel_rfl) (fun _ _ _ h => hQ.panic _ _ _ _ _ h) (.inl ⟨rfl, fun wq hq => (x_loadN [(.int .i64 ((lget f_.pending z0).kind)), (.string ((lget f_.pending z0).path)), (.string ((lget f_.pending z0).to_)), (.int .i64 (((lget f_.pending z0).file).mode)), (.int .i64 (((lget f_.pending z0).file).time)), (.int .i64 (((lget f_.pending z0).file).inode)), (.slice z3 ((((lget f_.pending z0).file).b).length) z4)] (by kernel_rfl) Tryz.isAgg76 Tryz.sizeOf76 ((OB.step h5 (stepR (RB.trans s1 hq) q2 k5) (Ap.symm l0)).2.1.cells' 0 rfl))⟩) ?_
     refine r_ready [5] (by kernel_rfl) rfl (all_cons ⟨_, _, _, _, _, _, rfl, ?_⟩ all_nil)
     refine o_call 35 #[(.map (some z1)), (.agg #[(.int .i64 ((lget f_.pending z0).kind)), (.string ((lget f_.pending z0).path)), (.string ((lget f_.pending z0).to_)), (.int .i64 (((lget f_.pending z0).file).mode)), (.int .i64 (((lget f_.pending z0).file).time)), (.int .i64 (((lget f_.pending z0).file).inode)), (.slice z3 (((lget f_.pending z0).file).b).length z4)])] rfl (x_call Tryz.call35 (by rw []; kernel_rfl)) (simfs_apply_w (X := z9) (l := v2) (o := (S_simfs_op.mk ((lget f_.pending z0).kind) ((lget f_.pending z0).path) ((lget f_.pending z0).to_) ((lget f_.pending z0).file))) k6 (OM.re j8 (Wr.self _ _ (Sub.refl _))) t6 t7 s9 v3 v4 v0 q3 hp) ?_
     rintro _ V9 ⟨h6, U0, hp, h7, y9, rfl, u1⟩
     have rm := RB.mono (F' := [z1]) (Step.evo y9) (Nat.le_trans (Nat.le_of_eq q2.symm) (RB.size s1)) (Wr.self _ _ (Sub.refl _))
     refine ⟨fun _ => rm, ?_⟩
     have Y8 : Wr [z1] z8.heap.size [z1] := Wr.trans u1.wr (Wr.self _ _ (Sub.refl _)) (Nat.le_trans (Nat.le_of_eq q2.symm) (RB.size s1))
     have h8 := OM.re u1 (Wr.trans u1.wr j8.wr l9.size)
     have h9 := Ap.grow u1.wr Z7 (OS.old m0) (Nat.le_refl _)
     have b0 := Ap.grow u1.wr (Ap.symm Z6) (OS.old d1) (Nat.le_refl _)
     have b1 := Ap.grow u1.wr (Ap.symm Z5) (OM.old t0) (Nat.le_refl _)
     have b2 := Ap.grow u1.wr d4 (OB.old j9) (Nat.le_refl _)
     refine r_done (by kernel_rfl) ?_
     refine blk_normal ?_
     have b3 := Evo.thenW l9 (Step.evo y9) j8.wr
     have m1 := Old.step k6 y9
     have o9 := Sub.trans o7 (Step.up y9)
     have c0 := News.step o8 y9
     have b4 := OS.step m0 y9 h9
     have c1 := OS.step d1 y9 b0
     have q4 := OM.step t0 y9 b1
     have k8 := Sl.step k7 y9
     have b5 := OB.step j9 y9 b2
     refine then_normal (g3 _ _ _ ⟨[], fit_mk (AgB.nest (AgB.look (fun _ _ => rfl) (by kernel_rfl)) (by kernel_rfl) (by kernel_rfl)) (by kernel_rfl) vs_nil, ?_⟩)
     exact ⟨h7, h6, rfl, b3, m1, o9, c0, b4, c1, q4, k8, h8, b5, hp⟩
    ·
     replace hp := hp.2 j7
     refine wp_skip (blk_normal (then_normal (g3 _ _ _ ⟨[], fit_mk (AgB.nest (AgB.look (fun _ _ => rfl) (by kernel_rfl)) (by kernel_rfl) (by kernel_rfl)) (by kernel_rfl) vs_nil, ?_⟩)))
     exact ⟨z9, v2, rfl, l5, k4, g8, g9, l6, d0, u9, t9, j6, l7, hp⟩
  ·
   rintro _ y8 U1 ⟨y3, s8, rfl, b6, m2, c2, c3, b7, c4, q5, k9, b8, b9, c5⟩
   replace hp := n7 s8 c5
   refine then_normal (e4 _ _ _ _ (reg_ ?_))
   obtain ⟨m3, hp⟩ := hp
   refine pw (.int .i64 (z0 + (1 : Int))) (x_add2 (k := .i64) (a := z0) (b := (1 : Int)) (z0 + (1 : Int)) (by kernel_rfl) (by kernel_rfl) (wrap_inR m3)) ?_
   refine pv (.int .i64 (z0 + (1 : Int))) ?_
   refine nil_ (then_normal (n6 _ _ _ ⟨_, [(13, (.int .i64 (z0 + (1 : Int))))], hp.2, fit_mk (AgB.nest (AgB.look (AgB.mix _ _ _) (by kernel_rfl)) (by kernel_rfl) (by kernel_rfl)) (by kernel_rfl) (vs_cons (by kernel_rfl) vs_nil), ?_⟩))
   exact ⟨y3, (z0 + (1 : Int)), s8, rfl, rfl, b6, m2, c2, c3, b7, c4, q5, k9, b8, b9, m3, hp.1⟩
 ·
  replace hp := hp.2 j3
  refine wp_exit ?_
  refine then_exit (then_exit (blk_exit (then_normal (Z3 _ _ _ _ (sr (fun _ f0 => pv (.pointer (some ⟨z2, 0, none⟩)) ?_))))))
  refine pv (.pointer (some ⟨z2, 0, none⟩)) ?_
  refine pv (.pointer (some ⟨z2, 0, none⟩)) ?_
  refine pv (.pointer (some ⟨z2, 0, none⟩)) ?_
  refine pv (.pointer (some ⟨z2, 0, none⟩)) ?_
  refine pw (.map (some z1)) (x_load1 (by kernel_rfl) Tryz.isAgg59 (t3.2.1.cell' 0 rfl)) ?_
  refine sq (o_call 36 #[(.map (some z1))] rfl (x_call Tryz.call36 (by kernel_rfl)) (maps_Clone_map_string_simfs_file_string_simfs_file_w (X := y1) (m := v2) k1 (OM.re s7 (Wr.self _ _ (Sub.refl _))) hp) ?_)
  rintro _ U2 ⟨f1, f2, hp, f3, v9, q6, rfl, g0, q7, f4⟩
  have f5 := OM.re g0 (Wr.trans g0.wr s7.wr s6.size)
  have u2 := Ap.grow g0.wr d4 (OB.old t3) (Nat.le_refl _)
  have f6 := OM.re q7 (Wr.trans q7.wr (Wr.nil [] _) s6.size)
  have t4 := Ap.grow q7.wr (Ap.nil_r _) (OB.old t3) (Nat.le_refl _)
  refine pv (.pointer (some ⟨z2, 0, none⟩)) ?_
  refine pv (.pointer (some ⟨z2, 1, none⟩)) ?_
  have m4 := OB.step t3 q6 u2
  have f7 := Evo.thenW s6 (Step.evo q6) s7.wr
  refine sq (o_stB (o := 1) (v := (.map (some v9))) [(.map (some z1)), (.map (some v9)), (.slice v8 y6 v1), (.int .i64 f_.quota), (.int .i64 f_.now), (.int .i64 f_.inodes), (.int .i64 f_.ops_), (.bool f_.off), (.bool f_.armed), (.int .i64 f_.left), (.slice z6 f_.keep.length z7)] rfl m4 (by kernel_rfl) (by kernel_rfl) Tryz.sizeOf59 rfl rfl rfl ?_)
  intro U3 r2 m5
  refine pv (.pointer (some ⟨z2, 0, none⟩)) ?_
  refine pv (.pointer (some ⟨z2, 2, none⟩)) ?_
  have f8 := OM.step f5 r2 (Ap.symm u2)
  have f9 := OM.step f6 r2 (Ap.symm t4)
  have p0 := Evo.thenW f7 (Step.evo r2) m4.2.2
  refine sq (o_stB (o := 2) (v := (.slice none 0 0)) [(.map (some z1)), (.map (some v9)), (.slice none 0 0), (.int .i64 f_.quota), (.int .i64 f_.now), (.int .i64 f_.inodes), (.int .i64 f_.ops_), (.bool f_.off), (.bool f_.armed), (.int .i64 f_.left), (.slice z6 f_.keep.length z7)] rfl m5 (by kernel_rfl) (by kernel_rfl) Tryz.sizeOf60 rfl rfl rfl ?_)
  intro U4 r3 m6
  refine nt f0 (reg_ (pv (.pointer (some ⟨z2, 0, none⟩)) ?_))
  refine pv (.pointer (some ⟨z2, 0, none⟩)) ?_
  refine pv (.pointer (some ⟨z2, 0, none⟩)) ?_
  refine pv (.pointer (some ⟨z2, 0, none⟩)) ?_
  refine pv (.pointer (some ⟨z2, 7, none⟩)) ?_
  have p1 := OM.step f8 r3 (Ap.symm u2)
  have p2 := OM.step f9 r3 (Ap.symm t4)
  have p3 := Evo.thenW p0 (Step.evo r3) m5.2.2
  refine sq (o_stB (o := 7) (v := (.bool true)) [(.map (some z1)), (.map (some v9)), (.slice none 0 0), (.int .i64 f_.quota), (.int .i64 f_.now), (.int .i64 f_.inodes), (.int .i64 f_.ops_), (.bool true), (.bool f_.armed), (.int .i64 f_.left), (.slice z6 f_.keep.length z7)] rfl m6 (by kernel_rfl) (by kernel_rfl) Tryz.sizeOf4 rfl rfl rfl ?_)
  intro U5 r4 m7
  refine pv (.pointer (some ⟨z2, 0, none⟩)) ?_
  refine pv (.pointer (some ⟨z2, 8, none⟩)) ?_
  have c6 := OM.step p1 r4 (Ap.symm u2)
  have c7 := OM.step p2 r4 (Ap.symm t4)
  have c8 := Evo.thenW p3 (Step.evo r4) m6.2.2
  refine sq (o_stB (o := 8) (v := (.bool false)) [(.map (some z1)), (.map (some v9)), (.slice none 0 0), (.int .i64 f_.quota), (.int .i64 f_.now), (.int .i64 f_.inodes), (.int .i64 f_.ops_), (.bool true), (.bool false), (.int .i64 f_.left), (.slice z6 f_.keep.length z7)] rfl m7 (by kernel_rfl) (by kernel_rfl) Tryz.sizeOf4 rfl rfl rfl ?_)
  intro Y9 t1 d2
  refine pv (.pointer (some ⟨z2, 0, none⟩)) ?_
  refine pv (.pointer (some ⟨z2, 10, none⟩)) ?_
  have c9 := OM.step c6 t1 (Ap.symm u2)
  have a0 := OM.step c7 t1 (Ap.symm t4)
  have a1 := Evo.thenW c8 (Step.evo t1) m7.2.2
  refine sq (o_stB (o := 10) (v := (.slice none 0 0)) [(.map (some z1)), (.map (some v9)), (.slice none 0 0), (.int .i64 f_.quota), (.int .i64 f_.now), (.int .i64 f_.inodes), (.int .i64 f_.ops_), (.bool true), (.bool false), (.int .i64 f_.left), (.slice none 0 0)] rfl d2 (by kernel_rfl) (by kernel_rfl) Tryz.sizeOf43 rfl rfl rfl ?_)
  intro V0 t2 a2
  refine nil_ ?_
  have a3 := Evo.thenW a1 (Step.evo t2) d2.2.2
  have m8 := Sub.trans (Sub.trans (Sub.trans (Sub.trans (Sub.trans (Sub.trans g1 (Step.up q6)) (Step.up r2)) (Step.up r3)) (Step.up r4)) (Step.up t1)) (Step.up t2)
  have m9 := News.step (News.step (News.step (News.step (News.step (News.step g2 q6) r2) r3) r4) t1) t2
  have a4 := OM.step c9 t2 (Ap.symm u2)
  have d3 := OM.step a0 t2 (Ap.symm t4)
  obtain ⟨a5, a6, Z8⟩ := MO.pack (o_simfs_FS_mk a2 a4 (OM.re d3 (Wr.of d3.wr)) (OS.nil2 _ _ _ _ _) t5 r6 u3 s3 s4 (Sl.nil) rfl u2 t4 (Ap.nil_r _) f4 (Ap.nil_r _) (Ap.nil_r _))
  refine end_normal hQ (.tuple #[]) (by kernel_rfl) ?_
  exact ⟨(S_simfs_FS.mk f1 f2 ([] : List S_simfs_op) f_.quota f_.now f_.inodes f_.ops_ true false f_.left ([] : List Bool)), hp, f3, a5, step_of a3 p7 m8 m9, rfl, a6⟩
def simfs_FS_trips_p (f_ : S_simfs_FS) (Q : S_simfs_FS → Bool → Prop) : Prop :=
 ((f_.pending.length ≤ 9223372036854775807) → ((inR .i64 f_.quota) → ((inR .i64 f_.now) → ((inR .i64 f_.inodes) → ((inR .i64 f_.ops_) → ((inR .i64 f_.left) → ((f_.keep.length ≤ 9223372036854775807) → ((((!f_.armed) = true) → Q f_ false) ∧ (((!f_.armed) = false) → ((inR .i64 (f_.left - (1 : Int))) ∧ ((((f_.left - (1 : Int)) > (0 : Int)) → Q (S_simfs_FS.mk f_.kept f_.files f_.pending f_.quota f_.now f_.inodes f_.ops_ f_.off f_.armed (f_.left - (1 : Int)) f_.keep) false) ∧ ((¬ ((f_.left - (1 : Int)) > (0 : Int))) → (simfs_FS_Cut_p (S_simfs_FS.mk f_.kept f_.files f_.pending f_.quota f_.now f_.inodes f_.ops_ f_.off f_.armed (f_.left - (1 : Int)) f_.keep) f_.keep (fun (z0 : S_simfs_FS) => Q z0 true))))))))))))))
set_option maxRecDepth 20000 in
set_option maxHeartbeats 4000000 in
theorem simfs_FS_trips_w {X : List Nat} {w : World} {f_ : S_simfs_FS} {z0 : Nat} {y0 : List Nat} {Q : S_simfs_FS → Bool → Prop} (s4 : Old X w) (v7 : MO o_simfs_FS 62 y0 w.heap.size X w y0 z0 f_) (hp : simfs_FS_trips_p f_ Q) :
  Calls Tryz.prog 76 #[(.pointer (some ⟨z0, 0, none⟩))] w (Ret fun v w' => ∃ (s5 : S_simfs_FS) (s6 : Bool), Q s5 s6 ∧ ∃ (X' : List Nat) (s7 : List Nat), Step X w y0 X' w' ∧ v = (.bool s6) ∧ MO o_simfs_FS 62 y0 w.heap.size X' w' s7 z0 s5) := by
 have hXo := s4
 have E0 : Evo y0 w w := RB.refl _ _ _
 have hS : Sub X X := Sub.refl _
 have hN : News X w X w := News.refl _ _
 have v8 : Sub y0 X := MO.mem v7
 unfold simfs_FS_trips_p at hp
 refine enter_ Tryz.func76 rfl 26 [(0, (.pointer (some ⟨z0, 0, none⟩)))] (by kernel_rfl) (fun Qe hQ => ?_)
 refine sr (fun _ q4 => pv (.bool false) ?_)
 refine nt q4 (seq_ (fun _ q5 => sr (fun _ q6 => pv (.pointer (some ⟨z0, 0, none⟩)) ?_)))
 refine pv (.pointer (some ⟨z0, 0, none⟩)) ?_
 obtain ⟨v6, v1, t2, t3, t4, z8, z9, y4, y1, z6, y5, z3, z7, z1, z4, y2, z5, q7, q8, q9, k0, y6, y7, y8, v9, u1, u2⟩ := o_simfs_FS_open v7
 replace hp := hp (OS.len y5) z3 z7 z1 z4 y2 (Sl.len z5)
 refine pv (.pointer (some ⟨z0, 8, none⟩)) ?_
 refine pw (.bool f_.armed) (x_load1 (by kernel_rfl) Tryz.isAgg4 (y4.2.1.cell' 8 rfl)) ?_
 refine pv (.bool (!f_.armed)) ?_
 refine nt q6 ?_
 refine cond_b (!f_.armed) (by kernel_rfl) (fun u3 => ?_) (fun u3 => ?_)
 ·
  replace hp := hp.1 u3
  refine sr (fun _ s8 => pv (.bool false) ?_)
  refine nt s8 (wp_ret (then_ret ?_))
  obtain ⟨s9, r0, k1⟩ := MO.pack (o_simfs_FS_mk y4 y1 z6 y5 z3 z7 z1 z4 y2 z5 rfl y6 y7 y8 v9 u1 u2)
  refine end_ret hQ (.bool false) (by kernel_rfl) ?_
  exact ⟨f_, false, hp, X, s9, step_of E0 v8 hS hN, rfl, r0⟩
 ·
  replace hp := hp.2 u3
  refine wp_skip (then_normal (q5 _ _ _ _ (sr (fun _ r1 => pv (.pointer (some ⟨z0, 0, none⟩)) ?_))))
  refine pv (.pointer (some ⟨z0, 0, none⟩)) ?_
  refine pv (.pointer (some ⟨z0, 9, none⟩)) ?_
  refine pw (.int .i64 f_.left) (x_load1 (by kernel_rfl) Tryz.isAgg3 (y4.2.1.cell' 9 rfl)) ?_
  obtain ⟨u4, hp⟩ := hp
  refine pw (.int .i64 (f_.left - (1 : Int))) (x_sub2 (k := .i64) (a := f_.left) (b := (1 : Int)) (f_.left - (1 : Int)) (by kernel_rfl) (by kernel_rfl) (wrap_inR u4)) ?_
  refine pv (.pointer (some ⟨z0, 0, none⟩)) ?_
  refine pv (.pointer (some ⟨z0, 9, none⟩)) ?_
  refine sq (o_stB (o := 9) (v := (.int .i64 (f_.left - (1 : Int)))) [(.map (some v6)), (.map (some v1)), (.slice t2 t3 t4), (.int .i64 f_.quota), (.int .i64 f_.now), (.int .i64 f_.inodes), (.int .i64 f_.ops_), (.bool f_.off), (.bool f_.armed), (.int .i64 (f_.left - (1 : Int))), (.slice z8 f_.keep.length z9)] rfl y4 (by kernel_rfl) (by kernel_rfl) Tryz.sizeOf3 rfl rfl rfl ?_)
  intro k4 z2 v5
  refine nt r1 (seq_ (fun _ r2 => sr (fun _ r3 => pv (.pointer (some ⟨z0, 0, none⟩)) ?_)))
  refine pv (.pointer (some ⟨z0, 0, none⟩)) ?_
  refine pv (.pointer (some ⟨z0, 9, none⟩)) ?_
  refine pw (.int .i64 (f_.left - (1 : Int))) (x_load1 (by kernel_rfl) Tryz.isAgg3 (v5.2.1.cell' 9 rfl)) ?_
  refine pv (.bool (decide ((f_.left - (1 : Int)) > (0 : Int)))) ?_
  refine nt r3 ?_
  refine cond_d ((f_.left - (1 : Int)) > (0 : Int)) (by kernel_rfl) (fun u5 => ?_) (fun u5 => ?_)
  ·
   replace hp := hp.1 u5
   refine sr (fun _ r4 => pv (.bool false) ?_)
   refine nt r4 (wp_ret (then_ret ?_))
   have r5 := Evo.thenW E0 (Step.evo z2) y4.2.2
   have t5 := Sub.trans hS (Step.up z2)
   have t6 := News.step hN z2
   have v2 := OM.step y1 z2 (Ap.symm y6)
   have y9 := OM.step z6 z2 (Ap.symm y7)
   have t7 := OS.step y5 z2 (Ap.symm y8)
   have v3 := Sl.step z5 z2
   obtain ⟨r6, r7, k2⟩ := MO.pack (o_simfs_FS_mk v5 v2 y9 t7 z3 z7 z1 z4 u4 v3 rfl y6 y7 y8 v9 u1 u2)
   refine end_ret hQ (.bool false) (by kernel_rfl) ?_
   exact ⟨(S_simfs_FS.mk f_.kept f_.files f_.pending f_.quota f_.now f_.inodes f_.ops_ f_.off f_.armed (f_.left - (1 : Int)) f_.keep), false, hp, X, r6, step_of r5 v8 t5 t6, rfl, r7⟩
  ·
   replace hp := hp.2 u5
   refine wp_skip (then_normal (r2 _ _ _ _ (sr (fun _ r8 => pv (.pointer (some ⟨z0, 0, none⟩)) ?_))))
   refine pv (.pointer (some ⟨z0, 0, none⟩)) ?_
   refine pv (.pointer (some ⟨z0, 0, none⟩)) ?_
   refine pv (.pointer (some ⟨z0, 10, none⟩)) ?_
   refine pw (.slice z8 f_.keep.length z9) (x_load1 (by kernel_rfl) Tryz.isAgg43 (v5.2.1.cell' 10 rfl)) ?_
   have u9 := Old.step hXo z2
   have t0 := Evo.thenW E0 (Step.evo z2) y4.2.2
   have t8 := Sub.trans hS (Step.up z2)
   have t9 := News.step hN z2
   have v4 := OM.step y1 z2 (Ap.symm y6)
   have v0 := OM.step z6 z2 (Ap.symm y7)
   have s0 := OS.step y5 z2 (Ap.symm y8)
   have y3 := Sl.step z5 z2
   obtain ⟨k5, u6, k3⟩ := MO.pack (o_simfs_FS_mk v5 v4 v0 s0 z3 z7 z1 z4 u4 y3 rfl y6 y7 y8 v9 u1 u2)
   refine sq (o_call 16 #[(.pointer (some ⟨z0, 0, none⟩)), (.slice z8 f_.keep.length z9)] rfl (x_call Tryz.call16 (by kernel_rfl)) (simfs_FS_Cut_w (X := X) (f_ := (S_simfs_FS.mk f_.kept f_.files f_.pending f_.quota f_.now f_.inodes f_.ops_ f_.off f_.armed (f_.left - (1 : Int)) f_.keep)) (keep := f_.keep) u9 (MO.re u6 (Wr.self _ _ (Sub.refl _))) y3 hp) ?_)
   rintro _ k6 ⟨s1, hp, r9, q0, u7, rfl, t1⟩
   have q1 := MO.re t1 (Wr.trans t1.wr u6.wr t0.size)
   refine nt r8 (sr (fun _ q2 => pv (.bool true) ?_))
   refine nt q2 (wp_ret ?_)
   have q3 := Evo.thenW t0 (Step.evo u7) u6.wr
   have s2 := Sub.trans t8 (Step.up u7)
   have s3 := News.step t9 u7
   refine end_ret hQ (.bool true) (by kernel_rfl) ?_
   exact ⟨s1, true, hp, r9, q0, step_of q3 v8 s2 s3, rfl, q1⟩
end Go.Proofs.YtlkfoebophjhfaaGreatDoor
