/- Walks of functions: what each asks and computes, as a plain predicate, and the contract from it. -/
import Derived.Test.YtlkfoebophjhfaaGreatDoorChecked
import Derived.Test.YtlkfoebophjhfaaGreatDoorPk
import Derived.Test.YtlkfoebophjhfaaGreatDoorJa6
namespace Go.Proofs.YtlkfoebophjhfaaGreatDoor
open Go
theorem elT27 : ElemT Tryz.prog 27 41 3 40 := elemT_mk (i := Tryz.t41) (z := (.agg #[(.string (ByteArray.mk #[])), (.int .i64 0), (.string (ByteArray.mk #[]))])) (by kernel_rfl) (by kernel_rfl) (by kernel_rfl) (by kernel_rfl) Tryz.underlying27 Tryz.sizeOf41 (by decide) (by decide)
def journal_stage_p (f_ : S_simfs_FS) (dir : ByteArray) (l : (List S_journal_Change)) (Q : S_simfs_FS → Int → Prop) : Prop :=
 ((dir.size ≤ maxLen) → ((l.length ≤ 9223372036854775807) → (codec_Enc_Int_p (S_codec_Enc.mk ([] : List Int)) ([(l.length : Int)]) (fun (v1 : S_codec_Enc) => (∃ (z5 : Int → S_simfs_FS → S_codec_Enc → Prop) (y3 : Int → S_simfs_FS → S_codec_Enc → Nat), (z5 (0 : Int) f_ v1) ∧ (∀ (z0 : Int) (z4 : S_simfs_FS) (z6 : S_codec_Enc), (z5 z0 z4 z6) → (inR .i64 z0) → (((z0 < (l.length : Int)) → (∃ z7 : S_simfs_FS → S_codec_Enc → Prop, (∀ (z8 : S_simfs_FS) (z9 : S_codec_Enc), z7 z8 z9 → ((inR .i64 (z0 + (1 : Int))) ∧ ((z5 (z0 + (1 : Int)) z8 z9) ∧ y3 (z0 + (1 : Int)) z8 z9 < y3 z0 z4 z6))) ∧ ((inL l z0) ∧ ((((lget l z0).Path).size ≤ maxLen) → ((inR .i64 ((lget l z0).Mode)) → ((((lget l z0).Data).length ≤ 9223372036854775807) → (codec_Enc_Text_p z6 ([(lget l z0).Path]) (fun (y4 : S_codec_Enc) => (((((lget l z0).Gone) = true) → (codec_Enc_Int_p y4 ([(1 : Int)]) (fun (y9 : S_codec_Enc) => (z7 z4 y9)))) ∧ ((((lget l z0).Gone) = false) → (codec_Enc_Int_p y4 ([(0 : Int)]) (fun (v0 : S_codec_Enc) => (journal_name_p dir z0 (fun (y5 : ByteArray) => ((y5.size ≤ maxLen) → (simfs_FS_Write_p z4 y5 ((lget l z0).Mode) ((lget l z0).Data) (fun (y0 : S_simfs_FS) (z1 : Int) => ((inR .i64 z1) → (((¬ (z1 = (0 : Int))) → Q y0 z1) ∧ ((z1 = (0 : Int)) → (z7 y0 v0))))))))))))))))))))) ∧ ((¬ (z0 < (l.length : Int))) → (simfs_FS_Sync_p z4 (fun (y1 : S_simfs_FS) (z2 : Int) => ((inR .i64 z2) → (((¬ (z2 = (0 : Int))) → Q y1 z2) ∧ ((z2 = (0 : Int)) → (((dir ++ (ByteArray.mk #[47, 110, 111, 116, 101])).size ≤ maxLen) ∧ (codec_Enc_Bytes_p z6 (fun (v2 : S_codec_Enc) (y6 : (List Int)) => ((y6.length ≤ 9223372036854775807) → (simfs_FS_Write_p y1 (dir ++ (ByteArray.mk #[47, 110, 111, 116, 101])) (1 : Int) y6 (fun (y2 : S_simfs_FS) (z3 : Int) => ((inR .i64 z3) → (((¬ (z3 = (0 : Int))) → Q y2 z3) ∧ ((z3 = (0 : Int)) → (simfs_FS_Sync_p y2 (fun (y8 : S_simfs_FS) (y7 : Int) => ((inR .i64 y7) → Q y8 y7)))))))))))))))))))))))))
set_option maxRecDepth 20000 in
set_option maxHeartbeats 4000000 in
theorem journal_stage_w {X : List Nat} {w : World} {f_ : S_simfs_FS} {dir : ByteArray} {l : (List S_journal_Change)} {z4 : Nat} {z5 : List Nat} {r2 : Option Addr} {t8 : Nat} {Q : S_simfs_FS → Int → Prop} (d2 : Old X w) (m3 : MO o_simfs_FS 62 z5 w.heap.size X w z5 z4 f_) (m6 : dir.size ≤ maxLen) (h0 : Sl r_journal_Change X w r2 t8 l) (hp : journal_stage_p f_ dir l Q) :
  Calls Tryz.prog 28 #[(.pointer (some ⟨z4, 0, none⟩)), (.string dir), (.slice r2 l.length t8)] w (Ret fun v w' => ∃ (H0 : S_simfs_FS) (I2 : Int), Q H0 I2 ∧ ∃ (X' : List Nat) (H1 : List Nat), Step X w z5 X' w' ∧ v = (.int .i64 I2) ∧ MO o_simfs_FS 62 z5 w.heap.size X' w' H1 z4 H0 ∧ inR .i64 I2) := by
 have hXo := d2
 have E0 : Evo z5 w w := RB.refl _ _ _
 have hS : Sub X X := Sub.refl _
 have hN : News X w X w := News.refl _ _
 have m7 : Sub z5 X := MO.mem m3
 unfold journal_stage_p at hp
 refine enter_ Tryz.func28 rfl 62 [(0, (.pointer (some ⟨z4, 0, none⟩))), (1, (.string dir)), (2, (.slice r2 l.length t8))] (by kernel_rfl) (fun Qe hQ => ?_)
 replace hp := hp m6 (Sl.len h0)
 refine sr (fun _ B7 => pv (.int .i64 (0 : Int)) ?_)
 refine nt B7 (sr (fun _ B8 => ?_))
 refine sq (o_newX [(.slice none 0 0)] 94 (X := X) (B := w.heap.size) E0.size rfl (by kernel_rfl) ?_)
 intro r3 B9 H2 r9 J4 H3
 have H4 := H3 _ (MO.old m3)
 refine nt B8 (sr (fun _ H5 => pv (.slice r2 l.length t8) ?_))
 refine pv (.int .i64 (l.length : Int)) ?_
 have m8 := MO.step0 m3 r9
 have J5 := Evo.then0 E0 (Step.evo r9)
 refine sq (o_rowX (R := (rInt .i64)) [(.int .i64 (l.length : Int))] [(l.length : Int)] 3 1 (X := H2) (B := w.heap.size) J5.size rfl (by kernel_rfl) (Flat.cons (cs := [(.int .i64 (l.length : Int))]) (rInt_mk (inR_len (Sl.len h0))) Flat.nil) rfl (by decide) ?_)
 intro H6 E1 E2 r4 h1 J6
 have H7 := J6 _ (MO.old m8)
 have H8 := J6 _ (OB.old J4)
 have I3 := Sl.step (Sl.step h0 r9) r4
 have m9 := MO.step0 m8 r4
 have V5 := Old.step (Old.step hXo r9) r4
 have H9 := Evo.then0 J5 (Step.evo r4)
 have I4 := Sub.trans (Sub.trans hS (Step.up r9)) (Step.up r4)
 have I5 := News.step (News.step hN r9) r4
 have G0 := OB.step0 J4 r4
 obtain ⟨E3, J7, h2⟩ := MO.pack (o_codec_Enc_mk G0 (OS.nil2 _ _ _ _ _) (Ap.nil_r _))
 have J8 := h2 _ (Ap.cons H4 (Ap.nil_r _))
 have G1 := h2 _ (Ap.cons (Ap.symm H8) (Ap.nil_r _))
 have I6 := OS.apold h1 d2
 obtain ⟨G2, d3, G3, m4⟩ := OS.release h1
 have I7 := Sl.less I3 d3
 have n0 := MO.less m9 d3 (m4 _ H7 (MO.mem m9))
 have n1 := Old.less V5 d3
 have J9 := H9
 have I8 := m4 _ I6 I4
 have I9 := News.less I5 d3
 have h3 := MO.less J7 d3 (m4 _ (Ap.symm G1) (MO.mem J7))
 refine sq (o_call 51 #[(.pointer (some ⟨r3, 0, none⟩)), (.slice (some ⟨H6, 0, none⟩) ([(l.length : Int)]).length 1)] rfl (x_call Tryz.call51 (by rw [← show 1 = ([(l.length : Int)]).length from h1.1]; kernel_rfl)) (codec_Enc_Int_w (X := G2) (e := (S_codec_Enc.mk ([] : List Int))) (l := [(l.length : Int)]) n1 (MO.re h3 (Wr.self _ _ (Sub.refl _))) G3 hp) ?_)
 rintro _ E4 ⟨I0, hp, G4, G5, q0, rfl, h4⟩
 have I1 := MO.re h4 (Wr.trans h4.wr h3.wr J9.size)
 have G6 := Ap.grow h4.wr J8 (MO.old n0) (Nat.le_refl _)
 refine nt H5 (seq_ (fun _ G7 => sr (fun _ G8 => pv (.slice r2 l.length t8) ?_)))
 refine pv (.int .i64 (l.length : Int)) ?_
 refine pv (.int .i64 (0 : Int)) ?_
 refine nt G8 (wp_block ?_)
 have h5 := Sl.step I7 q0
 have e8 := MO.step n0 q0 J8
 have e9 := Old.step n1 q0
 have V6 := Evo.thenW J9 (Step.evo q0) (Wr.of h3.wr)
 have h6 := Sub.trans I8 (Step.up q0)
 have h7 := News.step I9 q0
 obtain ⟨V7, n2, h8, hp⟩ := hp
 refine loop_ 140737487832896 (fun kq lq v0 => ∃ (z7 : List Nat) (z0 : Int) (v5 : S_simfs_FS) (v9 : S_codec_Enc) (y9 : List Nat) (m5 : List Nat), (lq = [(19, (.int .i64 z0))]) ∧ (kq = n2 z0 v5 v9) ∧ (Evo z5 w v0) ∧ (Old z7 v0) ∧ (Sub X z7) ∧ (News X w z7 v0) ∧ (Sl r_journal_Change z7 v0 r2 t8 l) ∧ (MO o_simfs_FS 62 z5 w.heap.size z7 v0 y9 z4 v5) ∧ (MO o_codec_Enc 94 z5 w.heap.size z7 v0 m5 r3 v9) ∧ (Ap (y9) (m5)) ∧ (inR .i64 z0) ∧ (V7 z0 v5 v9)) (n2 (0 : Int) f_ I0) [(19, (.int .i64 (0 : Int)))] (vs_cons (by kernel_rfl) vs_nil) ⟨G4, (0 : Int), f_, I0, z5, G5, rfl, rfl, V6, e9, h6, h7, h5, e8, (MO.re I1 (Wr.of I1.wr)), G6, (by decide : inR .i64 (0 : Int)), h8⟩ ?_
 rintro _ _ v0 D5 ⟨z7, z0, v5, v9, y9, m5, rfl, rfl, u1, t5, r5, r6, d4, t6, q7, u2, n3, h9⟩ G9 b0
 replace hp := hp z0 v5 v9 h9 n3
 refine sr (fun _ V8 => pv (.bool (decide (z0 < (l.length : Int)))) ?_)
 refine nt V8 (seq_ (fun _ V9 => ?_))
 refine cond_d (z0 < (l.length : Int)) (by kernel_rfl) (fun q8 => ?_) (fun q8 => ?_)
 ·
  replace hp := hp.1 q8
  refine wp_skip (then_normal (V9 _ _ _ _ (seq_ (fun _ U0 => ?_))))
  obtain ⟨U1, b1, hp⟩ := hp
  refine ground_ ?_
  refine join_ 70368742082368 (fun lq v1 => ∃ (y1 : List Nat) (u3 : S_simfs_FS) (u4 : S_codec_Enc) (t9 : List Nat) (s0 : List Nat), (lq = []) ∧ (Evo z5 w v1) ∧ (Old y1 v1) ∧ (Sub X y1) ∧ (News X w y1 v1) ∧ (Sl r_journal_Change y1 v1 r2 t8 l) ∧ (MO o_simfs_FS 62 z5 w.heap.size y1 v1 t9 z4 u3) ∧ (MO o_codec_Enc 94 z5 w.heap.size y1 v1 s0 r3 u4) ∧ (Ap (t9) (s0)) ∧ (U1 u3 u4)) (fun D0 d5 => ?_) ?_
  ·
   refine wp_block (sr (fun _ U2 => pv (.int .i64 z0) ?_))
   obtain ⟨n4, hp⟩ := hp
   obtain ⟨U3, U4, D1, b2, D2, D3, b3, b4⟩ := Sl.atI d4 z0 n4
   obtain ⟨z2, z3, rfl, u5, u6, u7⟩ := r_journal_Change_open b3
   replace hp := hp u5 u6 (Sl.len u7)
   refine pw (.pointer (some ⟨U3, U4 + z0.toNat * 4, none⟩)) (x_ixA (m := l.length) (c := t8) (k := .i64) (i := z0) Tryz.underlying22 Tryz.sizeOf34 (by rw [← b2]; kernel_rfl) (by kernel_rfl) n4) ?_
   refine pw (.agg #[(.string ((lget l z0).Path)), (.bool ((lget l z0).Gone)), (.int .i64 ((lget l z0).Mode)), (.slice z2 (((lget l z0).Data).length) z3)]) (x_loadN [(.string ((lget l z0).Path)), (.bool ((lget l z0).Gone)), (.int .i64 ((lget l z0).Mode)), (.slice z2 (((lget l z0).Data).length) z3)] (by kernel_rfl) Tryz.isAgg34 Tryz.sizeOf34 b4) ?_
   refine sq (o_newX [(.string (ByteArray.mk #[])), (.bool false), (.int .i64 (0 : Int)), (.slice none 0 0)] 34 (X := z7) (B := w.heap.size) u1.size rfl (by kernel_rfl) ?_)
   intro s1 D6 U5 y2 n5 n6
   have q9 := n6 _ (MO.old t6)
   have k0 := n6 _ (MO.old q7)
   refine pv (.int .i64 z0) ?_
   have U6 := MO.step0 t6 y2
   have U7 := MO.step0 q7 y2
   have U8 := Evo.then0 u1 (Step.evo y2)
   refine sq (o_stB (o := 0) (v := (.agg #[(.string ((lget l z0).Path)), (.bool ((lget l z0).Gone)), (.int .i64 ((lget l z0).Mode)), (.slice z2 (((lget l z0).Data).length) z3)])) [(.string ((lget l z0).Path)), (.bool ((lget l z0).Gone)), (.int .i64 ((lget l z0).Mode)), (.slice z2 (((lget l z0).Data).length) z3)] rfl n5 (by kernel_rfl) (by kernel_rfl) Tryz.sizeOf34 rfl rfl rfl ?_)
   intro D7 y3 k1
   refine nt U2 (sr (fun _ U9 => pv (.pointer (some ⟨s1, 0, none⟩)) ?_))
   refine pw (.string ((lget l z0).Path)) (x_load1 (by kernel_rfl) Tryz.isAgg9 (k1.2.1.cell' 0 rfl)) ?_
   have n7 := MO.step U6 y3 q9
   have n8 := MO.step U7 y3 k0
   have n9 := Evo.thenW U8 (Step.evo y3) (Wr.of n5.2.2)
   refine sq (o_rowX (R := rStr) [(.string ((lget l z0).Path))] [(lget l z0).Path] 9 1 (X := U5) (B := w.heap.size) n9.size rfl (by kernel_rfl) (Flat.cons (cs := [(.string ((lget l z0).Path))]) (rStr_mk u5) Flat.nil) rfl (by decide) ?_)
   intro T0 D8 D9 z8 k2 k3
   have T1 := k3 _ (MO.old n7)
   have T2 := k3 _ (MO.old n8)
   have T3 := k3 _ (OB.old k1)
   have b5 := Sub.trans (Sub.trans (Sub.trans r5 (Step.up y2)) (Step.up y3)) (Step.up z8)
   have T4 := Evo.then0 n9 (Step.evo z8)
   have i0 := Old.step (Old.step (Old.step t5 y2) y3) z8
   have b6 := News.step (News.step (News.step r6 y2) y3) z8
   have b7 := Sl.step (Sl.step (Sl.step d4 y2) y3) z8
   have o0 := MO.step0 n7 z8
   have o1 := MO.step0 n8 z8
   have k4 := Sl.step (Sl.step (Sl.step u7 y2) y3) z8
   have o2 := OB.step0 k1 z8
   have b8 := OS.apold k2 d2
   obtain ⟨T5, v6, T6, u9⟩ := OS.release k2
   have k5 := T4
   have t7 := Old.less i0 v6
   have d6 := u9 _ b8 b5
   have d7 := News.less b6 v6
   have d8 := Sl.less b7 v6
   have k6 := MO.less o0 v6 (u9 _ T1 (MO.mem o0))
   have s2 := MO.less o1 v6 (u9 _ T2 (MO.mem o1))
   have k7 := Sl.less k4 v6
   have o3 := OB.less o2 (u9 _ T3 (OB.mem o2))
   refine sq (o_call 52 #[(.pointer (some ⟨r3, 0, none⟩)), (.slice (some ⟨T0, 0, none⟩) ([(lget l z0).Path]).length 1)] rfl (x_call Tryz.call52 (by rw [← show 1 = ([(lget l z0).Path]).length from k2.1]; kernel_rfl)) (codec_Enc_Text_w (X := T5) (e := v9) (l := [(lget l z0).Path]) t7 (MO.re s2 (Wr.self _ _ (Sub.refl _))) T6 hp) ?_)
   rintro _ C0 ⟨o4, hp, o5, C1, z1, rfl, s3⟩
   have s4 := MO.re s3 (Wr.trans s3.wr s2.wr k5.size)
   have s5 := Ap.grow s3.wr u2 (MO.old k6) (Nat.le_refl _)
   have T7 := Ap.grow s3.wr (Ap.symm k0) (OB.old o3) (Nat.le_refl _)
   refine nt U9 (seq_ (fun _ T8 => sr (fun _ T9 => pv (.pointer (some ⟨s1, 1, none⟩)) ?_)))
   have k8 := OB.step o3 z1 (Ap.symm k0)
   refine pw (.bool ((lget l z0).Gone)) (x_load1 (by kernel_rfl) Tryz.isAgg4 (k8.2.1.cell' 1 rfl)) ?_
   refine nt T9 ?_
   refine cond_b ((lget l z0).Gone) (by kernel_rfl) (fun k9 => ?_) (fun k9 => ?_)
   ·
    replace hp := hp.1 k9
    refine sr (fun _ R1 => ?_)
    have o6 := MO.step k6 z1 u2
    have o7 := Evo.thenW k5 (Step.evo z1) s2.wr
    refine sq (o_rowX (R := (rInt .i64)) [(.int .i64 (1 : Int))] [(1 : Int)] 3 1 (X := o5) (B := w.heap.size) o7.size rfl (by kernel_rfl) (Flat.cons (cs := [(.int .i64 (1 : Int))]) (rInt_mk (by decide : inR .i64 (1 : Int))) Flat.nil) rfl (by decide) ?_)
    intro R2 C2 C3 v2 j0 o8
    have R3 := o8 _ (MO.old o6)
    have R4 := o8 _ (MO.old s4)
    have b9 := Sub.trans (Sub.trans d6 (Step.up z1)) (Step.up v2)
    have R5 := Evo.then0 o7 (Step.evo v2)
    have i1 := Old.step (Old.step t7 z1) v2
    have f0 := News.step (News.step d7 z1) v2
    have f1 := Sl.step (Sl.step d8 z1) v2
    have o9 := MO.step0 o6 v2
    have c0 := MO.step0 s4 v2
    have f2 := OS.apold j0 d2
    obtain ⟨R6, t0, R7, r7⟩ := OS.release j0
    have c1 := R5
    have q1 := Old.less i1 t0
    have f3 := r7 _ f2 b9
    have f4 := News.less f0 t0
    have f5 := Sl.less f1 t0
    have c2 := MO.less o9 t0 (r7 _ R3 (MO.mem o9))
    have j1 := MO.less c0 t0 (r7 _ R4 (MO.mem c0))
    refine sq (o_call 51 #[(.pointer (some ⟨r3, 0, none⟩)), (.slice (some ⟨R2, 0, none⟩) ([(1 : Int)]).length 1)] rfl (x_call Tryz.call51 (by rw [← show 1 = ([(1 : Int)]).length from j0.1]; kernel_rfl)) (codec_Enc_Int_w (X := R6) (e := o4) (l := [(1 : Int)]) q1 (MO.re j1 (Wr.self _ _ (Sub.refl _))) R7 hp) ?_)
    rintro _ C4 ⟨R8, hp, R9, P0, v7, rfl, j2⟩
    have P1 := MO.re j2 (Wr.trans j2.wr j1.wr c1.size)
    have P2 := Ap.grow j2.wr s5 (MO.old c2) (Nat.le_refl _)
    refine nt R1 ?_
    refine wp_exit ?_
    refine then_exit (blk_exit ?_)
    have P3 := Evo.thenW c1 (Step.evo v7) j1.wr
    have i2 := Old.step q1 v7
    have f6 := Sub.trans f3 (Step.up v7)
    have f7 := News.step f4 v7
    have f8 := Sl.step f5 v7
    have P4 := MO.step c2 v7 s5
    refine then_normal (d5 _ _ _ ⟨[], fit_mk (fun _ _ => rfl) (by kernel_rfl) vs_nil, ?_⟩)
    exact ⟨R9, v5, R8, y9, P0, rfl, P3, i2, f6, f7, f8, P4, P1, P2, hp⟩
   ·
    replace hp := hp.2 k9
    refine wp_skip (then_normal (T8 _ _ _ _ (sr (fun _ P5 => ?_))))
    have c3 := MO.step k6 z1 u2
    have c4 := Evo.thenW k5 (Step.evo z1) s2.wr
    refine sq (o_rowX (R := (rInt .i64)) [(.int .i64 (0 : Int))] [(0 : Int)] 3 1 (X := o5) (B := w.heap.size) c4.size rfl (by kernel_rfl) (Flat.cons (cs := [(.int .i64 (0 : Int))]) (rInt_mk (by decide : inR .i64 (0 : Int))) Flat.nil) rfl (by decide) ?_)
    intro P6 C5 C6 z9 j3 j4
    have P7 := j4 _ (MO.old c3)
    have P8 := j4 _ (OB.old k8)
    have P9 := j4 _ (MO.old s4)
    have f9 := Sub.trans (Sub.trans d6 (Step.up z1)) (Step.up z9)
    have N0 := Evo.then0 c4 (Step.evo z9)
    have i3 := Old.step (Old.step t7 z1) z9
    have p0 := News.step (News.step d7 z1) z9
    have p1 := Sl.step (Sl.step d8 z1) z9
    have c5 := MO.step0 c3 z9
    have j5 := Sl.step (Sl.step k7 z1) z9
    have c6 := OB.step0 k8 z9
    have c7 := MO.step0 s4 z9
    have p2 := OS.apold j3 d2
    obtain ⟨N1, v8, N2, t1⟩ := OS.release j3
    have c8 := N0
    have q2 := Old.less i3 v8
    have p3 := t1 _ p2 f9
    have p4 := News.less p0 v8
    have p5 := Sl.less p1 v8
    have c9 := MO.less c5 v8 (t1 _ P7 (MO.mem c5))
    have j6 := Sl.less j5 v8
    have N3 := OB.less c6 (t1 _ P8 (OB.mem c6))
    have j7 := MO.less c7 v8 (t1 _ P9 (MO.mem c7))
    refine sq (o_call 51 #[(.pointer (some ⟨r3, 0, none⟩)), (.slice (some ⟨P6, 0, none⟩) ([(0 : Int)]).length 1)] rfl (x_call Tryz.call51 (by rw [← show 1 = ([(0 : Int)]).length from j3.1]; kernel_rfl)) (codec_Enc_Int_w (X := N1) (e := o4) (l := [(0 : Int)]) q2 (MO.re j7 (Wr.self _ _ (Sub.refl _))) N2 hp) ?_)
    rintro _ s6 ⟨N4, hp, s7, N5, y4, rfl, j8⟩
    have N6 := MO.re j8 (Wr.trans j8.wr j7.wr c8.size)
    have a0 := Ap.grow j8.wr s5 (MO.old c9) (Nat.le_refl _)
    refine nt P5 (seq_ (fun _ N7 => ?_))
    have N8 := Evo.thenW c8 (Step.evo y4) j7.wr
    have i4 := Old.step q2 y4
    have p6 := Sub.trans p3 (Step.up y4)
    have p7 := News.step p4 y4
    have p8 := Sl.step p5 y4
    have a1 := MO.step c9 y4 s5
    have j9 := Sl.step j6 y4
    have N9 := OB.step N3 y4 T7
    have q3 : Sub y9 s7 := (MO.mem a1)
    refine reg_drawn (RB s6.heap.size y9) 9 (by kernel_rfl) (fun a2 r8 => ?_)
    have M0 := Evo.of_drew r8
    have t2 : a2.heap.size = s6.heap.size := by rw [r8]
    clear r8
    have y0 := Step.of0 s7 M0
    have t3 := RB.refl s6.heap.size y9 a2
    have M1 := Evo.then0 N8 (Step.evo y0)
    have i5 := Old.step i4 y0
    have p9 := Sub.trans p6 (Step.up y0)
    have Z0 := News.step p7 y0
    have Z1 := Sl.step p8 y0
    have M2 := MO.step0 a1 y0
    have g0 := Sl.step j9 y0
    have a3 := OB.step0 N9 y0
    have M3 := MO.step0 N6 y0
    refine r_take 0 (.pointer (some ⟨z4, 0, none⟩)) (RB.pre _ _) rfl (by kernel_rfl) (fun _ _ _ h => hQ.panic _ _ _ _ _ h) (.inl ⟨rfl, fun wq hq => (by kernel_rfl)⟩) ?_
    refine r_take 1 (.string dir) (RB.pre _ _) rfl (by kernel_rfl) (fun _ _ _ h => hQ.panic _ _ _ _ _ h) (.inl ⟨rfl, fun wq hq => (by kernel_rfl)⟩) ?_
    refine r_take 2 (.int .i64 z0) (RB.pre _ _) rfl (by kernel_rfl) (fun _ _ _ h => hQ.panic _ _ _ _ _ h) (.inl ⟨rfl, fun wq hq => (by kernel_rfl)⟩) ?_
    refine r_take 4 (.pointer (some ⟨s1, 2, none⟩)) (RB.pre _ _) rfl (by kernel_rfl) (fun _ _ _ h => hQ.panic _ _ _ _ _ h) (.inl ⟨rfl, fun wq hq => (by kernel_rfl)⟩) ?_
    refine r_take 5 (.int .i64 ((lget l z0).Mode)) (RB.pre _ _) rfl (by kernel_rfl) (fun _ _ _ h => hQ.panic _ _ _ _ _ h) (.inl ⟨rfl, fun wq hq => (x_load1 (by kernel_rfl) Tryz.isAgg3 ((OB.step a3 (stepR (RB.trans t3 hq) t2 q3) (Ap.symm q9)).2.1.cell' 2 rfl))⟩) ?_
    refine r_take 6 (.pointer (some ⟨s1, 3, none⟩)) (RB.pre _ _) rfl (by kernel_rfl) (fun _ _ _ h => hQ.panic _ _ _ _ _ h) (.inl ⟨rfl, fun wq hq => (by kernel_rfl)⟩) ?_
    refine r_take 7 (.slice z2 (((lget l z0).Data).length) z3) (RB.pre _ _) rfl (by kernel_rfl) (fun _ _ _ h => hQ.panic _ _ _ _ _ h) (.inl ⟨rfl, fun wq hq => (x_load1 (by kernel_rfl) Tryz.isAgg32 ((OB.step a3 (stepR (RB.trans t3 hq) t2 q3) (Ap.symm q9)).2.1.cell' 3 rfl))⟩) ?_
    refine r_ready [3] (by kernel_rfl) rfl (all_cons ⟨_, _, _, _, _, _, rfl, ?_⟩ all_nil)
    refine o_call 54 #[(.string dir), (.int .i64 z0)] rfl (x_call Tryz.call54 (by kernel_rfl)) (journal_name_w (X := []) (dir := dir) (i := z0) (Old.nil _) m6 n3 hp) ?_
    rintro _ C7 ⟨a4, hp, g1, rfl, d9⟩
    have rm := RB.mono (F' := y9) g1 (Nat.le_trans (Nat.le_of_eq t2.symm) (RB.size t3)) (fun _ h => by cases h)
    have l0 := RB.trans t3 rm
    refine ⟨fun _ => rm, ?_⟩
    have v3 := Step.of0 s7 g1
    replace hp := hp d9
    refine r_ready [8] (by kernel_rfl) rfl (all_cons ⟨_, _, _, _, _, _, rfl, ?_⟩ all_nil)
    have g2 := Evo.then0 M1 g1
    have q4 := Old.step i5 v3
    have l1 := Sub.trans p9 (Step.up v3)
    have l2 := News.step Z0 v3
    have Z2 := Sl.step Z1 v3
    have s8 := MO.step0 M2 v3
    have g3 := Sl.step g0 v3
    have a5 := MO.step0 M3 v3
    refine o_call 53 #[(.pointer (some ⟨z4, 0, none⟩)), (.string a4), (.int .i64 ((lget l z0).Mode)), (.slice z2 ((lget l z0).Data).length z3)] rfl (x_call Tryz.call53 (by rw []; kernel_rfl)) (simfs_FS_Write_w (X := s7) (f_ := v5) (p := a4) (mode := (lget l z0).Mode) (b := (lget l z0).Data) q4 (MO.re s8 (Wr.self _ _ (Sub.refl _))) d9 u6 g3 hp) ?_
    rintro _ C8 ⟨l3, y5, hp, a6, g4, z6, rfl, s9, l4⟩
    have rm := RB.mono (F' := y9) (Step.evo z6) (Nat.le_trans (Nat.le_of_eq t2.symm) (RB.size l0)) (Wr.self _ _ (Sub.refl _))
    refine ⟨fun _ => rm, ?_⟩
    have D4 : Wr y9 s6.heap.size g4 := Wr.trans s9.wr (Wr.self _ _ (Sub.refl _)) (Nat.le_trans (Nat.le_of_eq t2.symm) (RB.size l0))
    have a7 := MO.re s9 (Wr.trans s9.wr s8.wr g2.size)
    have M4 := Ap.grow s9.wr (Ap.symm a0) (MO.old a5) (Nat.le_refl _)
    replace hp := hp l4
    refine r_ready [9] (by kernel_rfl) rfl (all_cons ⟨_, _, _, _, _, _, rfl, ?_⟩ all_nil)
    refine o_pv (.int .i64 y5) rfl (by kernel_rfl) ?_
    refine ⟨fun h => absurd h (by decide), ?_⟩
    refine r_done (by kernel_rfl) ?_
    refine then_normal (N7 _ _ _ _ (sr (fun _ M5 => pv (.int .i64 y5) ?_)))
    refine pv (.bool (!decide (y5 = (0 : Int)))) ?_
    refine nt M5 ?_
    refine cond_nd (y5 = (0 : Int)) (by kernel_rfl) (fun g5 => ?_) (fun g5 => ?_)
    ·
     replace hp := hp.1 g5
     refine sr (fun _ M6 => pv (.int .i64 y5) ?_)
     refine pv (.int .i64 y5) ?_
     refine nt M6 (wp_ret (blk_ret (then_ret (then_ret (then_ret (blk_ret (then_ret ?_)))))))
     have M7 := Evo.thenW g2 (Step.evo z6) s8.wr
     have Z3 := Sub.trans l1 (Step.up z6)
     have Z4 := News.step l2 z6
     refine end_ret hQ (.int .i64 y5) (by kernel_rfl) ?_
     exact ⟨l3, y5, hp, a6, g4, step_of M7 m7 Z3 Z4, rfl, a7, l4⟩
    ·
     replace hp := hp.2 g5
     refine wp_skip (blk_normal ?_)
     have M8 := Evo.thenW g2 (Step.evo z6) s8.wr
     have i6 := Old.step q4 z6
     have Z5 := Sub.trans l1 (Step.up z6)
     have Z6 := News.step l2 z6
     have Z7 := Sl.step Z2 z6
     have M9 := MO.step a5 z6 (Ap.symm a0)
     refine then_normal (d5 _ _ _ ⟨[], fit_mk (fun _ _ => rfl) (by kernel_rfl) vs_nil, ?_⟩)
     exact ⟨a6, l3, N4, g4, N5, rfl, M8, i6, Z5, Z6, Z7, a7, M9, (Ap.symm M4), hp⟩
  ·
   rintro _ v1 C9 ⟨y1, u3, u4, t9, s0, rfl, L0, i7, Z8, Z9, Y0, L1, L2, L3, Y1⟩
   replace hp := b1 u3 u4 Y1
   refine then_normal (U0 _ _ _ _ (reg_ ?_))
   obtain ⟨a8, hp⟩ := hp
   refine pw (.int .i64 (z0 + (1 : Int))) (x_add2 (k := .i64) (a := z0) (b := (1 : Int)) (z0 + (1 : Int)) (by kernel_rfl) (by kernel_rfl) (wrap_inR a8)) ?_
   refine pv (.int .i64 (z0 + (1 : Int))) ?_
   refine nil_ (then_normal (b0 _ _ _ ⟨_, [(19, (.int .i64 (z0 + (1 : Int))))], hp.2, fit_mk (AgB.nest (AgB.look (AgB.mix _ _ _) (by kernel_rfl)) (by kernel_rfl) (by kernel_rfl)) (by kernel_rfl) (vs_cons (by kernel_rfl) vs_nil), ?_⟩))
   exact ⟨y1, (z0 + (1 : Int)), u3, u4, t9, s0, rfl, rfl, L0, i7, Z8, Z9, Y0, L1, L2, L3, a8, hp.1⟩
 ·
  replace hp := hp.2 q8
  refine wp_exit ?_
  refine then_exit (then_exit (blk_exit (then_normal (G7 _ _ _ _ (seq_ (fun _ L4 => sr (fun _ L5 => pv (.pointer (some ⟨z4, 0, none⟩)) ?_)))))))
  refine sq (o_call 55 #[(.pointer (some ⟨z4, 0, none⟩))] rfl (x_call Tryz.call55 (by kernel_rfl)) (simfs_FS_Sync_w (X := z7) (f_ := v5) t5 (MO.re t6 (Wr.self _ _ (Sub.refl _))) hp) ?_)
  rintro _ B0 ⟨l5, y6, hp, a9, L6, y7, rfl, g6, l6⟩
  have e0 := MO.re g6 (Wr.trans g6.wr t6.wr u1.size)
  have L7 := Ap.grow g6.wr (Ap.symm u2) (MO.old q7) (Nat.le_refl _)
  replace hp := hp l6
  refine pv (.int .i64 y6) ?_
  refine nt L5 (sr (fun _ L8 => pv (.int .i64 y6) ?_))
  refine pv (.bool (!decide (y6 = (0 : Int)))) ?_
  refine nt L8 ?_
  refine cond_nd (y6 = (0 : Int)) (by kernel_rfl) (fun g7 => ?_) (fun g7 => ?_)
  ·
   replace hp := hp.1 g7
   refine sr (fun _ L9 => pv (.int .i64 y6) ?_)
   refine pv (.int .i64 y6) ?_
   refine nt L9 (wp_ret (then_ret ?_))
   have K0 := Evo.thenW u1 (Step.evo y7) t6.wr
   have Y2 := Sub.trans r5 (Step.up y7)
   have Y3 := News.step r6 y7
   refine end_ret hQ (.int .i64 y6) (by kernel_rfl) ?_
   exact ⟨l5, y6, hp, a9, L6, step_of K0 m7 Y2 Y3, rfl, e0, l6⟩
  ·
   replace hp := hp.2 g7
   refine wp_skip (then_normal (L4 _ _ _ _ (seq_ (fun _ K1 => sr (fun _ K2 => pv (.pointer (some ⟨z4, 0, none⟩)) ?_)))))
   refine pv (.string dir) ?_
   obtain ⟨e1, hp⟩ := hp
   refine pw (.string (dir ++ (ByteArray.mk #[47, 110, 111, 116, 101]))) (x_cat (by kernel_rfl) (by kernel_rfl) e1) ?_
   have K3 := Evo.thenW u1 (Step.evo y7) t6.wr
   have q5 := Old.step t5 y7
   have Y4 := Sub.trans r5 (Step.up y7)
   have Y5 := News.step r6 y7
   have e2 := MO.step q7 y7 (Ap.symm u2)
   refine sq (o_call 56 #[(.pointer (some ⟨r3, 0, none⟩))] rfl (x_call Tryz.call56 (by kernel_rfl)) (codec_Enc_Bytes_w (X := a9) (e := v9) q5 (MO.re e2 (Wr.self _ _ (Sub.refl _))) hp) ?_)
   rintro _ B1 ⟨B2, e3, hp, K4, B3, Y6, Y7, t4, rfl, B4, l7⟩
   replace hp := hp (Sl.len l7)
   have g8 := Evo.thenW K3 (Step.evo t4) e2.wr
   have q6 := Old.step q5 t4
   have l8 := Sub.trans Y4 (Step.up t4)
   have l9 := News.step Y5 t4
   have r0 := MO.step e0 t4 (Ap.symm L7)
   refine sq (o_call 53 #[(.pointer (some ⟨z4, 0, none⟩)), (.string (dir ++ (ByteArray.mk #[47, 110, 111, 116, 101]))), (.int .i64 (1 : Int)), (.slice Y6 e3.length Y7)] rfl (x_call Tryz.call53 (by kernel_rfl)) (simfs_FS_Write_w (X := K4) (f_ := l5) (p := dir ++ (ByteArray.mk #[47, 110, 111, 116, 101])) (mode := (1 : Int)) (b := e3) q6 (MO.re r0 (Wr.self _ _ (Sub.refl _))) e1 (by decide : inR .i64 (1 : Int)) l7 hp) ?_)
   rintro _ B5 ⟨m0, y8, hp, e4, K5, v4, rfl, e5, m1⟩
   have r1 := MO.re e5 (Wr.trans e5.wr r0.wr g8.size)
   replace hp := hp m1
   refine pv (.int .i64 y8) ?_
   refine nt K2 (sr (fun _ K6 => pv (.int .i64 y8) ?_))
   refine pv (.bool (!decide (y8 = (0 : Int)))) ?_
   refine nt K6 ?_
   refine cond_nd (y8 = (0 : Int)) (by kernel_rfl) (fun g9 => ?_) (fun g9 => ?_)
   ·
    replace hp := hp.1 g9
    refine sr (fun _ K7 => pv (.int .i64 y8) ?_)
    refine pv (.int .i64 y8) ?_
    refine nt K7 (wp_ret (then_ret ?_))
    have K8 := Evo.thenW g8 (Step.evo v4) r0.wr
    have Y8 := Sub.trans l8 (Step.up v4)
    have Y9 := News.step l9 v4
    refine end_ret hQ (.int .i64 y8) (by kernel_rfl) ?_
    exact ⟨m0, y8, hp, e4, K5, step_of K8 m7 Y8 Y9, rfl, r1, m1⟩
   ·
    replace hp := hp.2 g9
    refine wp_skip (then_normal (K1 _ _ _ _ (sr (fun _ K9 => pv (.pointer (some ⟨z4, 0, none⟩)) ?_))))
    have e6 := Evo.thenW g8 (Step.evo v4) r0.wr
    have i9 := Old.step q6 v4
    have V0 := Sub.trans l8 (Step.up v4)
    have V1 := News.step l9 v4
    refine sq (o_call 55 #[(.pointer (some ⟨z4, 0, none⟩))] rfl (x_call Tryz.call55 (by kernel_rfl)) (simfs_FS_Sync_w (X := e4) (f_ := m0) i9 (MO.re r1 (Wr.self _ _ (Sub.refl _))) hp) ?_)
    rintro _ B6 ⟨V2, d0, hp, J0, J1, d1, rfl, e7, m2⟩
    have J2 := MO.re e7 (Wr.trans e7.wr r1.wr e6.size)
    replace hp := hp m2
    refine pv (.int .i64 d0) ?_
    refine nt K9 (wp_ret ?_)
    have J3 := Evo.thenW e6 (Step.evo d1) r1.wr
    have V3 := Sub.trans V0 (Step.up d1)
    have V4 := News.step V1 d1
    refine end_ret hQ (.int .i64 d0) (by kernel_rfl) ?_
    exact ⟨V2, d0, hp, J0, J1, step_of J3 m7 V3 V4, rfl, J2, m2⟩
def journal_Do_p (f_ : S_simfs_FS) (dir : ByteArray) (l : (List S_journal_Change)) (Q : S_simfs_FS → Int → Prop) : Prop :=
 ((dir.size ≤ maxLen) → ((l.length ≤ 9223372036854775807) → (journal_Check_p dir l (fun (z6 : Int) => ((inR .i64 z6) → (((¬ (z6 = (0 : Int))) → Q f_ z6) ∧ ((z6 = (0 : Int)) → (journal_Recover_p f_ dir (fun (z9 : S_simfs_FS) (z7 : Int) => ((inR .i64 z7) → (((¬ (z7 = (0 : Int))) → Q z9 z7) ∧ ((z7 = (0 : Int)) → (journal_ways_p z9 dir l (fun (y0 : S_simfs_FS) (y5 : Bool) => ((((!y5) = true) → Q y0 (11 : Int)) ∧ (((!y5) = false) → (journal_stage_p y0 dir l (fun (z2 : S_simfs_FS) (z0 : Int) => ((inR .i64 z0) → (((¬ (z0 = (0 : Int))) → (∃ z3 : Bool → S_simfs_FS → Prop, (∀ (z4 : Bool) (z5 : S_simfs_FS), z3 z4 z5 → (((z4 = true) → Q z5 (13 : Int)) ∧ ((z4 = false) → Q z5 z0))) ∧ (((z0 = (14 : Int)) → (journal_tidy_p z2 dir (fun (y3 : S_simfs_FS) (y1 : Int) => ((inR .i64 y1) → (z3 (decide (y1 = (13 : Int))) y3))))) ∧ ((¬ (z0 = (14 : Int))) → (z3 false z2))))) ∧ ((z0 = (0 : Int)) → (journal_finish_p z2 dir l (fun (z8 : S_simfs_FS) (z1 : Int) => ((inR .i64 z1) → (((¬ (z1 = (0 : Int))) → Q z8 z1) ∧ ((z1 = (0 : Int)) → (journal_tidy_p z8 dir (fun (y4 : S_simfs_FS) (y2 : Int) => ((inR .i64 y2) → Q y4 y2)))))))))))))))))))))))))))))
set_option maxRecDepth 20000 in
set_option maxHeartbeats 4000000 in
theorem journal_Do_w {X : List Nat} {w : World} {f_ : S_simfs_FS} {dir : ByteArray} {l : (List S_journal_Change)} {z0 : Nat} {z2 : List Nat} {z4 : Option Addr} {z5 : Nat} {Q : S_simfs_FS → Int → Prop} (m2 : Old X w) (u2 : MO o_simfs_FS 62 z2 w.heap.size X w z2 z0 f_) (z1 : dir.size ≤ maxLen) (s3 : Sl r_journal_Change X w z4 z5 l) (hp : journal_Do_p f_ dir l Q) :
  Calls Tryz.prog 12 #[(.pointer (some ⟨z0, 0, none⟩)), (.string dir), (.slice z4 l.length z5)] w (Ret fun v w' => ∃ (m3 : S_simfs_FS) (g6 : Int), Q m3 g6 ∧ ∃ (X' : List Nat) (m4 : List Nat), Step X w z2 X' w' ∧ v = (.int .i64 g6) ∧ MO o_simfs_FS 62 z2 w.heap.size X' w' m4 z0 m3 ∧ inR .i64 g6) := by
 have hXo := m2
 have E0 : Evo z2 w w := RB.refl _ _ _
 have hS : Sub X X := Sub.refl _
 have hN : News X w X w := News.refl _ _
 have y8 : Sub z2 X := MO.mem u2
 unfold journal_Do_p at hp
 refine enter_ Tryz.func12 rfl 53 [(0, (.pointer (some ⟨z0, 0, none⟩))), (1, (.string dir)), (2, (.slice z4 l.length z5))] (by kernel_rfl) (fun Qe hQ => ?_)
 replace hp := hp z1 (Sl.len s3)
 refine sr (fun _ o8 => pv (.int .i64 (0 : Int)) ?_)
 refine nt o8 (seq_ (fun _ o9 => sr (fun _ m5 => pv (.string dir) ?_)))
 refine pv (.slice z4 l.length z5) ?_
 refine sq (o_call 23 #[(.string dir), (.slice z4 l.length z5)] rfl (x_call Tryz.call23 (by kernel_rfl)) (journal_Check_w (X := []) (dir := dir) (l := l) (Old.nil _) z1 (Sl.less s3 (Sub.nil _)) hp) ?_)
 rintro _ c4 ⟨y1, hp, s4, rfl, s5⟩
 have y2 := Step.of0 X s4
 replace hp := hp s5
 refine pv (.int .i64 y1) ?_
 refine nt m5 (sr (fun _ m6 => pv (.int .i64 y1) ?_))
 refine pv (.bool (!decide (y1 = (0 : Int)))) ?_
 refine nt m6 ?_
 refine cond_nd (y1 = (0 : Int)) (by kernel_rfl) (fun s6 => ?_) (fun s6 => ?_)
 ·
  replace hp := hp.1 s6
  refine sr (fun _ m7 => pv (.int .i64 y1) ?_)
  refine pv (.int .i64 y1) ?_
  refine nt m7 (wp_ret (then_ret ?_))
  have k5 := MO.step0 u2 y2
  have m8 := Evo.then0 E0 s4
  have g7 := Sub.trans hS (Step.up y2)
  have g8 := News.step hN y2
  refine end_ret hQ (.int .i64 y1) (by kernel_rfl) ?_
  exact ⟨f_, y1, hp, X, z2, step_of m8 y8 g7 g8, rfl, k5, s5⟩
 ·
  replace hp := hp.2 s6
  refine wp_skip (then_normal (o9 _ _ _ _ (seq_ (fun _ m9 => sr (fun _ n0 => pv (.pointer (some ⟨z0, 0, none⟩)) ?_)))))
  refine pv (.string dir) ?_
  have g9 := Sl.step s3 y2
  have y7 := MO.step0 u2 y2
  have t1 := Old.step hXo y2
  have s7 := Evo.then0 E0 s4
  have s8 := Sub.trans hS (Step.up y2)
  have s9 := News.step hN y2
  refine sq (o_call 18 #[(.pointer (some ⟨z0, 0, none⟩)), (.string dir)] rfl (x_call Tryz.call18 (by kernel_rfl)) (journal_Recover_w (X := X) (f_ := f_) (dir := dir) t1 (MO.re y7 (Wr.self _ _ (Sub.refl _))) z1 hp) ?_)
  rintro _ c5 ⟨r0, y3, hp, g0, n1, y4, rfl, g1, r1⟩
  have v8 := MO.re g1 (Wr.trans g1.wr y7.wr s7.size)
  replace hp := hp r1
  refine pv (.int .i64 y3) ?_
  refine nt n0 (sr (fun _ n2 => pv (.int .i64 y3) ?_))
  refine pv (.bool (!decide (y3 = (0 : Int)))) ?_
  refine nt n2 ?_
  refine cond_nd (y3 = (0 : Int)) (by kernel_rfl) (fun r2 => ?_) (fun r2 => ?_)
  ·
   replace hp := hp.1 r2
   refine sr (fun _ n3 => pv (.int .i64 y3) ?_)
   refine pv (.int .i64 y3) ?_
   refine nt n3 (wp_ret (then_ret ?_))
   have n4 := Evo.thenW s7 (Step.evo y4) y7.wr
   have d0 := Sub.trans s8 (Step.up y4)
   have d1 := News.step s9 y4
   refine end_ret hQ (.int .i64 y3) (by kernel_rfl) ?_
   exact ⟨r0, y3, hp, g0, n1, step_of n4 y8 d0 d1, rfl, v8, r1⟩
  ·
   replace hp := hp.2 r2
   refine wp_skip (then_normal (m9 _ _ _ _ (seq_ (fun _ n5 => sr (fun _ n6 => pv (.pointer (some ⟨z0, 0, none⟩)) ?_)))))
   refine pv (.string dir) ?_
   refine pv (.slice z4 l.length z5) ?_
   have r3 := Sl.step g9 y4
   have t2 := Old.step t1 y4
   have r4 := Evo.thenW s7 (Step.evo y4) y7.wr
   have r5 := Sub.trans s8 (Step.up y4)
   have r6 := News.step s9 y4
   refine sq (o_call 27 #[(.pointer (some ⟨z0, 0, none⟩)), (.string dir), (.slice z4 l.length z5)] rfl (x_call Tryz.call27 (by kernel_rfl)) (journal_ways_w (X := g0) (f_ := r0) (dir := dir) (l := l) t2 (MO.re v8 (Wr.self _ _ (Sub.refl _))) z1 r3 hp) ?_)
   rintro _ c6 ⟨r7, g2, hp, g3, n7, y5, rfl, g4⟩
   have v9 := MO.re g4 (Wr.trans g4.wr v8.wr r4.size)
   refine pv (.bool (!g2)) ?_
   refine nt n6 ?_
   refine cond_b (!g2) (by kernel_rfl) (fun r8 => ?_) (fun r8 => ?_)
   ·
    replace hp := hp.1 r8
    refine sr (fun _ n8 => pv (.int .i64 (11 : Int)) ?_)
    refine nt n8 (wp_ret (then_ret ?_))
    have n9 := Evo.thenW r4 (Step.evo y5) v8.wr
    have d2 := Sub.trans r5 (Step.up y5)
    have d3 := News.step r6 y5
    refine end_ret hQ (.int .i64 (11 : Int)) (by kernel_rfl) ?_
    exact ⟨r7, (11 : Int), hp, g3, n7, step_of n9 y8 d2 d3, rfl, v9, (by decide : inR .i64 (11 : Int))⟩
   ·
    replace hp := hp.2 r8
    refine wp_skip (then_normal (n5 _ _ _ _ (seq_ (fun _ o0 => sr (fun _ o1 => pv (.pointer (some ⟨z0, 0, none⟩)) ?_)))))
    refine pv (.string dir) ?_
    refine pv (.slice z4 l.length z5) ?_
    have r9 := Sl.step r3 y5
    have v2 := Old.step t2 y5
    have q0 := Evo.thenW r4 (Step.evo y5) v8.wr
    have q1 := Sub.trans r5 (Step.up y5)
    have q2 := News.step r6 y5
    refine sq (o_call 28 #[(.pointer (some ⟨z0, 0, none⟩)), (.string dir), (.slice z4 l.length z5)] rfl (x_call Tryz.call28 (by kernel_rfl)) (journal_stage_w (X := g3) (f_ := r7) (dir := dir) (l := l) v2 (MO.re v9 (Wr.self _ _ (Sub.refl _))) z1 r9 hp) ?_)
    rintro _ c7 ⟨u3, z3, hp, q3, o2, z9, rfl, g5, q4⟩
    have y6 := MO.re g5 (Wr.trans g5.wr v9.wr q0.size)
    replace hp := hp q4
    refine pv (.int .i64 z3) ?_
    refine nt o1 (sr (fun _ o3 => pv (.int .i64 z3) ?_))
    refine pv (.bool (!decide (z3 = (0 : Int)))) ?_
    refine nt o3 ?_
    refine cond_nd (z3 = (0 : Int)) (by kernel_rfl) (fun q5 => ?_) (fun q5 => ?_)
    ·
     replace hp := hp.1 q5
     refine seq_ (fun _ o4 => seq_ (fun _ o5 => ?_))
     have y9 := Old.step v2 z9
     have u4 := Evo.thenW q0 (Step.evo z9) v9.wr
     have t3 := Sub.trans q1 (Step.up z9)
     have t4 := News.step q2 z9
     obtain ⟨d4, k6, hp⟩ := hp
     refine ground_ ?_
     refine join_ 4380866641920 (fun lq v0 => ∃ (z7 : List Nat) (v1 : Bool) (y0 : S_simfs_FS) (v3 : List Nat), (lq = [(41, (.bool v1))]) ∧ (Evo z2 w v0) ∧ (Old z7 v0) ∧ (Sub X z7) ∧ (News X w z7 v0) ∧ (MO o_simfs_FS 62 z2 w.heap.size z7 v0 v3 z0 y0) ∧ (d4 v1 y0)) (fun o7 t5 => ?_) ?_
     ·
      refine reg_ (pv (.int .i64 z3) ?_)
      by_cases v4 : z3 = (14 : Int)
      ·
       replace hp := hp.1 v4
       refine pw (.bool true) (x_dt (p := z3 = (14 : Int)) (by kernel_rfl) v4) ?_
       refine pv (.bool true) ?_
       refine pv (.pointer (some ⟨z0, 0, none⟩)) ?_
       refine pv (.string dir) ?_
       refine sq (o_call 29 #[(.pointer (some ⟨z0, 0, none⟩)), (.string dir)] (by kernel_rfl) (x_call Tryz.call29 (by kernel_rfl)) (journal_tidy_w (X := q3) (f_ := u3) (dir := dir) y9 (MO.re y6 (Wr.self _ _ (Sub.refl _))) z1 hp) ?_)
       rintro _ c0 ⟨k7, v5, hp, d5, d6, v6, rfl, q6, k8⟩
       have d7 := MO.re q6 (Wr.trans q6.wr y6.wr u4.size)
       replace hp := hp k8
       refine pv (.bool (decide (v5 = (13 : Int)))) ?_
       refine pv (.bool (decide (v5 = (13 : Int)))) ?_
       refine nil_ ?_
       have d8 := Evo.thenW u4 (Step.evo v6) y6.wr
       have q7 := Old.step y9 v6
       have k9 := Sub.trans t3 (Step.up v6)
       have j0 := News.step t4 v6
       refine then_normal (t5 _ _ _ ⟨[(41, (.bool (decide (v5 = (13 : Int)))))], fit_mk (fun _ _ => rfl) (by kernel_rfl) (vs_cons (by kernel_rfl) vs_nil), ?_⟩)
       exact ⟨d5, (decide (v5 = (13 : Int))), k7, d6, rfl, d8, q7, k9, j0, d7, hp⟩
      ·
       replace hp := hp.2 v4
       refine pw (.bool false) (x_df (p := z3 = (14 : Int)) (by kernel_rfl) v4) ?_
       refine pv (.bool false) ?_
       refine no ?_
       refine no ?_
       refine no ?_
       refine no ?_
       refine pv (.bool false) ?_
       refine nil_ (then_normal (t5 _ _ _ ⟨[(41, (.bool false))], fit_mk (fun _ _ => rfl) (by kernel_rfl) (vs_cons (by kernel_rfl) vs_nil), ?_⟩))
       exact ⟨q3, false, u3, o2, rfl, u4, y9, t3, t4, y6, hp⟩
     ·
      rintro _ v0 c1 ⟨z7, v1, y0, v3, rfl, q8, o6, t6, t7, q9, j1⟩
      replace hp := k6 v1 y0 j1
      refine then_normal (o5 _ _ _ _ ?_)
      refine cond_b v1 (by kernel_rfl) (fun u5 => ?_) (fun u5 => ?_)
      ·
       replace hp := hp.1 u5
       refine sr (fun _ d9 => pv (.int .i64 (13 : Int)) ?_)
       refine nt d9 (wp_ret (then_ret (then_ret ?_)))
       refine end_ret hQ (.int .i64 (13 : Int)) (by kernel_rfl) ?_
       exact ⟨y0, (13 : Int), hp, z7, v3, step_of q8 y8 t6 t7, rfl, q9, (by decide : inR .i64 (13 : Int))⟩
      ·
       replace hp := hp.2 u5
       refine wp_skip (then_normal (o4 _ _ _ _ (sr (fun _ l0 => pv (.int .i64 z3) ?_))))
       refine pv (.int .i64 z3) ?_
       refine nt l0 (wp_ret (then_ret ?_))
       refine end_ret hQ (.int .i64 z3) (by kernel_rfl) ?_
       exact ⟨y0, z3, hp, z7, v3, step_of q8 y8 t6 t7, rfl, q9, q4⟩
    ·
     replace hp := hp.2 q5
     refine wp_skip (then_normal (o0 _ _ _ _ (seq_ (fun _ l1 => sr (fun _ l2 => pv (.pointer (some ⟨z0, 0, none⟩)) ?_)))))
     refine pv (.string dir) ?_
     refine pv (.slice z4 l.length z5) ?_
     have j2 := Sl.step r9 z9
     have u1 := Old.step v2 z9
     have u6 := Evo.thenW q0 (Step.evo z9) v9.wr
     have t8 := Sub.trans q1 (Step.up z9)
     have t9 := News.step q2 z9
     refine sq (o_call 30 #[(.pointer (some ⟨z0, 0, none⟩)), (.string dir), (.slice z4 l.length z5)] rfl (x_call Tryz.call30 (by kernel_rfl)) (journal_finish_w (X := q3) (f_ := u3) (dir := dir) (l := l) u1 (MO.re y6 (Wr.self _ _ (Sub.refl _))) z1 j2 hp) ?_)
     rintro _ c2 ⟨s0, z6, hp, k0, l3, z8, rfl, k1, s1⟩
     have v7 := MO.re k1 (Wr.trans k1.wr y6.wr u6.size)
     replace hp := hp s1
     refine pv (.int .i64 z6) ?_
     refine nt l2 (sr (fun _ l4 => pv (.int .i64 z6) ?_))
     refine pv (.bool (!decide (z6 = (0 : Int)))) ?_
     refine nt l4 ?_
     refine cond_nd (z6 = (0 : Int)) (by kernel_rfl) (fun u7 => ?_) (fun u7 => ?_)
     ·
      replace hp := hp.1 u7
      refine sr (fun _ l5 => pv (.int .i64 z6) ?_)
      refine pv (.int .i64 z6) ?_
      refine nt l5 (wp_ret (then_ret ?_))
      have l6 := Evo.thenW u6 (Step.evo z8) y6.wr
      have j3 := Sub.trans t8 (Step.up z8)
      have j4 := News.step t9 z8
      refine end_ret hQ (.int .i64 z6) (by kernel_rfl) ?_
      exact ⟨s0, z6, hp, k0, l3, step_of l6 y8 j3 j4, rfl, v7, s1⟩
     ·
      replace hp := hp.2 u7
      refine wp_skip (then_normal (l1 _ _ _ _ (sr (fun _ l7 => pv (.pointer (some ⟨z0, 0, none⟩)) ?_))))
      refine pv (.string dir) ?_
      have k2 := Old.step u1 z8
      have k3 := Evo.thenW u6 (Step.evo z8) y6.wr
      have j5 := Sub.trans t8 (Step.up z8)
      have j6 := News.step t9 z8
      refine sq (o_call 29 #[(.pointer (some ⟨z0, 0, none⟩)), (.string dir)] rfl (x_call Tryz.call29 (by kernel_rfl)) (journal_tidy_w (X := k0) (f_ := s0) (dir := dir) k2 (MO.re v7 (Wr.self _ _ (Sub.refl _))) z1 hp) ?_)
      rintro _ c3 ⟨j7, u9, hp, l8, l9, t0, rfl, k4, s2⟩
      have m0 := MO.re k4 (Wr.trans k4.wr v7.wr k3.size)
      replace hp := hp s2
      refine pv (.int .i64 u9) ?_
      refine nt l7 (wp_ret ?_)
      have m1 := Evo.thenW k3 (Step.evo t0) v7.wr
      have j8 := Sub.trans j5 (Step.up t0)
      have j9 := News.step j6 t0
      refine end_ret hQ (.int .i64 u9) (by kernel_rfl) ?_
      exact ⟨j7, u9, hp, l8, l9, step_of m1 y8 j8 j9, rfl, m0, s2⟩
def rectolaw6_known_p (Q : Bool → Prop) : Prop :=
 (simfs_New_p (0 : Int) (fun (y3 : S_simfs_FS) => (journal_Do_p y3 (ByteArray.mk #[46, 106]) ([(S_journal_Change.mk (ByteArray.mk #[97]) false (1 : Int) ([(120 : Int)])), (S_journal_Change.mk (ByteArray.mk #[98]) true (0 : Int) ([] : List Int))]) (fun (z9 : S_simfs_FS) (z1 : Int) => ((inR .i64 z1) → (simfs_FS_Read_p z9 (ByteArray.mk #[97]) (fun (y0 : S_simfs_FS) (z5 : (List Int)) (z2 : Int) => ((z5.length ≤ 9223372036854775807) → ((inR .i64 z2) → (journal_Idle_p y0 (ByteArray.mk #[46, 106]) (fun (y1 : S_simfs_FS) (z8 : Bool) (z4 : Int) => ((inR .i64 z4) → (journal_Recover_p y1 (ByteArray.mk #[46, 106]) (fun (y2 : S_simfs_FS) (z3 : Int) => ((inR .i64 z3) → (∃ z0 : Bool → Prop, (∀ (z6 : Bool), z0 z6 → Q z6) ∧ ((inR .i64 (z1 + z2)) ∧ ((inR .i64 ((z1 + z2) + z4)) ∧ ((inR .i64 (((z1 + z2) + z4) + z3)) ∧ ((((((z1 + z2) + z4) + z3) = (0 : Int)) → ((((strOfNums z5 : ByteArray) = (ByteArray.mk #[120])) → (((z8 = true) → (journal_Check_p (ByteArray.mk #[97, 47]) ([(S_journal_Change.mk (ByteArray.mk #[]) false (0 : Int) ([] : List Int))]) (fun (z7 : Int) => ((inR .i64 z7) → (z0 (decide (z7 = (5 : Int)))))))) ∧ ((¬ (z8 = true)) → (z0 false)))) ∧ ((¬ ((strOfNums z5 : ByteArray) = (ByteArray.mk #[120]))) → (z0 false)))) ∧ ((¬ ((((z1 + z2) + z4) + z3) = (0 : Int))) → (z0 false))))))))))))))))))))))
set_option maxRecDepth 20000 in
set_option maxHeartbeats 4000000 in
theorem rectolaw6_known_w {X : List Nat} {w : World} {Q : Bool → Prop} (u3 : Old X w) (hp : rectolaw6_known_p Q) :
  Calls Tryz.prog 7 #[] w (Ret fun v w' => ∃ (g3 : Bool), Q g3 ∧ Evo [] w w' ∧ v = (.bool g3)) := by
 have hXo := u3
 have E0 : Evo [] w w := RB.refl _ _ _
 have hS : Sub X X := Sub.refl _
 unfold rectolaw6_known_p at hp
 refine enter_ Tryz.func7 rfl 52 [] (by kernel_rfl) (fun Qe hQ => ?_)
 refine sr (fun _ l7 => pv (.bool false) ?_)
 refine nt l7 (sr (fun _ l8 => ?_))
 refine sq (o_call 11 #[(.int .i64 (0 : Int))] rfl (x_call Tryz.call11 (by kernel_rfl)) (simfs_New_w (X := X) (quota := (0 : Int)) hXo (by decide : inR .i64 (0 : Int)) hp) ?_)
 rintro _ o0 ⟨l9, hp, m0, z3, m9, q8, rfl, r3⟩
 have r4 := MO.re r3 (Wr.trans r3.wr (Wr.nil [] _) E0.size)
 refine pv (.pointer (some ⟨z3, 0, none⟩)) ?_
 refine nt l8 (seq_ (fun _ g4 => sr (fun _ g5 => pv (.pointer (some ⟨z3, 0, none⟩)) ?_)))
 refine pw (.bool false) (x_pnil_eq (a := ⟨z3, 0, none⟩) Tryz.underlying30 (by kernel_rfl) (by kernel_rfl)) ?_
 refine nt g5 ?_
 refine cond_f (by kernel_rfl) ?_
 refine wp_skip (then_normal (g4 _ _ _ _ (sr (fun _ g6 => pv (.pointer (some ⟨z3, 0, none⟩)) ?_))))
 have r5 := Evo.then0 E0 (Step.evo q8)
 refine sq (o_rowX (R := (rInt .u8)) [(.int .u8 (120 : Int))] [(120 : Int)] 5 1 (X := m0) (B := w.heap.size) r5.size rfl (by kernel_rfl) (Flat.cons (cs := [(.int .u8 (120 : Int))]) (rInt_mk (by decide : inR .u8 (120 : Int))) Flat.nil) rfl (by decide) ?_)
 intro v3 n0 n1 v4 u4 g7
 have r6 := g7 _ (MO.old r4)
 have g8 := MO.step0 r4 v4
 have q9 := Sub.trans (Sub.trans hS (Step.up q8)) (Step.up v4)
 have k0 := OS.apold u4 u3
 refine sq (o_mark rfl Tryz.underlying32 Tryz.underlying5 u4 (by kernel_rfl) ?_)
 intro n2 g9 v5 r7 d0 u5
 have s2 := Old.step (Old.step (Old.step hXo q8) v4) v5
 have d1 := Evo.thenW (Evo.then0 r5 (Step.evo v4)) (Step.evo v5) u4.2.2
 have k1 := Sub.trans q9 (Step.up v5)
 have r8 := MO.step g8 v5 r6
 have k2 : Ap X [v3] := k0
 refine pv (.agg #[(.string (ByteArray.mk #[97])), (.bool false), (.int .i64 (1 : Int)), (.slice (some ⟨v3, 0, none⟩) 1 1)]) ?_
 refine pv (.agg #[(.string (ByteArray.mk #[98])), (.bool true), (.int .i64 (0 : Int)), (.slice none 0 0)]) ?_
 have r9 := MO.less r8 r7 (u5 _ r6 (MO.mem r8))
 have q0 := d1
 refine sq (o_rowX (R := r_journal_Change) [(.string (ByteArray.mk #[97])), (.bool false), (.int .i64 (1 : Int)), (.slice (some ⟨v3, 0, none⟩) 1 1), (.string (ByteArray.mk #[98])), (.bool true), (.int .i64 (0 : Int)), (.slice none 0 0)] [(S_journal_Change.mk (ByteArray.mk #[97]) false (1 : Int) ([(120 : Int)])), (S_journal_Change.mk (ByteArray.mk #[98]) true (0 : Int) ([] : List Int))] 34 2 (X := g9) (B := w.heap.size) q0.size rfl (by kernel_rfl) (Flat.cons (cs := [(.string (ByteArray.mk #[97])), (.bool false), (.int .i64 (1 : Int)), (.slice (some ⟨v3, 0, none⟩) 1 1)]) (r_journal_Change_mk (by decide : (ByteArray.mk #[97]).size ≤ maxLen) (by decide : inR .i64 (1 : Int)) d0 rfl) (Flat.cons (cs := [(.string (ByteArray.mk #[98])), (.bool true), (.int .i64 (0 : Int)), (.slice none 0 0)]) (r_journal_Change_mk (by decide : (ByteArray.mk #[98]).size ≤ maxLen) (by decide : inR .i64 (0 : Int)) (Sl.nil) rfl) Flat.nil)) rfl (by decide) ?_)
 intro d2 n3 n4 v6 u6 d3
 have d4 := d3 _ (MO.old r9)
 have k3 := Sub.trans (u5 _ k2 k1) (Step.up v6)
 have s3 := Old.step (Old.less s2 r7) v6
 have d5 := Evo.then0 q0 (Step.evo v6)
 have q1 := MO.step0 r9 v6
 have k4 := OS.apold u6 u3
 obtain ⟨d6, q2, d7, u7⟩ := OS.release u6
 have v7 := Old.less s3 q2
 have q3 := d5
 have k5 := u7 _ k4 k3
 have u9 := MO.less q1 q2 (u7 _ d4 (MO.mem q1))
 refine sq (o_call 12 #[(.pointer (some ⟨z3, 0, none⟩)), (.string (ByteArray.mk #[46, 106])), (.slice (some ⟨d2, 0, none⟩) ([(S_journal_Change.mk (ByteArray.mk #[97]) false (1 : Int) ([(120 : Int)])), (S_journal_Change.mk (ByteArray.mk #[98]) true (0 : Int) ([] : List Int))]).length 2)] rfl (x_call Tryz.call12 (by rw [← show 2 = ([(S_journal_Change.mk (ByteArray.mk #[97]) false (1 : Int) ([(120 : Int)])), (S_journal_Change.mk (ByteArray.mk #[98]) true (0 : Int) ([] : List Int))]).length from u6.1]; kernel_rfl)) (journal_Do_w (X := d6) (f_ := l9) (dir := (ByteArray.mk #[46, 106])) (l := [(S_journal_Change.mk (ByteArray.mk #[97]) false (1 : Int) ([(120 : Int)])), (S_journal_Change.mk (ByteArray.mk #[98]) true (0 : Int) ([] : List Int))]) v7 (MO.re u9 (Wr.self _ _ (Sub.refl _))) (by decide : (ByteArray.mk #[46, 106]).size ≤ maxLen) d7 hp) ?_)
 rintro _ n5 ⟨k6, z1, hp, d8, n6, t0, rfl, q4, k7⟩
 have t1 := MO.re q4 (Wr.trans q4.wr u9.wr q3.size)
 replace hp := hp k7
 refine pv (.int .i64 z1) ?_
 refine nt g6 (sr (fun _ d9 => pv (.pointer (some ⟨z3, 0, none⟩)) ?_))
 have v8 := Old.step v7 t0
 have q5 := Evo.thenW q3 (Step.evo t0) u9.wr
 have k8 := Sub.trans k5 (Step.up t0)
 refine sq (o_call 22 #[(.pointer (some ⟨z3, 0, none⟩)), (.string (ByteArray.mk #[97]))] rfl (x_call Tryz.call22 (by kernel_rfl)) (simfs_FS_Read_w (X := d8) (f_ := k6) (p := (ByteArray.mk #[97])) v8 (MO.re t1 (Wr.self _ _ (Sub.refl _))) (by decide : (ByteArray.mk #[97]).size ≤ maxLen) hp) ?_)
 rintro _ n7 ⟨k9, z5, z0, hp, l0, n8, y0, y1, t2, rfl, q6, t3, j0⟩
 have t4 := MO.re q6 (Wr.trans q6.wr t1.wr q5.size)
 replace hp := hp (Sl.len t3) j0
 refine pv (.tuple #[(.slice y0 z5.length y1), (.int .i64 z0)]) ?_
 refine pv (.slice y0 z5.length y1) ?_
 refine pv (.int .i64 z0) ?_
 refine pv (.slice y0 z5.length y1) ?_
 refine pv (.int .i64 z0) ?_
 refine nt d9 (sr (fun _ l1 => pv (.pointer (some ⟨z3, 0, none⟩)) ?_))
 have v9 := Old.step v8 t2
 have q7 := Evo.thenW q5 (Step.evo t2) t1.wr
 have j1 := Sub.trans k8 (Step.up t2)
 refine sq (o_call 19 #[(.pointer (some ⟨z3, 0, none⟩)), (.string (ByteArray.mk #[46, 106]))] rfl (x_call Tryz.call19 (by kernel_rfl)) (journal_Idle_w (X := l0) (f_ := k9) (dir := (ByteArray.mk #[46, 106])) v9 (MO.re t4 (Wr.self _ _ (Sub.refl _))) (by decide : (ByteArray.mk #[46, 106]).size ≤ maxLen) hp) ?_)
 rintro _ n9 ⟨j2, u1, z2, hp, l2, m1, u2, rfl, t5, s4⟩
 have t6 := MO.re t5 (Wr.trans t5.wr t4.wr q7.size)
 replace hp := hp s4
 refine pv (.tuple #[(.bool u1), (.int .i64 z2)]) ?_
 refine pv (.bool u1) ?_
 refine pv (.int .i64 z2) ?_
 refine pv (.bool u1) ?_
 refine pv (.int .i64 z2) ?_
 refine nt l1 (sr (fun _ j3 => pv (.pointer (some ⟨z3, 0, none⟩)) ?_))
 have y9 := Old.step v9 u2
 have j4 := Evo.thenW q7 (Step.evo u2) t4.wr
 have s5 := Sub.trans j1 (Step.up u2)
 have s6 := Sl.step t3 u2
 refine sq (o_call 18 #[(.pointer (some ⟨z3, 0, none⟩)), (.string (ByteArray.mk #[46, 106]))] rfl (x_call Tryz.call18 (by kernel_rfl)) (journal_Recover_w (X := l2) (f_ := j2) (dir := (ByteArray.mk #[46, 106])) y9 (MO.re t6 (Wr.self _ _ (Sub.refl _))) (by decide : (ByteArray.mk #[46, 106]).size ≤ maxLen) hp) ?_)
 rintro _ m2 ⟨l4, z4, hp, y4, m3, y5, rfl, m4, s7⟩
 replace hp := hp s7
 refine pv (.int .i64 z4) ?_
 refine nt j3 (seq_ (fun _ j5 => ?_))
 have z6 := Old.step y9 y5
 have y2 := Evo.thenW j4 (Step.evo y5) t6.wr
 have z8 := Sub.trans s5 (Step.up y5)
 have s8 := Sl.step s6 y5
 obtain ⟨j6, s9, hp⟩ := hp
 refine ground_ ?_
 refine join_ 4503598553628673 (fun lq v0 => ∃ (v1 : List Nat) (z7 : Bool), (lq = [(0, (.bool z7))]) ∧ (Evo [] w v0) ∧ (Old v1 v0) ∧ (Sub X v1) ∧ (j6 z7)) (fun l5 z9 => ?_) ?_
 ·
  refine reg_ (pv (.int .i64 z1) ?_)
  refine pv (.int .i64 z0) ?_
  obtain ⟨j7, hp⟩ := hp
  refine pw (.int .i64 (z1 + z0)) (x_add2 (k := .i64) (a := z1) (b := z0) (z1 + z0) (by kernel_rfl) (by kernel_rfl) (wrap_inR j7)) ?_
  refine pv (.int .i64 z2) ?_
  obtain ⟨j8, hp⟩ := hp
  refine pw (.int .i64 ((z1 + z0) + z2)) (x_add2 (k := .i64) (a := z1 + z0) (b := z2) ((z1 + z0) + z2) (by kernel_rfl) (by kernel_rfl) (wrap_inR j8)) ?_
  refine pv (.int .i64 z4) ?_
  obtain ⟨j9, hp⟩ := hp
  refine pw (.int .i64 (((z1 + z0) + z2) + z4)) (x_add2 (k := .i64) (a := (z1 + z0) + z2) (b := z4) (((z1 + z0) + z2) + z4) (by kernel_rfl) (by kernel_rfl) (wrap_inR j9)) ?_
  by_cases y6 : (((z1 + z0) + z2) + z4) = (0 : Int)
  ·
   replace hp := hp.1 y6
   refine pw (.bool true) (x_dt (p := (((z1 + z0) + z2) + z4) = (0 : Int)) (by kernel_rfl) y6) ?_
   refine pv (.bool true) ?_
   refine pv (.slice y0 z5.length y1) ?_
   refine pw (.string (strOfNums z5)) (x_b2s_sl (a := y0) (len := z5.length) (c := y1) z5 Tryz.underlying32 Tryz.underlying5 Tryz.underlying9 (by kernel_rfl) rfl s8) ?_
   by_cases y7 : (strOfNums z5 : ByteArray) = (ByteArray.mk #[120])
   ·
    replace hp := hp.1 y7
    refine pw (.bool true) (x_dt (p := (strOfNums z5 : ByteArray) = (ByteArray.mk #[120])) (x_streq (by kernel_rfl) (by kernel_rfl)) y7) ?_
    refine pv (.bool true) ?_
    refine pv (.bool true) ?_
    by_cases y8 : u1 = true
    ·
     replace hp := hp.1 y8
     refine pw (.bool true) (x_bt (by kernel_rfl) y8) ?_
     refine pv (.bool true) ?_
     refine pv (.bool true) ?_
     refine pv (.agg #[(.string (ByteArray.mk #[])), (.bool false), (.int .i64 (0 : Int)), (.slice none 0 0)]) ?_
     refine sq (o_rowX (R := r_journal_Change) [(.string (ByteArray.mk #[])), (.bool false), (.int .i64 (0 : Int)), (.slice none 0 0)] [(S_journal_Change.mk (ByteArray.mk #[]) false (0 : Int) ([] : List Int))] 34 1 (X := y4) (B := w.heap.size) y2.size (by kernel_rfl) (by kernel_rfl) (Flat.cons (cs := [(.string (ByteArray.mk #[])), (.bool false), (.int .i64 (0 : Int)), (.slice none 0 0)]) (r_journal_Change_mk (by decide : (ByteArray.mk #[]).size ≤ maxLen) (by decide : inR .i64 (0 : Int)) (Sl.nil) rfl) Flat.nil) rfl (by decide) ?_)
     intro g0 m5 t7 v2 t8 m6
     refine sq (o_call 23 #[(.string (ByteArray.mk #[97, 47])), (.slice (some ⟨g0, 0, none⟩) ([(S_journal_Change.mk (ByteArray.mk #[]) false (0 : Int) ([] : List Int))]).length 1)] (by kernel_rfl) (x_call Tryz.call23 (by rw [← show 1 = ([(S_journal_Change.mk (ByteArray.mk #[]) false (0 : Int) ([] : List Int))]).length from t8.1]; kernel_rfl)) (journal_Check_w (X := []) (dir := (ByteArray.mk #[97, 47])) (l := [(S_journal_Change.mk (ByteArray.mk #[]) false (0 : Int) ([] : List Int))]) (Old.nil _) (by decide : (ByteArray.mk #[97, 47]).size ≤ maxLen) (OS.rd t8) hp) ?_)
     rintro _ m7 ⟨y3, hp, t9, rfl, r0⟩
     have s0 := Step.of0 t7 t9
     replace hp := hp r0
     refine pv (.bool (decide (y3 = (5 : Int)))) ?_
     refine pv (.bool (decide (y3 = (5 : Int)))) ?_
     refine pv (.bool (decide (y3 = (5 : Int)))) ?_
     refine nil_ ?_
     have g1 := Evo.then0 (Evo.then0 y2 (Step.evo v2)) t9
     have s1 := Old.step (Old.step z6 v2) s0
     have r1 := Sub.trans (Sub.trans z8 (Step.up v2)) (Step.up s0)
     refine then_normal (z9 _ _ _ ⟨[(0, (.bool (decide (y3 = (5 : Int)))))], fit_mk (fun _ _ => rfl) (by kernel_rfl) (vs_cons (by kernel_rfl) vs_nil), ?_⟩)
     exact ⟨t7, (decide (y3 = (5 : Int))), rfl, g1, s1, r1, hp⟩
    ·
     replace hp := hp.2 y8
     refine pw (.bool false) (x_bf (by kernel_rfl) y8) ?_
     refine pv (.bool false) ?_
     refine pv (.bool false) ?_
     refine no ?_
     refine no ?_
     refine no ?_
     refine no ?_
     refine pv (.bool false) ?_
     refine pv (.bool false) ?_
     refine nil_ (then_normal (z9 _ _ _ ⟨[(0, (.bool false))], fit_mk (fun _ _ => rfl) (by kernel_rfl) (vs_cons (by kernel_rfl) vs_nil), ?_⟩))
     exact ⟨y4, false, rfl, y2, z6, z8, hp⟩
   ·
    replace hp := hp.2 y7
    refine pw (.bool false) (x_df (p := (strOfNums z5 : ByteArray) = (ByteArray.mk #[120])) (x_streq (by kernel_rfl) (by kernel_rfl)) y7) ?_
    refine pv (.bool false) ?_
    refine pv (.bool false) ?_
    refine no ?_
    refine pv (.bool false) ?_
    refine pv (.bool false) ?_
    refine no ?_
    refine no ?_
    refine no ?_
    refine no ?_
    refine pv (.bool false) ?_
    refine pv (.bool false) ?_
    refine nil_ (then_normal (z9 _ _ _ ⟨[(0, (.bool false))], fit_mk (fun _ _ => rfl) (by kernel_rfl) (vs_cons (by kernel_rfl) vs_nil), ?_⟩))
    exact ⟨y4, false, rfl, y2, z6, z8, hp⟩
  ·
   replace hp := hp.2 y6
   refine pw (.bool false) (x_df (p := (((z1 + z0) + z2) + z4) = (0 : Int)) (by kernel_rfl) y6) ?_
   refine pv (.bool false) ?_
   refine no ?_
   refine no ?_
   refine no ?_
   refine pv (.bool false) ?_
   refine pv (.bool false) ?_
   refine no ?_
   refine pv (.bool false) ?_
   refine pv (.bool false) ?_
   refine no ?_
   refine no ?_
   refine no ?_
   refine no ?_
   refine pv (.bool false) ?_
   refine pv (.bool false) ?_
   refine nil_ (then_normal (z9 _ _ _ ⟨[(0, (.bool false))], fit_mk (fun _ _ => rfl) (by kernel_rfl) (vs_cons (by kernel_rfl) vs_nil), ?_⟩))
   exact ⟨y4, false, rfl, y2, z6, z8, hp⟩
 ·
  rintro _ v0 m8 ⟨v1, z7, rfl, g2, l3, l6, r2⟩
  replace hp := s9 z7 r2
  refine then_normal (j5 _ _ _ _ (wp_ret ?_))
  refine end_ret hQ (.bool z7) (by kernel_rfl) ?_
  exact ⟨z7, hp, g2, rfl⟩
def rectoref1_Under_p (p : ByteArray) (dir : ByteArray) (Q : Bool → Prop) : Prop :=
 ((p.size ≤ maxLen) → ((dir.size ≤ maxLen) → ((((dir : ByteArray) = (ByteArray.mk #[])) → Q (!decide ((p : ByteArray) = (ByteArray.mk #[])))) ∧ ((¬ ((dir : ByteArray) = (ByteArray.mk #[]))) → (((inR .i64 ((dir.size : Int) + (1 : Int))) ∧ ((((p.size : Int) > ((dir.size : Int) + (1 : Int))) → ((0 ≤ (0 : Int) ∧ (0 : Int) ≤ (dir.size : Int) ∧ (dir.size : Int) ≤ (p.size : Int)) ∧ ((((bsub p (0 : Int) (dir.size : Int) : ByteArray) = dir) → ((0 ≤ (dir.size : Int) ∧ (dir.size : Int) < (p.size : Int)) ∧ True)) ∧ ((¬ ((bsub p (0 : Int) (dir.size : Int) : ByteArray) = dir)) → True)))) ∧ ((¬ ((p.size : Int) > ((dir.size : Int) + (1 : Int)))) → True))) ∧ Q (decide (((p.size : Int) > ((dir.size : Int) + (1 : Int))) ∧ (((bsub p (0 : Int) (dir.size : Int) : ByteArray) = dir) ∧ ((bget p (dir.size : Int)) = (47 : Int))))))))))
set_option maxRecDepth 20000 in
set_option maxHeartbeats 4000000 in
theorem rectoref1_Under_w {X : List Nat} {w : World} {p : ByteArray} {dir : ByteArray} {Q : Bool → Prop} (z6 : Old X w) (z7 : p.size ≤ maxLen) (z3 : dir.size ≤ maxLen) (hp : rectoref1_Under_p p dir Q) :
  Calls Tryz.prog 32 #[(.string p), (.string dir)] w (Ret fun v w' => ∃ (z8 : Bool), Q z8 ∧ Evo [] w w' ∧ v = (.bool z8)) := by
 have hXo := z6
 have E0 : Evo [] w w := RB.refl _ _ _
 have hS : Sub X X := Sub.refl _
 unfold rectoref1_Under_p at hp
 refine enter_ Tryz.func32 rfl 30 [(0, (.string p)), (1, (.string dir))] (by kernel_rfl) (fun Qe hQ => ?_)
 replace hp := hp z7 z3
 refine sr (fun _ y2 => pv (.bool false) ?_)
 refine nt y2 (seq_ (fun _ y3 => sr (fun _ y4 => pv (.string dir) ?_)))
 refine pw (.bool (decide ((dir : ByteArray) = (ByteArray.mk #[])))) (x_streq (by kernel_rfl) (by kernel_rfl)) ?_
 refine nt y4 ?_
 refine cond_d ((dir : ByteArray) = (ByteArray.mk #[])) (by kernel_rfl) (fun z5 => ?_) (fun z5 => ?_)
 ·
  replace hp := hp.1 z5
  refine sr (fun _ y5 => pv (.string p) ?_)
  refine pw (.bool (!decide ((p : ByteArray) = (ByteArray.mk #[])))) (x_strne (by kernel_rfl) (by kernel_rfl)) ?_
  refine pv (.bool (!decide ((p : ByteArray) = (ByteArray.mk #[])))) ?_
  refine nt y5 (wp_ret (then_ret ?_))
  refine end_ret hQ (.bool (!decide ((p : ByteArray) = (ByteArray.mk #[])))) (by kernel_rfl) ?_
  exact ⟨(!decide ((p : ByteArray) = (ByteArray.mk #[]))), hp, E0, rfl⟩
 ·
  replace hp := hp.2 z5
  refine wp_skip (then_normal (y3 _ _ _ _ (seq_ (fun _ y6 => ?_))))
  obtain ⟨hp, hq⟩ := hp
  refine ground_ ?_
  refine join_ 1073741328 (fun lq z4 => lq = [(4, (.bool (decide (((p.size : Int) > ((dir.size : Int) + (1 : Int))) ∧ (((bsub p (0 : Int) (dir.size : Int) : ByteArray) = dir) ∧ ((bget p (dir.size : Int)) = (47 : Int)))))))] ∧ w = z4) (fun y7 z2 => ?_) ?_
  ·
   refine reg_ (pv (.string p) ?_)
   refine pv (.int .i64 (p.size : Int)) ?_
   refine pv (.string dir) ?_
   refine pv (.int .i64 (dir.size : Int)) ?_
   obtain ⟨z9, hp⟩ := hp
   refine pw (.int .i64 ((dir.size : Int) + (1 : Int))) (x_add2 (k := .i64) (a := (dir.size : Int)) (b := (1 : Int)) ((dir.size : Int) + (1 : Int)) (by kernel_rfl) (by kernel_rfl) (wrap_inR z9)) ?_
   by_cases z0 : (p.size : Int) > ((dir.size : Int) + (1 : Int))
   ·
    replace hp := hp.1 z0
    refine pw (.bool true) (x_dt (p := (p.size : Int) > ((dir.size : Int) + (1 : Int))) (by kernel_rfl) z0) ?_
    refine pv (.bool true) ?_
    refine pv (.string p) ?_
    refine pv (.string dir) ?_
    refine pv (.int .i64 (dir.size : Int)) ?_
    obtain ⟨y0, hp⟩ := hp
    refine pw (.string (bsub p (0 : Int) (dir.size : Int))) (x_sub01 (k := .i64) (by kernel_rfl)  (by kernel_rfl) Tryz.underlying9 y0) ?_
    refine pv (.string dir) ?_
    by_cases z1 : (bsub p (0 : Int) (dir.size : Int) : ByteArray) = dir
    ·
     replace hp := hp.1 z1
     refine pw (.bool true) (x_dt (p := (bsub p (0 : Int) (dir.size : Int) : ByteArray) = dir) (x_streq (by kernel_rfl) (by kernel_rfl)) z1) ?_
     refine pv (.bool true) ?_
     refine pv (.bool true) ?_
     refine pv (.string p) ?_
     refine pv (.string dir) ?_
     refine pv (.int .i64 (dir.size : Int)) ?_
     obtain ⟨y1, hp⟩ := hp
     refine pw (.int .u8 (bget p (dir.size : Int))) (x_bget (k := .i64) (by kernel_rfl) (by kernel_rfl) Tryz.underlying9 y1) ?_
     refine pv (.bool (decide ((bget p (dir.size : Int)) = (47 : Int)))) ?_
     refine pv (.bool (decide ((bget p (dir.size : Int)) = (47 : Int)))) ?_
     refine pv (.bool (decide ((bget p (dir.size : Int)) = (47 : Int)))) ?_
     refine nil_ (then_normal (z2 _ _ _ ⟨[(4, (.bool (decide (((p.size : Int) > ((dir.size : Int) + (1 : Int))) ∧ (((bsub p (0 : Int) (dir.size : Int) : ByteArray) = dir) ∧ ((bget p (dir.size : Int)) = (47 : Int)))))))], fit_mk (fun _ _ => rfl) (by kernel_rfl) (vs_cons (Eq.trans (b := (.bool (decide ((bget p (dir.size : Int)) = (47 : Int))))) (by kernel_rfl) (dec_d ((and_iff_right z0).trans ((and_iff_right z1).trans Iff.rfl))).symm) vs_nil), rfl, rfl⟩))
    ·
     replace hp := hp.2 z1
     refine pw (.bool false) (x_df (p := (bsub p (0 : Int) (dir.size : Int) : ByteArray) = dir) (x_streq (by kernel_rfl) (by kernel_rfl)) z1) ?_
     refine pv (.bool false) ?_
     refine pv (.bool false) ?_
     refine no ?_
     refine no ?_
     refine no ?_
     refine no ?_
     refine no ?_
     refine pv (.bool false) ?_
     refine pv (.bool false) ?_
     refine nil_ (then_normal (z2 _ _ _ ⟨[(4, (.bool (decide (((p.size : Int) > ((dir.size : Int) + (1 : Int))) ∧ (((bsub p (0 : Int) (dir.size : Int) : ByteArray) = dir) ∧ ((bget p (dir.size : Int)) = (47 : Int)))))))], fit_mk (fun _ _ => rfl) (by kernel_rfl) (vs_cons (Eq.trans (b := (.bool false)) (by kernel_rfl) (dec_f ((and_iff_right z0).trans (iff_false_intro (fun h => z1 h.1)))).symm) vs_nil), rfl, rfl⟩))
   ·
    replace hp := hp.2 z0
    refine pw (.bool false) (x_df (p := (p.size : Int) > ((dir.size : Int) + (1 : Int))) (by kernel_rfl) z0) ?_
    refine pv (.bool false) ?_
    refine no ?_
    refine no ?_
    refine no ?_
    refine no ?_
    refine no ?_
    refine no ?_
    refine pv (.bool false) ?_
    refine pv (.bool false) ?_
    refine no ?_
    refine no ?_
    refine no ?_
    refine no ?_
    refine no ?_
    refine pv (.bool false) ?_
    refine pv (.bool false) ?_
    refine nil_ (then_normal (z2 _ _ _ ⟨[(4, (.bool (decide (((p.size : Int) > ((dir.size : Int) + (1 : Int))) ∧ (((bsub p (0 : Int) (dir.size : Int) : ByteArray) = dir) ∧ ((bget p (dir.size : Int)) = (47 : Int)))))))], fit_mk (fun _ _ => rfl) (by kernel_rfl) (vs_cons (Eq.trans (b := (.bool false)) (by kernel_rfl) (dec_f (iff_false_intro (fun h => z0 h.1))).symm) vs_nil), rfl, rfl⟩))
  ·
   rintro _ z4 y8 ⟨rfl, hw⟩
   subst hw
   have hp := hq
   refine then_normal (y6 _ _ _ _ (wp_ret ?_))
   refine end_ret hQ (.bool (decide (((p.size : Int) > ((dir.size : Int) + (1 : Int))) ∧ (((bsub p (0 : Int) (dir.size : Int) : ByteArray) = dir) ∧ ((bget p (dir.size : Int)) = (47 : Int)))))) (by kernel_rfl) ?_
   exact ⟨(decide (((p.size : Int) > ((dir.size : Int) + (1 : Int))) ∧ (((bsub p (0 : Int) (dir.size : Int) : ByteArray) = dir) ∧ ((bget p (dir.size : Int)) = (47 : Int))))), hp, E0, rfl⟩
def simfs_FS_Stat_p (f_ : S_simfs_FS) (p : ByteArray) (Q : S_simfs_FS → S_simfs_Stat → Int → Prop) : Prop :=
 ((p.size ≤ maxLen) → (simfs_FS_find_p f_ p (fun (z2 : S_simfs_FS) (z0 : S_simfs_file) (z1 : Int) => ((inR .i64 z0.mode) → ((inR .i64 z0.time) → ((inR .i64 z0.inode) → ((z0.b.length ≤ 9223372036854775807) → ((inR .i64 z1) → (((¬ (z1 = (0 : Int))) → Q z2 (S_simfs_Stat.mk (0 : Int) (0 : Int) (0 : Int) (0 : Int)) z1) ∧ ((z1 = (0 : Int)) → Q z2 (S_simfs_Stat.mk (z0.b.length : Int) z0.time z0.inode z0.mode) (0 : Int)))))))))))
set_option maxRecDepth 20000 in
set_option maxHeartbeats 4000000 in
theorem simfs_FS_Stat_w {X : List Nat} {w : World} {f_ : S_simfs_FS} {p : ByteArray} {z5 : Nat} {z6 : List Nat} {Q : S_simfs_FS → S_simfs_Stat → Int → Prop} (s5 : Old X w) (y4 : MO o_simfs_FS 62 z6 w.heap.size X w z6 z5 f_) (v9 : p.size ≤ maxLen) (hp : simfs_FS_Stat_p f_ p Q) :
  Calls Tryz.prog 33 #[(.pointer (some ⟨z5, 0, none⟩)), (.string p)] w (Ret fun v w' => ∃ (s6 : S_simfs_FS) (y2 : S_simfs_Stat) (s0 : Int), Q s6 y2 s0 ∧ ∃ (X' : List Nat) (s7 : List Nat), Step X w z6 X' w' ∧ v = .tuple #[(.agg #[(.int .i64 y2.Size), (.int .i64 y2.Time), (.int .i64 y2.Inode), (.int .i64 y2.Mode)]), (.int .i64 s0)] ∧ MO o_simfs_FS 62 z6 w.heap.size X' w' s7 z5 s6 ∧ inR .i64 y2.Size ∧ inR .i64 y2.Time ∧ inR .i64 y2.Inode ∧ inR .i64 y2.Mode ∧ inR .i64 s0) := by
 have hXo := s5
 have E0 : Evo z6 w w := RB.refl _ _ _
 have hS : Sub X X := Sub.refl _
 have hN : News X w X w := News.refl _ _
 have u1 : Sub z6 X := MO.mem y4
 unfold simfs_FS_Stat_p at hp
 refine enter_ Tryz.func33 rfl 28 [(0, (.pointer (some ⟨z5, 0, none⟩))), (1, (.string p))] (by kernel_rfl) (fun Qe hQ => ?_)
 replace hp := hp v9
 refine sr (fun _ q5 => ?_)
 refine sq (o_newX [(.int .i64 (0 : Int)), (.int .i64 (0 : Int)), (.int .i64 (0 : Int)), (.int .i64 (0 : Int))] 69 (X := X) (B := w.heap.size) E0.size rfl (by kernel_rfl) ?_)
 intro k2 k3 q6 v0 u2 s8
 have u3 := s8 _ (MO.old y4)
 refine pv (.int .i64 (0 : Int)) ?_
 refine nt q5 (sr (fun _ s9 => pv (.pointer (some ⟨z5, 0, none⟩)) ?_))
 refine pv (.string p) ?_
 have y3 := MO.step0 y4 v0
 have v8 := Old.step hXo v0
 have u4 := Evo.then0 E0 (Step.evo v0)
 have v1 := Sub.trans hS (Step.up v0)
 have v2 := News.step hN v0
 refine sq (o_call 41 #[(.pointer (some ⟨z5, 0, none⟩)), (.string p)] rfl (x_call Tryz.call41 (by kernel_rfl)) (simfs_FS_find_w (X := q6) (f_ := f_) (p := p) v8 (MO.re y3 (Wr.self _ _ (Sub.refl _))) v9 hp) ?_)
 rintro _ q7 ⟨v3, z0, z1, hp, r0, u5, z3, z4, y1, rfl, v4, z8, z9, z7, y5, v5⟩
 have u6 := MO.re v4 (Wr.trans v4.wr y3.wr u4.size)
 have u7 := Ap.grow v4.wr (Ap.symm u3) (OB.old u2) (Nat.le_refl _)
 replace hp := hp z8 z9 z7 (Sl.len y5) v5
 refine pv (.tuple #[(.agg #[(.int .i64 z0.mode), (.int .i64 z0.time), (.int .i64 z0.inode), (.slice z3 z0.b.length z4)]), (.int .i64 z1)]) ?_
 refine pv (.agg #[(.int .i64 z0.mode), (.int .i64 z0.time), (.int .i64 z0.inode), (.slice z3 z0.b.length z4)]) ?_
 refine pv (.int .i64 z1) ?_
 have u9 := OB.step u2 y1 (Ap.symm u3)
 have t0 := Evo.thenW u4 (Step.evo y1) y3.wr
 refine sq (o_newX [(.int .i64 (0 : Int)), (.int .i64 (0 : Int)), (.int .i64 (0 : Int)), (.slice none 0 0)] 74 (X := r0) (B := w.heap.size) t0.size rfl (by kernel_rfl) ?_)
 intro y6 q8 t1 y0 v6 t2
 have t3 := t2 _ (OB.old u9)
 have t4 := t2 _ (MO.old u6)
 have t5 := OB.step0 u9 y0
 have t6 := MO.step0 u6 y0
 have t7 := Evo.then0 t0 (Step.evo y0)
 refine sq (o_stB (o := 0) (v := (.agg #[(.int .i64 z0.mode), (.int .i64 z0.time), (.int .i64 z0.inode), (.slice z3 z0.b.length z4)])) [(.int .i64 z0.mode), (.int .i64 z0.time), (.int .i64 z0.inode), (.slice z3 z0.b.length z4)] rfl v6 (by kernel_rfl) (by kernel_rfl) Tryz.sizeOf74 rfl rfl rfl ?_)
 intro q9 z2 y7
 refine pv (.int .i64 z1) ?_
 refine nt s9 (seq_ (fun _ r1 => sr (fun _ r2 => pv (.int .i64 z1) ?_)))
 refine pv (.bool (!decide (z1 = (0 : Int)))) ?_
 refine nt r2 ?_
 refine cond_nd (z1 = (0 : Int)) (by kernel_rfl) (fun v7 => ?_) (fun v7 => ?_)
 ·
  replace hp := hp.1 v7
  refine sr (fun _ r3 => pv (.agg #[(.int .i64 (0 : Int)), (.int .i64 (0 : Int)), (.int .i64 (0 : Int)), (.int .i64 (0 : Int))]) ?_)
  refine pv (.int .i64 z1) ?_
  have t8 := OB.step t5 z2 t3
  have r4 := MO.step t6 z2 t4
  have r5 := Evo.thenW t7 (Step.evo z2) (Wr.of v6.2.2)
  refine sq (o_stB (o := 0) (v := (.agg #[(.int .i64 (0 : Int)), (.int .i64 (0 : Int)), (.int .i64 (0 : Int)), (.int .i64 (0 : Int))])) [(.int .i64 (0 : Int)), (.int .i64 (0 : Int)), (.int .i64 (0 : Int)), (.int .i64 (0 : Int))] rfl t8 (by kernel_rfl) (by kernel_rfl) Tryz.sizeOf69 rfl rfl rfl ?_)
  intro k0 y8 r6
  refine pv (.int .i64 z1) ?_
  refine nt r3 (wp_ret (then_ret ?_))
  have r7 := Evo.thenW r5 (Step.evo y8) (Wr.of t8.2.2)
  have s1 := Sub.trans (Sub.trans (Sub.trans (Sub.trans v1 (Step.up y1)) (Step.up y0)) (Step.up z2)) (Step.up y8)
  have s2 := News.step (News.step (News.step (News.step v2 y1) y0) z2) y8
  have r8 := MO.step r4 y8 (Ap.symm u7)
  refine end_ret hQ (.tuple #[(.agg #[(.int .i64 (0 : Int)), (.int .i64 (0 : Int)), (.int .i64 (0 : Int)), (.int .i64 (0 : Int))]), (.int .i64 z1)]) (rs2 Tryz.results33 (rs_agg [(.int .i64 (0 : Int)), (.int .i64 (0 : Int)), (.int .i64 (0 : Int)), (.int .i64 (0 : Int))] (by kernel_rfl) Tryz.isAgg69 Tryz.sizeOf69 (r6.2.1.cells' 0 rfl)) (rs_tmp (by kernel_rfl))) ?_
  exact ⟨v3, (S_simfs_Stat.mk (0 : Int) (0 : Int) (0 : Int) (0 : Int)), z1, hp, t1, u5, step_of r7 u1 s1 s2, rfl, r8, (by decide : inR .i64 (0 : Int)), (by decide : inR .i64 (0 : Int)), (by decide : inR .i64 (0 : Int)), (by decide : inR .i64 (0 : Int)), v5⟩
 ·
  replace hp := hp.2 v7
  refine wp_skip (then_normal (r1 _ _ _ _ (sr (fun _ r9 => pv (.pointer (some ⟨y6, 3, none⟩)) ?_))))
  refine pw (.slice z3 z0.b.length z4) (x_load1 (by kernel_rfl) Tryz.isAgg32 (y7.2.1.cell' 3 rfl)) ?_
  refine pv (.int .i64 (z0.b.length : Int)) ?_
  refine pv (.pointer (some ⟨y6, 1, none⟩)) ?_
  refine pw (.int .i64 z0.time) (x_load1 (by kernel_rfl) Tryz.isAgg3 (y7.2.1.cell' 1 rfl)) ?_
  refine pv (.pointer (some ⟨y6, 2, none⟩)) ?_
  refine pw (.int .i64 z0.inode) (x_load1 (by kernel_rfl) Tryz.isAgg3 (y7.2.1.cell' 2 rfl)) ?_
  refine pv (.pointer (some ⟨y6, 0, none⟩)) ?_
  refine pw (.int .i64 z0.mode) (x_load1 (by kernel_rfl) Tryz.isAgg3 (y7.2.1.cell' 0 rfl)) ?_
  refine pv (.agg #[(.int .i64 (z0.b.length : Int)), (.int .i64 z0.time), (.int .i64 z0.inode), (.int .i64 z0.mode)]) ?_
  have t9 := OB.step t5 z2 t3
  have q0 := MO.step t6 z2 t4
  have q1 := Evo.thenW t7 (Step.evo z2) (Wr.of v6.2.2)
  refine sq (o_stB (o := 0) (v := (.agg #[(.int .i64 (z0.b.length : Int)), (.int .i64 z0.time), (.int .i64 z0.inode), (.int .i64 z0.mode)])) [(.int .i64 (z0.b.length : Int)), (.int .i64 z0.time), (.int .i64 z0.inode), (.int .i64 z0.mode)] rfl t9 (by kernel_rfl) (by kernel_rfl) Tryz.sizeOf69 rfl rfl rfl ?_)
  intro k1 y9 q2
  refine pv (.int .i64 (0 : Int)) ?_
  refine nt r9 (wp_ret ?_)
  have q3 := Evo.thenW q1 (Step.evo y9) (Wr.of t9.2.2)
  have s3 := Sub.trans (Sub.trans (Sub.trans (Sub.trans v1 (Step.up y1)) (Step.up y0)) (Step.up z2)) (Step.up y9)
  have s4 := News.step (News.step (News.step (News.step v2 y1) y0) z2) y9
  have q4 := MO.step q0 y9 (Ap.symm u7)
  refine end_ret hQ (.tuple #[(.agg #[(.int .i64 (z0.b.length : Int)), (.int .i64 z0.time), (.int .i64 z0.inode), (.int .i64 z0.mode)]), (.int .i64 (0 : Int))]) (rs2 Tryz.results33 (rs_agg [(.int .i64 (z0.b.length : Int)), (.int .i64 z0.time), (.int .i64 z0.inode), (.int .i64 z0.mode)] (by kernel_rfl) Tryz.isAgg69 Tryz.sizeOf69 (q2.2.1.cells' 0 rfl)) (rs_tmp (by kernel_rfl))) ?_
  exact ⟨v3, (S_simfs_Stat.mk (z0.b.length : Int) z0.time z0.inode z0.mode), (0 : Int), hp, t1, u5, step_of q3 u1 s3 s4, rfl, q4, (inR_len (Sl.len y5)), z9, z7, z8, (by decide : inR .i64 (0 : Int))⟩
def rectolaw6_all_p (f_ : S_simfs_FS) (dir : ByteArray) (Q : S_simfs_FS → (List S_rectolaw6_file) → Bool → Prop) : Prop :=
 ((dir.size ≤ maxLen) → (simfs_FS_List_p f_ (fun (y6 : S_simfs_FS) (z4 : (List ByteArray)) (y7 : Int) => ((z4.length ≤ 9223372036854775807) → ((inR .i64 y7) → (((¬ (y7 = (0 : Int))) → Q y6 ([] : List S_rectolaw6_file) false) ∧ ((y7 = (0 : Int)) → (∃ (y2 : (List S_rectolaw6_file) → Int → S_simfs_FS → Prop) (y4 : (List S_rectolaw6_file) → Int → S_simfs_FS → Nat), (y2 ([] : List S_rectolaw6_file) (0 : Int) y6) ∧ (∀ (z1 : (List S_rectolaw6_file)) (z0 : Int) (z7 : S_simfs_FS), (y2 z1 z0 z7) → (z1.length ≤ 9223372036854775807) → (inR .i64 z0) → (((z0 < (z4.length : Int)) → (∃ z8 : (List S_rectolaw6_file) → S_simfs_FS → Prop, (∀ (z2 : (List S_rectolaw6_file)) (z9 : S_simfs_FS), z8 z2 z9 → (z2.length ≤ 9223372036854775807) → ((inR .i64 (z0 + (1 : Int))) ∧ ((y2 z2 (z0 + (1 : Int)) z9) ∧ y4 z2 (z0 + (1 : Int)) z9 < y4 z1 z0 z7))) ∧ ((inL z4 z0) ∧ (((lget z4 z0).size ≤ maxLen) → (rectoref1_Under_p (lget z4 z0) dir (fun (y3 : Bool) => (((y3 = true) → (z8 z1 z7)) ∧ ((y3 = false) → ((inL z4 z0) ∧ (((lget z4 z0).size ≤ maxLen) → (simfs_FS_Read_p z7 (lget z4 z0) (fun (y5 : S_simfs_FS) (y0 : (List Int)) (z5 : Int) => ((y0.length ≤ 9223372036854775807) → ((inR .i64 z5) → ((inL z4 z0) ∧ (((lget z4 z0).size ≤ maxLen) → (simfs_FS_Stat_p y5 (lget z4 z0) (fun (y1 : S_simfs_FS) (z3 : S_simfs_Stat) (z6 : Int) => ((inR .i64 z3.Size) → ((inR .i64 z3.Time) → ((inR .i64 z3.Inode) → ((inR .i64 z3.Mode) → ((inR .i64 z6) → ((inR .i64 (z5 + z6)) ∧ (((¬ ((z5 + z6) = (0 : Int))) → Q y1 ([] : List S_rectolaw6_file) false) ∧ (((z5 + z6) = (0 : Int)) → ((inL z4 z0) ∧ (((lget z4 z0).size ≤ maxLen) → (((z1.length + ([(S_rectolaw6_file.mk (lget z4 z0) z3.Mode (strOfNums y0))]).length) * 40 ≤ 140737488355328) ∧ (z8 (z1 ++ ([(S_rectolaw6_file.mk (lget z4 z0) z3.Mode (strOfNums y0))])) y1)))))))))))))))))))))))))))))) ∧ ((¬ (z0 < (z4.length : Int))) → Q z7 z1 true)))))))))))
set_option maxRecDepth 20000 in
set_option maxHeartbeats 4000000 in
theorem rectolaw6_all_w {X : List Nat} {w : World} {f_ : S_simfs_FS} {dir : ByteArray} {z8 : Nat} {y7 : List Nat} {Q : S_simfs_FS → (List S_rectolaw6_file) → Bool → Prop} (p7 : Old X w) (t5 : MO o_simfs_FS 62 y7 w.heap.size X w y7 z8 f_) (j2 : dir.size ≤ maxLen) (hp : rectolaw6_all_p f_ dir Q) :
  Calls Tryz.prog 13 #[(.pointer (some ⟨z8, 0, none⟩)), (.string dir)] w (Ret fun v w' => ∃ (Y4 : S_simfs_FS) (Z5 : (List S_rectolaw6_file)) (Y5 : Bool), Q Y4 Z5 Y5 ∧ ∃ (X' : List Nat) (Y6 : List Nat) (l5 : Option Addr) (l6 : Nat), Step X w y7 X' w' ∧ v = .tuple #[(.slice l5 Z5.length l6), (.bool Y5)] ∧ MO o_simfs_FS 62 y7 w.heap.size X' w' Y6 z8 Y4 ∧ Sl r_rectolaw6_file X' w' l5 l6 Z5) := by
 have hXo := p7
 have E0 : Evo y7 w w := RB.refl _ _ _
 have hS : Sub X X := Sub.refl _
 have hN : News X w X w := News.refl _ _
 have l7 : Sub y7 X := MO.mem t5
 unfold rectolaw6_all_p at hp
 refine enter_ Tryz.func13 rfl 68 [(0, (.pointer (some ⟨z8, 0, none⟩))), (1, (.string dir))] (by kernel_rfl) (fun Qe hQ => ?_)
 replace hp := hp j2
 refine sr (fun _ T8 => pv (.slice none 0 0) ?_)
 refine pv (.bool false) ?_
 refine nt T8 (sr (fun _ T9 => pv (.pointer (some ⟨z8, 0, none⟩)) ?_))
 refine sq (o_call 31 #[(.pointer (some ⟨z8, 0, none⟩))] rfl (x_call Tryz.call31 (by kernel_rfl)) (simfs_FS_List_w (X := X) (f_ := f_) hXo (MO.re t5 (Wr.self _ _ (Sub.refl _))) hp) ?_)
 rintro _ R2 ⟨l8, z2, d9, hp, p8, p9, y4, Z0, t6, rfl, Z1, Z2, Z6, Y7⟩
 have Z3 := MO.re Z1 (Wr.trans Z1.wr t5.wr E0.size)
 have Z4 := OS.re Z2 (Wr.trans Z2.wr (Wr.nil [] _) E0.size)
 replace hp := hp (OS.len Z4) Z6
 refine pv (.tuple #[(.slice y4 z2.length z2.length), (.int .i64 d9)]) ?_
 refine pv (.slice y4 z2.length z2.length) ?_
 refine pv (.int .i64 d9) ?_
 refine pv (.slice y4 z2.length z2.length) ?_
 refine pv (.int .i64 d9) ?_
 refine nt T9 (seq_ (fun _ Y8 => sr (fun _ Y9 => pv (.int .i64 d9) ?_)))
 refine pv (.bool (!decide (d9 = (0 : Int)))) ?_
 refine nt Y9 ?_
 refine cond_nd (d9 = (0 : Int)) (by kernel_rfl) (fun l9 => ?_) (fun l9 => ?_)
 ·
  replace hp := hp.1 l9
  refine sr (fun _ V0 => pv (.slice none 0 0) ?_)
  refine pv (.bool false) ?_
  refine nt V0 (wp_ret (then_ret ?_))
  have V1 := Evo.thenW E0 (Step.evo t6) t5.wr
  have Z7 := Sub.trans hS (Step.up t6)
  have Z8 := News.step hN t6
  refine end_ret hQ (.tuple #[(.slice none 0 0), (.bool false)]) (by kernel_rfl) ?_
  exact ⟨l8, ([] : List S_rectolaw6_file), false, hp, p8, p9, none, 0, step_of V1 l7 Z7 Z8, rfl, Z3, Sl.nil⟩
 ·
  replace hp := hp.2 l9
  refine wp_skip (then_normal (Y8 _ _ _ _ (sr (fun _ V2 => pv (.slice none 0 0) ?_))))
  refine nt V2 (seq_ (fun _ V3 => sr (fun _ V4 => pv (.int .i64 (0 : Int)) ?_)))
  refine nt V4 (wp_block ?_)
  have m0 := Old.step hXo t6
  have Z9 := Evo.thenW E0 (Step.evo t6) t5.wr
  have c9 := Sub.trans hS (Step.up t6)
  have a0 := News.step hN t6
  obtain ⟨Y0, m1, a1, hp⟩ := hp
  refine loop_ 147573952589674331952 (fun kq lq u1 => ∃ (y8 : List Nat) (z3 : (List S_rectolaw6_file)) (z0 : Int) (v4 : S_simfs_FS) (z9 : Option Addr) (v1 : Nat) (y9 : Nat) (u9 : List Nat), (lq = [(8, (.slice z9 v1 y9)), (9, (.int .i64 z0))]) ∧ (kq = m1 z3 z0 v4) ∧ (Evo y7 w u1) ∧ (Old y8 u1) ∧ (Sub X y8) ∧ (News X w y8 u1) ∧ (OS rStr ([]) w.heap.size y8 u1 9 y4 z2.length Z0 z2) ∧ (OS r_rectolaw6_file ([]) w.heap.size y8 u1 41 z9 v1 y9 z3) ∧ (MO o_simfs_FS 62 y7 w.heap.size y8 u1 u9 z8 v4) ∧ (Ap (blkL y4) (blkL z9)) ∧ (Ap (blkL y4) (u9)) ∧ (Ap (blkL z9) (u9)) ∧ (inR .i64 z0) ∧ (Y0 z3 z0 v4)) (m1 ([] : List S_rectolaw6_file) (0 : Int) l8) [(8, (.slice none 0 0)), (9, (.int .i64 (0 : Int)))] (vs_cons (by kernel_rfl) (vs_cons (by kernel_rfl) vs_nil)) ⟨p8, ([] : List S_rectolaw6_file), (0 : Int), l8, none, 0, 0, p9, rfl, rfl, Z9, m0, c9, a0, Z4, (OS.nil _ _ _ _), Z3, (Ap.nil_r _), (Ap.symm Y7), (Ap.nil_l _), (by decide : inR .i64 (0 : Int)), a1⟩ ?_
  rintro _ _ u1 R1 ⟨y8, z3, z0, v4, z9, v1, y9, u9, rfl, rfl, k8, q5, s1, s2, s3, t0, s4, k9, j0, s5, a2, a3⟩ U8 a4
  replace hp := hp z3 z0 v4 a3 (OS.len t0) a2
  refine seq_ (fun _ Y1 => sr (fun _ Y2 => pv (.int .i64 z0) ?_))
  refine pv (.slice y4 z2.length z2.length) ?_
  refine pv (.int .i64 (z2.length : Int)) ?_
  refine pv (.bool (decide (z0 < (z2.length : Int)))) ?_
  refine nt Y2 ?_
  refine cond_d (z0 < (z2.length : Int)) (by kernel_rfl) (fun j1 => ?_) (fun j1 => ?_)
  ·
   replace hp := hp.1 j1
   refine wp_skip (then_normal (Y1 _ _ _ _ (seq_ (fun _ Y3 => ?_))))
   obtain ⟨a5, m2, hp⟩ := hp
   refine ground_ ?_
   refine join_ 147573952589542210864 (fun lq v2 => ∃ (y5 : List Nat) (v0 : (List S_rectolaw6_file)) (u2 : S_simfs_FS) (v3 : Option Addr) (u3 : Nat) (u4 : Nat) (u5 : List Nat), (lq = [(8, (.slice v3 u3 u4))]) ∧ (Evo y7 w v2) ∧ (Old y5 v2) ∧ (Sub X y5) ∧ (News X w y5 v2) ∧ (OS rStr ([]) w.heap.size y5 v2 9 y4 z2.length Z0 z2) ∧ (OS r_rectolaw6_file ([]) w.heap.size y5 v2 41 v3 u3 u4 v0) ∧ (MO o_simfs_FS 62 y7 w.heap.size y5 v2 u5 z8 u2) ∧ (Ap (blkL y4) (blkL v3)) ∧ (Ap (blkL y4) (u5)) ∧ (Ap (blkL v3) (u5)) ∧ (a5 v0 u2)) (fun V5 q6 => ?_) ?_
   ·
    refine wp_block (seq_ (fun _ a6 => sr (fun _ a7 => pv (.slice y4 z2.length z2.length) ?_)))
    refine pv (.int .i64 z0) ?_
    obtain ⟨s6, hp⟩ := hp
    obtain ⟨a8, a9, V6, m3, V7, V8, m4, m5⟩ := Sl.atI (OS.rd s3) z0 s6
    obtain ⟨rfl, q7⟩ := m4
    replace hp := hp q7
    refine pw (.pointer (some ⟨a8, a9 + z0.toNat * 1, none⟩)) (x_ixA (m := z2.length) (c := z2.length) (k := .i64) (i := z0) Tryz.underlying65 Tryz.sizeOf9 (by rw [← m3]; kernel_rfl) (by kernel_rfl) ⟨s6.1, by rw [s3.1]; exact s6.2⟩) ?_
    refine pw (.string (lget z2 z0)) (x_load1 (by kernel_rfl) Tryz.isAgg9 (m5 0 _ rfl)) ?_
    refine pv (.string dir) ?_
    refine sq (o_call 32 #[(.string (lget z2 z0)), (.string dir)] rfl (x_call Tryz.call32 (by kernel_rfl)) (rectoref1_Under_w (X := []) (p := lget z2 z0) (dir := dir) (Old.nil _) q7 j2 hp) ?_)
    rintro _ U9 ⟨e0, hp, s7, rfl⟩
    have z5 := Step.of0 y8 s7
    refine nt a7 ?_
    refine cond_b e0 (by kernel_rfl) (fun s8 => ?_) (fun s8 => ?_)
    ·
     replace hp := hp.1 s8
     refine wp_exit ?_
     refine then_exit (blk_exit ?_)
     have e1 := Evo.then0 k8 s7
     have l0 := Old.step q5 z5
     have m6 := Sub.trans s1 (Step.up z5)
     have m7 := News.step s2 z5
     have e2 := OS.step0 s3 z5
     have e3 := OS.step0 t0 z5
     have e4 := MO.step0 s4 z5
     refine then_normal (q6 _ _ _ ⟨[(8, (.slice z9 v1 y9))], fit_mk (fun _ _ => rfl) (by kernel_rfl) (vs_cons (by kernel_rfl) vs_nil), ?_⟩)
     exact ⟨y8, z3, v4, z9, v1, y9, u9, rfl, e1, l0, m6, m7, e2, e3, e4, k9, j0, s5, hp⟩
    ·
     replace hp := hp.2 s8
     refine wp_skip (then_normal (a6 _ _ _ _ (sr (fun _ e5 => pv (.pointer (some ⟨z8, 0, none⟩)) ?_))))
     refine pv (.slice y4 z2.length z2.length) ?_
     refine pv (.int .i64 z0) ?_
     obtain ⟨s9, hp⟩ := hp
     have t1 := OS.step0 s3 z5
     obtain ⟨e6, e7, V9, m8, U0, U1, m9, n0⟩ := Sl.atI (OS.rd t1) z0 s9
     obtain ⟨rfl, q8⟩ := m9
     replace hp := hp q8
     refine pw (.pointer (some ⟨e6, e7 + z0.toNat * 1, none⟩)) (x_ixA (m := z2.length) (c := z2.length) (k := .i64) (i := z0) Tryz.underlying65 Tryz.sizeOf9 (by rw [← m8]; kernel_rfl) (by kernel_rfl) ⟨s9.1, by rw [t1.1]; exact s9.2⟩) ?_
     refine pw (.string (lget z2 z0)) (x_load1 (by kernel_rfl) Tryz.isAgg9 (n0 0 _ rfl)) ?_
     have j3 := Evo.then0 k8 s7
     have t9 := Old.step q5 z5
     have n1 := Sub.trans s1 (Step.up z5)
     have n2 := News.step s2 z5
     have j4 := OS.step0 t0 z5
     have r0 := MO.step0 s4 z5
     refine sq (o_call 22 #[(.pointer (some ⟨z8, 0, none⟩)), (.string (lget z2 z0))] rfl (x_call Tryz.call22 (by kernel_rfl)) (simfs_FS_Read_w (X := y8) (f_ := v4) (p := lget z2 z0) t9 (MO.re r0 (Wr.self _ _ (Sub.refl _))) q8 hp) ?_)
     rintro _ T0 ⟨n3, z4, y0, hp, e8, T1, v5, v6, v8, rfl, t2, q9, n4⟩
     have r1 := MO.re t2 (Wr.trans t2.wr r0.wr j3.size)
     have j5 := Ap.grow t2.wr j0 (OS.old t1) (Nat.le_refl _)
     have j6 := Ap.grow t2.wr s5 (OS.old j4) (Nat.le_refl _)
     replace hp := hp (Sl.len q9) n4
     refine pv (.tuple #[(.slice v5 z4.length v6), (.int .i64 y0)]) ?_
     refine pv (.slice v5 z4.length v6) ?_
     refine pv (.int .i64 y0) ?_
     refine pv (.slice v5 z4.length v6) ?_
     refine pv (.int .i64 y0) ?_
     refine nt e5 (sr (fun _ e9 => pv (.pointer (some ⟨z8, 0, none⟩)) ?_))
     refine pv (.slice y4 z2.length z2.length) ?_
     refine pv (.int .i64 z0) ?_
     obtain ⟨r2, hp⟩ := hp
     have t3 := OS.step t1 v8 j0
     obtain ⟨i0, i1, U2, n5, U3, U4, n6, n7⟩ := Sl.atI (OS.rd t3) z0 r2
     obtain ⟨rfl, k0⟩ := n6
     replace hp := hp k0
     refine pw (.pointer (some ⟨i0, i1 + z0.toNat * 1, none⟩)) (x_ixA (m := z2.length) (c := z2.length) (k := .i64) (i := z0) Tryz.underlying65 Tryz.sizeOf9 (by rw [← n5]; kernel_rfl) (by kernel_rfl) ⟨r2.1, by rw [t3.1]; exact r2.2⟩) ?_
     refine pw (.string (lget z2 z0)) (x_load1 (by kernel_rfl) Tryz.isAgg9 (n7 0 _ rfl)) ?_
     have j7 := Evo.thenW j3 (Step.evo v8) r0.wr
     have s0 := Old.step t9 v8
     have k1 := Sub.trans n1 (Step.up v8)
     have k2 := News.step n2 v8
     have j8 := OS.step j4 v8 s5
     refine sq (o_call 33 #[(.pointer (some ⟨z8, 0, none⟩)), (.string (lget z2 z0))] rfl (x_call Tryz.call33 (by kernel_rfl)) (simfs_FS_Stat_w (X := e8) (f_ := n3) (p := lget z2 z0) s0 (MO.re r1 (Wr.self _ _ (Sub.refl _))) k0 hp) ?_)
     rintro _ T2 ⟨k3, z1, y1, hp, i2, j9, y2, rfl, t4, r3, r4, t8, u6, n8⟩
     have g0 := MO.re t4 (Wr.trans t4.wr r1.wr j7.size)
     have i3 := Ap.grow t4.wr j5 (OS.old t3) (Nat.le_refl _)
     have g1 := Ap.grow t4.wr j6 (OS.old j8) (Nat.le_refl _)
     replace hp := hp r3 r4 t8 u6 n8
     refine pv (.tuple #[(.agg #[(.int .i64 z1.Size), (.int .i64 z1.Time), (.int .i64 z1.Inode), (.int .i64 z1.Mode)]), (.int .i64 y1)]) ?_
     refine pv (.agg #[(.int .i64 z1.Size), (.int .i64 z1.Time), (.int .i64 z1.Inode), (.int .i64 z1.Mode)]) ?_
     refine pv (.int .i64 y1) ?_
     have g2 := OS.step t3 y2 j5
     have g3 := OS.step j8 y2 j6
     have g4 := Evo.thenW j7 (Step.evo y2) r1.wr
     refine sq (o_newX [(.int .i64 (0 : Int)), (.int .i64 (0 : Int)), (.int .i64 (0 : Int)), (.int .i64 (0 : Int))] 69 (X := i2) (B := w.heap.size) g4.size rfl (by kernel_rfl) ?_)
     intro i4 T3 r5 z7 r6 r7
     have i5 := r7 _ (OS.old g2)
     have i6 := r7 _ (OS.old g3)
     have g5 := r7 _ (MO.old g0)
     have i7 := OS.step0 g2 z7
     have i9 := OS.step0 g3 z7
     have g6 := MO.step0 g0 z7
     have g7 := Evo.then0 g4 (Step.evo z7)
     refine sq (o_stB (o := 0) (v := (.agg #[(.int .i64 z1.Size), (.int .i64 z1.Time), (.int .i64 z1.Inode), (.int .i64 z1.Mode)])) [(.int .i64 z1.Size), (.int .i64 z1.Time), (.int .i64 z1.Inode), (.int .i64 z1.Mode)] rfl r6 (by kernel_rfl) (by kernel_rfl) Tryz.sizeOf69 rfl rfl rfl ?_)
     intro r8 z6 h0
     refine pv (.int .i64 y1) ?_
     refine nt e9 (seq_ (fun _ h1 => sr (fun _ h2 => pv (.int .i64 y0) ?_)))
     refine pv (.int .i64 y1) ?_
     obtain ⟨h3, hp⟩ := hp
     refine pw (.int .i64 (y0 + y1)) (x_add2 (k := .i64) (a := y0) (b := y1) (y0 + y1) (by kernel_rfl) (by kernel_rfl) (wrap_inR h3)) ?_
     refine pv (.bool (!decide ((y0 + y1) = (0 : Int)))) ?_
     refine nt h2 ?_
     refine cond_nd ((y0 + y1) = (0 : Int)) (by kernel_rfl) (fun r9 => ?_) (fun r9 => ?_)
     ·
      replace hp := hp.1 r9
      refine sr (fun _ h4 => pv (.slice none 0 0) ?_)
      refine pv (.bool false) ?_
      refine nt h4 (wp_ret (then_ret (blk_ret (then_ret (then_ret (then_ret (blk_ret (then_ret ?_))))))))
      have h5 := Evo.thenW g7 (Step.evo z6) (Wr.of r6.2.2)
      have n9 := Sub.trans (Sub.trans (Sub.trans k1 (Step.up y2)) (Step.up z7)) (Step.up z6)
      have o0 := News.step (News.step (News.step k2 y2) z7) z6
      have h6 := MO.step g6 z6 g5
      refine end_ret hQ (.tuple #[(.slice none 0 0), (.bool false)]) (by kernel_rfl) ?_
      exact ⟨k3, ([] : List S_rectolaw6_file), false, hp, r5, j9, none, 0, step_of h5 l7 n9 o0, rfl, h6, Sl.nil⟩
     ·
      replace hp := hp.2 r9
      refine wp_skip (then_normal (h1 _ _ _ _ ?_))
      have h7 := Evo.thenW g7 (Step.evo z6) (Wr.of r6.2.2)
      have l1 := Old.step (Old.step (Old.step s0 y2) z7) z6
      have o1 := Sub.trans (Sub.trans (Sub.trans k1 (Step.up y2)) (Step.up z7)) (Step.up z6)
      have o2 := News.step (News.step (News.step k2 y2) z7) z6
      have h8 := OS.step i7 z6 i5
      have h9 := OS.step i9 z6 i6
      have o3 := Sl.step (Sl.step (Sl.step q9 y2) z7) z6
      have b0 := MO.step g6 z6 g5
      refine reg_drawn (RB r8.heap.size []) 11 (by kernel_rfl) (fun g8 t7 => ?_)
      have b1 := Evo.of_drew t7
      have u7 : g8.heap.size = r8.heap.size := by rw [t7]
      clear t7
      have y3 := Step.of0 r5 b1
      have v7 := RB.refl r8.heap.size [] g8
      have g9 := Evo.then0 h7 (Step.evo y3)
      have l2 := Old.step l1 y3
      have o4 := Sub.trans o1 (Step.up y3)
      have o5 := News.step o2 y3
      have q0 := OS.step0 h8 y3
      have b2 := OS.step0 h9 y3
      have k4 := Sl.step o3 y3
      have b3 := MO.step0 b0 y3
      have d0 := OB.step0 h0 y3
      refine r_take 0 (.slice z9 v1 y9) (RB.pre _ _) rfl (by kernel_rfl) (fun _ _ _ h => hQ.panic _ _ _ _ _ h) (.inl ⟨rfl, fun wq hq => (by kernel_rfl)⟩) ?_
      refine r_take 1 (.slice y4 z2.length z2.length) (RB.pre _ _) rfl (by kernel_rfl) (fun _ _ _ h => hQ.panic _ _ _ _ _ h) (.inl ⟨rfl, fun wq hq => (by kernel_rfl)⟩) ?_
      refine r_take 2 (.int .i64 z0) (RB.pre _ _) rfl (by kernel_rfl) (fun _ _ _ h => hQ.panic _ _ _ _ _ h) (.inl ⟨rfl, fun wq hq => (by kernel_rfl)⟩) ?_
      obtain ⟨q1, hp⟩ := hp
      obtain ⟨b4, b5, U5, o6, U6, o7, o8, o9⟩ := Sl.atI (OS.rd q0) z0 q1
      obtain ⟨rfl, k5⟩ := o8
      replace hp := hp k5
      refine r_take 3 (.pointer (some ⟨b4, b5 + z0.toNat * 1, none⟩)) (RB.pre _ _) rfl (by kernel_rfl) (fun _ _ _ h => hQ.panic _ _ _ _ _ h) (.inl ⟨rfl, fun wq hq => (x_ixA (m := z2.length) (c := z2.length) (k := .i64) (i := z0) Tryz.underlying65 Tryz.sizeOf9 (by rw [← o6]; kernel_rfl) (by kernel_rfl) ⟨q1.1, by rw [q0.1]; exact q1.2⟩)⟩) ?_
      refine r_take 4 (.string (lget z2 z0)) (RB.pre _ _) rfl (by kernel_rfl) (fun _ _ _ h => hQ.panic _ _ _ _ _ h) (.inl ⟨rfl, fun wq hq => (x_load1 (by kernel_rfl) Tryz.isAgg9 ((CellsAt.rb o9 (RB.trans v7 hq) (Nat.lt_of_lt_of_eq o7 u7) (fun h => by cases h)) 0 _ rfl))⟩) ?_
      refine r_take 5 (.pointer (some ⟨i4, 3, none⟩)) (RB.pre _ _) rfl (by kernel_rfl) (fun _ _ _ h => hQ.panic _ _ _ _ _ h) (.inl ⟨rfl, fun wq hq => (by kernel_rfl)⟩) ?_
      refine r_take 6 (.int .i64 z1.Mode) (RB.pre _ _) rfl (by kernel_rfl) (fun _ _ _ h => hQ.panic _ _ _ _ _ h) (.inl ⟨rfl, fun wq hq => (x_load1 (by kernel_rfl) Tryz.isAgg3 ((Blk.rb d0.2.1 (RB.trans v7 hq) (Nat.lt_of_lt_of_eq (Blk.lt d0.2.1) u7) (fun h => by cases h)).cell' 3 rfl))⟩) ?_
      refine r_take 7 (.slice v5 z4.length v6) (RB.pre _ _) rfl (by kernel_rfl) (fun _ _ _ h => hQ.panic _ _ _ _ _ h) (.inl ⟨rfl, fun wq hq => (by kernel_rfl)⟩) ?_
      have c0 := Sl.len k4
      refine r_take 8 (.string (strOfNums z4)) (RB.pre _ _) rfl (by kernel_rfl) (fun _ _ _ h => hQ.panic _ _ _ _ _ h) (.inl ⟨rfl, fun wq hq => (x_b2s_sl (a := v5) (len := z4.length) (c := v6) z4 Tryz.underlying32 Tryz.underlying5 Tryz.underlying9 (by kernel_rfl) rfl (Sl.step k4 (stepR (RB.trans v7 hq) u7 (Sub.nil _))))⟩) ?_
      refine r_take 9 (.agg #[(.string (lget z2 z0)), (.int .i64 z1.Mode), (.string (strOfNums z4))]) (RB.pre _ _) rfl (by kernel_rfl) (fun _ _ _ h => hQ.panic _ _ _ _ _ h) (.inl ⟨rfl, fun wq hq => (by kernel_rfl)⟩) ?_
      refine r_ready [10] (by kernel_rfl) rfl (all_cons ⟨_, _, _, _, _, _, rfl, ?_⟩ all_nil)
      refine o_rowX (R := r_rectolaw6_file) [(.string (lget z2 z0)), (.int .i64 z1.Mode), (.string (strOfNums z4))] [(S_rectolaw6_file.mk (lget z2 z0) z1.Mode (strOfNums z4))] 41 1 (X := r5) (B := w.heap.size) g9.size rfl (by kernel_rfl) (Flat.cons (cs := [(.string (lget z2 z0)), (.int .i64 z1.Mode), (.string (strOfNums z4))]) (r_rectolaw6_file_mk k5 u6 (strOfNums_le c0)) Flat.nil) rfl (by decide) ?_
      intro T4 T5 b6 y6 d1 b7
      have U7 := new_of (Nat.le_trans (Nat.le_of_eq u7.symm) (RB.size v7)) b7
      have rm := RB.mono (F' := []) (Step.evo y6) (Nat.le_trans (Nat.le_of_eq u7.symm) (RB.size v7)) (fun _ h => by cases h)
      refine ⟨fun _ => rm, ?_⟩
      refine r_ready [11] (by kernel_rfl) rfl (all_cons ⟨_, _, _, _, _, _, rfl, ?_⟩ all_nil)
      obtain ⟨b8, hp⟩ := hp
      have d2 := OS.step0 b2 y6
      have d3 := OS.step0 q0 y6
      have d4 := MO.step0 b3 y6
      have d5 := Evo.then0 g9 (Step.evo y6)
      refine o_appX (R := r_rectolaw6_file) (X := b6) (B := w.heap.size) (L := z3) (M := [(S_rectolaw6_file.mk (lget z2 z0) z1.Mode (strOfNums z4))]) rfl elT27 rfl d5.size d2 (OS.src d1) d1.1 (by kernel_rfl) (by kernel_rfl) b8 ?_
      intro q2 q3 q4 T6 b9 v9 f0 k6
      refine ⟨fun h => absurd h (by decide), ?_⟩
      have f1 := k6 _ k9 (OS.old d3)
      have f2 := k6 _ (Ap.symm g1) (MO.old d4)
      refine r_ready [12] (by kernel_rfl) rfl (all_cons ⟨_, _, _, _, _, _, rfl, ?_⟩ all_nil)
      refine o_pv (.slice q2 q3 q4) rfl (by kernel_rfl) ?_
      refine ⟨fun h => absurd h (by decide), ?_⟩
      refine r_done (by kernel_rfl) ?_
      refine blk_normal ?_
      have f3 := Evo.thenW d5 (Step.evo v9) (Wr.of d2.2.2)
      have l3 := Old.step (Old.step l2 y6) v9
      have c1 := Sub.trans (Sub.trans o4 (Step.up y6)) (Step.up v9)
      have c2 := News.step (News.step o5 y6) v9
      have f4 := OS.step d3 v9 k9
      have f5 := MO.step d4 v9 (Ap.symm g1)
      refine then_normal (q6 _ _ _ ⟨[(8, (.slice q2 q3 q4))], fit_mk (fun _ _ => rfl) (by kernel_rfl) (vs_cons (by kernel_rfl) vs_nil), ?_⟩)
      exact ⟨b9, (z3 ++ ([(S_rectolaw6_file.mk (lget z2 z0) z1.Mode (strOfNums z4))])), k3, q2, q3, q4, j9, rfl, f3, l3, c1, c2, f4, f0, f5, f1, i3, (Ap.symm f2), hp⟩
   ·
    rintro _ v2 T7 ⟨y5, v0, u2, v3, u3, u4, u5, rfl, f6, l4, c3, c4, f7, d6, f8, f9, p0, p1, c5⟩
    replace hp := m2 v0 u2 c5 (OS.len d6)
    refine then_normal (Y3 _ _ _ _ (reg_ (pv (.int .i64 z0) ?_)))
    obtain ⟨d7, hp⟩ := hp
    refine pw (.int .i64 (z0 + (1 : Int))) (x_add2 (k := .i64) (a := z0) (b := (1 : Int)) (z0 + (1 : Int)) (by kernel_rfl) (by kernel_rfl) (wrap_inR d7)) ?_
    refine pv (.int .i64 (z0 + (1 : Int))) ?_
    refine nil_ (then_normal (a4 _ _ _ ⟨_, [(8, (.slice v3 u3 u4)), (9, (.int .i64 (z0 + (1 : Int))))], hp.2, fit_mk (AgB.nest (AgB.look (AgB.mix _ _ _) (by kernel_rfl)) (by kernel_rfl) (by kernel_rfl)) (by kernel_rfl) (vs_cons (by kernel_rfl) (vs_cons (by kernel_rfl) vs_nil)), ?_⟩))
    exact ⟨y5, v0, (z0 + (1 : Int)), u2, v3, u3, u4, u5, rfl, rfl, f6, l4, c3, c4, f7, d6, f8, f9, p0, p1, d7, hp.1⟩
  ·
   replace hp := hp.2 j1
   refine wp_exit ?_
   refine then_exit (then_exit (blk_exit (then_normal (V3 _ _ _ _ (sr (fun _ p2 => pv (.slice z9 v1 y9) ?_))))))
   refine pv (.slice z9 v1 y9) ?_
   refine pv (.bool true) ?_
   refine nt p2 (wp_ret ?_)
   have c6 := OS.apold t0 p7
   obtain ⟨p3, d8, p4, k7⟩ := OS.release t0
   obtain rfl : v1 = z3.length := t0.1
   have p5 := k8
   have c7 := k7 _ c6 s1
   have c8 := News.less s2 d8
   have p6 := MO.less s4 d8 (k7 _ (Ap.symm s5) (MO.mem s4))
   refine end_ret hQ (.tuple #[(.slice z9 z3.length y9), (.bool true)]) (by kernel_rfl) ?_
   exact ⟨v4, z3, true, hp, p3, u9, z9, y9, step_of p5 l7 c7 c8, rfl, p6, p4⟩
end Go.Proofs.YtlkfoebophjhfaaGreatDoor
