/- Walks of functions: what each asks and computes, as a plain predicate, and the contract from it. -/
import Derived.Test.YtaolmfepdmgohaaGreatDoorChecked
import Derived.Test.YtaolmfepdmgohaaGreatDoorFp3
namespace Go.Proofs.YtaolmfepdmgohaaGreatDoor
open Go
theorem elT72 : ElemT Tryz.prog 72 9 1 16 := elemT_mk (i := Tryz.t9) (z := (.string (ByteArray.mk #[]))) (by kernel_rfl) (by kernel_rfl) (by kernel_rfl) (by kernel_rfl) Tryz.underlying72 Tryz.sizeOf9 (by decide) (by decide)
def rectolaw5_known_p (Q : Bool → Prop) : Prop :=
 (simfs_New_p (0 : Int) (fun (u2 : S_simfs_FS) => (simfs_FS_Write_p u2 (ByteArray.mk #[97]) (1 : Int) ([(120 : Int), (121 : Int)]) (fun (v5 : S_simfs_FS) (z3 : Int) => ((inR .i64 z3) → (simfs_FS_Write_p v5 (ByteArray.mk #[98]) (2 : Int) ([] : List Int) (fun (v6 : S_simfs_FS) (z4 : Int) => ((inR .i64 z4) → (simfs_FS_Tick_p v6 (fun (v7 : S_simfs_FS) => (simfs_FS_Pending_p v7 (fun (v8 : S_simfs_FS) (y3 : Int) => ((inR .i64 y3) → (simfs_FS_Cut_p v8 ([true]) (fun (y6 : S_simfs_FS) => (simfs_FS_Read_p y6 (ByteArray.mk #[97]) (fun (y7 : S_simfs_FS) (v9 : (List Int)) (z7 : Int) => ((v9.length ≤ 9223372036854775807) → ((inR .i64 z7) → (simfs_FS_On_p y7 (fun (y8 : S_simfs_FS) => (simfs_FS_Read_p y8 (ByteArray.mk #[97]) (fun (y9 : S_simfs_FS) (z8 : (List Int)) (z2 : Int) => ((z8.length ≤ 9223372036854775807) → ((inR .i64 z2) → (simfs_FS_Read_p y9 (ByteArray.mk #[98]) (fun (v0 : S_simfs_FS) (u0 : (List Int)) (z9 : Int) => ((u0.length ≤ 9223372036854775807) → ((inR .i64 z9) → (simfs_FS_Stat_p v0 (ByteArray.mk #[97]) (fun (v1 : S_simfs_FS) (z1 : S_simfs_Stat) (z5 : Int) => ((inR .i64 z1.Size) → ((inR .i64 z1.Time) → ((inR .i64 z1.Inode) → ((inR .i64 z1.Mode) → ((inR .i64 z5) → (simfs_FS_List_p v1 (fun (v2 : S_simfs_FS) (y0 : (List ByteArray)) (z6 : Int) => ((y0.length ≤ 9223372036854775807) → ((inR .i64 z6) → (∃ z0 : Bool → Prop, (∀ (y4 : Bool), z0 y4 → Q y4) ∧ ((inR .i64 (z3 + z4)) ∧ ((inR .i64 ((z3 + z4) + z2)) ∧ ((inR .i64 (((z3 + z4) + z2) + z5)) ∧ ((inR .i64 ((((z3 + z4) + z2) + z5) + z6)) ∧ (((((((z3 + z4) + z2) + z5) + z6) = (0 : Int)) → (((y3 = (2 : Int)) → (((z7 = (13 : Int)) → ((((strOfNums z8 : ByteArray) = (ByteArray.mk #[120, 121])) → (((z9 = (5 : Int)) → (((z1.Size = (2 : Int)) → (((z1.Mode = (1 : Int)) → (((z1.Inode = (1 : Int)) → ((((y0.length : Int) = (1 : Int)) → (simfs_FS_Now_p v2 (fun (v3 : S_simfs_FS) (y1 : Int) => ((inR .i64 y1) → (((y1 = (1 : Int)) → (simfs_FS_Used_p v3 (fun (v4 : S_simfs_FS) (y2 : Int) => ((inR .i64 y2) → (((y2 = (2 : Int)) → (simfs_FS_Ops_p v4 (fun (u1 : S_simfs_FS) (y5 : Int) => ((inR .i64 y5) → (z0 (decide (y5 = (2 : Int)))))))) ∧ ((¬ (y2 = (2 : Int))) → (z0 false))))))) ∧ ((¬ (y1 = (1 : Int))) → (z0 false))))))) ∧ ((¬ ((y0.length : Int) = (1 : Int))) → (z0 false)))) ∧ ((¬ (z1.Inode = (1 : Int))) → (z0 false)))) ∧ ((¬ (z1.Mode = (1 : Int))) → (z0 false)))) ∧ ((¬ (z1.Size = (2 : Int))) → (z0 false)))) ∧ ((¬ (z9 = (5 : Int))) → (z0 false)))) ∧ ((¬ ((strOfNums z8 : ByteArray) = (ByteArray.mk #[120, 121]))) → (z0 false)))) ∧ ((¬ (z7 = (13 : Int))) → (z0 false)))) ∧ ((¬ (y3 = (2 : Int))) → (z0 false)))) ∧ ((¬ (((((z3 + z4) + z2) + z5) + z6) = (0 : Int))) → (z0 false))))))))))))))))))))))))))))))))))))))))))))))))
set_option maxRecDepth 20000 in
set_option maxHeartbeats 4000000 in
theorem rectolaw5_known_w {X : List Nat} {w : World} {Q : Bool → Prop} (j3 : Old X w) (hp : rectolaw5_known_p Q) :
  Calls Tryz.prog 8 #[] w (Ret fun v w' => ∃ (p9 : Bool), Q p9 ∧ Evo [] w w' ∧ v = (.bool p9)) := by
 have hXo := j3
 have E0 : Evo [] w w := RB.refl _ _ _
 have hS : Sub X X := Sub.refl _
 unfold rectolaw5_known_p at hp
 refine enter_ Tryz.func8 rfl 120 [] (by kernel_rfl) (fun Qe hQ => ?_)
 refine seq_ (fun _ V4 => ?_)
 refine reg_ ?_
 refine sq (o_pv (.bool false) rfl (by kernel_rfl) ?_)
 refine nil_ ?_
 refine then_normal (V4 _ _ _ _ ?_)
 refine seq_ (fun _ V5 => ?_)
 refine reg_ ?_
 refine sq (o_call 9 #[(.int .i64 (0 : Int))] rfl (x_call Tryz.call9 (by kernel_rfl)) (simfs_New_w (X := X) (quota := (0 : Int)) hXo (by decide : inR .i64 (0 : Int)) hp) ?_)
 rintro _ P7 ⟨V6, hp, V7, z1, R3, i0, rfl, a3⟩
 have a4 := MO.re a3 (Wr.trans a3.wr (Wr.nil [] _) E0.size)
 refine sq (o_pv (.pointer (some ⟨z1, 0, none⟩)) rfl (by kernel_rfl) ?_)
 refine nil_ ?_
 refine then_normal (V5 _ _ _ _ ?_)
 refine seq_ (fun _ Z0 => ?_)
 refine seq_ (fun _ Z1 => ?_)
 refine reg_ ?_
 refine sq (o_pv (.pointer (some ⟨z1, 0, none⟩)) rfl (by kernel_rfl) ?_)
 refine sq (o_pv (.bool false) rfl (x_pnil_eq (a := ⟨z1, 0, none⟩) Tryz.underlying24 (by kernel_rfl) (by kernel_rfl)) ?_)
 refine nil_ ?_
 refine then_normal (Z1 _ _ _ _ ?_)
 refine cond_f (by kernel_rfl) ?_
 refine wp_skip ?_
 refine then_normal (Z0 _ _ _ _ ?_)
 refine seq_ (fun _ Z2 => ?_)
 refine reg_ ?_
 refine sq (o_pv (.pointer (some ⟨z1, 0, none⟩)) rfl (by kernel_rfl) ?_)
 have a5 := (Evo.then0 E0 (Step.evo i0))
 refine sq (o_rowX (R := (rInt .u8)) [(.int .u8 (120 : Int)), (.int .u8 (121 : Int))] [(120 : Int), (121 : Int)] 5 2 (X := V7) (B := w.heap.size) a5.size rfl (by kernel_rfl) (Flat.cons (cs := [(.int .u8 (120 : Int))]) (rInt_mk (by decide : inR .u8 (120 : Int))) (Flat.cons (cs := [(.int .u8 (121 : Int))]) (rInt_mk (by decide : inR .u8 (121 : Int))) Flat.nil)) rfl (by decide) ?_)
 intro a6 R4 R5 k2 k3 Z3
 have a7 := Z3 _ (MO.old a4)
 have Z4 := (MO.step0 a4 k2)
 have i1 := (Sub.trans (Sub.trans hS (Step.up i0)) (Step.up k2))
 have i2 := OS.apold k3 j3
 refine sq (o_mark rfl Tryz.underlying32 Tryz.underlying5 k3 (by kernel_rfl) ?_)
 intro R6 Z5 k4 a8 Z6 j4
 have m3 := (Old.step (Old.step (Old.step hXo i0) k2) k4)
 have Z7 := (Evo.thenW (Evo.then0 a5 (Step.evo k2)) (Step.evo k4) k3.2.2)
 have i3 := (Sub.trans i1 (Step.up k4))
 have a9 := (MO.step Z4 k4 a7)
 have i4 : Ap X [a6] := i2
 have k5 := (Old.less m3 a8)
 have e0 := Z7
 have i5 := (j4 _ i4 i3)
 have j5 := (MO.less a9 a8 (j4 _ a7 (MO.mem a9)))
 refine sq (o_call 27 #[(.pointer (some ⟨z1, 0, none⟩)), (.string (ByteArray.mk #[97])), (.int .i64 (1 : Int)), (.slice (some ⟨a6, 0, none⟩) ([(120 : Int), (121 : Int)]).length 2)] rfl (x_call Tryz.call27 (by rw [← show 2 = ([(120 : Int), (121 : Int)]).length from k3.1]; kernel_rfl)) (simfs_FS_Write_w (X := Z5) (f_ := V6) (p := (ByteArray.mk #[97])) (mode := (1 : Int)) (b := [(120 : Int), (121 : Int)]) k5 (MO.re j5 (Wr.self _ _ (Sub.refl _))) (by decide : (ByteArray.mk #[97]).size ≤ maxLen) (by decide : inR .i64 (1 : Int)) Z6 hp) ?_)
 rintro _ R7 ⟨i6, z7, hp, Z8, R8, j6, rfl, e1, i7⟩
 have j7 := MO.re e1 (Wr.trans e1.wr j5.wr e0.size)
 replace hp := hp i7
 refine sq (o_pv (.int .i64 z7) rfl (by kernel_rfl) ?_)
 refine nil_ ?_
 refine then_normal (Z2 _ _ _ _ ?_)
 refine seq_ (fun _ Z9 => ?_)
 refine reg_ ?_
 refine sq (o_pv (.pointer (some ⟨z1, 0, none⟩)) rfl (by kernel_rfl) ?_)
 have k6 := (Old.step k5 j6)
 have e2 := (Evo.thenW e0 (Step.evo j6) j5.wr)
 have i9 := (Sub.trans i5 (Step.up j6))
 refine sq (o_call 27 #[(.pointer (some ⟨z1, 0, none⟩)), (.string (ByteArray.mk #[98])), (.int .i64 (2 : Int)), (.slice none (([] : List Int)).length 0)] rfl (x_call Tryz.call27 (by rw []; kernel_rfl)) (simfs_FS_Write_w (X := Z8) (f_ := i6) (p := (ByteArray.mk #[98])) (mode := (2 : Int)) (b := ([] : List Int)) k6 (MO.re j7 (Wr.self _ _ (Sub.refl _))) (by decide : (ByteArray.mk #[98]).size ≤ maxLen) (by decide : inR .i64 (2 : Int)) Sl.nil hp) ?_)
 rintro _ R9 ⟨h0, z8, hp, Y0, P0, j8, rfl, e3, h1⟩
 have j9 := MO.re e3 (Wr.trans e3.wr j7.wr e2.size)
 replace hp := hp h1
 refine sq (o_pv (.int .i64 z8) rfl (by kernel_rfl) ?_)
 refine nil_ ?_
 refine then_normal (Z9 _ _ _ _ ?_)
 refine seq_ (fun _ Y1 => ?_)
 refine reg_ ?_
 refine sq (o_pv (.pointer (some ⟨z1, 0, none⟩)) rfl (by kernel_rfl) ?_)
 have k7 := (Old.step k6 j8)
 have e4 := (Evo.thenW e2 (Step.evo j8) j7.wr)
 have h2 := (Sub.trans i9 (Step.up j8))
 refine sq (o_call 28 #[(.pointer (some ⟨z1, 0, none⟩))] rfl (x_call Tryz.call28 (by kernel_rfl)) (simfs_FS_Tick_w (X := Y0) (f_ := h0) k7 (MO.re j9 (Wr.self _ _ (Sub.refl _))) hp) ?_)
 rintro _ P1 ⟨h3, hp, Y2, P2, g0, rfl, e5⟩
 have g1 := MO.re e5 (Wr.trans e5.wr j9.wr e4.size)
 refine nil_ ?_
 refine then_normal (Y1 _ _ _ _ ?_)
 refine seq_ (fun _ Y3 => ?_)
 refine reg_ ?_
 refine sq (o_pv (.pointer (some ⟨z1, 0, none⟩)) rfl (by kernel_rfl) ?_)
 have k8 := (Old.step k7 g0)
 have e6 := (Evo.thenW e4 (Step.evo g0) j9.wr)
 have h4 := (Sub.trans h2 (Step.up g0))
 refine sq (o_call 29 #[(.pointer (some ⟨z1, 0, none⟩))] rfl (x_call Tryz.call29 (by kernel_rfl)) (simfs_FS_Pending_w (X := Y2) (f_ := h3) k8 (MO.re g1 (Wr.self _ _ (Sub.refl _))) hp) ?_)
 rintro _ P3 ⟨h5, t9, hp, Y4, P4, g2, rfl, e7, h6⟩
 have e8 := MO.re e7 (Wr.trans e7.wr g1.wr e6.size)
 replace hp := hp h6
 refine sq (o_pv (.int .i64 t9) rfl (by kernel_rfl) ?_)
 refine nil_ ?_
 refine then_normal (Y3 _ _ _ _ ?_)
 refine seq_ (fun _ Y5 => ?_)
 refine reg_ ?_
 refine sq (o_pv (.pointer (some ⟨z1, 0, none⟩)) rfl (by kernel_rfl) ?_)
 have e9 := (Evo.thenW e6 (Step.evo g2) g1.wr)
 refine sq (o_rowX (R := rBool) [(.bool true)] [true] 4 1 (X := Y4) (B := w.heap.size) e9.size rfl (by kernel_rfl) (Flat.cons (cs := [(.bool true)]) rBool_mk Flat.nil) rfl (by decide) ?_)
 intro Y6 P5 P6 k9 g3 Y7
 have Y8 := Y7 _ (MO.old e8)
 have h7 := (Sub.trans (Sub.trans h4 (Step.up g2)) (Step.up k9))
 have g4 := (Old.step (Old.step k8 g2) k9)
 have h8 := (Evo.then0 e9 (Step.evo k9))
 have g5 := (MO.step0 e8 k9)
 have m4 := OS.apold g3 j3
 obtain ⟨Y9, g6, h9, j0⟩ := OS.release g3
 have s0 := (Old.less g4 g6)
 have g7 := h8
 have m5 := (j0 _ m4 h7)
 have r1 := (MO.less g5 g6 (j0 _ Y8 (MO.mem g5)))
 refine sq (o_call 11 #[(.pointer (some ⟨z1, 0, none⟩)), (.slice (some ⟨Y6, 0, none⟩) ([true]).length 1)] rfl (x_call Tryz.call11 (by rw [← show 1 = ([true]).length from g3.1]; kernel_rfl)) (simfs_FS_Cut_w (X := Y9) (f_ := h5) (keep := [true]) s0 (MO.re r1 (Wr.self _ _ (Sub.refl _))) h9 hp) ?_)
 rintro _ V8 ⟨m6, hp, b0, V9, r2, rfl, g8⟩
 have r3 := MO.re g8 (Wr.trans g8.wr r1.wr g7.size)
 refine nil_ ?_
 refine then_normal (Y5 _ _ _ _ ?_)
 refine seq_ (fun _ b1 => ?_)
 refine reg_ ?_
 refine sq (o_pv (.pointer (some ⟨z1, 0, none⟩)) rfl (by kernel_rfl) ?_)
 have s1 := (Old.step s0 r2)
 have g9 := (Evo.thenW g7 (Step.evo r2) r1.wr)
 have m7 := (Sub.trans m5 (Step.up r2))
 refine sq (o_call 30 #[(.pointer (some ⟨z1, 0, none⟩)), (.string (ByteArray.mk #[97]))] rfl (x_call Tryz.call30 (by kernel_rfl)) (simfs_FS_Read_w (X := b0) (f_ := m6) (p := (ByteArray.mk #[97])) s1 (MO.re r3 (Wr.self _ _ (Sub.refl _))) (by decide : (ByteArray.mk #[97]).size ≤ maxLen) hp) ?_)
 rintro _ U0 ⟨m8, r4, y4, hp, b2, U1, v8, v9, r5, rfl, d0, m9, n0⟩
 have r6 := MO.re d0 (Wr.trans d0.wr r3.wr g9.size)
 replace hp := hp (Sl.len m9)
 replace hp := hp n0
 refine sq (o_pv (.tuple #[(.slice v8 r4.length v9), (.int .i64 y4)]) rfl (by kernel_rfl) ?_)
 refine sq (o_pv (.slice v8 r4.length v9) rfl (by kernel_rfl) ?_)
 refine sq (o_pv (.int .i64 y4) rfl (by kernel_rfl) ?_)
 refine sq (o_pv (.slice v8 r4.length v9) rfl (by kernel_rfl) ?_)
 refine sq (o_pv (.int .i64 y4) rfl (by kernel_rfl) ?_)
 refine nil_ ?_
 refine then_normal (b1 _ _ _ _ ?_)
 refine seq_ (fun _ b3 => ?_)
 refine reg_ ?_
 refine sq (o_pv (.pointer (some ⟨z1, 0, none⟩)) rfl (by kernel_rfl) ?_)
 have s2 := (Old.step s1 r5)
 have d1 := (Evo.thenW g9 (Step.evo r5) r3.wr)
 have n1 := (Sub.trans m7 (Step.up r5))
 refine sq (o_call 22 #[(.pointer (some ⟨z1, 0, none⟩))] rfl (x_call Tryz.call22 (by kernel_rfl)) (simfs_FS_On_w (X := b2) (f_ := m8) s2 (MO.re r6 (Wr.self _ _ (Sub.refl _))) hp) ?_)
 rintro _ U2 ⟨n2, hp, b4, U3, r7, rfl, d2⟩
 have r8 := MO.re d2 (Wr.trans d2.wr r6.wr d1.size)
 refine nil_ ?_
 refine then_normal (b3 _ _ _ _ ?_)
 refine seq_ (fun _ b5 => ?_)
 refine reg_ ?_
 refine sq (o_pv (.pointer (some ⟨z1, 0, none⟩)) rfl (by kernel_rfl) ?_)
 have s3 := (Old.step s2 r7)
 have d3 := (Evo.thenW d1 (Step.evo r7) r6.wr)
 have n3 := (Sub.trans n1 (Step.up r7))
 refine sq (o_call 30 #[(.pointer (some ⟨z1, 0, none⟩)), (.string (ByteArray.mk #[97]))] rfl (x_call Tryz.call30 (by kernel_rfl)) (simfs_FS_Read_w (X := b4) (f_ := n2) (p := (ByteArray.mk #[97])) s3 (MO.re r8 (Wr.self _ _ (Sub.refl _))) (by decide : (ByteArray.mk #[97]).size ≤ maxLen) hp) ?_)
 rintro _ U4 ⟨n4, y0, z3, hp, b6, U5, y6, y7, r9, rfl, d4, j1, n5⟩
 have q0 := MO.re d4 (Wr.trans d4.wr r8.wr d3.size)
 replace hp := hp (Sl.len j1)
 replace hp := hp n5
 refine sq (o_pv (.tuple #[(.slice y6 y0.length y7), (.int .i64 z3)]) rfl (by kernel_rfl) ?_)
 refine sq (o_pv (.slice y6 y0.length y7) rfl (by kernel_rfl) ?_)
 refine sq (o_pv (.int .i64 z3) rfl (by kernel_rfl) ?_)
 refine sq (o_pv (.slice y6 y0.length y7) rfl (by kernel_rfl) ?_)
 refine sq (o_pv (.int .i64 z3) rfl (by kernel_rfl) ?_)
 refine nil_ ?_
 refine then_normal (b5 _ _ _ _ ?_)
 refine seq_ (fun _ b7 => ?_)
 refine reg_ ?_
 refine sq (o_pv (.pointer (some ⟨z1, 0, none⟩)) rfl (by kernel_rfl) ?_)
 have s4 := (Old.step s3 r9)
 have d5 := (Evo.thenW d3 (Step.evo r9) r8.wr)
 have n6 := (Sub.trans n3 (Step.up r9))
 refine sq (o_call 30 #[(.pointer (some ⟨z1, 0, none⟩)), (.string (ByteArray.mk #[98]))] rfl (x_call Tryz.call30 (by kernel_rfl)) (simfs_FS_Read_w (X := b6) (f_ := n4) (p := (ByteArray.mk #[98])) s4 (MO.re q0 (Wr.self _ _ (Sub.refl _))) (by decide : (ByteArray.mk #[98]).size ≤ maxLen) hp) ?_)
 rintro _ U6 ⟨n7, q1, y5, hp, b8, U7, u0, u1, u2, rfl, d6, n8, n9⟩
 have q2 := MO.re d6 (Wr.trans d6.wr q0.wr d5.size)
 replace hp := hp (Sl.len n8)
 replace hp := hp n9
 refine sq (o_pv (.tuple #[(.slice u0 q1.length u1), (.int .i64 y5)]) rfl (by kernel_rfl) ?_)
 refine sq (o_pv (.slice u0 q1.length u1) rfl (by kernel_rfl) ?_)
 refine sq (o_pv (.int .i64 y5) rfl (by kernel_rfl) ?_)
 refine sq (o_pv (.slice u0 q1.length u1) rfl (by kernel_rfl) ?_)
 refine sq (o_pv (.int .i64 y5) rfl (by kernel_rfl) ?_)
 refine nil_ ?_
 refine then_normal (b7 _ _ _ _ ?_)
 refine seq_ (fun _ b9 => ?_)
 refine reg_ ?_
 refine sq (o_pv (.pointer (some ⟨z1, 0, none⟩)) rfl (by kernel_rfl) ?_)
 have s5 := (Old.step s4 u2)
 have d7 := (Evo.thenW d5 (Step.evo u2) q0.wr)
 have o0 := (Sub.trans n6 (Step.up u2))
 have o3 := (Sl.step j1 u2)
 refine sq (o_call 31 #[(.pointer (some ⟨z1, 0, none⟩)), (.string (ByteArray.mk #[97]))] rfl (x_call Tryz.call31 (by kernel_rfl)) (simfs_FS_Stat_w (X := b8) (f_ := n7) (p := (ByteArray.mk #[97])) s5 (MO.re q2 (Wr.self _ _ (Sub.refl _))) (by decide : (ByteArray.mk #[97]).size ≤ maxLen) hp) ?_)
 rintro _ U8 ⟨o4, z0, z6, hp, f0, U9, u3, rfl, d8, s6, s7, u4, s8, o5⟩
 have d9 := MO.re d8 (Wr.trans d8.wr q2.wr d7.size)
 replace hp := hp s6
 replace hp := hp s7
 replace hp := hp u4
 replace hp := hp s8
 replace hp := hp o5
 refine sq (o_pv (.tuple #[(.agg #[(.int .i64 z0.Size), (.int .i64 z0.Time), (.int .i64 z0.Inode), (.int .i64 z0.Mode)]), (.int .i64 z6)]) rfl (by kernel_rfl) ?_)
 refine sq (o_pv (.agg #[(.int .i64 z0.Size), (.int .i64 z0.Time), (.int .i64 z0.Inode), (.int .i64 z0.Mode)]) rfl (by kernel_rfl) ?_)
 refine sq (o_pv (.int .i64 z6) rfl (by kernel_rfl) ?_)
 have l0 := (Evo.thenW d7 (Step.evo u3) q2.wr)
 refine sq (o_newX [(.int .i64 (0 : Int)), (.int .i64 (0 : Int)), (.int .i64 (0 : Int)), (.int .i64 (0 : Int))] 69 (X := f0) (B := w.heap.size) l0.size rfl (by kernel_rfl) ?_)
 intro q3 T0 f1 v3 l1 f2
 have l2 := f2 _ (MO.old d9)
 have f3 := (MO.step0 d9 v3)
 have f4 := (Evo.then0 l0 (Step.evo v3))
 refine sq (o_stB (o := 0) (v := (.agg #[(.int .i64 z0.Size), (.int .i64 z0.Time), (.int .i64 z0.Inode), (.int .i64 z0.Mode)])) [(.int .i64 z0.Size), (.int .i64 z0.Time), (.int .i64 z0.Inode), (.int .i64 z0.Mode)] rfl l1 (by kernel_rfl) (by kernel_rfl) Tryz.sizeOf69 rfl rfl rfl ?_)
 intro T1 v4 f5
 refine sq (o_pv (.int .i64 z6) rfl (by kernel_rfl) ?_)
 refine nil_ ?_
 refine then_normal (b9 _ _ _ _ ?_)
 refine seq_ (fun _ f6 => ?_)
 refine reg_ ?_
 refine sq (o_pv (.pointer (some ⟨z1, 0, none⟩)) rfl (by kernel_rfl) ?_)
 have s9 := (Old.step (Old.step (Old.step s5 u3) v3) v4)
 have l3 := (Evo.thenW f4 (Step.evo v4) l1.2.2)
 have o6 := (Sub.trans (Sub.trans (Sub.trans o0 (Step.up u3)) (Step.up v3)) (Step.up v4))
 have o7 := (Sl.step (Sl.step (Sl.step o3 u3) v3) v4)
 have q4 := (MO.step f3 v4 l2)
 refine sq (o_call 32 #[(.pointer (some ⟨z1, 0, none⟩))] rfl (x_call Tryz.call32 (by kernel_rfl)) (simfs_FS_List_w (X := f1) (f_ := o4) s9 (MO.re q4 (Wr.self _ _ (Sub.refl _))) hp) ?_)
 rintro _ T2 ⟨o8, y3, y1, hp, y2, T3, v1, v2, v5, rfl, l4, o9, c0⟩
 have u5 := MO.re l4 (Wr.trans l4.wr q4.wr l3.size)
 replace hp := hp (Sl.len o9)
 replace hp := hp c0
 refine sq (o_pv (.tuple #[(.slice v1 y3.length v2), (.int .i64 y1)]) rfl (by kernel_rfl) ?_)
 refine sq (o_pv (.slice v1 y3.length v2) rfl (by kernel_rfl) ?_)
 refine sq (o_pv (.int .i64 y1) rfl (by kernel_rfl) ?_)
 refine sq (o_pv (.slice v1 y3.length v2) rfl (by kernel_rfl) ?_)
 refine sq (o_pv (.int .i64 y1) rfl (by kernel_rfl) ?_)
 refine nil_ ?_
 refine then_normal (f6 _ _ _ _ ?_)
 refine seq_ (fun _ f7 => ?_)
 have z2 := (Old.step s9 v5)
 have z9 := (Evo.thenW l3 (Step.evo v5) q4.wr)
 have z5 := (Sub.trans o6 (Step.up v5))
 have c1 := (Sl.step o7 v5)
 have q5 := (OB.step f5 v5 (Ap.symm l2))
 obtain ⟨f8, c2, hp⟩ := hp
 refine ground_ ?_
 refine join_ 1329227995784915872615576684128632833 (fun lq q6 => ∃ (q7 : List Nat) (y8 : Bool), (lq = [(0, (.bool y8))]) ∧ (Evo [] w q6) ∧ (Old q7 q6) ∧ (Sub X q7) ∧ (f8 y8)) (fun V1 z4 => ?_) ?_
 ·
  refine reg_ ?_
  refine sq (o_pv (.int .i64 z7) rfl (by kernel_rfl) ?_)
  refine sq (o_pv (.int .i64 z8) rfl (by kernel_rfl) ?_)
  obtain ⟨f9, hp⟩ := hp
  refine sq (o_pv (.int .i64 (z7 + z8)) rfl (x_add2 (k := .i64) (a := z7) (b := z8) (z7 + z8) (by kernel_rfl) (by kernel_rfl) (wrap_inR f9)) ?_)
  refine sq (o_pv (.int .i64 z3) rfl (by kernel_rfl) ?_)
  obtain ⟨p0, hp⟩ := hp
  refine sq (o_pv (.int .i64 ((z7 + z8) + z3)) rfl (x_add2 (k := .i64) (a := z7 + z8) (b := z3) ((z7 + z8) + z3) (by kernel_rfl) (by kernel_rfl) (wrap_inR p0)) ?_)
  refine sq (o_pv (.int .i64 z6) rfl (by kernel_rfl) ?_)
  obtain ⟨p1, hp⟩ := hp
  refine sq (o_pv (.int .i64 (((z7 + z8) + z3) + z6)) rfl (x_add2 (k := .i64) (a := (z7 + z8) + z3) (b := z6) (((z7 + z8) + z3) + z6) (by kernel_rfl) (by kernel_rfl) (wrap_inR p1)) ?_)
  refine sq (o_pv (.int .i64 y1) rfl (by kernel_rfl) ?_)
  obtain ⟨p2, hp⟩ := hp
  refine sq (o_pv (.int .i64 ((((z7 + z8) + z3) + z6) + y1)) rfl (x_add2 (k := .i64) (a := ((z7 + z8) + z3) + z6) (b := y1) ((((z7 + z8) + z3) + z6) + y1) (by kernel_rfl) (by kernel_rfl) (wrap_inR p2)) ?_)
  by_cases u6 : ((((z7 + z8) + z3) + z6) + y1) = (0 : Int)
  ·
   replace hp := hp.1 u6
   refine sq (o_pv (.bool true) rfl (x_dt (p := ((((z7 + z8) + z3) + z6) + y1) = (0 : Int)) (by kernel_rfl) u6) ?_)
   refine sq (o_pv (.bool true) rfl (by kernel_rfl) ?_)
   refine sq (o_pv (.int .i64 t9) (by kernel_rfl) (by kernel_rfl) ?_)
   by_cases u7 : t9 = (2 : Int)
   ·
    replace hp := hp.1 u7
    refine sq (o_pv (.bool true) (by kernel_rfl) (x_dt (p := t9 = (2 : Int)) (by kernel_rfl) u7) ?_)
    refine sq (o_pv (.bool true) rfl (by kernel_rfl) ?_)
    refine sq (o_pv (.bool true) rfl (by kernel_rfl) ?_)
    refine sq (o_pv (.int .i64 y4) (by kernel_rfl) (by kernel_rfl) ?_)
    by_cases u9 : y4 = (13 : Int)
    ·
     replace hp := hp.1 u9
     refine sq (o_pv (.bool true) (by kernel_rfl) (x_dt (p := y4 = (13 : Int)) (by kernel_rfl) u9) ?_)
     refine sq (o_pv (.bool true) rfl (by kernel_rfl) ?_)
     refine sq (o_pv (.bool true) rfl (by kernel_rfl) ?_)
     refine sq (o_pv (.slice y6 y0.length y7) (by kernel_rfl) (by kernel_rfl) ?_)
     refine sq (o_pv (.string (strOfNums y0)) (by kernel_rfl) (x_b2s_sl (a := y6) (len := y0.length) (c := y7) y0 Tryz.underlying32 Tryz.underlying5 Tryz.underlying9 (by kernel_rfl) rfl c1) ?_)
     by_cases t0 : (strOfNums y0 : ByteArray) = (ByteArray.mk #[120, 121])
     ·
      replace hp := hp.1 t0
      refine sq (o_pv (.bool true) (by kernel_rfl) (x_dt (p := (strOfNums y0 : ByteArray) = (ByteArray.mk #[120, 121])) (x_streq (by kernel_rfl) (by kernel_rfl)) t0) ?_)
      refine sq (o_pv (.bool true) rfl (by kernel_rfl) ?_)
      refine sq (o_pv (.bool true) rfl (by kernel_rfl) ?_)
      refine sq (o_pv (.int .i64 y5) (by kernel_rfl) (by kernel_rfl) ?_)
      by_cases t1 : y5 = (5 : Int)
      ·
       replace hp := hp.1 t1
       refine sq (o_pv (.bool true) (by kernel_rfl) (x_dt (p := y5 = (5 : Int)) (by kernel_rfl) t1) ?_)
       refine sq (o_pv (.bool true) rfl (by kernel_rfl) ?_)
       refine sq (o_pv (.bool true) rfl (by kernel_rfl) ?_)
       refine sq (o_pv (.pointer (some ⟨q3, 0, none⟩)) (by kernel_rfl) (by kernel_rfl) ?_)
       refine sq (o_pv (.int .i64 z0.Size) (by kernel_rfl) (x_load1 (by kernel_rfl) Tryz.isAgg3 (q5.2.1.cell' 0 rfl)) ?_)
       by_cases t2 : z0.Size = (2 : Int)
       ·
        replace hp := hp.1 t2
        refine sq (o_pv (.bool true) (by kernel_rfl) (x_dt (p := z0.Size = (2 : Int)) (by kernel_rfl) t2) ?_)
        refine sq (o_pv (.bool true) rfl (by kernel_rfl) ?_)
        refine sq (o_pv (.bool true) rfl (by kernel_rfl) ?_)
        refine sq (o_pv (.pointer (some ⟨q3, 3, none⟩)) (by kernel_rfl) (by kernel_rfl) ?_)
        refine sq (o_pv (.int .i64 z0.Mode) (by kernel_rfl) (x_load1 (by kernel_rfl) Tryz.isAgg3 (q5.2.1.cell' 3 rfl)) ?_)
        by_cases t3 : z0.Mode = (1 : Int)
        ·
         replace hp := hp.1 t3
         refine sq (o_pv (.bool true) (by kernel_rfl) (x_dt (p := z0.Mode = (1 : Int)) (by kernel_rfl) t3) ?_)
         refine sq (o_pv (.bool true) rfl (by kernel_rfl) ?_)
         refine sq (o_pv (.bool true) rfl (by kernel_rfl) ?_)
         refine sq (o_pv (.pointer (some ⟨q3, 2, none⟩)) (by kernel_rfl) (by kernel_rfl) ?_)
         refine sq (o_pv (.int .i64 z0.Inode) (by kernel_rfl) (x_load1 (by kernel_rfl) Tryz.isAgg3 (q5.2.1.cell' 2 rfl)) ?_)
         by_cases t4 : z0.Inode = (1 : Int)
         ·
          replace hp := hp.1 t4
          refine sq (o_pv (.bool true) (by kernel_rfl) (x_dt (p := z0.Inode = (1 : Int)) (by kernel_rfl) t4) ?_)
          refine sq (o_pv (.bool true) rfl (by kernel_rfl) ?_)
          refine sq (o_pv (.bool true) rfl (by kernel_rfl) ?_)
          refine sq (o_pv (.slice v1 y3.length v2) (by kernel_rfl) (by kernel_rfl) ?_)
          refine sq (o_pv (.int .i64 (y3.length : Int)) (by kernel_rfl) (by kernel_rfl) ?_)
          by_cases t5 : (y3.length : Int) = (1 : Int)
          ·
           replace hp := hp.1 t5
           refine sq (o_pv (.bool true) (by kernel_rfl) (x_dt (p := (y3.length : Int) = (1 : Int)) (by kernel_rfl) t5) ?_)
           refine sq (o_pv (.bool true) rfl (by kernel_rfl) ?_)
           refine sq (o_pv (.bool true) rfl (by kernel_rfl) ?_)
           refine sq (o_pv (.pointer (some ⟨z1, 0, none⟩)) (by kernel_rfl) (by kernel_rfl) ?_)
           refine sq (o_call 33 #[(.pointer (some ⟨z1, 0, none⟩))] (by kernel_rfl) (x_call Tryz.call33 (by kernel_rfl)) (simfs_FS_Now_w (X := y2) (f_ := o8) z2 (MO.re u5 (Wr.self _ _ (Sub.refl _))) hp) ?_)
           rintro _ T4 ⟨c3, q8, hp, l5, T5, y9, rfl, l6, c4⟩
           have t6 := MO.re l6 (Wr.trans l6.wr u5.wr z9.size)
           replace hp := hp c4
           by_cases t7 : q8 = (1 : Int)
           ·
            replace hp := hp.1 t7
            refine sq (o_pv (.bool true) (by kernel_rfl) (x_dt (p := q8 = (1 : Int)) (by kernel_rfl) t7) ?_)
            refine sq (o_pv (.bool true) rfl (by kernel_rfl) ?_)
            refine sq (o_pv (.bool true) rfl (by kernel_rfl) ?_)
            refine sq (o_pv (.pointer (some ⟨z1, 0, none⟩)) (by kernel_rfl) (by kernel_rfl) ?_)
            have v6 := (Old.step z2 y9)
            have q9 := (Evo.thenW z9 (Step.evo y9) u5.wr)
            have j2 := (Sub.trans z5 (Step.up y9))
            refine sq (o_call 34 #[(.pointer (some ⟨z1, 0, none⟩))] (by kernel_rfl) (x_call Tryz.call34 (by kernel_rfl)) (simfs_FS_Used_w (X := l5) (f_ := c3) v6 (MO.re t6 (Wr.self _ _ (Sub.refl _))) hp) ?_)
            rintro _ T6 ⟨c5, k0, hp, l7, T7, v0, rfl, l8, c6⟩
            have l9 := MO.re l8 (Wr.trans l8.wr t6.wr q9.size)
            replace hp := hp c6
            by_cases t8 : k0 = (2 : Int)
            ·
             replace hp := hp.1 t8
             refine sq (o_pv (.bool true) (by kernel_rfl) (x_dt (p := k0 = (2 : Int)) (by kernel_rfl) t8) ?_)
             refine sq (o_pv (.bool true) rfl (by kernel_rfl) ?_)
             refine sq (o_pv (.bool true) rfl (by kernel_rfl) ?_)
             refine sq (o_pv (.pointer (some ⟨z1, 0, none⟩)) (by kernel_rfl) (by kernel_rfl) ?_)
             have r0 := (Old.step v6 v0)
             have p3 := (Evo.thenW q9 (Step.evo v0) t6.wr)
             have c7 := (Sub.trans j2 (Step.up v0))
             refine sq (o_call 26 #[(.pointer (some ⟨z1, 0, none⟩))] (by kernel_rfl) (x_call Tryz.call26 (by kernel_rfl)) (simfs_FS_Ops_w (X := l7) (f_ := c5) r0 (MO.re l9 (Wr.self _ _ (Sub.refl _))) hp) ?_)
             rintro _ T8 ⟨V2, v7, hp, p4, T9, k1, rfl, R1, c8⟩
             replace hp := hp c8
             refine sq (o_pv (.bool (decide (v7 = (2 : Int)))) (by kernel_rfl) (by kernel_rfl) ?_)
             refine sq (o_pv (.bool (decide (v7 = (2 : Int)))) rfl (by kernel_rfl) ?_)
             refine sq (o_pv (.bool (decide (v7 = (2 : Int)))) rfl (by kernel_rfl) ?_)
             refine nil_ ?_
             have p5 := (Evo.thenW p3 (Step.evo k1) l9.wr)
             have m0 := (Old.step r0 k1)
             have c9 := (Sub.trans c7 (Step.up k1))
             refine then_normal (z4 _ _ _ ⟨[(0, (.bool (decide (v7 = (2 : Int)))))], fit_mk (fun _ _ => rfl) (by kernel_rfl) (vs_cons (by kernel_rfl) vs_nil), ?_⟩)
             exact ⟨p4, (decide (v7 = (2 : Int))), rfl, p5, m0, c9, hp⟩
            ·
             replace hp := hp.2 t8
             refine sq (o_pv (.bool false) (by kernel_rfl) (x_df (p := k0 = (2 : Int)) (by kernel_rfl) t8) ?_)
             refine sq (o_pv (.bool false) rfl (by kernel_rfl) ?_)
             refine sq (o_pv (.bool false) rfl (by kernel_rfl) ?_)
             refine sq (o_not (by kernel_rfl) ?_)
             refine sq (o_not (by kernel_rfl) ?_)
             refine sq (o_not (by kernel_rfl) ?_)
             refine sq (o_pv (.bool false) rfl (by kernel_rfl) ?_)
             refine sq (o_pv (.bool false) rfl (by kernel_rfl) ?_)
             refine nil_ ?_
             have p6 := (Evo.thenW q9 (Step.evo v0) t6.wr)
             have m1 := (Old.step v6 v0)
             have a0 := (Sub.trans j2 (Step.up v0))
             refine then_normal (z4 _ _ _ ⟨[(0, (.bool false))], fit_mk (fun _ _ => rfl) (by kernel_rfl) (vs_cons (by kernel_rfl) vs_nil), ?_⟩)
             exact ⟨l7, false, rfl, p6, m1, a0, hp⟩
           ·
            replace hp := hp.2 t7
            refine sq (o_pv (.bool false) (by kernel_rfl) (x_df (p := q8 = (1 : Int)) (by kernel_rfl) t7) ?_)
            refine sq (o_pv (.bool false) rfl (by kernel_rfl) ?_)
            refine sq (o_pv (.bool false) rfl (by kernel_rfl) ?_)
            refine sq (o_not (by kernel_rfl) ?_)
            refine sq (o_not (by kernel_rfl) ?_)
            refine sq (o_not (by kernel_rfl) ?_)
            refine sq (o_pv (.bool false) rfl (by kernel_rfl) ?_)
            refine sq (o_pv (.bool false) rfl (by kernel_rfl) ?_)
            refine sq (o_not (by kernel_rfl) ?_)
            refine sq (o_not (by kernel_rfl) ?_)
            refine sq (o_not (by kernel_rfl) ?_)
            refine sq (o_pv (.bool false) rfl (by kernel_rfl) ?_)
            refine sq (o_pv (.bool false) rfl (by kernel_rfl) ?_)
            refine nil_ ?_
            have p7 := (Evo.thenW z9 (Step.evo y9) u5.wr)
            have m2 := (Old.step z2 y9)
            have a1 := (Sub.trans z5 (Step.up y9))
            refine then_normal (z4 _ _ _ ⟨[(0, (.bool false))], fit_mk (fun _ _ => rfl) (by kernel_rfl) (vs_cons (by kernel_rfl) vs_nil), ?_⟩)
            exact ⟨l5, false, rfl, p7, m2, a1, hp⟩
          ·
           replace hp := hp.2 t5
           refine sq (o_pv (.bool false) (by kernel_rfl) (x_df (p := (y3.length : Int) = (1 : Int)) (by kernel_rfl) t5) ?_)
           refine sq (o_pv (.bool false) rfl (by kernel_rfl) ?_)
           refine sq (o_pv (.bool false) rfl (by kernel_rfl) ?_)
           refine sq (o_not (by kernel_rfl) ?_)
           refine sq (o_not (by kernel_rfl) ?_)
           refine sq (o_not (by kernel_rfl) ?_)
           refine sq (o_pv (.bool false) rfl (by kernel_rfl) ?_)
           refine sq (o_pv (.bool false) rfl (by kernel_rfl) ?_)
           refine sq (o_not (by kernel_rfl) ?_)
           refine sq (o_not (by kernel_rfl) ?_)
           refine sq (o_not (by kernel_rfl) ?_)
           refine sq (o_pv (.bool false) rfl (by kernel_rfl) ?_)
           refine sq (o_pv (.bool false) rfl (by kernel_rfl) ?_)
           refine sq (o_not (by kernel_rfl) ?_)
           refine sq (o_not (by kernel_rfl) ?_)
           refine sq (o_not (by kernel_rfl) ?_)
           refine sq (o_pv (.bool false) rfl (by kernel_rfl) ?_)
           refine sq (o_pv (.bool false) rfl (by kernel_rfl) ?_)
           refine nil_ ?_
           refine then_normal (z4 _ _ _ ⟨[(0, (.bool false))], fit_mk (fun _ _ => rfl) (by kernel_rfl) (vs_cons (by kernel_rfl) vs_nil), ?_⟩)
           exact ⟨y2, false, rfl, z9, z2, z5, hp⟩
         ·
          replace hp := hp.2 t4
          refine sq (o_pv (.bool false) (by kernel_rfl) (x_df (p := z0.Inode = (1 : Int)) (by kernel_rfl) t4) ?_)
          refine sq (o_pv (.bool false) rfl (by kernel_rfl) ?_)
          refine sq (o_pv (.bool false) rfl (by kernel_rfl) ?_)
          refine sq (o_not (by kernel_rfl) ?_)
          refine sq (o_not (by kernel_rfl) ?_)
          refine sq (o_not (by kernel_rfl) ?_)
          refine sq (o_pv (.bool false) rfl (by kernel_rfl) ?_)
          refine sq (o_pv (.bool false) rfl (by kernel_rfl) ?_)
          refine sq (o_not (by kernel_rfl) ?_)
          refine sq (o_not (by kernel_rfl) ?_)
          refine sq (o_not (by kernel_rfl) ?_)
          refine sq (o_pv (.bool false) rfl (by kernel_rfl) ?_)
          refine sq (o_pv (.bool false) rfl (by kernel_rfl) ?_)
          refine sq (o_not (by kernel_rfl) ?_)
          refine sq (o_not (by kernel_rfl) ?_)
          refine sq (o_not (by kernel_rfl) ?_)
          refine sq (o_pv (.bool false) rfl (by kernel_rfl) ?_)
          refine sq (o_pv (.bool false) rfl (by kernel_rfl) ?_)
          refine sq (o_not (by kernel_rfl) ?_)
          refine sq (o_not (by kernel_rfl) ?_)
          refine sq (o_not (by kernel_rfl) ?_)
          refine sq (o_pv (.bool false) rfl (by kernel_rfl) ?_)
          refine sq (o_pv (.bool false) rfl (by kernel_rfl) ?_)
          refine nil_ ?_
          refine then_normal (z4 _ _ _ ⟨[(0, (.bool false))], fit_mk (fun _ _ => rfl) (by kernel_rfl) (vs_cons (by kernel_rfl) vs_nil), ?_⟩)
          exact ⟨y2, false, rfl, z9, z2, z5, hp⟩
        ·
         replace hp := hp.2 t3
         refine sq (o_pv (.bool false) (by kernel_rfl) (x_df (p := z0.Mode = (1 : Int)) (by kernel_rfl) t3) ?_)
         refine sq (o_pv (.bool false) rfl (by kernel_rfl) ?_)
         refine sq (o_pv (.bool false) rfl (by kernel_rfl) ?_)
         refine sq (o_not (by kernel_rfl) ?_)
         refine sq (o_not (by kernel_rfl) ?_)
         refine sq (o_not (by kernel_rfl) ?_)
         refine sq (o_pv (.bool false) rfl (by kernel_rfl) ?_)
         refine sq (o_pv (.bool false) rfl (by kernel_rfl) ?_)
         refine sq (o_not (by kernel_rfl) ?_)
         refine sq (o_not (by kernel_rfl) ?_)
         refine sq (o_not (by kernel_rfl) ?_)
         refine sq (o_pv (.bool false) rfl (by kernel_rfl) ?_)
         refine sq (o_pv (.bool false) rfl (by kernel_rfl) ?_)
         refine sq (o_not (by kernel_rfl) ?_)
         refine sq (o_not (by kernel_rfl) ?_)
         refine sq (o_not (by kernel_rfl) ?_)
         refine sq (o_pv (.bool false) rfl (by kernel_rfl) ?_)
         refine sq (o_pv (.bool false) rfl (by kernel_rfl) ?_)
         refine sq (o_not (by kernel_rfl) ?_)
         refine sq (o_not (by kernel_rfl) ?_)
         refine sq (o_not (by kernel_rfl) ?_)
         refine sq (o_pv (.bool false) rfl (by kernel_rfl) ?_)
         refine sq (o_pv (.bool false) rfl (by kernel_rfl) ?_)
         refine sq (o_not (by kernel_rfl) ?_)
         refine sq (o_not (by kernel_rfl) ?_)
         refine sq (o_not (by kernel_rfl) ?_)
         refine sq (o_pv (.bool false) rfl (by kernel_rfl) ?_)
         refine sq (o_pv (.bool false) rfl (by kernel_rfl) ?_)
         refine nil_ ?_
         refine then_normal (z4 _ _ _ ⟨[(0, (.bool false))], fit_mk (fun _ _ => rfl) (by kernel_rfl) (vs_cons (by kernel_rfl) vs_nil), ?_⟩)
         exact ⟨y2, false, rfl, z9, z2, z5, hp⟩
       ·
        replace hp := hp.2 t2
        refine sq (o_pv (.bool false) (by kernel_rfl) (x_df (p := z0.Size = (2 : Int)) (by kernel_rfl) t2) ?_)
        refine sq (o_pv (.bool false) rfl (by kernel_rfl) ?_)
        refine sq (o_pv (.bool false) rfl (by kernel_rfl) ?_)
        refine sq (o_not (by kernel_rfl) ?_)
        refine sq (o_not (by kernel_rfl) ?_)
        refine sq (o_not (by kernel_rfl) ?_)
        refine sq (o_pv (.bool false) rfl (by kernel_rfl) ?_)
        refine sq (o_pv (.bool false) rfl (by kernel_rfl) ?_)
        refine sq (o_not (by kernel_rfl) ?_)
        refine sq (o_not (by kernel_rfl) ?_)
        refine sq (o_not (by kernel_rfl) ?_)
        refine sq (o_pv (.bool false) rfl (by kernel_rfl) ?_)
        refine sq (o_pv (.bool false) rfl (by kernel_rfl) ?_)
        refine sq (o_not (by kernel_rfl) ?_)
        refine sq (o_not (by kernel_rfl) ?_)
        refine sq (o_not (by kernel_rfl) ?_)
        refine sq (o_pv (.bool false) rfl (by kernel_rfl) ?_)
        refine sq (o_pv (.bool false) rfl (by kernel_rfl) ?_)
        refine sq (o_not (by kernel_rfl) ?_)
        refine sq (o_not (by kernel_rfl) ?_)
        refine sq (o_not (by kernel_rfl) ?_)
        refine sq (o_pv (.bool false) rfl (by kernel_rfl) ?_)
        refine sq (o_pv (.bool false) rfl (by kernel_rfl) ?_)
        refine sq (o_not (by kernel_rfl) ?_)
        refine sq (o_not (by kernel_rfl) ?_)
        refine sq (o_not (by kernel_rfl) ?_)
        refine sq (o_pv (.bool false) rfl (by kernel_rfl) ?_)
        refine sq (o_pv (.bool false) rfl (by kernel_rfl) ?_)
        refine sq (o_not (by kernel_rfl) ?_)
        refine sq (o_not (by kernel_rfl) ?_)
        refine sq (o_not (by kernel_rfl) ?_)
        refine sq (o_pv (.bool false) rfl (by kernel_rfl) ?_)
        refine sq (o_pv (.bool false) rfl (by kernel_rfl) ?_)
        refine nil_ ?_
        refine then_normal (z4 _ _ _ ⟨[(0, (.bool false))], fit_mk (fun _ _ => rfl) (by kernel_rfl) (vs_cons (by kernel_rfl) vs_nil), ?_⟩)
        exact ⟨y2, false, rfl, z9, z2, z5, hp⟩
      ·
       replace hp := hp.2 t1
       refine sq (o_pv (.bool false) (by kernel_rfl) (x_df (p := y5 = (5 : Int)) (by kernel_rfl) t1) ?_)
       refine sq (o_pv (.bool false) rfl (by kernel_rfl) ?_)
       refine sq (o_pv (.bool false) rfl (by kernel_rfl) ?_)
       refine sq (o_not (by kernel_rfl) ?_)
       refine sq (o_not (by kernel_rfl) ?_)
       refine sq (o_not (by kernel_rfl) ?_)
       refine sq (o_pv (.bool false) rfl (by kernel_rfl) ?_)
       refine sq (o_pv (.bool false) rfl (by kernel_rfl) ?_)
       refine sq (o_not (by kernel_rfl) ?_)
       refine sq (o_not (by kernel_rfl) ?_)
       refine sq (o_not (by kernel_rfl) ?_)
       refine sq (o_pv (.bool false) rfl (by kernel_rfl) ?_)
       refine sq (o_pv (.bool false) rfl (by kernel_rfl) ?_)
       refine sq (o_not (by kernel_rfl) ?_)
       refine sq (o_not (by kernel_rfl) ?_)
       refine sq (o_not (by kernel_rfl) ?_)
       refine sq (o_pv (.bool false) rfl (by kernel_rfl) ?_)
       refine sq (o_pv (.bool false) rfl (by kernel_rfl) ?_)
       refine sq (o_not (by kernel_rfl) ?_)
       refine sq (o_not (by kernel_rfl) ?_)
       refine sq (o_not (by kernel_rfl) ?_)
       refine sq (o_pv (.bool false) rfl (by kernel_rfl) ?_)
       refine sq (o_pv (.bool false) rfl (by kernel_rfl) ?_)
       refine sq (o_not (by kernel_rfl) ?_)
       refine sq (o_not (by kernel_rfl) ?_)
       refine sq (o_not (by kernel_rfl) ?_)
       refine sq (o_pv (.bool false) rfl (by kernel_rfl) ?_)
       refine sq (o_pv (.bool false) rfl (by kernel_rfl) ?_)
       refine sq (o_not (by kernel_rfl) ?_)
       refine sq (o_not (by kernel_rfl) ?_)
       refine sq (o_not (by kernel_rfl) ?_)
       refine sq (o_pv (.bool false) rfl (by kernel_rfl) ?_)
       refine sq (o_pv (.bool false) rfl (by kernel_rfl) ?_)
       refine sq (o_not (by kernel_rfl) ?_)
       refine sq (o_not (by kernel_rfl) ?_)
       refine sq (o_not (by kernel_rfl) ?_)
       refine sq (o_pv (.bool false) rfl (by kernel_rfl) ?_)
       refine sq (o_pv (.bool false) rfl (by kernel_rfl) ?_)
       refine nil_ ?_
       refine then_normal (z4 _ _ _ ⟨[(0, (.bool false))], fit_mk (fun _ _ => rfl) (by kernel_rfl) (vs_cons (by kernel_rfl) vs_nil), ?_⟩)
       exact ⟨y2, false, rfl, z9, z2, z5, hp⟩
     ·
      replace hp := hp.2 t0
      refine sq (o_pv (.bool false) (by kernel_rfl) (x_df (p := (strOfNums y0 : ByteArray) = (ByteArray.mk #[120, 121])) (x_streq (by kernel_rfl) (by kernel_rfl)) t0) ?_)
      refine sq (o_pv (.bool false) rfl (by kernel_rfl) ?_)
      refine sq (o_pv (.bool false) rfl (by kernel_rfl) ?_)
      refine sq (o_not (by kernel_rfl) ?_)
      refine sq (o_not (by kernel_rfl) ?_)
      refine sq (o_pv (.bool false) rfl (by kernel_rfl) ?_)
      refine sq (o_pv (.bool false) rfl (by kernel_rfl) ?_)
      refine sq (o_not (by kernel_rfl) ?_)
      refine sq (o_not (by kernel_rfl) ?_)
      refine sq (o_not (by kernel_rfl) ?_)
      refine sq (o_pv (.bool false) rfl (by kernel_rfl) ?_)
      refine sq (o_pv (.bool false) rfl (by kernel_rfl) ?_)
      refine sq (o_not (by kernel_rfl) ?_)
      refine sq (o_not (by kernel_rfl) ?_)
      refine sq (o_not (by kernel_rfl) ?_)
      refine sq (o_pv (.bool false) rfl (by kernel_rfl) ?_)
      refine sq (o_pv (.bool false) rfl (by kernel_rfl) ?_)
      refine sq (o_not (by kernel_rfl) ?_)
      refine sq (o_not (by kernel_rfl) ?_)
      refine sq (o_not (by kernel_rfl) ?_)
      refine sq (o_pv (.bool false) rfl (by kernel_rfl) ?_)
      refine sq (o_pv (.bool false) rfl (by kernel_rfl) ?_)
      refine sq (o_not (by kernel_rfl) ?_)
      refine sq (o_not (by kernel_rfl) ?_)
      refine sq (o_not (by kernel_rfl) ?_)
      refine sq (o_pv (.bool false) rfl (by kernel_rfl) ?_)
      refine sq (o_pv (.bool false) rfl (by kernel_rfl) ?_)
      refine sq (o_not (by kernel_rfl) ?_)
      refine sq (o_not (by kernel_rfl) ?_)
      refine sq (o_not (by kernel_rfl) ?_)
      refine sq (o_pv (.bool false) rfl (by kernel_rfl) ?_)
      refine sq (o_pv (.bool false) rfl (by kernel_rfl) ?_)
      refine sq (o_not (by kernel_rfl) ?_)
      refine sq (o_not (by kernel_rfl) ?_)
      refine sq (o_not (by kernel_rfl) ?_)
      refine sq (o_pv (.bool false) rfl (by kernel_rfl) ?_)
      refine sq (o_pv (.bool false) rfl (by kernel_rfl) ?_)
      refine sq (o_not (by kernel_rfl) ?_)
      refine sq (o_not (by kernel_rfl) ?_)
      refine sq (o_not (by kernel_rfl) ?_)
      refine sq (o_pv (.bool false) rfl (by kernel_rfl) ?_)
      refine sq (o_pv (.bool false) rfl (by kernel_rfl) ?_)
      refine nil_ ?_
      refine then_normal (z4 _ _ _ ⟨[(0, (.bool false))], fit_mk (fun _ _ => rfl) (by kernel_rfl) (vs_cons (by kernel_rfl) vs_nil), ?_⟩)
      exact ⟨y2, false, rfl, z9, z2, z5, hp⟩
    ·
     replace hp := hp.2 u9
     refine sq (o_pv (.bool false) (by kernel_rfl) (x_df (p := y4 = (13 : Int)) (by kernel_rfl) u9) ?_)
     refine sq (o_pv (.bool false) rfl (by kernel_rfl) ?_)
     refine sq (o_pv (.bool false) rfl (by kernel_rfl) ?_)
     refine sq (o_not (by kernel_rfl) ?_)
     refine sq (o_not (by kernel_rfl) ?_)
     refine sq (o_not (by kernel_rfl) ?_)
     refine sq (o_pv (.bool false) rfl (by kernel_rfl) ?_)
     refine sq (o_pv (.bool false) rfl (by kernel_rfl) ?_)
     refine sq (o_not (by kernel_rfl) ?_)
     refine sq (o_not (by kernel_rfl) ?_)
     refine sq (o_pv (.bool false) rfl (by kernel_rfl) ?_)
     refine sq (o_pv (.bool false) rfl (by kernel_rfl) ?_)
     refine sq (o_not (by kernel_rfl) ?_)
     refine sq (o_not (by kernel_rfl) ?_)
     refine sq (o_not (by kernel_rfl) ?_)
     refine sq (o_pv (.bool false) rfl (by kernel_rfl) ?_)
     refine sq (o_pv (.bool false) rfl (by kernel_rfl) ?_)
     refine sq (o_not (by kernel_rfl) ?_)
     refine sq (o_not (by kernel_rfl) ?_)
     refine sq (o_not (by kernel_rfl) ?_)
     refine sq (o_pv (.bool false) rfl (by kernel_rfl) ?_)
     refine sq (o_pv (.bool false) rfl (by kernel_rfl) ?_)
     refine sq (o_not (by kernel_rfl) ?_)
     refine sq (o_not (by kernel_rfl) ?_)
     refine sq (o_not (by kernel_rfl) ?_)
     refine sq (o_pv (.bool false) rfl (by kernel_rfl) ?_)
     refine sq (o_pv (.bool false) rfl (by kernel_rfl) ?_)
     refine sq (o_not (by kernel_rfl) ?_)
     refine sq (o_not (by kernel_rfl) ?_)
     refine sq (o_not (by kernel_rfl) ?_)
     refine sq (o_pv (.bool false) rfl (by kernel_rfl) ?_)
     refine sq (o_pv (.bool false) rfl (by kernel_rfl) ?_)
     refine sq (o_not (by kernel_rfl) ?_)
     refine sq (o_not (by kernel_rfl) ?_)
     refine sq (o_not (by kernel_rfl) ?_)
     refine sq (o_pv (.bool false) rfl (by kernel_rfl) ?_)
     refine sq (o_pv (.bool false) rfl (by kernel_rfl) ?_)
     refine sq (o_not (by kernel_rfl) ?_)
     refine sq (o_not (by kernel_rfl) ?_)
     refine sq (o_not (by kernel_rfl) ?_)
     refine sq (o_pv (.bool false) rfl (by kernel_rfl) ?_)
     refine sq (o_pv (.bool false) rfl (by kernel_rfl) ?_)
     refine sq (o_not (by kernel_rfl) ?_)
     refine sq (o_not (by kernel_rfl) ?_)
     refine sq (o_not (by kernel_rfl) ?_)
     refine sq (o_pv (.bool false) rfl (by kernel_rfl) ?_)
     refine sq (o_pv (.bool false) rfl (by kernel_rfl) ?_)
     refine nil_ ?_
     refine then_normal (z4 _ _ _ ⟨[(0, (.bool false))], fit_mk (fun _ _ => rfl) (by kernel_rfl) (vs_cons (by kernel_rfl) vs_nil), ?_⟩)
     exact ⟨y2, false, rfl, z9, z2, z5, hp⟩
   ·
    replace hp := hp.2 u7
    refine sq (o_pv (.bool false) (by kernel_rfl) (x_df (p := t9 = (2 : Int)) (by kernel_rfl) u7) ?_)
    refine sq (o_pv (.bool false) rfl (by kernel_rfl) ?_)
    refine sq (o_pv (.bool false) rfl (by kernel_rfl) ?_)
    refine sq (o_not (by kernel_rfl) ?_)
    refine sq (o_not (by kernel_rfl) ?_)
    refine sq (o_pv (.bool false) rfl (by kernel_rfl) ?_)
    refine sq (o_pv (.bool false) rfl (by kernel_rfl) ?_)
    refine sq (o_not (by kernel_rfl) ?_)
    refine sq (o_not (by kernel_rfl) ?_)
    refine sq (o_not (by kernel_rfl) ?_)
    refine sq (o_pv (.bool false) rfl (by kernel_rfl) ?_)
    refine sq (o_pv (.bool false) rfl (by kernel_rfl) ?_)
    refine sq (o_not (by kernel_rfl) ?_)
    refine sq (o_not (by kernel_rfl) ?_)
    refine sq (o_pv (.bool false) rfl (by kernel_rfl) ?_)
    refine sq (o_pv (.bool false) rfl (by kernel_rfl) ?_)
    refine sq (o_not (by kernel_rfl) ?_)
    refine sq (o_not (by kernel_rfl) ?_)
    refine sq (o_not (by kernel_rfl) ?_)
    refine sq (o_pv (.bool false) rfl (by kernel_rfl) ?_)
    refine sq (o_pv (.bool false) rfl (by kernel_rfl) ?_)
    refine sq (o_not (by kernel_rfl) ?_)
    refine sq (o_not (by kernel_rfl) ?_)
    refine sq (o_not (by kernel_rfl) ?_)
    refine sq (o_pv (.bool false) rfl (by kernel_rfl) ?_)
    refine sq (o_pv (.bool false) rfl (by kernel_rfl) ?_)
    refine sq (o_not (by kernel_rfl) ?_)
    refine sq (o_not (by kernel_rfl) ?_)
    refine sq (o_not (by kernel_rfl) ?_)
    refine sq (o_pv (.bool false) rfl (by kernel_rfl) ?_)
    refine sq (o_pv (.bool false) rfl (by kernel_rfl) ?_)
    refine sq (o_not (by kernel_rfl) ?_)
    refine sq (o_not (by kernel_rfl) ?_)
    refine sq (o_not (by kernel_rfl) ?_)
    refine sq (o_pv (.bool false) rfl (by kernel_rfl) ?_)
    refine sq (o_pv (.bool false) rfl (by kernel_rfl) ?_)
    refine sq (o_not (by kernel_rfl) ?_)
    refine sq (o_not (by kernel_rfl) ?_)
    refine sq (o_not (by kernel_rfl) ?_)
    refine sq (o_pv (.bool false) rfl (by kernel_rfl) ?_)
    refine sq (o_pv (.bool false) rfl (by kernel_rfl) ?_)
    refine sq (o_not (by kernel_rfl) ?_)
    refine sq (o_not (by kernel_rfl) ?_)
    refine sq (o_not (by kernel_rfl) ?_)
    refine sq (o_pv (.bool false) rfl (by kernel_rfl) ?_)
    refine sq (o_pv (.bool false) rfl (by kernel_rfl) ?_)
    refine sq (o_not (by kernel_rfl) ?_)
    refine sq (o_not (by kernel_rfl) ?_)
    refine sq (o_not (by kernel_rfl) ?_)
    refine sq (o_pv (.bool false) rfl (by kernel_rfl) ?_)
    refine sq (o_pv (.bool false) rfl (by kernel_rfl) ?_)
    refine nil_ ?_
    refine then_normal (z4 _ _ _ ⟨[(0, (.bool false))], fit_mk (fun _ _ => rfl) (by kernel_rfl) (vs_cons (by kernel_rfl) vs_nil), ?_⟩)
    exact ⟨y2, false, rfl, z9, z2, z5, hp⟩
  ·
   replace hp := hp.2 u6
   refine sq (o_pv (.bool false) rfl (x_df (p := ((((z7 + z8) + z3) + z6) + y1) = (0 : Int)) (by kernel_rfl) u6) ?_)
   refine sq (o_pv (.bool false) rfl (by kernel_rfl) ?_)
   refine sq (o_not (by kernel_rfl) ?_)
   refine sq (o_not (by kernel_rfl) ?_)
   refine sq (o_pv (.bool false) rfl (by kernel_rfl) ?_)
   refine sq (o_pv (.bool false) rfl (by kernel_rfl) ?_)
   refine sq (o_not (by kernel_rfl) ?_)
   refine sq (o_not (by kernel_rfl) ?_)
   refine sq (o_pv (.bool false) rfl (by kernel_rfl) ?_)
   refine sq (o_pv (.bool false) rfl (by kernel_rfl) ?_)
   refine sq (o_not (by kernel_rfl) ?_)
   refine sq (o_not (by kernel_rfl) ?_)
   refine sq (o_not (by kernel_rfl) ?_)
   refine sq (o_pv (.bool false) rfl (by kernel_rfl) ?_)
   refine sq (o_pv (.bool false) rfl (by kernel_rfl) ?_)
   refine sq (o_not (by kernel_rfl) ?_)
   refine sq (o_not (by kernel_rfl) ?_)
   refine sq (o_pv (.bool false) rfl (by kernel_rfl) ?_)
   refine sq (o_pv (.bool false) rfl (by kernel_rfl) ?_)
   refine sq (o_not (by kernel_rfl) ?_)
   refine sq (o_not (by kernel_rfl) ?_)
   refine sq (o_not (by kernel_rfl) ?_)
   refine sq (o_pv (.bool false) rfl (by kernel_rfl) ?_)
   refine sq (o_pv (.bool false) rfl (by kernel_rfl) ?_)
   refine sq (o_not (by kernel_rfl) ?_)
   refine sq (o_not (by kernel_rfl) ?_)
   refine sq (o_not (by kernel_rfl) ?_)
   refine sq (o_pv (.bool false) rfl (by kernel_rfl) ?_)
   refine sq (o_pv (.bool false) rfl (by kernel_rfl) ?_)
   refine sq (o_not (by kernel_rfl) ?_)
   refine sq (o_not (by kernel_rfl) ?_)
   refine sq (o_not (by kernel_rfl) ?_)
   refine sq (o_pv (.bool false) rfl (by kernel_rfl) ?_)
   refine sq (o_pv (.bool false) rfl (by kernel_rfl) ?_)
   refine sq (o_not (by kernel_rfl) ?_)
   refine sq (o_not (by kernel_rfl) ?_)
   refine sq (o_not (by kernel_rfl) ?_)
   refine sq (o_pv (.bool false) rfl (by kernel_rfl) ?_)
   refine sq (o_pv (.bool false) rfl (by kernel_rfl) ?_)
   refine sq (o_not (by kernel_rfl) ?_)
   refine sq (o_not (by kernel_rfl) ?_)
   refine sq (o_not (by kernel_rfl) ?_)
   refine sq (o_pv (.bool false) rfl (by kernel_rfl) ?_)
   refine sq (o_pv (.bool false) rfl (by kernel_rfl) ?_)
   refine sq (o_not (by kernel_rfl) ?_)
   refine sq (o_not (by kernel_rfl) ?_)
   refine sq (o_not (by kernel_rfl) ?_)
   refine sq (o_pv (.bool false) rfl (by kernel_rfl) ?_)
   refine sq (o_pv (.bool false) rfl (by kernel_rfl) ?_)
   refine sq (o_not (by kernel_rfl) ?_)
   refine sq (o_not (by kernel_rfl) ?_)
   refine sq (o_not (by kernel_rfl) ?_)
   refine sq (o_pv (.bool false) rfl (by kernel_rfl) ?_)
   refine sq (o_pv (.bool false) rfl (by kernel_rfl) ?_)
   refine nil_ ?_
   refine then_normal (z4 _ _ _ ⟨[(0, (.bool false))], fit_mk (fun _ _ => rfl) (by kernel_rfl) (vs_cons (by kernel_rfl) vs_nil), ?_⟩)
   exact ⟨y2, false, rfl, z9, z2, z5, hp⟩
 ·
  rintro _ q6 R2 ⟨q7, y8, rfl, p8, V0, V3, a2⟩
  replace hp := c2 y8 a2
  refine then_normal (f7 _ _ _ _ ?_)
  refine wp_ret ?_
  refine end_ret hQ (.bool y8) (by kernel_rfl) ?_
  exact ⟨y8, hp, p8, rfl⟩
def slices_Clone_simfs_op_simfs_op_p (s : (List S_simfs_op)) (Q : (List S_simfs_op) → Prop) : Prop :=
 ((s.length ≤ 9223372036854775807) → ((s.length * 88 ≤ 140737488355328) ∧ Q s))
set_option maxRecDepth 20000 in
set_option maxHeartbeats 4000000 in
theorem slices_Clone_simfs_op_simfs_op_w {X : List Nat} {w : World} {s : (List S_simfs_op)} {z0 : Option Addr} {z1 : Nat} {Q : (List S_simfs_op) → Prop} (y5 : Old X w) (z2 : Sq r_simfs_op X w z0 z1 s) (hp : slices_Clone_simfs_op_simfs_op_p s Q) :
  Calls Tryz.prog 36 #[(.slice z0 s.length z1)] w (Ret fun v w' => ∃ (z8 : (List S_simfs_op)), Q z8 ∧ Evo [] w w' ∧ ∃ (y2 : Option Addr) (y6 : Nat), v = .slice y2 z8.length y6 ∧ OS r_simfs_op [] w.heap.size (blkL y2 ++ X) w' 84 y2 z8.length y6 z8) := by
 have hXo := y5
 have E0 : Evo [] w w := RB.refl _ _ _
 have hS : Sub X X := Sub.refl _
 unfold slices_Clone_simfs_op_simfs_op_p at hp
 refine enter_ Tryz.func36 rfl 8 [(0, (.slice z0 s.length z1))] (by kernel_rfl) (fun Qe hQ => ?_)
 replace hp := hp (Sq.len z2)
 refine seq_ (fun _ v1 => ?_)
 refine reg_ ?_
 refine sq (o_pv (.slice none 0 0) rfl (by kernel_rfl) ?_)
 refine nil_ ?_
 refine then_normal (v1 _ _ _ _ ?_)
 refine seq_ (fun _ v2 => ?_)
 refine seq_ (fun _ y7 => ?_)
 refine reg_ ?_
 refine sq (o_pv (.slice z0 s.length z1) rfl (by kernel_rfl) ?_)
 rcases z0 with _ | ad
 ·
  obtain rfl : s = [] := z2.2.elim (fun h => h.1) (fun ⟨b, o, xs, h, _⟩ => by cases h)
  replace hp := hp.2
  refine sq (o_pv (.bool true) rfl (by kernel_rfl) ?_)
  refine nil_ ?_
  refine then_normal (y7 _ _ _ _ ?_)
  refine cond_t (by kernel_rfl) ?_
  refine seq_ (fun _ v3 => ?_)
  refine reg_ ?_
  refine sq (o_pv (.slice none 0 0) rfl (by kernel_rfl) ?_)
  refine nil_ ?_
  refine then_normal (v3 _ _ _ _ ?_)
  refine wp_ret ?_
  refine then_ret ?_
  refine end_ret hQ (.slice none 0 0) (by kernel_rfl) ?_
  exact ⟨([] : List S_simfs_op), hp, E0, none, 0, rfl, (OS.nil _ _ _ _)⟩
 ·
  refine sq (o_pv (.bool false) rfl (by kernel_rfl) ?_)
  refine nil_ ?_
  refine then_normal (y7 _ _ _ _ ?_)
  refine cond_f (by kernel_rfl) ?_
  refine wp_skip ?_
  refine then_normal (v2 _ _ _ _ ?_)
  refine seq_ (fun _ v4 => ?_)
  refine reg_ ?_
  refine sq (o_rowX (R := r_simfs_op) [] ([] : List S_simfs_op) 84 0 (X := X) (B := w.heap.size) E0.size rfl (by kernel_rfl) Flat.nil rfl (by decide) ?_)
  intro u0 v6 y8 z3 z9 v7
  refine sq (o_pv (.slice (some ad) s.length z1) rfl (by kernel_rfl) ?_)
  obtain ⟨y9, hp⟩ := hp
  have y3 := (Sq.step z2 z3)
  have y0 := (Evo.then0 E0 (Step.evo z3))
  refine sq (o_appX (R := r_simfs_op) (X := y8) (B := w.heap.size) (L := ([] : List S_simfs_op)) (M := s) rfl elT76 rfl y0.size z9 (Sq.src y3) rfl (by kernel_rfl) (by kernel_rfl) (by simpa using y9) ?_)
  intro z4 z5 z6 v8 v9 y1 z7 v5
  rw [List.nil_append] at z7
  refine sq (o_pv (.slice z4 z5 z6) rfl (by kernel_rfl) ?_)
  refine nil_ ?_
  refine then_normal (v4 _ _ _ _ ?_)
  refine wp_ret ?_
  have y4 := (Sub.trans (Sub.trans hS (Step.up z3)) (Step.up y1))
  have v0 := (Evo.thenW y0 (Step.evo y1) z9.2.2)
  refine end_ret hQ (.slice z4 z5 z6) (by kernel_rfl) ?_
  exact ⟨s, hp, v0, z4, z6, (by (rw [show z5 = s.length from z7.1]); first | done | rfl), (OS.give z7 y4)⟩
def simfs_FS_Twin_p (f_ : S_simfs_FS) (Q : S_simfs_FS → S_simfs_FS → Prop) : Prop :=
 ((f_.pending.length ≤ 9223372036854775807) → ((inR .i64 f_.quota) → ((inR .i64 f_.now) → ((inR .i64 f_.inodes) → ((inR .i64 f_.ops_) → ((inR .i64 f_.left) → ((f_.keep.length ≤ 9223372036854775807) → (maps_Clone_map_string_simfs_file_string_simfs_file_p f_.kept (fun (z4 : (List (ByteArray × S_simfs_file))) (z5 : (List (ByteArray × S_simfs_file))) => (maps_Clone_map_string_simfs_file_string_simfs_file_p f_.files (fun (z2 : (List (ByteArray × S_simfs_file))) (z3 : (List (ByteArray × S_simfs_file))) => (slices_Clone_simfs_op_simfs_op_p f_.pending (fun (z0 : (List S_simfs_op)) => ((z0.length ≤ 9223372036854775807) → (slices_Clone_bool_bool_p f_.keep (fun (z1 : (List Bool)) => ((z1.length ≤ 9223372036854775807) → Q (S_simfs_FS.mk z4 z2 f_.pending f_.quota f_.now f_.inodes f_.ops_ f_.off f_.armed f_.left f_.keep) (S_simfs_FS.mk z5 z3 z0 f_.quota f_.now f_.inodes f_.ops_ f_.off f_.armed f_.left z1))))))))))))))))))
set_option maxRecDepth 20000 in
set_option maxHeartbeats 4000000 in
theorem simfs_FS_Twin_w {X : List Nat} {w : World} {f_ : S_simfs_FS} {z4 : Nat} {u5 : List Nat} {Q : S_simfs_FS → S_simfs_FS → Prop} (c6 : Old X w) (j6 : MO o_simfs_FS 78 u5 w.heap.size X w u5 z4 f_) (hp : simfs_FS_Twin_p f_ Q) :
  Calls Tryz.prog 10 #[(.pointer (some ⟨z4, 0, none⟩))] w (Ret fun v w' => ∃ (V4 : S_simfs_FS) (V5 : S_simfs_FS), Q V4 V5 ∧ ∃ (X' : List Nat) (c7 : List Nat) (j7 : Nat) (j8 : List Nat), Step X w u5 X' w' ∧ v = (.pointer (some ⟨j7, 0, none⟩)) ∧ MO o_simfs_FS 78 u5 w.heap.size X' w' c7 z4 V4 ∧ MO o_simfs_FS 78 ([]) w.heap.size X' w' j8 j7 V5 ∧ Ap c7 j8) := by
 have hXo := c6
 have E0 : Evo u5 w w := RB.refl _ _ _
 have hS : Sub X X := Sub.refl _
 have hN : News X w X w := News.refl _ _
 have V6 : Sub u5 X := MO.mem j6
 unfold simfs_FS_Twin_p at hp
 refine enter_ Tryz.func10 rfl 31 [(0, (.pointer (some ⟨z4, 0, none⟩)))] (by kernel_rfl) (fun Qe hQ => ?_)
 refine seq_ (fun _ T4 => ?_)
 refine reg_ ?_
 refine sq (o_pv (.pointer none) rfl (by kernel_rfl) ?_)
 refine nil_ ?_
 refine then_normal (T4 _ _ _ _ ?_)
 refine seq_ (fun _ T5 => ?_)
 refine reg_ ?_
 refine sq (o_pv (.pointer (some ⟨z4, 0, none⟩)) rfl (by kernel_rfl) ?_)
 refine sq (o_pv (.pointer (some ⟨z4, 0, none⟩)) rfl (by kernel_rfl) ?_)
 obtain ⟨z1, z0, y7, y8, y9, z2, z3, j9, s4, t4, q2, v0, u6, y4, v8, v9, t5, T6, T7, T8, T9, g0, g1, V7, c8, c9, a0⟩ := o_simfs_FS_open j6
 replace hp := hp (OS.len q2)
 replace hp := hp v0
 replace hp := hp u6
 replace hp := hp y4
 replace hp := hp v8
 replace hp := hp v9
 replace hp := hp (Sl.len t5)
 refine sq (o_pv (.agg #[(.map (some z1)), (.map (some z0)), (.slice y7 y8 y9), (.int .i64 f_.quota), (.int .i64 f_.now), (.int .i64 f_.inodes), (.int .i64 f_.ops_), (.bool f_.off), (.bool f_.armed), (.int .i64 f_.left), (.slice z2 f_.keep.length z3)]) rfl (x_loadN [(.map (some z1)), (.map (some z0)), (.slice y7 y8 y9), (.int .i64 f_.quota), (.int .i64 f_.now), (.int .i64 f_.inodes), (.int .i64 f_.ops_), (.bool f_.off), (.bool f_.armed), (.int .i64 f_.left), (.slice z2 f_.keep.length z3)] (by kernel_rfl) Tryz.isAgg78 Tryz.sizeOf78 (j9.2.1.cells' 0 rfl)) ?_)
 refine sq (o_newX [(.map none), (.map none), (.slice none 0 0), (.int .i64 (0 : Int)), (.int .i64 (0 : Int)), (.int .i64 (0 : Int)), (.int .i64 (0 : Int)), (.bool false), (.bool false), (.int .i64 (0 : Int)), (.slice none 0 0)] 78 (X := X) (B := w.heap.size) E0.size rfl (by kernel_rfl) ?_)
 intro z5 R9 g2 u2 a1 j0
 have v5 := j0 _ (OB.old j9)
 have s5 := j0 _ (OM.old s4)
 have s6 := j0 _ (OM.old t4)
 have s7 := j0 _ (OS.old q2)
 have V8 := (OB.step0 j9 u2)
 have q3 := (OM.step0 s4 u2)
 have r2 := (OM.step0 t4 u2)
 have a6 := (OS.step0 q2 u2)
 have V9 := (Evo.then0 E0 (Step.evo u2))
 refine sq (o_stB (o := 0) (v := (.agg #[(.map (some z1)), (.map (some z0)), (.slice y7 y8 y9), (.int .i64 f_.quota), (.int .i64 f_.now), (.int .i64 f_.inodes), (.int .i64 f_.ops_), (.bool f_.off), (.bool f_.armed), (.int .i64 f_.left), (.slice z2 f_.keep.length z3)])) [(.map (some z1)), (.map (some z0)), (.slice y7 y8 y9), (.int .i64 f_.quota), (.int .i64 f_.now), (.int .i64 f_.inodes), (.int .i64 f_.ops_), (.bool f_.off), (.bool f_.armed), (.int .i64 f_.left), (.slice z2 f_.keep.length z3)] rfl a1 (by kernel_rfl) (by kernel_rfl) Tryz.sizeOf78 rfl rfl rfl ?_)
 intro r3 u3 a2
 refine nil_ ?_
 refine then_normal (T5 _ _ _ _ ?_)
 refine seq_ (fun _ U0 => ?_)
 have n3 := (Old.step (Old.step hXo u2) u3)
 have U1 := (Evo.thenW V9 (Step.evo u3) (Wr.of a1.2.2))
 have a7 := (Sub.trans (Sub.trans hS (Step.up u2)) (Step.up u3))
 have a8 := (News.step (News.step hN u2) u3)
 have U2 := (OB.step V8 u3 v5)
 have t6 := (OM.step q3 u3 s5)
 have u9 := (OM.step r2 u3 s6)
 have a9 := (OS.step a6 u3 s7)
 have q4 := (Sl.step (Sl.step t5 u2) u3)
 have j1 : Sub ([z1] ++ ([z0] ++ [z5])) g2 := (Sub.app (OM.mem t6) (Sub.app (OM.mem u9) (OB.mem a2)))
 refine reg_drawn (RB r3.heap.size ([z1] ++ ([z0] ++ [z5]))) 13 (by kernel_rfl) (fun a3 q5 => ?_)
 have U3 := Evo.of_drew q5
 have t7 : a3.heap.size = r3.heap.size := by rw [q5]
 clear q5
 have v6 := Step.of0 g2 U3
 have t8 := RB.refl r3.heap.size ([z1] ++ ([z0] ++ [z5])) a3
 have j2 := (Old.step n3 v6)
 have g3 := (Evo.then0 U1 (Step.evo v6))
 have e0 := (Sub.trans a7 (Step.up v6))
 have e1 := (News.step a8 v6)
 have r4 := (OB.step0 U2 v6)
 have u0 := (OM.step0 t6 v6)
 have v1 := (OM.step0 u9 v6)
 have q6 := (OS.step0 a9 v6)
 have q7 := (Sl.step q4 v6)
 have g4 := (OB.step0 a2 v6)
 refine r_take 0 (.pointer (some ⟨z4, 0, none⟩)) (RB.pre _ _) rfl (by kernel_rfl) (fun _ _ _ h => hQ.panic _ _ _ _ _ h) (.inl ⟨rfl, fun wq hq => (by kernel_rfl)⟩) ?_
 refine r_take 1 (.pointer (some ⟨z4, 0, none⟩)) (RB.pre _ _) rfl (by kernel_rfl) (fun _ _ _ h => hQ.panic _ _ _ _ _ h) (.inl ⟨rfl, fun wq hq => (by kernel_rfl)⟩) ?_
 refine r_take 2 (.pointer (some ⟨z4, 0, none⟩)) (RB.pre _ _) rfl (by kernel_rfl) (fun _ _ _ h => hQ.panic _ _ _ _ _ h) (.inl ⟨rfl, fun wq hq => (by kernel_rfl)⟩) ?_
 refine r_take 3 (.map (some z1)) (RB.pre _ _) rfl (by kernel_rfl) (fun _ _ _ h => hQ.panic _ _ _ _ _ h) (.inl ⟨rfl, fun wq hq => (x_load1 (by kernel_rfl) Tryz.isAgg75 ((OB.step r4 (stepR (RB.trans t8 hq) t7 j1) (Ap.app g0 (Ap.app g1 v5))).2.1.cell' 0 rfl))⟩) ?_
 refine r_take 5 (.pointer (some ⟨z4, 0, none⟩)) (RB.pre _ _) rfl (by kernel_rfl) (fun _ _ _ h => hQ.panic _ _ _ _ _ h) (.inl ⟨rfl, fun wq hq => (by kernel_rfl)⟩) ?_
 refine r_take 6 (.pointer (some ⟨z4, 0, none⟩)) (RB.pre _ _) rfl (by kernel_rfl) (fun _ _ _ h => hQ.panic _ _ _ _ _ h) (.inl ⟨rfl, fun wq hq => (by kernel_rfl)⟩) ?_
 refine r_take 7 (.pointer (some ⟨z4, 1, none⟩)) (RB.pre _ _) rfl (by kernel_rfl) (fun _ _ _ h => hQ.panic _ _ _ _ _ h) (.inl ⟨rfl, fun wq hq => (by kernel_rfl)⟩) ?_
 refine r_take 8 (.map (some z0)) (RB.pre _ _) rfl (by kernel_rfl) (fun _ _ _ h => hQ.panic _ _ _ _ _ h) (.inl ⟨rfl, fun wq hq => (x_load1 (by kernel_rfl) Tryz.isAgg75 ((OB.step r4 (stepR (RB.trans t8 hq) t7 j1) (Ap.app g0 (Ap.app g1 v5))).2.1.cell' 1 rfl))⟩) ?_
 refine r_ready [4] (by kernel_rfl) rfl (all_cons ⟨_, _, _, _, _, _, rfl, ?_⟩ all_nil)
 refine o_call 35 #[(.map (some z1))] rfl (x_call Tryz.call35 (by kernel_rfl)) (maps_Clone_map_string_simfs_file_string_simfs_file_w (X := g2) (m := f_.kept) j2 (OM.re u0 (Wr.self _ _ (Sub.refl _))) hp) ?_
 rintro _ P0 ⟨U4, U5, hp, U6, t9, v7, rfl, s0, u7, U7⟩
 have rm := RB.mono (F' := ([z1] ++ ([z0] ++ [z5]))) (Step.evo v7) (Nat.le_trans (Nat.le_of_eq t7.symm) (RB.size t8)) (Wr.self _ _ (Sub.inl _ _))
 have q8 := RB.trans t8 rm
 refine ⟨fun _ => rm, ?_⟩
 have R1 : Wr ([z1] ++ ([z0] ++ [z5])) r3.heap.size [z1] := Wr.trans s0.wr (Wr.self _ _ (Sub.inl _ _)) (Nat.le_trans (Nat.le_of_eq t7.symm) (RB.size t8))
 have g5 := OM.re s0 (Wr.trans s0.wr u0.wr g3.size)
 have a4 := Ap.grow s0.wr g0 (OB.old r4) (Nat.le_refl _)
 have U8 := Ap.grow s0.wr (Ap.symm c8) (OM.old v1) (Nat.le_refl _)
 have U9 := Ap.grow s0.wr (Ap.symm c9) (OS.old q6) (Nat.le_refl _)
 have a5 := Ap.grow s0.wr (Ap.symm s5) (OB.old g4) (Nat.le_refl _)
 have g6 := OM.re u7 (Wr.trans u7.wr (Wr.nil [] _) g3.size)
 have T0 := Ap.grow u7.wr (Ap.nil_r _) (OB.old r4) (Nat.le_refl _)
 have T1 := Ap.grow u7.wr (Ap.nil_r _) (OM.old v1) (Nat.le_refl _)
 have T2 := Ap.grow u7.wr (Ap.nil_r _) (OS.old q6) (Nat.le_refl _)
 have r5 := Ap.grow u7.wr (Ap.nil_r _) (OB.old g4) (Nat.le_refl _)
 refine r_ready [9] (by kernel_rfl) rfl (all_cons ⟨_, _, _, _, _, _, rfl, ?_⟩ all_nil)
 have j3 := (Old.step j2 v7)
 have q9 := (Evo.thenW g3 (Step.evo v7) u0.wr)
 have n4 := (Sub.trans e0 (Step.up v7))
 have n5 := (News.step e1 v7)
 have k0 := (OB.step r4 v7 a4)
 have y5 := (OM.step v1 v7 U8)
 have s8 := (OS.step q6 v7 U9)
 have r6 := (Sl.step q7 v7)
 have k1 := (OB.step g4 v7 a5)
 refine o_call 35 #[(.map (some z0))] rfl (x_call Tryz.call35 (by kernel_rfl)) (maps_Clone_map_string_simfs_file_string_simfs_file_w (X := U6) (m := f_.files) j3 (OM.re y5 (Wr.self _ _ (Sub.refl _))) hp) ?_
 rintro _ R2 ⟨e2, e3, hp, k2, t1, y2, rfl, v2, y6, e4⟩
 have rm := RB.mono (F' := ([z1] ++ ([z0] ++ [z5]))) (Step.evo y2) (Nat.le_trans (Nat.le_of_eq t7.symm) (RB.size q8)) (Wr.self _ _ (Sub.trans (Sub.inl _ _) (Sub.inr _ _)))
 have n6 := RB.trans q8 rm
 refine ⟨fun _ => rm, ?_⟩
 have T3 : Wr ([z1] ++ ([z0] ++ [z5])) r3.heap.size [z0] := Wr.trans v2.wr (Wr.self _ _ (Sub.trans (Sub.inl _ _) (Sub.inr _ _))) (Nat.le_trans (Nat.le_of_eq t7.symm) (RB.size q8))
 have e5 := OM.re v2 (Wr.trans v2.wr y5.wr q9.size)
 have g7 := Ap.grow v2.wr g1 (OB.old k0) (Nat.le_refl _)
 have e6 := Ap.grow v2.wr (Ap.symm a0) (OS.old s8) (Nat.le_refl _)
 have g8 := Ap.grow v2.wr (Ap.symm s6) (OB.old k1) (Nat.le_refl _)
 have g9 := Ap.grow v2.wr c8 (OM.old g5) (Nat.le_refl _)
 have d0 := Ap.grow v2.wr (Ap.symm T1) (OM.old g6) (Nat.le_refl _)
 have e7 := OM.re y6 (Wr.trans y6.wr (Wr.nil [] _) q9.size)
 have e8 := Ap.grow y6.wr (Ap.nil_r _) (OB.old k0) (Nat.le_refl _)
 have e9 := Ap.grow y6.wr (Ap.nil_r _) (OS.old s8) (Nat.le_refl _)
 have s1 := Ap.grow y6.wr (Ap.nil_r _) (OB.old k1) (Nat.le_refl _)
 have i0 := Ap.grow y6.wr (Ap.nil_r _) (OM.old g5) (Nat.le_refl _)
 have i1 := Ap.grow y6.wr (Ap.nil_r _) (OM.old g6) (Nat.le_refl _)
 refine r_take 10 (.pointer (some ⟨z5, 0, none⟩)) (RB.pre _ _) rfl (by kernel_rfl) (fun _ _ _ h => hQ.panic _ _ _ _ _ h) (.inl ⟨rfl, fun wq hq => (by kernel_rfl)⟩) ?_
 refine r_ready [11] (by kernel_rfl) rfl (all_cons ⟨_, _, _, _, _, _, rfl, ?_⟩ all_nil)
 have i2 := (OB.step k0 y2 g7)
 have n7 := (OS.step s8 y2 e6)
 have d1 := (OB.step k1 y2 g8)
 have i3 := (OM.step g5 y2 g9)
 have i4 := (OM.step g6 y2 d0)
 have i5 := (Evo.thenW q9 (Step.evo y2) y5.wr)
 refine o_stB (o := 0) (v := (.map (some t9))) [(.map (some t9)), (.map (some z0)), (.slice y7 y8 y9), (.int .i64 f_.quota), (.int .i64 f_.now), (.int .i64 f_.inodes), (.int .i64 f_.ops_), (.bool f_.off), (.bool f_.armed), (.int .i64 f_.left), (.slice z2 f_.keep.length z3)] rfl d1 (by kernel_rfl) (by kernel_rfl) Tryz.sizeOf75 rfl rfl rfl ?_
 intro R3 z7 d2
 have rm := RB.mono (F' := ([z1] ++ ([z0] ++ [z5]))) (Step.evo z7) (Nat.le_trans (Nat.le_of_eq t7.symm) (RB.size n6)) (Wr.self _ _ (Sub.trans (Sub.inr _ _) (Sub.inr _ _)))
 refine ⟨fun _ => rm, ?_⟩
 refine r_take 12 (.pointer (some ⟨z5, 1, none⟩)) (RB.pre _ _) rfl (by kernel_rfl) (fun _ _ _ h => hQ.panic _ _ _ _ _ h) (.inl ⟨rfl, fun wq hq => (by kernel_rfl)⟩) ?_
 refine r_ready [13] (by kernel_rfl) rfl (all_cons ⟨_, _, _, _, _, _, rfl, ?_⟩ all_nil)
 have i6 := (OB.step i2 z7 v5)
 have n8 := (OS.step n7 z7 s7)
 have i7 := (OM.step i3 z7 s5)
 have i9 := (OM.step i4 z7 (Ap.symm r5))
 have h0 := (OM.step e5 z7 s6)
 have h1 := (OM.step e7 z7 (Ap.symm s1))
 have h2 := (Evo.thenW i5 (Step.evo z7) (Wr.of d1.2.2))
 refine o_stB (o := 1) (v := (.map (some t1))) [(.map (some t9)), (.map (some t1)), (.slice y7 y8 y9), (.int .i64 f_.quota), (.int .i64 f_.now), (.int .i64 f_.inodes), (.int .i64 f_.ops_), (.bool f_.off), (.bool f_.armed), (.int .i64 f_.left), (.slice z2 f_.keep.length z3)] rfl d2 (by kernel_rfl) (by kernel_rfl) Tryz.sizeOf75 rfl rfl rfl ?_
 intro k3 y3 d3
 refine ⟨fun h => absurd h (by decide), ?_⟩
 refine r_done (by kernel_rfl) ?_
 refine then_normal (U0 _ _ _ _ ?_)
 refine seq_ (fun _ h3 => ?_)
 have d4 := (Old.step (Old.step (Old.step j3 y2) z7) y3)
 have h4 := (Evo.thenW h2 (Step.evo y3) (Wr.of d2.2.2))
 have n9 := (Sub.trans (Sub.trans (Sub.trans n4 (Step.up y2)) (Step.up z7)) (Step.up y3))
 have o0 := (News.step (News.step (News.step n5 y2) z7) y3)
 have h5 := (OB.step i6 y3 v5)
 have o3 := (OS.step n8 y3 s7)
 have r7 := (Sl.step (Sl.step (Sl.step r6 y2) z7) y3)
 have h6 := (OM.step i7 y3 s5)
 have h7 := (OM.step i9 y3 (Ap.symm r5))
 have h8 := (OM.step h0 y3 s6)
 have h9 := (OM.step h1 y3 (Ap.symm s1))
 have r8 : Sub [z5] k2 := (OB.mem d3)
 refine reg_drawn (RB k3.heap.size [z5]) 13 (by kernel_rfl) (fun d5 s9 => ?_)
 have b0 := Evo.of_drew s9
 have s2 : d5.heap.size = k3.heap.size := by rw [s9]
 clear s9
 have z8 := Step.of0 k2 b0
 have t2 := RB.refl k3.heap.size [z5] d5
 have r9 := (Old.step d4 z8)
 have d6 := (Evo.then0 h4 (Step.evo z8))
 have o4 := (Sub.trans n9 (Step.up z8))
 have o5 := (News.step o0 z8)
 have r0 := (OB.step0 h5 z8)
 have t3 := (OS.step0 o3 z8)
 have q0 := (Sl.step r7 z8)
 have d7 := (OB.step0 d3 z8)
 have d8 := (OM.step0 h6 z8)
 have d9 := (OM.step0 h7 z8)
 have l0 := (OM.step0 h8 z8)
 have l1 := (OM.step0 h9 z8)
 refine r_take 0 (.pointer (some ⟨z4, 0, none⟩)) (RB.pre _ _) rfl (by kernel_rfl) (fun _ _ _ h => hQ.panic _ _ _ _ _ h) (.inl ⟨rfl, fun wq hq => (by kernel_rfl)⟩) ?_
 refine r_take 1 (.pointer (some ⟨z4, 0, none⟩)) (RB.pre _ _) rfl (by kernel_rfl) (fun _ _ _ h => hQ.panic _ _ _ _ _ h) (.inl ⟨rfl, fun wq hq => (by kernel_rfl)⟩) ?_
 refine r_take 2 (.pointer (some ⟨z4, 2, none⟩)) (RB.pre _ _) rfl (by kernel_rfl) (fun _ _ _ h => hQ.panic _ _ _ _ _ h) (.inl ⟨rfl, fun wq hq => (by kernel_rfl)⟩) ?_
 refine r_take 3 (.slice y7 y8 y9) (RB.pre _ _) rfl (by kernel_rfl) (fun _ _ _ h => hQ.panic _ _ _ _ _ h) (.inl ⟨rfl, fun wq hq => (x_load1 (by kernel_rfl) Tryz.isAgg76 ((OB.step r0 (stepR (RB.trans t2 hq) s2 r8) v5).2.1.cell' 2 rfl))⟩) ?_
 refine r_take 5 (.pointer (some ⟨z4, 0, none⟩)) (RB.pre _ _) rfl (by kernel_rfl) (fun _ _ _ h => hQ.panic _ _ _ _ _ h) (.inl ⟨rfl, fun wq hq => (by kernel_rfl)⟩) ?_
 refine r_take 6 (.pointer (some ⟨z4, 0, none⟩)) (RB.pre _ _) rfl (by kernel_rfl) (fun _ _ _ h => hQ.panic _ _ _ _ _ h) (.inl ⟨rfl, fun wq hq => (by kernel_rfl)⟩) ?_
 refine r_take 7 (.pointer (some ⟨z4, 10, none⟩)) (RB.pre _ _) rfl (by kernel_rfl) (fun _ _ _ h => hQ.panic _ _ _ _ _ h) (.inl ⟨rfl, fun wq hq => (by kernel_rfl)⟩) ?_
 refine r_take 8 (.slice z2 f_.keep.length z3) (RB.pre _ _) rfl (by kernel_rfl) (fun _ _ _ h => hQ.panic _ _ _ _ _ h) (.inl ⟨rfl, fun wq hq => (x_load1 (by kernel_rfl) Tryz.isAgg29 ((OB.step r0 (stepR (RB.trans t2 hq) s2 r8) v5).2.1.cell' 10 rfl))⟩) ?_
 refine r_ready [4] (by kernel_rfl) rfl (all_cons ⟨_, _, _, _, _, _, rfl, ?_⟩ all_nil)
 refine o_call 36 #[(.slice y7 f_.pending.length y9)] rfl (x_call Tryz.call36 (by rw [← show y8 = f_.pending.length from t3.1]; kernel_rfl)) (slices_Clone_simfs_op_simfs_op_w (X := k2) (s := f_.pending) r9 (OS.sq t3) hp) ?_
 rintro _ R4 ⟨r1, hp, l2, k4, k5, rfl, b1⟩
 have rm := RB.mono (F' := [z5]) l2 (Nat.le_trans (Nat.le_of_eq s2.symm) (RB.size t2)) (fun _ h => by cases h)
 have j4 := RB.trans t2 rm
 refine ⟨fun _ => rm, ?_⟩
 obtain ⟨b2, z9, k6, u1⟩ := OS.own_in b1 l2 d6.size
 have b3 := u1 _ (OB.old r0)
 have b4 := u1 _ (OS.old t3)
 have k7 := u1 _ (OB.old d7)
 have b5 := u1 _ (OM.old d8)
 have b6 := u1 _ (OM.old d9)
 have b7 := u1 _ (OM.old l0)
 have b8 := u1 _ (OM.old l1)
 replace hp := hp (OS.len k6)
 refine r_ready [9] (by kernel_rfl) rfl (all_cons ⟨_, _, _, _, _, _, rfl, ?_⟩ all_nil)
 have t0 := (Sl.step q0 z9)
 have l3 := (Old.step r9 z9)
 have l4 := (OB.step0 r0 z9)
 have j5 := (OS.step0 t3 z9)
 have l5 := (OB.step0 d7 z9)
 have l6 := (OM.step0 d8 z9)
 have l7 := (OM.step0 d9 z9)
 have l8 := (OM.step0 l0 z9)
 have l9 := (OM.step0 l1 z9)
 refine o_call 37 #[(.slice z2 f_.keep.length z3)] rfl (x_call Tryz.call37 (by kernel_rfl)) (slices_Clone_bool_bool_w (X := b2) (s := f_.keep) l3 (Sl.sq t0) hp) ?_
 rintro _ R5 ⟨k8, hp, m0, m1, m2, rfl, b9⟩
 have rm := RB.mono (F' := [z5]) m0 (Nat.le_trans (Nat.le_of_eq s2.symm) (RB.size j4)) (fun _ h => by cases h)
 have o6 := RB.trans j4 rm
 refine ⟨fun _ => rm, ?_⟩
 have m3 := (Evo.then0 d6 (Step.evo z9))
 obtain ⟨R6, y0, m4, v3⟩ := OS.own_in b9 m0 m3.size
 have f0 := v3 _ (OB.old l4)
 have f1 := v3 _ (OS.old j5)
 have k9 := v3 _ (OB.old l5)
 have f2 := v3 _ (OM.old l6)
 have f3 := v3 _ (OM.old l7)
 have f4 := v3 _ (OM.old l8)
 have f5 := v3 _ (OM.old l9)
 have f6 := v3 _ (OS.old k6)
 replace hp := hp (OS.len m4)
 refine r_take 10 (.pointer (some ⟨z5, 2, none⟩)) (RB.pre _ _) rfl (by kernel_rfl) (fun _ _ _ h => hQ.panic _ _ _ _ _ h) (.inl ⟨rfl, fun wq hq => (by kernel_rfl)⟩) ?_
 refine r_ready [11] (by kernel_rfl) rfl (all_cons ⟨_, _, _, _, _, _, rfl, ?_⟩ all_nil)
 have f7 := (OB.step0 l4 y0)
 have o7 := (OS.step0 j5 y0)
 have m5 := (OB.step0 l5 y0)
 have f8 := (OM.step0 l6 y0)
 have f9 := (OM.step0 l7 y0)
 have p0 := (OM.step0 l8 y0)
 have p1 := (OM.step0 l9 y0)
 have p2 := (OS.step0 k6 y0)
 have p3 := (Evo.then0 m3 (Step.evo y0))
 refine o_stB (o := 2) (v := (.slice k4 r1.length k5)) [(.map (some t9)), (.map (some t1)), (.slice k4 r1.length k5), (.int .i64 f_.quota), (.int .i64 f_.now), (.int .i64 f_.inodes), (.int .i64 f_.ops_), (.bool f_.off), (.bool f_.armed), (.int .i64 f_.left), (.slice z2 f_.keep.length z3)] rfl m5 (by kernel_rfl) (by kernel_rfl) Tryz.sizeOf76 rfl rfl rfl ?_
 intro R7 z6 m6
 have rm := RB.mono (F' := [z5]) (Step.evo z6) (Nat.le_trans (Nat.le_of_eq s2.symm) (RB.size o6)) (Wr.self _ _ (Sub.refl _))
 refine ⟨fun _ => rm, ?_⟩
 refine r_take 12 (.pointer (some ⟨z5, 10, none⟩)) (RB.pre _ _) rfl (by kernel_rfl) (fun _ _ _ h => hQ.panic _ _ _ _ _ h) (.inl ⟨rfl, fun wq hq => (by kernel_rfl)⟩) ?_
 refine r_ready [13] (by kernel_rfl) rfl (all_cons ⟨_, _, _, _, _, _, rfl, ?_⟩ all_nil)
 have p4 := (OB.step f7 z6 v5)
 have o8 := (OS.step o7 z6 s7)
 have p5 := (OM.step f8 z6 s5)
 have p6 := (OM.step f9 z6 (Ap.symm r5))
 have p7 := (OM.step p0 z6 s6)
 have p8 := (OM.step p1 z6 (Ap.symm s1))
 have p9 := (OS.step p2 z6 (Ap.symm k7))
 have Z0 := (OS.step m4 z6 (Ap.symm k9))
 have Z1 := (Evo.thenW p3 (Step.evo z6) (Wr.of m5.2.2))
 refine o_stB (o := 10) (v := (.slice m1 k8.length m2)) [(.map (some t9)), (.map (some t1)), (.slice k4 r1.length k5), (.int .i64 f_.quota), (.int .i64 f_.now), (.int .i64 f_.inodes), (.int .i64 f_.ops_), (.bool f_.off), (.bool f_.armed), (.int .i64 f_.left), (.slice m1 k8.length m2)] rfl m6 (by kernel_rfl) (by kernel_rfl) Tryz.sizeOf29 rfl rfl rfl ?_
 intro R8 y1 m7
 refine ⟨fun h => absurd h (by decide), ?_⟩
 refine r_done (by kernel_rfl) ?_
 refine then_normal (h3 _ _ _ _ ?_)
 refine seq_ (fun _ Z2 => ?_)
 refine reg_ ?_
 refine sq (o_pv (.pointer (some ⟨z5, 0, none⟩)) rfl (by kernel_rfl) ?_)
 refine nil_ ?_
 refine then_normal (Z2 _ _ _ _ ?_)
 refine wp_ret ?_
 have Z3 := (Evo.thenW Z1 (Step.evo y1) (Wr.of m6.2.2))
 have o9 := (Sub.trans (Sub.trans (Sub.trans (Sub.trans o4 (Step.up z9)) (Step.up y0)) (Step.up z6)) (Step.up y1))
 have c0 := (News.step (News.step (News.step (News.step o5 z9) y0) z6) y1)
 have Z4 := (OB.step p4 y1 v5)
 have c1 := (OS.step o8 y1 s7)
 have q1 := (Sl.step (Sl.step (Sl.step t0 y0) z6) y1)
 have Z5 := (OM.step p5 y1 s5)
 have m8 := (OM.step p6 y1 (Ap.symm r5))
 have Z6 := (OM.step p7 y1 s6)
 have m9 := (OM.step p8 y1 (Ap.symm s1))
 have n0 := (OS.step p9 y1 (Ap.symm k7))
 have n1 := (OS.step Z0 y1 (Ap.symm k9))
 obtain ⟨Z7, n2, u4⟩ := MO.pack (o_simfs_FS_mk Z4 Z5 Z6 c1 v0 u6 y4 v8 v9 q1 rfl a4 g7 V7 g9 c9 a0)
 have Z8 := u4 _ (Ap.cons (Ap.symm v5) (Ap.app a5 (Ap.app g8 (Ap.app (Ap.symm s7) (Ap.app (Ap.nil_r _) (Ap.app (Ap.nil_r _) (Ap.app (Ap.nil_r _) (Ap.app (Ap.nil_r _) (Ap.app (Ap.nil_r _) (Ap.app (Ap.nil_r _) (Ap.app (Ap.nil_r _) (Ap.nil_r _))))))))))))
 have Z9 := u4 _ (Ap.cons (Ap.symm T0) (Ap.app (Ap.symm U7) (Ap.app d0 (Ap.app (Ap.symm T2) (Ap.app (Ap.nil_r _) (Ap.app (Ap.nil_r _) (Ap.app (Ap.nil_r _) (Ap.app (Ap.nil_r _) (Ap.app (Ap.nil_r _) (Ap.app (Ap.nil_r _) (Ap.app (Ap.nil_r _) (Ap.nil_r _))))))))))))
 have Y0 := u4 _ (Ap.cons (Ap.symm e8) (Ap.app (Ap.symm i0) (Ap.app (Ap.symm e4) (Ap.app (Ap.symm e9) (Ap.app (Ap.nil_r _) (Ap.app (Ap.nil_r _) (Ap.app (Ap.nil_r _) (Ap.app (Ap.nil_r _) (Ap.app (Ap.nil_r _) (Ap.app (Ap.nil_r _) (Ap.app (Ap.nil_r _) (Ap.nil_r _))))))))))))
 have Y1 := u4 _ (Ap.cons (Ap.symm b3) (Ap.app (Ap.symm b5) (Ap.app (Ap.symm b7) (Ap.app (Ap.symm b4) (Ap.app (Ap.nil_r _) (Ap.app (Ap.nil_r _) (Ap.app (Ap.nil_r _) (Ap.app (Ap.nil_r _) (Ap.app (Ap.nil_r _) (Ap.app (Ap.nil_r _) (Ap.app (Ap.nil_r _) (Ap.nil_r _))))))))))))
 have Y2 := u4 _ (Ap.cons (Ap.symm f0) (Ap.app (Ap.symm f2) (Ap.app (Ap.symm f4) (Ap.app (Ap.symm f1) (Ap.app (Ap.nil_r _) (Ap.app (Ap.nil_r _) (Ap.app (Ap.nil_r _) (Ap.app (Ap.nil_r _) (Ap.app (Ap.nil_r _) (Ap.app (Ap.nil_r _) (Ap.app (Ap.nil_r _) (Ap.nil_r _))))))))))))
 have c2 := OS.apold n1 c6
 obtain ⟨Y3, s3, Y4, v4⟩ := OS.release n1
 have Y5 := Z3
 have c3 := (v4 _ c2 o9)
 have c4 := (News.less c0 s3)
 have Y6 := (OB.less m7 (v4 _ k9 (OB.mem m7)))
 have Y7 := (OM.less m8 s3 (v4 _ f3 (OM.mem m8)))
 have Y8 := (OM.less m9 s3 (v4 _ f5 (OM.mem m9)))
 have Y9 := (OS.less n0 s3 (v4 _ f6 (OS.mem n0)))
 have V0 := (MO.less n2 s3 (v4 _ (Ap.symm Y2) (MO.mem n2)))
 obtain ⟨V1, V2, c5⟩ := MO.pack (o_simfs_FS_mk Y6 Y7 Y8 Y9 v0 u6 y4 v8 v9 Y4 rfl r5 s1 k7 i1 b6 b8)
 have V3 := c5 _ (Ap.cons (Ap.symm Z8) (Ap.app (Ap.symm Z9) (Ap.app (Ap.symm Y0) (Ap.app (Ap.symm Y1) (Ap.app (Ap.nil_r _) (Ap.app (Ap.nil_r _) (Ap.app (Ap.nil_r _) (Ap.app (Ap.nil_r _) (Ap.app (Ap.nil_r _) (Ap.app (Ap.nil_r _) (Ap.app (Ap.nil_r _) (Ap.nil_r _))))))))))))
 refine end_ret hQ (.pointer (some ⟨z5, 0, none⟩)) (by kernel_rfl) ?_
 exact ⟨(S_simfs_FS.mk U4 e2 f_.pending f_.quota f_.now f_.inodes f_.ops_ f_.off f_.armed f_.left f_.keep), (S_simfs_FS.mk U5 e3 r1 f_.quota f_.now f_.inodes f_.ops_ f_.off f_.armed f_.left k8), hp, Y3, Z7, z5, V1, step_of Y5 V6 c3 c4, rfl, V0, V2, V3⟩
def rectoref1_Parts_p (p : ByteArray) (Q : (List ByteArray) → Prop) : Prop :=
 ((p.size ≤ maxLen) → ((((p : ByteArray) = (ByteArray.mk #[])) → Q ([] : List ByteArray)) ∧ ((¬ ((p : ByteArray) = (ByteArray.mk #[]))) → (∃ (z3 : (List ByteArray) → Int → Prop) (z5 : (List ByteArray) → Int → Nat), (z3 ([(ByteArray.mk #[])]) (0 : Int)) ∧ (∀ (z0 : (List ByteArray)) (z1 : Int), (z3 z0 z1) → (z0.length ≤ 9223372036854775807) → (inR .i64 z1) → (((z1 < (p.size : Int)) → (∃ z4 : (List ByteArray) → Prop, (∀ (z2 : (List ByteArray)), z4 z2 → (z2.length ≤ 9223372036854775807) → ((inR .i64 (z1 + (1 : Int))) ∧ ((z3 z2 (z1 + (1 : Int))) ∧ z5 z2 (z1 + (1 : Int)) < z5 z0 z1))) ∧ ((0 ≤ z1 ∧ z1 < (p.size : Int)) ∧ ((((bget p z1) = (47 : Int)) → (((z0.length + ([(ByteArray.mk #[])]).length) * 16 ≤ 140737488355328) ∧ (z4 (z0 ++ ([(ByteArray.mk #[])]))))) ∧ ((¬ ((bget p z1) = (47 : Int))) → ((inR .i64 ((z0.length : Int) - (1 : Int))) ∧ ((inR .i64 ((z0.length : Int) - (1 : Int))) ∧ ((inL z0 ((z0.length : Int) - (1 : Int))) ∧ (((lget z0 ((z0.length : Int) - (1 : Int))).size ≤ maxLen) → ((inR .i64 (z1 + (1 : Int))) ∧ ((0 ≤ z1 ∧ z1 ≤ (z1 + (1 : Int)) ∧ (z1 + (1 : Int)) ≤ (p.size : Int)) ∧ ((((lget z0 ((z0.length : Int) - (1 : Int))) ++ (bsub p z1 (z1 + (1 : Int)))).size ≤ maxLen) ∧ ((inL z0 ((z0.length : Int) - (1 : Int))) ∧ (((lget z0 ((z0.length : Int) - (1 : Int))).size ≤ maxLen) → (∀ z6 : List ByteArray, z6 = (lset z0 ((z0.length : Int) - (1 : Int)) ((lget z0 ((z0.length : Int) - (1 : Int))) ++ (bsub p z1 (z1 + (1 : Int))))) → (z4 z6)))))))))))))))) ∧ ((¬ (z1 < (p.size : Int))) → Q z0)))))))
set_option maxRecDepth 20000 in
set_option maxHeartbeats 4000000 in
theorem rectoref1_Parts_w {X : List Nat} {w : World} {p : ByteArray} {Q : (List ByteArray) → Prop} (q2 : Old X w) (g4 : p.size ≤ maxLen) (hp : rectoref1_Parts_p p Q) :
  Calls Tryz.prog 83 #[(.string p)] w (Ret fun v w' => ∃ (q3 : (List ByteArray)), Q q3 ∧ Evo [] w w' ∧ ∃ (u3 : Option Addr) (u4 : Nat), v = (.slice u3 q3.length u4) ∧ Sl rStr X w' u3 u4 q3) := by
 have hXo := q2
 have E0 : Evo [] w w := RB.refl _ _ _
 have hS : Sub X X := Sub.refl _
 unfold rectoref1_Parts_p at hp
 refine enter_ Tryz.func83 rfl 39 [(0, (.string p))] (by kernel_rfl) (fun Qe hQ => ?_)
 replace hp := hp g4
 refine seq_ (fun _ d8 => ?_)
 refine reg_ ?_
 refine sq (o_pv (.slice none 0 0) rfl (by kernel_rfl) ?_)
 refine nil_ ?_
 refine then_normal (d8 _ _ _ _ ?_)
 refine seq_ (fun _ d9 => ?_)
 refine seq_ (fun _ l0 => ?_)
 refine reg_ ?_
 refine sq (o_pv (.string p) rfl (by kernel_rfl) ?_)
 refine sq (o_pv (.bool (decide ((p : ByteArray) = (ByteArray.mk #[])))) rfl (x_streq (by kernel_rfl) (by kernel_rfl)) ?_)
 refine nil_ ?_
 refine then_normal (l0 _ _ _ _ ?_)
 refine cond_d ((p : ByteArray) = (ByteArray.mk #[])) (by kernel_rfl) (fun q4 => ?_) (fun q4 => ?_)
 ·
  replace hp := hp.1 q4
  refine seq_ (fun _ l1 => ?_)
  refine reg_ ?_
  refine sq (o_pv (.slice none 0 0) rfl (by kernel_rfl) ?_)
  refine nil_ ?_
  refine then_normal (l1 _ _ _ _ ?_)
  refine wp_ret ?_
  refine then_ret ?_
  refine end_ret hQ (.slice none 0 0) (by kernel_rfl) ?_
  exact ⟨([] : List ByteArray), hp, E0, none, 0, rfl, Sl.nil⟩
 ·
  replace hp := hp.2 q4
  refine wp_skip ?_
  refine then_normal (d9 _ _ _ _ ?_)
  refine seq_ (fun _ l2 => ?_)
  refine reg_ ?_
  refine sq (o_rowX (R := rStr) [(.string (ByteArray.mk #[]))] [(ByteArray.mk #[])] 9 1 (X := X) (B := w.heap.size) E0.size rfl (by kernel_rfl) (Flat.cons (cs := [(.string (ByteArray.mk #[]))]) (rStr_mk (by decide : (ByteArray.mk #[]).size ≤ maxLen)) Flat.nil) rfl (by decide) ?_)
  intro q5 m1 g5 u5 g6 m0
  refine sq (o_pv (.slice (some ⟨q5, 0, none⟩) 1 1) rfl (by kernel_rfl) ?_)
  refine nil_ ?_
  refine then_normal (l2 _ _ _ _ ?_)
  refine seq_ (fun _ g7 => ?_)
  refine seq_ (fun _ g8 => ?_)
  refine reg_ ?_
  refine sq (o_pv (.int .i64 (0 : Int)) rfl (by kernel_rfl) ?_)
  refine nil_ ?_
  refine then_normal (g8 _ _ _ _ ?_)
  refine wp_block ?_
  have u6 := (Old.step hXo u5)
  have q6 := (Evo.then0 E0 (Step.evo u5))
  have s3 := (Sub.trans hS (Step.up u5))
  obtain ⟨q7, u7, s4, hp⟩ := hp
  refine loop_ 274877906712 (fun kq lq z7 => ∃ (z8 : List Nat) (z0 : (List ByteArray)) (z1 : Int) (z4 : Option Addr) (z2 : Nat) (z3 : Nat), (lq = [(3, (.slice z4 z2 z3)), (4, (.int .i64 z1))]) ∧ (kq = u7 z0 z1) ∧ (Evo [] w z7) ∧ (Old z8 z7) ∧ (Sub X z8) ∧ (OS rStr ([]) w.heap.size z8 z7 9 z4 z2 z3 z0) ∧ (inR .i64 z1) ∧ (q7 z0 z1)) (u7 ([(ByteArray.mk #[])]) (0 : Int)) [(3, (.slice (some ⟨q5, 0, none⟩) 1 1)), (4, (.int .i64 (0 : Int)))] (vs_cons (by kernel_rfl) (vs_cons (by kernel_rfl) vs_nil)) ⟨g5, ([(ByteArray.mk #[])]), (0 : Int), (some ⟨q5, 0, none⟩), 1, 1, rfl, rfl, q6, u6, s3, g6, (by decide : inR .i64 (0 : Int)), s4⟩ ?_
  rintro _ _ z7 l3 ⟨z8, z0, z1, z4, z2, z3, rfl, rfl, y4, v1, y5, z9, s5, s6⟩ g9 s7
  replace hp := hp z0 z1 s6 (OS.len z9) s5
  refine seq_ (fun _ q8 => ?_)
  refine seq_ (fun _ q9 => ?_)
  refine reg_ ?_
  refine sq (o_pv (.int .i64 z1) rfl (by kernel_rfl) ?_)
  refine sq (o_pv (.string p) rfl (by kernel_rfl) ?_)
  refine sq (o_pv (.int .i64 (p.size : Int)) rfl (by kernel_rfl) ?_)
  refine sq (o_pv (.bool (decide (z1 < (p.size : Int)))) rfl (by kernel_rfl) ?_)
  refine nil_ ?_
  refine then_normal (q9 _ _ _ _ ?_)
  refine cond_d (z1 < (p.size : Int)) (by kernel_rfl) (fun v2 => ?_) (fun v2 => ?_)
  ·
   replace hp := hp.1 v2
   refine wp_skip ?_
   refine then_normal (q8 _ _ _ _ ?_)
   refine seq_ (fun _ k0 => ?_)
   obtain ⟨k1, s8, hp⟩ := hp
   refine ground_ ?_
   refine join_ 274877890568 (fun lq y6 => ∃ (y0 : List Nat) (z5 : (List ByteArray)) (y1 : Option Addr) (y2 : Nat) (y3 : Nat), (lq = [(3, (.slice y1 y2 y3))]) ∧ (Evo [] w y6) ∧ (Old y0 y6) ∧ (Sub X y0) ∧ (OS rStr ([]) w.heap.size y0 y6 9 y1 y2 y3 z5) ∧ (k1 z5)) (fun d0 u0 => ?_) ?_
   ·
    refine wp_block ?_
    refine seq_ (fun _ k2 => ?_)
    refine seq_ (fun _ k3 => ?_)
    refine reg_ ?_
    refine sq (o_pv (.string p) rfl (by kernel_rfl) ?_)
    refine sq (o_pv (.int .i64 z1) rfl (by kernel_rfl) ?_)
    obtain ⟨k4, hp⟩ := hp
    refine sq (o_pv (.int .u8 (bget p z1)) rfl (x_bget (k := .i64) (by kernel_rfl) (by kernel_rfl) Tryz.underlying9 k4) ?_)
    refine sq (o_pv (.bool (decide ((bget p z1) = (47 : Int)))) rfl (by kernel_rfl) ?_)
    refine nil_ ?_
    refine then_normal (k3 _ _ _ _ ?_)
    refine cond_d ((bget p z1) = (47 : Int)) (by kernel_rfl) (fun v3 => ?_) (fun v3 => ?_)
    ·
     replace hp := hp.1 v3
     refine seq_ (fun _ k5 => ?_)
     refine reg_ ?_
     refine sq (o_pv (.slice z4 z2 z3) rfl (by kernel_rfl) ?_)
     refine sq (o_rowX (R := rStr) [(.string (ByteArray.mk #[]))] [(ByteArray.mk #[])] 9 1 (X := z8) (B := w.heap.size) y4.size rfl (by kernel_rfl) (Flat.cons (cs := [(.string (ByteArray.mk #[]))]) (rStr_mk (by decide : (ByteArray.mk #[]).size ≤ maxLen)) Flat.nil) rfl (by decide) ?_)
     intro l4 l5 k6 y7 u9 l6
     obtain ⟨k7, hp⟩ := hp
     have t0 := (OS.step0 z9 y7)
     have t1 := (Evo.then0 y4 (Step.evo y7))
     refine sq (o_appX (R := rStr) (X := k6) (B := w.heap.size) (L := z0) (M := [(ByteArray.mk #[])]) rfl elT72 rfl t1.size t0 (OS.src u9) u9.1 (by kernel_rfl) (by kernel_rfl) k7 ?_)
     intro v4 v5 v6 l7 k8 v7 k9 d1
     refine sq (o_pv (.slice v4 v5 v6) rfl (by kernel_rfl) ?_)
     refine nil_ ?_
     refine then_normal (k5 _ _ _ _ ?_)
     refine wp_exit ?_
     refine then_exit ?_
     refine blk_exit ?_
     have j0 := (Evo.thenW t1 (Step.evo v7) t0.2.2)
     have t2 := (Old.step (Old.step v1 y7) v7)
     have s9 := (Sub.trans (Sub.trans y5 (Step.up y7)) (Step.up v7))
     refine then_normal (u0 _ _ _ ⟨[(3, (.slice v4 v5 v6))], fit_mk (fun _ _ => rfl) (by kernel_rfl) (vs_cons (by kernel_rfl) vs_nil), ?_⟩)
     exact ⟨k8, (z0 ++ ([(ByteArray.mk #[])])), v4, v5, v6, rfl, j0, t2, s9, k9, hp⟩
    ·
     replace hp := hp.2 v3
     refine wp_skip ?_
     refine then_normal (k2 _ _ _ _ ?_)
     refine reg_drawn (RB z7.heap.size []) 17 (by kernel_rfl) (fun t3 y8 => ?_)
     have j1 := Evo.of_drew y8
     have j2 : t3.heap.size = z7.heap.size := by rw [y8]
     clear y8
     have y9 := Step.of0 z8 j1
     have r0 := RB.refl z7.heap.size [] t3
     have j3 := (Evo.then0 y4 (Step.evo y9))
     have t4 := (Old.step v1 y9)
     have r1 := (Sub.trans y5 (Step.up y9))
     have z6 := (OS.step0 z9 y9)
     refine r_take 0 (.slice z4 z2 z3) (RB.pre _ _) rfl (by kernel_rfl) (fun _ _ _ h => hQ.panic _ _ _ _ _ h) (.inl ⟨rfl, fun wq hq => (by kernel_rfl)⟩) ?_
     refine r_take 1 (.slice z4 z2 z3) (RB.pre _ _) rfl (by kernel_rfl) (fun _ _ _ h => hQ.panic _ _ _ _ _ h) (.inl ⟨rfl, fun wq hq => (by kernel_rfl)⟩) ?_
     refine r_take 2 (.int .i64 (z0.length : Int)) (RB.pre _ _) rfl (by kernel_rfl) (fun _ _ _ h => hQ.panic _ _ _ _ _ h) (.inl ⟨rfl, fun wq hq => (by rw [← show z2 = z0.length from z6.1]; kernel_rfl)⟩) ?_
     obtain ⟨j4, hp⟩ := hp
     refine r_take 3 (.int .i64 ((z0.length : Int) - (1 : Int))) (RB.pre _ _) rfl (by kernel_rfl) (fun _ _ _ h => hQ.panic _ _ _ _ _ h) (.inl ⟨rfl, fun wq hq => (x_sub2 (k := .i64) (a := (z0.length : Int)) (b := (1 : Int)) ((z0.length : Int) - (1 : Int)) (by kernel_rfl) (by kernel_rfl) (wrap_inR j4))⟩) ?_
     refine r_take 4 (.slice z4 z2 z3) (RB.pre _ _) rfl (by kernel_rfl) (fun _ _ _ h => hQ.panic _ _ _ _ _ h) (.inl ⟨rfl, fun wq hq => (by kernel_rfl)⟩) ?_
     refine r_take 5 (.slice z4 z2 z3) (RB.pre _ _) rfl (by kernel_rfl) (fun _ _ _ h => hQ.panic _ _ _ _ _ h) (.inl ⟨rfl, fun wq hq => (by kernel_rfl)⟩) ?_
     refine r_take 6 (.int .i64 (z0.length : Int)) (RB.pre _ _) rfl (by kernel_rfl) (fun _ _ _ h => hQ.panic _ _ _ _ _ h) (.inl ⟨rfl, fun wq hq => (by rw [← show z2 = z0.length from z6.1]; kernel_rfl)⟩) ?_
     obtain ⟨j5, hp⟩ := hp
     refine r_take 7 (.int .i64 ((z0.length : Int) - (1 : Int))) (RB.pre _ _) rfl (by kernel_rfl) (fun _ _ _ h => hQ.panic _ _ _ _ _ h) (.inl ⟨rfl, fun wq hq => (x_sub2 (k := .i64) (a := (z0.length : Int)) (b := (1 : Int)) ((z0.length : Int) - (1 : Int)) (by kernel_rfl) (by kernel_rfl) (wrap_inR j5))⟩) ?_
     obtain ⟨v8, hp⟩ := hp
     obtain ⟨j6, j7, d2, r2, d3, r3, r4, r5⟩ := Sl.atI (OS.rd z6) ((z0.length : Int) - (1 : Int)) v8
     obtain ⟨rfl, r6⟩ := r4
     replace hp := hp r6
     refine r_take 8 (.pointer (some ⟨j6, j7 + ((z0.length : Int) - (1 : Int)).toNat * 1, none⟩)) (RB.pre _ _) rfl (by kernel_rfl) (fun _ _ _ h => hQ.panic _ _ _ _ _ h) (.inl ⟨rfl, fun wq hq => (x_ixA (m := z2) (c := z3) (k := .i64) (i := (z0.length : Int) - (1 : Int)) Tryz.underlying72 Tryz.sizeOf9 (by rw [← r2]; kernel_rfl) (by kernel_rfl) ⟨v8.1, by rw [z6.1]; exact v8.2⟩)⟩) ?_
     refine r_take 9 (.string (lget z0 ((z0.length : Int) - (1 : Int)))) (RB.pre _ _) rfl (by kernel_rfl) (fun _ _ _ h => hQ.panic _ _ _ _ _ h) (.inl ⟨rfl, fun wq hq => (x_load1 (by kernel_rfl) Tryz.isAgg9 ((CellsAt.rb r5 (RB.trans r0 hq) (Nat.lt_of_lt_of_eq r3 j2) (fun h => by cases h)) 0 _ rfl))⟩) ?_
     refine r_take 10 (.string p) (RB.pre _ _) rfl (by kernel_rfl) (fun _ _ _ h => hQ.panic _ _ _ _ _ h) (.inl ⟨rfl, fun wq hq => (by kernel_rfl)⟩) ?_
     refine r_take 11 (.int .i64 z1) (RB.pre _ _) rfl (by kernel_rfl) (fun _ _ _ h => hQ.panic _ _ _ _ _ h) (.inl ⟨rfl, fun wq hq => (by kernel_rfl)⟩) ?_
     refine r_take 12 (.int .i64 z1) (RB.pre _ _) rfl (by kernel_rfl) (fun _ _ _ h => hQ.panic _ _ _ _ _ h) (.inl ⟨rfl, fun wq hq => (by kernel_rfl)⟩) ?_
     obtain ⟨j8, hp⟩ := hp
     refine r_take 13 (.int .i64 (z1 + (1 : Int))) (RB.pre _ _) rfl (by kernel_rfl) (fun _ _ _ h => hQ.panic _ _ _ _ _ h) (.inl ⟨rfl, fun wq hq => (x_add2 (k := .i64) (a := z1) (b := (1 : Int)) (z1 + (1 : Int)) (by kernel_rfl) (by kernel_rfl) (wrap_inR j8))⟩) ?_
     obtain ⟨j9, hp⟩ := hp
     refine r_take 14 (.string (bsub p z1 (z1 + (1 : Int)))) (RB.pre _ _) rfl (by kernel_rfl) (fun _ _ _ h => hQ.panic _ _ _ _ _ h) (.inl ⟨rfl, fun wq hq => (x_sub11 (k := .i64) (k' := .i64) (by kernel_rfl) (by kernel_rfl) (by kernel_rfl) Tryz.underlying9 j9)⟩) ?_
     obtain ⟨t5, hp⟩ := hp
     refine r_take 15 (.string ((lget z0 ((z0.length : Int) - (1 : Int))) ++ (bsub p z1 (z1 + (1 : Int))))) (RB.pre _ _) rfl (by kernel_rfl) (fun _ _ _ h => hQ.panic _ _ _ _ _ h) (.inl ⟨rfl, fun wq hq => (x_cat (by kernel_rfl) (by kernel_rfl) t5)⟩) ?_
     obtain ⟨v0, hp⟩ := hp
     obtain ⟨g0, t6, d4, u1, d5, d6, r7, d7⟩ := Sl.atI (OS.rd z6) ((z0.length : Int) - (1 : Int)) v0
     obtain ⟨rfl, r8⟩ := r7
     replace hp := hp r8
     refine r_take 16 (.pointer (some ⟨g0, t6 + ((z0.length : Int) - (1 : Int)).toNat * 1, none⟩)) (RB.pre _ _) rfl (by kernel_rfl) (fun _ _ _ h => hQ.panic _ _ _ _ _ h) (.inl ⟨rfl, fun wq hq => (x_ixA (m := z2) (c := z3) (k := .i64) (i := (z0.length : Int) - (1 : Int)) Tryz.underlying72 Tryz.sizeOf9 (by rw [← u1]; kernel_rfl) (by kernel_rfl) ⟨v0.1, by rw [z6.1]; exact v0.2⟩)⟩) ?_
     refine r_ready [17] (by kernel_rfl) rfl (all_cons ⟨_, _, _, _, _, _, rfl, ?_⟩ all_nil)
     refine o_stS (o := t6) (v := (.string ((lget z0 ((z0.length : Int) - (1 : Int))) ++ (bsub p z1 (z1 + (1 : Int)))))) ((z0.length : Int) - (1 : Int)) ((lget z0 ((z0.length : Int) - (1 : Int))) ++ (bsub p z1 (z1 + (1 : Int)))) rfl z6 u1 (v0) (by kernel_rfl) (by kernel_rfl) Tryz.sizeOf9 (fun _ => (rStr_mk t5)) ?_
     intro l8 v9 t7
     refine ⟨fun h => absurd h (by decide), ?_⟩
     obtain ⟨t8, u2⟩ : ∃ y, y = (lset z0 ((z0.length : Int) - (1 : Int)) ((lget z0 ((z0.length : Int) - (1 : Int))) ++ (bsub p z1 (z1 + (1 : Int))))) := ⟨_, rfl⟩
     replace hp := hp t8 u2
     rw [← u2] at t7
     refine r_done (by kernel_rfl) ?_
     refine blk_normal ?_
     have g1 := (Evo.thenW j3 (Step.evo v9) z6.2.2)
     have t9 := (Old.step t4 v9)
     have r9 := (Sub.trans r1 (Step.up v9))
     refine then_normal (u0 _ _ _ ⟨[(3, (.slice z4 z2 z3))], fit_mk (fun _ _ => rfl) (by kernel_rfl) (vs_cons (by kernel_rfl) vs_nil), ?_⟩)
     exact ⟨z8, t8, z4, z2, z3, rfl, g1, t9, r9, t7, hp⟩
   ·
    rintro _ y6 l9 ⟨y0, z5, y1, y2, y3, rfl, g2, s0, q0, s1, q1⟩
    replace hp := s8 z5 q1 (OS.len s1)
    refine then_normal (k0 _ _ _ _ ?_)
    refine reg_ ?_
    refine sq (o_pv (.int .i64 z1) rfl (by kernel_rfl) ?_)
    obtain ⟨s2, hp⟩ := hp
    refine sq (o_pv (.int .i64 (z1 + (1 : Int))) rfl (x_add2 (k := .i64) (a := z1) (b := (1 : Int)) (z1 + (1 : Int)) (by kernel_rfl) (by kernel_rfl) (wrap_inR s2)) ?_)
    refine sq (o_pv (.int .i64 (z1 + (1 : Int))) rfl (by kernel_rfl) ?_)
    refine nil_ ?_
    refine then_normal (s7 _ _ _ ⟨_, [(3, (.slice y1 y2 y3)), (4, (.int .i64 (z1 + (1 : Int))))], hp.2, fit_mk (AgB.nest (AgB.look (AgB.mix _ _ _) (by kernel_rfl)) (by kernel_rfl) (by kernel_rfl)) (by kernel_rfl) (vs_cons (by kernel_rfl) (vs_cons (by kernel_rfl) vs_nil)), ?_⟩)
    exact ⟨y0, z5, (z1 + (1 : Int)), y1, y2, y3, rfl, rfl, g2, s0, q0, s1, s2, hp.1⟩
  ·
   replace hp := hp.2 v2
   refine wp_exit ?_
   refine then_exit ?_
   refine then_exit ?_
   refine blk_exit ?_
   refine then_normal (g7 _ _ _ _ ?_)
   refine seq_ (fun _ g3 => ?_)
   refine reg_ ?_
   refine sq (o_pv (.slice z4 z2 z3) rfl (by kernel_rfl) ?_)
   refine sq (o_pv (.slice z4 z2 z3) rfl (by kernel_rfl) ?_)
   refine nil_ ?_
   refine then_normal (g3 _ _ _ _ ?_)
   refine wp_ret ?_
   refine end_ret hQ (.slice z4 z2 z3) (by kernel_rfl) ?_
   exact ⟨z0, hp, y4, z4, z3, (by (rw [show z2 = z0.length from z9.1]); first | done | rfl), (OS.out z9 y5 q2)⟩
end Go.Proofs.YtaolmfepdmgohaaGreatDoor
