/- Walks of functions: what each asks and computes, as a plain predicate, and the contract from it. -/
import Derived.Test.YtaolmfepdmgohaaDoorChecked
import Derived.Test.YtaolmfepdmgohaaDoorFi6
namespace Go.Proofs.YtaolmfepdmgohaaDoor
open Go


def rectolaw5_FilesArms_p (n_ : Int) (Q : Bool → Prop) : Prop :=
  ((inR .u8 n_) → (rectolaw5_known_p  (fun (r5 : Bool) => ((((!r5) = true) → Q false) ∧ (((!r5) = false) → (simfs_New_p (0 : Int) (fun (r18 : S_simfs_FS) => (simfs_FS_Arm_p r18 (n_ % (20 : Int)) ([] : List Bool) (fun (f_30 : S_simfs_FS) => (∃ (I329 : Int → Int → S_simfs_FS → Prop) (m330 : Int → Int → S_simfs_FS → Nat), (I329 (0 : Int) (0 : Int) f_30) ∧ (∀ (ok183 : Int) (i185 : Int) (o187 : S_simfs_FS), (I329 ok183 i185 o187) → (inR .i64 ok183) → (inR .i64 i185) → ((inR .i64 ((n_ % (20 : Int)) + (3 : Int))) ∧ (((i185 < ((n_ % (20 : Int)) + (3 : Int))) → (∃ k410 : Int → S_simfs_FS → Prop, (∀ (ok405 : Int) (o407 : S_simfs_FS), k410 ok405 o407 → (inR .i64 ok405) → ((inR .i64 (i185 + (1 : Int))) ∧ ((I329 ok405 (i185 + (1 : Int)) o407) ∧ m330 ok405 (i185 + (1 : Int)) o407 < m330 ok183 i185 o187))) ∧ ((inR .i64 ((97 : Int) + i185)) ∧ ((((ByteArray.mk #[102]) ++ (strOfNums ([iwrap .u8 ((97 : Int) + i185)]))).size ≤ maxLen) ∧ (simfs_FS_Write_p o187 ((ByteArray.mk #[102]) ++ (strOfNums ([iwrap .u8 ((97 : Int) + i185)]))) (1 : Int) ([] : List Int) (fun (f_435 : S_simfs_FS) (r436 : Int) => ((inR .i64 r436) → (∃ k451 : Bool → Prop, (∀ (s450 : Bool), k451 s450 → (((s450 = true) → Q false) ∧ ((s450 = false) → (((r436 = (0 : Int)) → ((inR .i64 (ok183 + (1 : Int))) ∧ (k410 (ok183 + (1 : Int)) f_435))) ∧ ((¬ (r436 = (0 : Int))) → (k410 ok183 f_435)))))) ∧ ((inR .i64 (i185 + (1 : Int))) ∧ (((((decide (r436 = (0 : Int))) : Bool) = (decide ((i185 + (1 : Int)) < (n_ % (20 : Int))))) → (((r436 = (0 : Int)) → (k451 false)) ∧ ((¬ (r436 = (0 : Int))) → (k451 (!decide (r436 = (13 : Int))))))) ∧ ((¬ (((decide (r436 = (0 : Int))) : Bool) = (decide ((i185 + (1 : Int)) < (n_ % (20 : Int)))))) → (k451 true)))))))))))) ∧ ((¬ (i185 < ((n_ % (20 : Int)) + (3 : Int)))) → (simfs_FS_Off_p o187 (fun (f_478 : S_simfs_FS) (r479 : Bool) => (simfs_FS_On_p f_478 (fun (f_490 : S_simfs_FS) => (simfs_FS_List_p f_490 (fun (f_501 : S_simfs_FS) (r502 : (List ByteArray)) (r503 : Int) => ((r502.length ≤ 9223372036854775807) → ((inR .i64 r503) → (∃ k545 : Bool → Prop, (∀ (s544 : Bool), k545 s544 → Q s544) ∧ (((r479 = true) → (simfs_FS_Ops_p f_501 (fun (f_559 : S_simfs_FS) (r560 : Int) => ((inR .i64 r560) → (((r560 = ok183) → (((r503 = (0 : Int)) → ((((r502.length : Int) = (0 : Int)) → (simfs_FS_Pending_p f_559 (fun (f_575 : S_simfs_FS) (r576 : Int) => ((inR .i64 r576) → (k545 (decide (r576 = (0 : Int)))))))) ∧ ((¬ ((r502.length : Int) = (0 : Int))) → (k545 false)))) ∧ ((¬ (r503 = (0 : Int))) → (k545 false)))) ∧ ((¬ (r560 = ok183)) → (k545 false))))))) ∧ ((¬ (r479 = true)) → (k545 false))))))))))))))))))))))))))
set_option maxRecDepth 20000 in
set_option maxHeartbeats 4000000 in
theorem rectolaw5_FilesArms_w {X : List Nat} {w : World} {n_ : Int} {Q : Bool → Prop} (hX0 : Old X w) (rn_1 : inR .u8 n_) (hp : rectolaw5_FilesArms_p n_ Q) :
    Calls Tryd.prog 3 #[(.int .u8 n_)] w (Ret fun v w' => ∃ (r0 : Bool), Q r0 ∧ Evo [] w w' ∧ v = (.bool r0)) := by
  have hXo := hX0
  have E0 : Evo [] w w := RB.refl _ _ _
  have hS : Sub X X := Sub.refl _
  unfold rectolaw5_FilesArms_p at hp
  refine enter_ Tryd.func3 rfl 83 [(0, (.int .u8 n_))] (by kernel_rfl) (fun Qe hQ => ?_)
  replace hp := hp rn_1
  refine seq_ (fun _ K2 => ?_)
  refine reg_ ?_
  refine sq (o_pv (.bool false) rfl (by kernel_rfl) ?_)
  refine nil_ ?_
  refine then_normal (K2 _ _ _ _ ?_)
  refine seq_ (fun _ K3 => ?_)
  refine seq_ (fun _ K4 => ?_)
  refine reg_ ?_
  refine sq (o_call 6 #[] rfl (x_call Tryd.call6 (by kernel_rfl)) (rectolaw5_known_w (X := [])  (Old.nil _) hp) ?_)
  rintro _ w6 ⟨r5, hp, e7, rfl⟩
  have s8 := Step.of0 X e7
  refine sq (o_pv (.bool (!r5)) rfl (by kernel_rfl) ?_)
  refine nil_ ?_
  refine then_normal (K4 _ _ _ _ ?_)
  refine cond_b (!r5) (by kernel_rfl) (fun h9 => ?_) (fun h9 => ?_)
  ·
    replace hp := hp.1 h9
    refine seq_ (fun _ K10 => ?_)
    refine reg_ ?_
    refine sq (o_pv (.bool false) rfl (by kernel_rfl) ?_)
    refine nil_ ?_
    refine then_normal (K10 _ _ _ _ ?_)
    refine wp_ret ?_
    refine then_ret ?_
    have E11 := (Evo.then0 E0 e7)
    refine end_ret hQ (.bool false) (by kernel_rfl) ?_
    exact ⟨false, hp, E11, rfl⟩
  ·
    replace hp := hp.2 h9
    refine wp_skip ?_
    refine then_normal (K3 _ _ _ _ ?_)
    refine seq_ (fun _ K12 => ?_)
    refine reg_ ?_
    refine sq (o_pv (.int .u8 n_) rfl (by kernel_rfl) ?_)
    refine sq (o_pv (.int .u8 (n_ % (20 : Int))) rfl (x_rem2 (k := .u8) (a := n_) (b := (20 : Int)) (n_ % (20 : Int)) (by kernel_rfl) (by kernel_rfl) (inR_nn rn_1) (by decide) rfl (wrap_inR (inR_rem (inR_nn rn_1) (by decide) rn_1 (by decide : inR .u8 (20 : Int))))) ?_)
    have r13 : inR .i64 (n_ % (20 : Int)) := inR_up (by decide) (by decide) (inR_rem (inR_nn rn_1) (by decide) rn_1 (by decide : inR .u8 (20 : Int)))
    refine sq (o_pv (.int .i64 (n_ % (20 : Int))) rfl (x_conv (k := .u8) Tryd.underlying5 Tryd.underlying3 (by kernel_rfl) (wrap_inR r13)) ?_)
    refine sq (o_pv (.int .i64 (n_ % (20 : Int))) rfl (by kernel_rfl) ?_)
    refine nil_ ?_
    refine then_normal (K12 _ _ _ _ ?_)
    refine seq_ (fun _ K14 => ?_)
    refine reg_ ?_
    have hXo15 := (Old.step hXo s8)
    have E16 := (Evo.then0 E0 e7)
    have hS17 := (Sub.trans hS (Step.up s8))
    refine sq (o_call 7 #[(.int .i64 (0 : Int))] rfl (x_call Tryd.call7 (by kernel_rfl)) (simfs_New_w (X := X) (quota := (0 : Int)) hXo15 (by decide : inR .i64 (0 : Int)) hp) ?_)
    rintro _ w19 ⟨r18, hp, X20, br22, Fr23, s21, rfl, mr24⟩
    have m25 := MO.re mr24 (Wr.trans mr24.wr (Wr.nil [] _) E16.size)
    refine sq (o_pv (.pointer (some ⟨br22, 0, none⟩)) rfl (by kernel_rfl) ?_)
    refine nil_ ?_
    refine then_normal (K14 _ _ _ _ ?_)
    refine seq_ (fun _ K26 => ?_)
    refine reg_ ?_
    refine sq (o_pv (.pointer (some ⟨br22, 0, none⟩)) rfl (by kernel_rfl) ?_)
    refine sq (o_pv (.int .i64 (n_ % (20 : Int))) rfl (by kernel_rfl) ?_)
    have hXo27 := (Old.step hXo15 s21)
    have E28 := (Evo.then0 E16 (Step.evo s21))
    have hS29 := (Sub.trans hS17 (Step.up s21))
    refine sq (o_call 8 #[(.pointer (some ⟨br22, 0, none⟩)), (.int .i64 (n_ % (20 : Int))), (.slice none (([] : List Bool)).length 0)] rfl (x_call Tryd.call8 (by rw []; kernel_rfl)) (simfs_FS_Arm_w (X := X20) (f_ := r18) (n_ := n_ % (20 : Int)) (keep := ([] : List Bool)) hXo27 (MO.re m25 (Wr.self _ _ (Sub.refl _))) r13 Sl.nil hp) ?_)
    rintro _ w31 ⟨f_30, hp, X32, F34, s33, rfl, m35⟩
    have m36 := MO.re m35 (Wr.trans m35.wr m25.wr E28.size)
    refine nil_ ?_
    refine then_normal (K26 _ _ _ _ ?_)
    refine seq_ (fun _ K37 => ?_)
    refine reg_ ?_
    refine sq (o_pv (.int .i64 (0 : Int)) rfl (by kernel_rfl) ?_)
    refine nil_ ?_
    refine then_normal (K37 _ _ _ _ ?_)
    refine seq_ (fun _ K38 => ?_)
    refine seq_ (fun _ K39 => ?_)
    refine reg_ ?_
    refine sq (o_pv (.int .i64 (0 : Int)) rfl (by kernel_rfl) ?_)
    refine nil_ ?_
    refine then_normal (K39 _ _ _ _ ?_)
    refine wp_block ?_
    have hXo339 := (Old.step hXo27 s33)
    have E340 := (Evo.thenW E28 (Step.evo s33) m25.wr)
    have hS341 := (Sub.trans hS29 (Step.up s33))
    obtain ⟨I329, m330, hI331, hp⟩ := hp
    refine loop_ 9007199253692644 (fun kq lq w333 => ∃ (X334 : List Nat) (ok183 : Int) (i185 : Int) (o187 : S_simfs_FS) (F188 : List Nat), (lq = [(5, (.int .i64 ok183)), (6, (.int .i64 i185))]) ∧ (kq = m330 ok183 i185 o187) ∧ (Evo [] w w333) ∧ (Old X334 w333) ∧ (Sub X X334) ∧ (MO o_simfs_FS 50 ([]) w.heap.size X334 w333 F188 br22 o187) ∧ (inR .i64 ok183) ∧ (inR .i64 i185) ∧ (I329 ok183 i185 o187)) (m330 (0 : Int) (0 : Int) f_30) [(5, (.int .i64 (0 : Int))), (6, (.int .i64 (0 : Int)))] (vs_cons (by kernel_rfl) (vs_cons (by kernel_rfl) vs_nil)) ⟨X32, (0 : Int), (0 : Int), f_30, F34, rfl, rfl, E340, hXo339, hS341, m36, (by decide : inR .i64 (0 : Int)), (by decide : inR .i64 (0 : Int)), hI331⟩ ?_
    rintro _ _ w333 g336 ⟨X334, ok183, i185, o187, F188, rfl, rfl, E342, hXo343, hS344, m189, rok184, ri186, hI332⟩ Kl337 hA338
    replace hp := hp ok183 i185 o187 hI332 rok184 ri186
    refine seq_ (fun _ K345 => ?_)
    refine seq_ (fun _ K346 => ?_)
    refine reg_ ?_
    refine sq (o_pv (.int .i64 i185) rfl (by kernel_rfl) ?_)
    refine sq (o_pv (.int .i64 (n_ % (20 : Int))) rfl (by kernel_rfl) ?_)
    obtain ⟨h347, hp⟩ := hp
    refine sq (o_pv (.int .i64 ((n_ % (20 : Int)) + (3 : Int))) rfl (x_add2 (k := .i64) (a := n_ % (20 : Int)) (b := (3 : Int)) ((n_ % (20 : Int)) + (3 : Int)) (by kernel_rfl) (by kernel_rfl) (wrap_inR h347)) ?_)
    refine sq (o_pv (.bool (decide (i185 < ((n_ % (20 : Int)) + (3 : Int))))) rfl (by kernel_rfl) ?_)
    refine nil_ ?_
    refine then_normal (K346 _ _ _ _ ?_)
    refine cond_d (i185 < ((n_ % (20 : Int)) + (3 : Int))) (by kernel_rfl) (fun h348 => ?_) (fun h348 => ?_)
    ·
      replace hp := hp.1 h348
      refine wp_skip ?_
      refine then_normal (K345 _ _ _ _ ?_)
      refine seq_ (fun _ K349 => ?_)
      obtain ⟨k410, hk411, hp⟩ := hp
      refine ground_ ?_
      refine join_ 9007199187632292 (fun lq w412 => ∃ (X413 : List Nat) (ok405 : Int) (o407 : S_simfs_FS) (F408 : List Nat), (lq = [(5, (.int .i64 ok405))]) ∧ (Evo [] w w412) ∧ (Old X413 w412) ∧ (Sub X X413) ∧ (MO o_simfs_FS 50 ([]) w.heap.size X413 w412 F408 br22 o407) ∧ (inR .i64 ok405) ∧ (k410 ok405 o407)) (fun Kj414 hJ415 => ?_) ?_
      ·
        refine wp_block ?_
        refine seq_ (fun _ K420 => ?_)
        refine reg_ ?_
        refine sq (o_pv (.pointer (some ⟨br22, 0, none⟩)) rfl (by kernel_rfl) ?_)
        refine sq (o_pv (.int .i64 i185) rfl (by kernel_rfl) ?_)
        obtain ⟨h421, hp⟩ := hp
        refine sq (o_pv (.int .i64 ((97 : Int) + i185)) rfl (x_add2 (k := .i64) (a := (97 : Int)) (b := i185) ((97 : Int) + i185) (by kernel_rfl) (by kernel_rfl) (wrap_inR h421)) ?_)
        refine sq (o_pv (.int .u8 (iwrap .u8 ((97 : Int) + i185))) rfl (x_convw (k := .i64) Tryd.underlying3 Tryd.underlying5 (by kernel_rfl)) ?_)
        refine sq (o_rowX (R := (rInt .u8)) [(.int .u8 (iwrap .u8 ((97 : Int) + i185)))] [iwrap .u8 ((97 : Int) + i185)] 5 1 (X := X334) (B := w.heap.size) E342.size rfl (by kernel_rfl) (Flat.cons (cs := [(.int .u8 (iwrap .u8 ((97 : Int) + i185)))]) (rInt_mk (inR_iwrap _ _)) Flat.nil) rfl (by decide) ?_)
        intro b422 w423 X424 s425 O426 n427
        have p428 := n427 _ (MO.old m189)
        have hl429 := OS.len O426
        refine sq (o_pv (.string (strOfNums ([iwrap .u8 ((97 : Int) + i185)]))) rfl (x_b2s_sl (a := (some ⟨b422, 0, none⟩)) (len := 1) (c := 1) ([iwrap .u8 ((97 : Int) + i185)]) Tryd.underlying28 Tryd.underlying5 Tryd.underlying9 (by kernel_rfl) O426.1 (OS.rd O426)) ?_)
        obtain ⟨h430, hp⟩ := hp
        refine sq (o_pv (.string ((ByteArray.mk #[102]) ++ (strOfNums ([iwrap .u8 ((97 : Int) + i185)])))) rfl (x_cat (by kernel_rfl) (by kernel_rfl) h430) ?_)
        have E431 := (Evo.then0 E342 (Step.evo s425))
        have hXo432 := (Old.step hXo343 s425)
        have hS433 := (Sub.trans hS344 (Step.up s425))
        have m434 := (MO.step0 m189 s425)
        refine sq (o_call 9 #[(.pointer (some ⟨br22, 0, none⟩)), (.string ((ByteArray.mk #[102]) ++ (strOfNums ([iwrap .u8 ((97 : Int) + i185)])))), (.int .i64 (1 : Int)), (.slice none (([] : List Int)).length 0)] rfl (x_call Tryd.call9 (by rw []; kernel_rfl)) (simfs_FS_Write_w (X := X424) (f_ := o187) (p := (ByteArray.mk #[102]) ++ (strOfNums ([iwrap .u8 ((97 : Int) + i185)]))) (mode := (1 : Int)) (b := ([] : List Int)) hXo432 (MO.re m434 (Wr.self _ _ (Sub.refl _))) h430 (by decide : inR .i64 (1 : Int)) Sl.nil hp) ?_)
        rintro _ w437 ⟨f_435, r436, hp, X438, F440, s439, rfl, m441, rr442⟩
        have m443 := MO.re m441 (Wr.trans m441.wr m434.wr E431.size)
        have p444 := Ap.grow m441.wr (Ap.symm p428) (OS.old O426) (Nat.le_refl _)
        replace hp := hp rr442
        refine sq (o_pv (.int .i64 r436) rfl (by kernel_rfl) ?_)
        refine nil_ ?_
        refine then_normal (K420 _ _ _ _ ?_)
        refine seq_ (fun _ K445 => ?_)
        refine seq_ (fun _ K446 => ?_)
        have E458 := (Evo.thenW E431 (Step.evo s439) m434.wr)
        have hXo459 := (Old.step hXo432 s439)
        have hS460 := (Sub.trans hS433 (Step.up s439))
        have O461 := (OS.step O426 s439 (Ap.symm p428))
        obtain ⟨k451, hk452, hp⟩ := hp
        refine ground_ ?_
        refine join_ 562932773552128 (fun lq w453 => ∃ (X454 : List Nat) (s450 : Bool), (lq = [(48, (.bool s450))]) ∧ (Evo [] w w453) ∧ (Old X454 w453) ∧ (Sub X X454) ∧ (MO o_simfs_FS 50 ([]) w.heap.size X454 w453 F440 br22 f_435) ∧ (k451 s450)) (fun Kj455 hJ456 => ?_) ?_
        ·
          refine reg_ ?_
          refine sq (o_pv (.int .i64 r436) rfl (by kernel_rfl) ?_)
          refine sq (o_pv (.bool (decide (r436 = (0 : Int)))) rfl (by kernel_rfl) ?_)
          refine sq (o_pv (.int .i64 i185) rfl (by kernel_rfl) ?_)
          obtain ⟨h466, hp⟩ := hp
          refine sq (o_pv (.int .i64 (i185 + (1 : Int))) rfl (x_add2 (k := .i64) (a := i185) (b := (1 : Int)) (i185 + (1 : Int)) (by kernel_rfl) (by kernel_rfl) (wrap_inR h466)) ?_)
          refine sq (o_pv (.int .i64 (n_ % (20 : Int))) rfl (by kernel_rfl) ?_)
          refine sq (o_pv (.bool (decide ((i185 + (1 : Int)) < (n_ % (20 : Int))))) rfl (by kernel_rfl) ?_)
          by_cases h467 : ((decide (r436 = (0 : Int))) : Bool) = (decide ((i185 + (1 : Int)) < (n_ % (20 : Int))))
          ·
            replace hp := hp.1 h467
            refine sq (o_pv (.bool false) rfl (x_ndf (p := ((decide (r436 = (0 : Int))) : Bool) = (decide ((i185 + (1 : Int)) < (n_ % (20 : Int))))) (x_boolne (a := (decide (r436 = (0 : Int)))) (b := (decide ((i185 + (1 : Int)) < (n_ % (20 : Int))))) Tryd.underlying4 (by kernel_rfl) (by kernel_rfl)) h467) ?_)
            refine sq (o_pv (.bool false) rfl (by kernel_rfl) ?_)
            refine sq (o_pv (.int .i64 r436) (by kernel_rfl) (by kernel_rfl) ?_)
            by_cases h468 : r436 = (0 : Int)
            ·
              replace hp := hp.1 h468
              refine sq (o_pv (.bool false) (by kernel_rfl) (x_ndf (p := r436 = (0 : Int)) (by kernel_rfl) h468) ?_)
              refine sq (o_pv (.bool false) (by kernel_rfl) (by kernel_rfl) ?_)
              refine sq (o_not (by kernel_rfl) ?_)
              refine sq (o_not (by kernel_rfl) ?_)
              refine sq (o_pv (.bool false) (by kernel_rfl) (by kernel_rfl) ?_)
              refine sq (o_pv (.bool false) rfl (by kernel_rfl) ?_)
              refine nil_ ?_
              refine then_normal (hJ456 _ _ _ ⟨[(48, (.bool false))], fit_mk (fun _ _ => rfl) (by kernel_rfl) (vs_cons (by kernel_rfl) vs_nil), ?_⟩)
              exact ⟨X438, false, rfl, E458, hXo459, hS460, m443, hp⟩
            ·
              replace hp := hp.2 h468
              refine sq (o_pv (.bool true) (by kernel_rfl) (x_ndt (p := r436 = (0 : Int)) (by kernel_rfl) h468) ?_)
              refine sq (o_pv (.bool true) (by kernel_rfl) (by kernel_rfl) ?_)
              refine sq (o_pv (.int .i64 r436) (by kernel_rfl) (by kernel_rfl) ?_)
              refine sq (o_pv (.bool (!decide (r436 = (13 : Int)))) (by kernel_rfl) (by kernel_rfl) ?_)
              refine sq (o_pv (.bool (!decide (r436 = (13 : Int)))) (by kernel_rfl) (by kernel_rfl) ?_)
              refine sq (o_pv (.bool (!decide (r436 = (13 : Int)))) rfl (by kernel_rfl) ?_)
              refine nil_ ?_
              refine then_normal (hJ456 _ _ _ ⟨[(48, (.bool (!decide (r436 = (13 : Int)))))], fit_mk (fun _ _ => rfl) (by kernel_rfl) (vs_cons (by kernel_rfl) vs_nil), ?_⟩)
              exact ⟨X438, (!decide (r436 = (13 : Int))), rfl, E458, hXo459, hS460, m443, hp⟩
          ·
            replace hp := hp.2 h467
            refine sq (o_pv (.bool true) rfl (x_ndt (p := ((decide (r436 = (0 : Int))) : Bool) = (decide ((i185 + (1 : Int)) < (n_ % (20 : Int))))) (x_boolne (a := (decide (r436 = (0 : Int)))) (b := (decide ((i185 + (1 : Int)) < (n_ % (20 : Int))))) Tryd.underlying4 (by kernel_rfl) (by kernel_rfl)) h467) ?_)
            refine sq (o_pv (.bool true) rfl (by kernel_rfl) ?_)
            refine sq (o_not (by kernel_rfl) ?_)
            refine sq (o_not (by kernel_rfl) ?_)
            refine sq (o_not (by kernel_rfl) ?_)
            refine sq (o_not (by kernel_rfl) ?_)
            refine sq (o_not (by kernel_rfl) ?_)
            refine sq (o_not (by kernel_rfl) ?_)
            refine sq (o_pv (.bool true) rfl (by kernel_rfl) ?_)
            refine nil_ ?_
            refine then_normal (hJ456 _ _ _ ⟨[(48, (.bool true))], fit_mk (fun _ _ => rfl) (by kernel_rfl) (vs_cons (by kernel_rfl) vs_nil), ?_⟩)
            exact ⟨X438, true, rfl, E458, hXo459, hS460, m443, hp⟩
        ·
          rintro _ w453 g469 ⟨X454, s450, rfl, E462, hXo463, hS464, m465, hv457⟩
          replace hp := hk452 s450 hv457
          refine then_normal (K446 _ _ _ _ ?_)
          refine cond_b s450 (by kernel_rfl) (fun h470 => ?_) (fun h470 => ?_)
          ·
            replace hp := hp.1 h470
            refine seq_ (fun _ K471 => ?_)
            refine reg_ ?_
            refine sq (o_pv (.bool false) rfl (by kernel_rfl) ?_)
            refine nil_ ?_
            refine then_normal (K471 _ _ _ _ ?_)
            refine wp_ret ?_
            refine then_ret ?_
            refine blk_ret ?_
            refine then_ret ?_
            refine then_ret ?_
            refine then_ret ?_
            refine blk_ret ?_
            refine then_ret ?_
            refine end_ret hQ (.bool false) (by kernel_rfl) ?_
            exact ⟨false, hp, E462, rfl⟩
          ·
            replace hp := hp.2 h470
            refine wp_skip ?_
            refine then_normal (K445 _ _ _ _ ?_)
            refine seq_ (fun _ K472 => ?_)
            refine reg_ ?_
            refine sq (o_pv (.int .i64 r436) rfl (by kernel_rfl) ?_)
            refine sq (o_pv (.bool (decide (r436 = (0 : Int)))) rfl (by kernel_rfl) ?_)
            refine nil_ ?_
            refine then_normal (K472 _ _ _ _ ?_)
            refine cond_d (r436 = (0 : Int)) (by kernel_rfl) (fun h473 => ?_) (fun h473 => ?_)
            ·
              replace hp := hp.1 h473
              refine reg_ ?_
              refine sq (o_pv (.int .i64 ok183) rfl (by kernel_rfl) ?_)
              obtain ⟨h474, hp⟩ := hp
              refine sq (o_pv (.int .i64 (ok183 + (1 : Int))) rfl (x_add2 (k := .i64) (a := ok183) (b := (1 : Int)) (ok183 + (1 : Int)) (by kernel_rfl) (by kernel_rfl) (wrap_inR h474)) ?_)
              refine sq (o_pv (.int .i64 (ok183 + (1 : Int))) rfl (by kernel_rfl) ?_)
              refine nil_ ?_
              refine blk_normal ?_
              refine then_normal (hJ415 _ _ _ ⟨[(5, (.int .i64 (ok183 + (1 : Int))))], fit_mk (AgB.nest (AgB.look (fun _ _ => rfl) (by kernel_rfl)) (by kernel_rfl) (by kernel_rfl)) (by kernel_rfl) (vs_cons (by kernel_rfl) vs_nil), ?_⟩)
              exact ⟨X454, (ok183 + (1 : Int)), f_435, F440, rfl, E462, hXo463, hS464, m465, h474, hp⟩
            ·
              replace hp := hp.2 h473
              refine wp_skip ?_
              refine blk_normal ?_
              refine then_normal (hJ415 _ _ _ ⟨[(5, (.int .i64 ok183))], fit_mk (AgB.nest (AgB.look (fun _ _ => rfl) (by kernel_rfl)) (by kernel_rfl) (by kernel_rfl)) (by kernel_rfl) (vs_cons (by kernel_rfl) vs_nil), ?_⟩)
              exact ⟨X454, ok183, f_435, F440, rfl, E462, hXo463, hS464, m465, rok184, hp⟩
      ·
        rintro _ w412 g475 ⟨X413, ok405, o407, F408, rfl, E417, hXo418, hS419, m409, rok406, hv416⟩
        replace hp := hk411 ok405 o407 hv416 rok406
        refine then_normal (K349 _ _ _ _ ?_)
        refine reg_ ?_
        refine sq (o_pv (.int .i64 i185) rfl (by kernel_rfl) ?_)
        obtain ⟨h476, hp⟩ := hp
        refine sq (o_pv (.int .i64 (i185 + (1 : Int))) rfl (x_add2 (k := .i64) (a := i185) (b := (1 : Int)) (i185 + (1 : Int)) (by kernel_rfl) (by kernel_rfl) (wrap_inR h476)) ?_)
        refine sq (o_pv (.int .i64 (i185 + (1 : Int))) rfl (by kernel_rfl) ?_)
        refine nil_ ?_
        refine then_normal (hA338 _ _ _ ⟨_, [(5, (.int .i64 ok405)), (6, (.int .i64 (i185 + (1 : Int))))], hp.2, fit_mk (AgB.nest (AgB.look (AgB.mix _ _ _) (by kernel_rfl)) (by kernel_rfl) (by kernel_rfl)) (by kernel_rfl) (vs_cons (by kernel_rfl) (vs_cons (by kernel_rfl) vs_nil)), ?_⟩)
        exact ⟨X413, ok405, (i185 + (1 : Int)), o407, F408, rfl, rfl, E417, hXo418, hS419, m409, rok406, h476, hp.1⟩
    ·
      replace hp := hp.2 h348
      refine wp_exit ?_
      refine then_exit ?_
      refine then_exit ?_
      refine blk_exit ?_
      refine then_normal (K38 _ _ _ _ ?_)
      refine seq_ (fun _ K477 => ?_)
      refine reg_ ?_
      refine sq (o_pv (.pointer (some ⟨br22, 0, none⟩)) rfl (by kernel_rfl) ?_)
      refine sq (o_call 10 #[(.pointer (some ⟨br22, 0, none⟩))] rfl (x_call Tryd.call10 (by kernel_rfl)) (simfs_FS_Off_w (X := X334) (f_ := o187) hXo343 (MO.re m189 (Wr.self _ _ (Sub.refl _))) hp) ?_)
      rintro _ w480 ⟨f_478, r479, hp, X481, F483, s482, rfl, m484⟩
      have m485 := MO.re m484 (Wr.trans m484.wr m189.wr E342.size)
      refine sq (o_pv (.bool r479) rfl (by kernel_rfl) ?_)
      refine nil_ ?_
      refine then_normal (K477 _ _ _ _ ?_)
      refine seq_ (fun _ K486 => ?_)
      refine reg_ ?_
      refine sq (o_pv (.pointer (some ⟨br22, 0, none⟩)) rfl (by kernel_rfl) ?_)
      have E487 := (Evo.thenW E342 (Step.evo s482) m189.wr)
      have hXo488 := (Old.step hXo343 s482)
      have hS489 := (Sub.trans hS344 (Step.up s482))
      refine sq (o_call 11 #[(.pointer (some ⟨br22, 0, none⟩))] rfl (x_call Tryd.call11 (by kernel_rfl)) (simfs_FS_On_w (X := X481) (f_ := f_478) hXo488 (MO.re m485 (Wr.self _ _ (Sub.refl _))) hp) ?_)
      rintro _ w491 ⟨f_490, hp, X492, F494, s493, rfl, m495⟩
      have m496 := MO.re m495 (Wr.trans m495.wr m485.wr E487.size)
      refine nil_ ?_
      refine then_normal (K486 _ _ _ _ ?_)
      refine seq_ (fun _ K497 => ?_)
      refine reg_ ?_
      refine sq (o_pv (.pointer (some ⟨br22, 0, none⟩)) rfl (by kernel_rfl) ?_)
      have E498 := (Evo.thenW E487 (Step.evo s493) m485.wr)
      have hXo499 := (Old.step hXo488 s493)
      have hS500 := (Sub.trans hS489 (Step.up s493))
      refine sq (o_call 12 #[(.pointer (some ⟨br22, 0, none⟩))] rfl (x_call Tryd.call12 (by kernel_rfl)) (simfs_FS_List_w (X := X492) (f_ := f_490) hXo499 (MO.re m496 (Wr.self _ _ (Sub.refl _))) hp) ?_)
      rintro _ w504 ⟨f_501, r502, r503, hp, X505, F507, ar509, cr510, s506, rfl, m508, hr511, rr512⟩
      have m513 := MO.re m508 (Wr.trans m508.wr m496.wr E498.size)
      replace hp := hp (Sl.len hr511)
      replace hp := hp rr512
      refine sq (o_pv (.tuple #[(.slice ar509 r502.length cr510), (.int .i64 r503)]) rfl (by kernel_rfl) ?_)
      refine sq (o_pv (.slice ar509 r502.length cr510) rfl (by kernel_rfl) ?_)
      refine sq (o_pv (.int .i64 r503) rfl (by kernel_rfl) ?_)
      refine sq (o_pv (.slice ar509 r502.length cr510) rfl (by kernel_rfl) ?_)
      refine sq (o_pv (.int .i64 r503) rfl (by kernel_rfl) ?_)
      refine nil_ ?_
      refine then_normal (K497 _ _ _ _ ?_)
      refine seq_ (fun _ K514 => ?_)
      have E552 := (Evo.thenW E498 (Step.evo s506) m496.wr)
      have hXo553 := (Old.step hXo499 s506)
      have hS554 := (Sub.trans hS500 (Step.up s506))
      obtain ⟨k545, hk546, hp⟩ := hp
      refine ground_ ?_
      refine join_ 9671401945231014970261508 (fun lq w547 => ∃ (X548 : List Nat) (s544 : Bool), (lq = [(2, (.bool s544))]) ∧ (Evo [] w w547) ∧ (Old X548 w547) ∧ (Sub X X548) ∧ (k545 s544)) (fun Kj549 hJ550 => ?_) ?_
      ·
        refine reg_ ?_
        by_cases h558 : r479 = true
        ·
          replace hp := hp.1 h558
          refine sq (o_pv (.bool true) rfl (x_bt (by kernel_rfl) h558) ?_)
          refine sq (o_pv (.bool true) rfl (by kernel_rfl) ?_)
          refine sq (o_pv (.pointer (some ⟨br22, 0, none⟩)) (by kernel_rfl) (by kernel_rfl) ?_)
          refine sq (o_call 13 #[(.pointer (some ⟨br22, 0, none⟩))] (by kernel_rfl) (x_call Tryd.call13 (by kernel_rfl)) (simfs_FS_Ops_w (X := X505) (f_ := f_501) hXo553 (MO.re m513 (Wr.self _ _ (Sub.refl _))) hp) ?_)
          rintro _ w561 ⟨f_559, r560, hp, X562, F564, s563, rfl, m565, rr566⟩
          have m567 := MO.re m565 (Wr.trans m565.wr m513.wr E552.size)
          replace hp := hp rr566
          refine sq (o_pv (.int .i64 ok183) (by kernel_rfl) (by kernel_rfl) ?_)
          by_cases h568 : r560 = ok183
          ·
            replace hp := hp.1 h568
            refine sq (o_pv (.bool true) (by kernel_rfl) (x_dt (p := r560 = ok183) (by kernel_rfl) h568) ?_)
            refine sq (o_pv (.bool true) rfl (by kernel_rfl) ?_)
            refine sq (o_pv (.bool true) rfl (by kernel_rfl) ?_)
            refine sq (o_pv (.int .i64 r503) (by kernel_rfl) (by kernel_rfl) ?_)
            by_cases h569 : r503 = (0 : Int)
            ·
              replace hp := hp.1 h569
              refine sq (o_pv (.bool true) (by kernel_rfl) (x_dt (p := r503 = (0 : Int)) (by kernel_rfl) h569) ?_)
              refine sq (o_pv (.bool true) rfl (by kernel_rfl) ?_)
              refine sq (o_pv (.bool true) rfl (by kernel_rfl) ?_)
              refine sq (o_pv (.slice ar509 r502.length cr510) (by kernel_rfl) (by kernel_rfl) ?_)
              refine sq (o_pv (.int .i64 (r502.length : Int)) (by kernel_rfl) (by kernel_rfl) ?_)
              by_cases h570 : (r502.length : Int) = (0 : Int)
              ·
                replace hp := hp.1 h570
                refine sq (o_pv (.bool true) (by kernel_rfl) (x_dt (p := (r502.length : Int) = (0 : Int)) (by kernel_rfl) h570) ?_)
                refine sq (o_pv (.bool true) rfl (by kernel_rfl) ?_)
                refine sq (o_pv (.bool true) rfl (by kernel_rfl) ?_)
                refine sq (o_pv (.pointer (some ⟨br22, 0, none⟩)) (by kernel_rfl) (by kernel_rfl) ?_)
                have E571 := (Evo.thenW E552 (Step.evo s563) m513.wr)
                have hXo572 := (Old.step hXo553 s563)
                have hS573 := (Sub.trans hS554 (Step.up s563))
                have hr574 := (Sl.step hr511 s563)
                refine sq (o_call 14 #[(.pointer (some ⟨br22, 0, none⟩))] (by kernel_rfl) (x_call Tryd.call14 (by kernel_rfl)) (simfs_FS_Pending_w (X := X562) (f_ := f_559) hXo572 (MO.re m567 (Wr.self _ _ (Sub.refl _))) hp) ?_)
                rintro _ w577 ⟨f_575, r576, hp, X578, F580, s579, rfl, m581, rr582⟩
                have m583 := MO.re m581 (Wr.trans m581.wr m567.wr E571.size)
                replace hp := hp rr582
                refine sq (o_pv (.bool (decide (r576 = (0 : Int)))) (by kernel_rfl) (by kernel_rfl) ?_)
                refine sq (o_pv (.bool (decide (r576 = (0 : Int)))) rfl (by kernel_rfl) ?_)
                refine sq (o_pv (.bool (decide (r576 = (0 : Int)))) rfl (by kernel_rfl) ?_)
                refine nil_ ?_
                have E584 := (Evo.thenW E571 (Step.evo s579) m567.wr)
                have hXo585 := (Old.step hXo572 s579)
                have hS586 := (Sub.trans hS573 (Step.up s579))
                refine then_normal (hJ550 _ _ _ ⟨[(2, (.bool (decide (r576 = (0 : Int)))))], fit_mk (fun _ _ => rfl) (by kernel_rfl) (vs_cons (by kernel_rfl) vs_nil), ?_⟩)
                exact ⟨X578, (decide (r576 = (0 : Int))), rfl, E584, hXo585, hS586, hp⟩
              ·
                replace hp := hp.2 h570
                refine sq (o_pv (.bool false) (by kernel_rfl) (x_df (p := (r502.length : Int) = (0 : Int)) (by kernel_rfl) h570) ?_)
                refine sq (o_pv (.bool false) rfl (by kernel_rfl) ?_)
                refine sq (o_pv (.bool false) rfl (by kernel_rfl) ?_)
                refine sq (o_not (by kernel_rfl) ?_)
                refine sq (o_not (by kernel_rfl) ?_)
                refine sq (o_not (by kernel_rfl) ?_)
                refine sq (o_pv (.bool false) rfl (by kernel_rfl) ?_)
                refine sq (o_pv (.bool false) rfl (by kernel_rfl) ?_)
                refine nil_ ?_
                have E587 := (Evo.thenW E552 (Step.evo s563) m513.wr)
                have hXo588 := (Old.step hXo553 s563)
                have hS589 := (Sub.trans hS554 (Step.up s563))
                refine then_normal (hJ550 _ _ _ ⟨[(2, (.bool false))], fit_mk (fun _ _ => rfl) (by kernel_rfl) (vs_cons (by kernel_rfl) vs_nil), ?_⟩)
                exact ⟨X562, false, rfl, E587, hXo588, hS589, hp⟩
            ·
              replace hp := hp.2 h569
              refine sq (o_pv (.bool false) (by kernel_rfl) (x_df (p := r503 = (0 : Int)) (by kernel_rfl) h569) ?_)
              refine sq (o_pv (.bool false) rfl (by kernel_rfl) ?_)
              refine sq (o_pv (.bool false) rfl (by kernel_rfl) ?_)
              refine sq (o_not (by kernel_rfl) ?_)
              refine sq (o_not (by kernel_rfl) ?_)
              refine sq (o_not (by kernel_rfl) ?_)
              refine sq (o_pv (.bool false) rfl (by kernel_rfl) ?_)
              refine sq (o_pv (.bool false) rfl (by kernel_rfl) ?_)
              refine sq (o_not (by kernel_rfl) ?_)
              refine sq (o_not (by kernel_rfl) ?_)
              refine sq (o_not (by kernel_rfl) ?_)
              refine sq (o_pv (.bool false) rfl (by kernel_rfl) ?_)
              refine sq (o_pv (.bool false) rfl (by kernel_rfl) ?_)
              refine nil_ ?_
              have E590 := (Evo.thenW E552 (Step.evo s563) m513.wr)
              have hXo591 := (Old.step hXo553 s563)
              have hS592 := (Sub.trans hS554 (Step.up s563))
              refine then_normal (hJ550 _ _ _ ⟨[(2, (.bool false))], fit_mk (fun _ _ => rfl) (by kernel_rfl) (vs_cons (by kernel_rfl) vs_nil), ?_⟩)
              exact ⟨X562, false, rfl, E590, hXo591, hS592, hp⟩
          ·
            replace hp := hp.2 h568
            refine sq (o_pv (.bool false) (by kernel_rfl) (x_df (p := r560 = ok183) (by kernel_rfl) h568) ?_)
            refine sq (o_pv (.bool false) rfl (by kernel_rfl) ?_)
            refine sq (o_pv (.bool false) rfl (by kernel_rfl) ?_)
            refine sq (o_not (by kernel_rfl) ?_)
            refine sq (o_not (by kernel_rfl) ?_)
            refine sq (o_pv (.bool false) rfl (by kernel_rfl) ?_)
            refine sq (o_pv (.bool false) rfl (by kernel_rfl) ?_)
            refine sq (o_not (by kernel_rfl) ?_)
            refine sq (o_not (by kernel_rfl) ?_)
            refine sq (o_not (by kernel_rfl) ?_)
            refine sq (o_pv (.bool false) rfl (by kernel_rfl) ?_)
            refine sq (o_pv (.bool false) rfl (by kernel_rfl) ?_)
            refine sq (o_not (by kernel_rfl) ?_)
            refine sq (o_not (by kernel_rfl) ?_)
            refine sq (o_not (by kernel_rfl) ?_)
            refine sq (o_pv (.bool false) rfl (by kernel_rfl) ?_)
            refine sq (o_pv (.bool false) rfl (by kernel_rfl) ?_)
            refine nil_ ?_
            have E593 := (Evo.thenW E552 (Step.evo s563) m513.wr)
            have hXo594 := (Old.step hXo553 s563)
            have hS595 := (Sub.trans hS554 (Step.up s563))
            refine then_normal (hJ550 _ _ _ ⟨[(2, (.bool false))], fit_mk (fun _ _ => rfl) (by kernel_rfl) (vs_cons (by kernel_rfl) vs_nil), ?_⟩)
            exact ⟨X562, false, rfl, E593, hXo594, hS595, hp⟩
        ·
          replace hp := hp.2 h558
          refine sq (o_pv (.bool false) rfl (x_bf (by kernel_rfl) h558) ?_)
          refine sq (o_pv (.bool false) rfl (by kernel_rfl) ?_)
          refine sq (o_not (by kernel_rfl) ?_)
          refine sq (o_not (by kernel_rfl) ?_)
          refine sq (o_not (by kernel_rfl) ?_)
          refine sq (o_not (by kernel_rfl) ?_)
          refine sq (o_pv (.bool false) rfl (by kernel_rfl) ?_)
          refine sq (o_pv (.bool false) rfl (by kernel_rfl) ?_)
          refine sq (o_not (by kernel_rfl) ?_)
          refine sq (o_not (by kernel_rfl) ?_)
          refine sq (o_pv (.bool false) rfl (by kernel_rfl) ?_)
          refine sq (o_pv (.bool false) rfl (by kernel_rfl) ?_)
          refine sq (o_not (by kernel_rfl) ?_)
          refine sq (o_not (by kernel_rfl) ?_)
          refine sq (o_not (by kernel_rfl) ?_)
          refine sq (o_pv (.bool false) rfl (by kernel_rfl) ?_)
          refine sq (o_pv (.bool false) rfl (by kernel_rfl) ?_)
          refine sq (o_not (by kernel_rfl) ?_)
          refine sq (o_not (by kernel_rfl) ?_)
          refine sq (o_not (by kernel_rfl) ?_)
          refine sq (o_pv (.bool false) rfl (by kernel_rfl) ?_)
          refine sq (o_pv (.bool false) rfl (by kernel_rfl) ?_)
          refine nil_ ?_
          refine then_normal (hJ550 _ _ _ ⟨[(2, (.bool false))], fit_mk (fun _ _ => rfl) (by kernel_rfl) (vs_cons (by kernel_rfl) vs_nil), ?_⟩)
          exact ⟨X505, false, rfl, E552, hXo553, hS554, hp⟩
      ·
        rintro _ w547 g596 ⟨X548, s544, rfl, E555, hXo556, hS557, hv551⟩
        replace hp := hk546 s544 hv551
        refine then_normal (K514 _ _ _ _ ?_)
        refine wp_ret ?_
        refine end_ret hQ (.bool s544) (by kernel_rfl) ?_
        exact ⟨s544, hp, E555, rfl⟩

end Go.Proofs.YtaolmfepdmgohaaDoor
