/- Walks of functions: what each asks and computes, as a plain predicate, and the contract from it. -/
import Derived.Test.YtaolmfepdmgohaaDoorChecked
import Derived.Test.YtaolmfepdmgohaaDoorFi5
namespace Go.Proofs.YtaolmfepdmgohaaDoor
open Go


def rectolaw5_FilesSync_p (first : (List Int)) (second : (List Int)) (keep : (List Bool)) (Q : Bool → Prop) : Prop :=
  ((first.length ≤ 9223372036854775807) → ((second.length ≤ 9223372036854775807) → ((keep.length ≤ 9223372036854775807) → (rectolaw5_known_p  (fun (r13 : Bool) => ((((!r13) = true) → Q false) ∧ (((!r13) = false) → (((((first.length : Int) > (30 : Int)) ∨ (((second.length : Int) > (30 : Int)) ∨ ((keep.length : Int) > (60 : Int)))) → Q true) ∧ ((¬ (((first.length : Int) > (30 : Int)) ∨ (((second.length : Int) > (30 : Int)) ∨ ((keep.length : Int) > (60 : Int))))) → (simfs_New_p (0 : Int) (fun (r40 : S_simfs_FS) => (∃ (I277 : Int → S_simfs_FS → (List Int) → Prop) (m278 : Int → S_simfs_FS → (List Int) → Nat), (I277 (0 : Int) r40 (List.replicate 16 (0 : Int))) ∧ (∀ (i165 : Int) (o167 : S_simfs_FS) (f170 : (List Int)), (I277 i165 o167 f170) → (inR .i64 i165) → (okArr .i64 16 f170) → (((i165 < (first.length : Int)) → ((inL first i165) ∧ ((inR .u8 (lget first i165)) → ((((ByteArray.mk #[102]) ++ (strOfNums ([((97 : Int) + ((lget first i165) % (16 : Int))) % 256]))).size ≤ maxLen) ∧ (simfs_FS_Write_p o167 ((ByteArray.mk #[102]) ++ (strOfNums ([((97 : Int) + ((lget first i165) % (16 : Int))) % 256]))) (1 : Int) ([iwrap .u8 i165]) (fun (f_362 : S_simfs_FS) (r363 : Int) => ((inR .i64 r363) → (((¬ (r363 = (0 : Int))) → Q false) ∧ ((r363 = (0 : Int)) → ((inL first i165) ∧ ((inR .u8 (lget first i165)) → ((inR .i64 (i165 + (1 : Int))) ∧ ((0 ≤ ((lget first i165) % (16 : Int)) ∧ ((lget first i165) % (16 : Int)) < 16) ∧ (∀ l395 : List Int, l395 = (lset f170 ((lget first i165) % (16 : Int)) (i165 + (1 : Int))) → ((inR .i64 (i165 + (1 : Int))) ∧ ((I277 (i165 + (1 : Int)) f_362 l395) ∧ m278 (i165 + (1 : Int)) f_362 l395 < m278 i165 o167 f170)))))))))))))))) ∧ ((¬ (i165 < (first.length : Int))) → (simfs_FS_Sync_p o167 (fun (f_406 : S_simfs_FS) (r407 : Int) => ((inR .i64 r407) → (∃ (I1038 : Int → S_simfs_FS → (List Int) → Prop) (m1039 : Int → S_simfs_FS → (List Int) → Nat), (I1038 (0 : Int) f_406 f170) ∧ (∀ (i725 : Int) (o727 : S_simfs_FS) (f730 : (List Int)), (I1038 i725 o727 f730) → (inR .i64 i725) → (okArr .i64 16 f730) → (((i725 < (second.length : Int)) → (∃ k1204 : S_simfs_FS → (List Int) → Prop, (∀ (o1198 : S_simfs_FS) (f1201 : (List Int)), k1204 o1198 f1201 → (okArr .i64 16 f1201) → ((inR .i64 (i725 + (1 : Int))) ∧ ((I1038 (i725 + (1 : Int)) o1198 f1201) ∧ m1039 (i725 + (1 : Int)) o1198 f1201 < m1039 i725 o727 f730))) ∧ ((inL second i725) ∧ ((inR .u8 (lget second i725)) → ((((ByteArray.mk #[102]) ++ (strOfNums ([((97 : Int) + ((lget second i725) % (16 : Int))) % 256]))).size ≤ maxLen) ∧ ((inR .i64 ((100 : Int) + i725)) ∧ (simfs_FS_Write_p o727 ((ByteArray.mk #[102]) ++ (strOfNums ([((97 : Int) + ((lget second i725) % (16 : Int))) % 256]))) (1 : Int) ([iwrap .u8 ((100 : Int) + i725)]) (fun (f_1273 : S_simfs_FS) (r1274 : Int) => ((inR .i64 r1274) → (((¬ (r1274 = (0 : Int))) → Q false) ∧ ((r1274 = (0 : Int)) → (∃ k1300 : Bool → Prop, (∀ (s1299 : Bool), k1300 s1299 → (((s1299 = true) → ((inL second i725) ∧ ((inR .u8 (lget second i725)) → ((inR .i64 ((101 : Int) + i725)) ∧ ((0 ≤ ((lget second i725) % (16 : Int)) ∧ ((lget second i725) % (16 : Int)) < 16) ∧ (∀ l1349 : List Int, l1349 = (lset f730 ((lget second i725) % (16 : Int)) ((101 : Int) + i725)) → (k1204 f_1273 l1349))))))) ∧ ((s1299 = false) → (k1204 f_1273 f730)))) ∧ (((i725 < (keep.length : Int)) → ((inL keep i725) ∧ (k1300 (lget keep i725)))) ∧ ((¬ (i725 < (keep.length : Int))) → (k1300 false))))))))))))))) ∧ ((¬ (i725 < (second.length : Int))) → (simfs_FS_Cut_p o727 keep (fun (f_1360 : S_simfs_FS) => (simfs_FS_On_p f_1360 (fun (f_1375 : S_simfs_FS) => (∃ (I1961 : Int → Int → S_simfs_FS → Prop) (m1962 : Int → Int → S_simfs_FS → Nat), (I1961 (0 : Int) (0 : Int) f_1375) ∧ (∀ (n_1672 : Int) (i1674 : Int) (o1676 : S_simfs_FS), (I1961 n_1672 i1674 o1676) → (inR .i64 n_1672) → (inR .i64 i1674) → (((i1674 < (16 : Int)) → (∃ k2117 : Int → S_simfs_FS → Prop, (∀ (n_2112 : Int) (o2114 : S_simfs_FS), k2117 n_2112 o2114 → (inR .i64 n_2112) → ((inR .i64 (i1674 + (1 : Int))) ∧ ((I1961 n_2112 (i1674 + (1 : Int)) o2114) ∧ m1962 n_2112 (i1674 + (1 : Int)) o2114 < m1962 n_1672 i1674 o1676))) ∧ ((inR .i64 ((97 : Int) + i1674)) ∧ ((((ByteArray.mk #[102]) ++ (strOfNums ([iwrap .u8 ((97 : Int) + i1674)]))).size ≤ maxLen) ∧ (simfs_FS_Read_p o1676 ((ByteArray.mk #[102]) ++ (strOfNums ([iwrap .u8 ((97 : Int) + i1674)]))) (fun (f_2146 : S_simfs_FS) (r2147 : (List Int)) (r2148 : Int) => ((r2147.length ≤ 9223372036854775807) → ((inR .i64 r2148) → (∃ k2200 : Bool → Prop, (∀ (s2199 : Bool), k2200 s2199 → (((s2199 = true) → Q false) ∧ ((s2199 = false) → ((0 ≤ i1674 ∧ i1674 < 16) ∧ ((((lget f730 i1674) > (0 : Int)) → ((inR .i64 (n_1672 + (1 : Int))) ∧ (k2117 (n_1672 + (1 : Int)) f_2146))) ∧ ((¬ ((lget f730 i1674) > (0 : Int))) → (k2117 n_1672 f_2146))))))) ∧ ((0 ≤ i1674 ∧ i1674 < 16) ∧ (((((decide (r2148 = (0 : Int))) : Bool) = (decide ((lget f730 i1674) > (0 : Int)))) → ((0 ≤ i1674 ∧ i1674 < 16) ∧ ((((lget f730 i1674) > (0 : Int)) → ((((r2147.length : Int) = (1 : Int)) → ((inL r2147 (0 : Int)) ∧ ((inR .u8 (lget r2147 (0 : Int))) → ((0 ≤ i1674 ∧ i1674 < 16) ∧ ((inR .i64 ((lget f730 i1674) - (1 : Int))) ∧ (k2200 (!decide ((lget r2147 (0 : Int)) = ((lget f730 i1674) - (1 : Int)))))))))) ∧ ((¬ ((r2147.length : Int) = (1 : Int))) → (k2200 true)))) ∧ ((¬ ((lget f730 i1674) > (0 : Int))) → (k2200 false))))) ∧ ((¬ (((decide (r2148 = (0 : Int))) : Bool) = (decide ((lget f730 i1674) > (0 : Int))))) → (k2200 true))))))))))))) ∧ ((¬ (i1674 < (16 : Int))) → (simfs_FS_List_p o1676 (fun (f_2258 : S_simfs_FS) (r2259 : (List ByteArray)) (r2260 : Int) => ((r2259.length ≤ 9223372036854775807) → ((inR .i64 r2260) → Q (decide ((r2260 = (0 : Int)) ∧ ((r2259.length : Int) = n_1672)))))))))))))))))))))))))))))))))))))
set_option maxRecDepth 20000 in
set_option maxHeartbeats 4000000 in
theorem rectolaw5_FilesSync_w {X : List Nat} {w : World} {first : (List Int)} {second : (List Int)} {keep : (List Bool)} {afirst1 : Option Addr} {cfirst2 : Nat} {asecond4 : Option Addr} {csecond5 : Nat} {akeep7 : Option Addr} {ckeep8 : Nat} {Q : Bool → Prop} (hX0 : Old X w) (hfirst3 : Sl (rInt .u8) X w afirst1 cfirst2 first) (hsecond6 : Sl (rInt .u8) X w asecond4 csecond5 second) (hkeep9 : Sl rBool X w akeep7 ckeep8 keep) (hp : rectolaw5_FilesSync_p first second keep Q) :
    Calls Tryd.prog 4 #[(.slice afirst1 first.length cfirst2), (.slice asecond4 second.length csecond5), (.slice akeep7 keep.length ckeep8)] w (Ret fun v w' => ∃ (r0 : Bool), Q r0 ∧ Evo [] w w' ∧ v = (.bool r0)) := by
  have hXo := hX0
  have E0 : Evo [] w w := RB.refl _ _ _
  have hS : Sub X X := Sub.refl _
  unfold rectolaw5_FilesSync_p at hp
  refine enter_ Tryd.func4 rfl 172 [(0, (.slice afirst1 first.length cfirst2)), (1, (.slice asecond4 second.length csecond5)), (2, (.slice akeep7 keep.length ckeep8))] (by kernel_rfl) (fun Qe hQ => ?_)
  replace hp := hp (Sl.len hfirst3)
  replace hp := hp (Sl.len hsecond6)
  replace hp := hp (Sl.len hkeep9)
  refine seq_ (fun _ K10 => ?_)
  refine reg_ ?_
  refine sq (o_pv (.bool false) rfl (by kernel_rfl) ?_)
  refine nil_ ?_
  refine then_normal (K10 _ _ _ _ ?_)
  refine seq_ (fun _ K11 => ?_)
  refine seq_ (fun _ K12 => ?_)
  refine reg_ ?_
  refine sq (o_call 6 #[] rfl (x_call Tryd.call6 (by kernel_rfl)) (rectolaw5_known_w (X := [])  (Old.nil _) hp) ?_)
  rintro _ w14 ⟨r13, hp, e15, rfl⟩
  have s16 := Step.of0 X e15
  refine sq (o_pv (.bool (!r13)) rfl (by kernel_rfl) ?_)
  refine nil_ ?_
  refine then_normal (K12 _ _ _ _ ?_)
  refine cond_b (!r13) (by kernel_rfl) (fun h17 => ?_) (fun h17 => ?_)
  ·
    replace hp := hp.1 h17
    refine seq_ (fun _ K18 => ?_)
    refine reg_ ?_
    refine sq (o_pv (.bool false) rfl (by kernel_rfl) ?_)
    refine nil_ ?_
    refine then_normal (K18 _ _ _ _ ?_)
    refine wp_ret ?_
    refine then_ret ?_
    have E19 := (Evo.then0 E0 e15)
    refine end_ret hQ (.bool false) (by kernel_rfl) ?_
    exact ⟨false, hp, E19, rfl⟩
  ·
    replace hp := hp.2 h17
    refine wp_skip ?_
    refine then_normal (K11 _ _ _ _ ?_)
    refine seq_ (fun _ K20 => ?_)
    refine seq_ (fun _ K21 => ?_)
    refine ground_ ?_
    refine join_ 4294443008 (fun lq w26 => lq = [(31, (.bool (decide (((first.length : Int) > (30 : Int)) ∨ (((second.length : Int) > (30 : Int)) ∨ ((keep.length : Int) > (60 : Int)))))))] ∧ w14 = w26) (fun Kj24 hJ25 => ?_) ?_
    ·
      refine reg_ ?_
      refine sq (o_pv (.slice afirst1 first.length cfirst2) rfl (by kernel_rfl) ?_)
      refine sq (o_pv (.int .i64 (first.length : Int)) rfl (by kernel_rfl) ?_)
      by_cases h28 : (first.length : Int) > (30 : Int)
      ·
        refine sq (o_pv (.bool true) rfl (x_dt (p := (first.length : Int) > (30 : Int)) (by kernel_rfl) h28) ?_)
        refine sq (o_pv (.bool true) rfl (by kernel_rfl) ?_)
        refine sq (o_not (by kernel_rfl) ?_)
        refine sq (o_not (by kernel_rfl) ?_)
        refine sq (o_not (by kernel_rfl) ?_)
        refine sq (o_pv (.bool true) rfl (by kernel_rfl) ?_)
        refine sq (o_pv (.bool true) rfl (by kernel_rfl) ?_)
        refine sq (o_not (by kernel_rfl) ?_)
        refine sq (o_not (by kernel_rfl) ?_)
        refine sq (o_not (by kernel_rfl) ?_)
        refine sq (o_pv (.bool true) rfl (by kernel_rfl) ?_)
        refine nil_ ?_
        refine then_normal (hJ25 _ _ _ ⟨[(31, (.bool (decide (((first.length : Int) > (30 : Int)) ∨ (((second.length : Int) > (30 : Int)) ∨ ((keep.length : Int) > (60 : Int)))))))], fit_mk (fun _ _ => rfl) (by kernel_rfl) (vs_cons (Eq.trans (b := (.bool true)) (by kernel_rfl) (dec_t (iff_true_intro (Or.inl h28))).symm) vs_nil), rfl, rfl⟩)
      ·
        refine sq (o_pv (.bool false) rfl (x_df (p := (first.length : Int) > (30 : Int)) (by kernel_rfl) h28) ?_)
        refine sq (o_pv (.bool false) rfl (by kernel_rfl) ?_)
        refine sq (o_pv (.slice asecond4 second.length csecond5) (by kernel_rfl) (by kernel_rfl) ?_)
        refine sq (o_pv (.int .i64 (second.length : Int)) (by kernel_rfl) (by kernel_rfl) ?_)
        by_cases h29 : (second.length : Int) > (30 : Int)
        ·
          refine sq (o_pv (.bool true) (by kernel_rfl) (x_dt (p := (second.length : Int) > (30 : Int)) (by kernel_rfl) h29) ?_)
          refine sq (o_pv (.bool true) rfl (by kernel_rfl) ?_)
          refine sq (o_pv (.bool true) rfl (by kernel_rfl) ?_)
          refine sq (o_not (by kernel_rfl) ?_)
          refine sq (o_not (by kernel_rfl) ?_)
          refine sq (o_not (by kernel_rfl) ?_)
          refine sq (o_pv (.bool true) rfl (by kernel_rfl) ?_)
          refine nil_ ?_
          refine then_normal (hJ25 _ _ _ ⟨[(31, (.bool (decide (((first.length : Int) > (30 : Int)) ∨ (((second.length : Int) > (30 : Int)) ∨ ((keep.length : Int) > (60 : Int)))))))], fit_mk (fun _ _ => rfl) (by kernel_rfl) (vs_cons (Eq.trans (b := (.bool true)) (by kernel_rfl) (dec_t ((or_iff_right h28).trans (iff_true_intro (Or.inl h29)))).symm) vs_nil), rfl, rfl⟩)
        ·
          refine sq (o_pv (.bool false) (by kernel_rfl) (x_df (p := (second.length : Int) > (30 : Int)) (by kernel_rfl) h29) ?_)
          refine sq (o_pv (.bool false) rfl (by kernel_rfl) ?_)
          refine sq (o_pv (.bool false) rfl (by kernel_rfl) ?_)
          refine sq (o_pv (.slice akeep7 keep.length ckeep8) (by kernel_rfl) (by kernel_rfl) ?_)
          refine sq (o_pv (.int .i64 (keep.length : Int)) (by kernel_rfl) (by kernel_rfl) ?_)
          refine sq (o_pv (.bool (decide ((keep.length : Int) > (60 : Int)))) (by kernel_rfl) (by kernel_rfl) ?_)
          refine sq (o_pv (.bool (decide ((keep.length : Int) > (60 : Int)))) rfl (by kernel_rfl) ?_)
          refine nil_ ?_
          refine then_normal (hJ25 _ _ _ ⟨[(31, (.bool (decide (((first.length : Int) > (30 : Int)) ∨ (((second.length : Int) > (30 : Int)) ∨ ((keep.length : Int) > (60 : Int)))))))], fit_mk (fun _ _ => rfl) (by kernel_rfl) (vs_cons (Eq.trans (b := (.bool (decide ((keep.length : Int) > (60 : Int))))) (by kernel_rfl) (dec_d ((or_iff_right h28).trans ((or_iff_right h29).trans Iff.rfl))).symm) vs_nil), rfl, rfl⟩)
    ·
      rintro _ w26 g27 ⟨rfl, hw⟩
      subst hw
      refine then_normal (K21 _ _ _ _ ?_)
      refine cond_d (((first.length : Int) > (30 : Int)) ∨ (((second.length : Int) > (30 : Int)) ∨ ((keep.length : Int) > (60 : Int)))) (by kernel_rfl) (fun h30 => ?_) (fun h30 => ?_)
      ·
        replace hp := hp.1 h30
        refine seq_ (fun _ K31 => ?_)
        refine reg_ ?_
        refine sq (o_pv (.bool true) rfl (by kernel_rfl) ?_)
        refine nil_ ?_
        refine then_normal (K31 _ _ _ _ ?_)
        refine wp_ret ?_
        refine then_ret ?_
        have E32 := (Evo.then0 E0 e15)
        refine end_ret hQ (.bool true) (by kernel_rfl) ?_
        exact ⟨true, hp, E32, rfl⟩
      ·
        replace hp := hp.2 h30
        refine wp_skip ?_
        refine then_normal (K20 _ _ _ _ ?_)
        refine seq_ (fun _ K33 => ?_)
        refine reg_ ?_
        have hfirst34 := (Sl.step hfirst3 s16)
        have hsecond35 := (Sl.step hsecond6 s16)
        have hkeep36 := (Sl.step hkeep9 s16)
        have hXo37 := (Old.step hXo s16)
        have E38 := (Evo.then0 E0 e15)
        have hS39 := (Sub.trans hS (Step.up s16))
        refine sq (o_call 7 #[(.int .i64 (0 : Int))] rfl (x_call Tryd.call7 (by kernel_rfl)) (simfs_New_w (X := X) (quota := (0 : Int)) hXo37 (by decide : inR .i64 (0 : Int)) hp) ?_)
        rintro _ w41 ⟨r40, hp, X42, br44, Fr45, s43, rfl, mr46⟩
        have m47 := MO.re mr46 (Wr.trans mr46.wr (Wr.nil [] _) E38.size)
        refine sq (o_pv (.pointer (some ⟨br44, 0, none⟩)) rfl (by kernel_rfl) ?_)
        refine nil_ ?_
        refine then_normal (K33 _ _ _ _ ?_)
        refine seq_ (fun _ K48 => ?_)
        refine reg_ ?_
        have E55 := (Evo.then0 E38 (Step.evo s43))
        refine sq (o_newX ((List.replicate 16 (0 : Int)).map (Value.int .i64)) 35 (X := X42) (B := w.heap.size) E55.size rfl (by kernel_rfl) ?_)
        intro b49 w50 X51 s52 k53 n54
        have p56 := n54 _ (MO.old m47)
        refine nil_ ?_
        refine then_normal (K48 _ _ _ _ ?_)
        refine seq_ (fun _ K57 => ?_)
        refine seq_ (fun _ K58 => ?_)
        refine reg_ ?_
        refine sq (o_pv (.int .i64 (0 : Int)) rfl (by kernel_rfl) ?_)
        refine nil_ ?_
        refine then_normal (K58 _ _ _ _ ?_)
        refine wp_block ?_
        have hfirst287 := (Sl.step (Sl.step hfirst34 s43) s52)
        have hsecond288 := (Sl.step (Sl.step hsecond35 s43) s52)
        have hkeep289 := (Sl.step (Sl.step hkeep36 s43) s52)
        have hXo290 := (Old.step (Old.step hXo37 s43) s52)
        have E291 := (Evo.then0 E55 (Step.evo s52))
        have hS292 := (Sub.trans (Sub.trans hS39 (Step.up s43)) (Step.up s52))
        have m293 := (MO.step0 m47 s52)
        obtain ⟨I277, m278, hI279, hp⟩ := hp
        refine loop_ 4611686009837453888 (fun kq lq w281 => ∃ (X282 : List Nat) (i165 : Int) (o167 : S_simfs_FS) (f170 : (List Int)) (F168 : List Nat), (lq = [(9, (.int .i64 i165))]) ∧ (kq = m278 i165 o167 f170) ∧ (Evo [] w w281) ∧ (Old X282 w281) ∧ (Sub X X282) ∧ (Sl (rInt .u8) X282 w281 afirst1 cfirst2 first) ∧ (Sl (rInt .u8) X282 w281 asecond4 csecond5 second) ∧ (Sl rBool X282 w281 akeep7 ckeep8 keep) ∧ (MO o_simfs_FS 50 ([]) w.heap.size X282 w281 F168 br44 o167) ∧ (OB ([]) w.heap.size X282 w281 b49 (f170.map (Value.int .i64)) 35) ∧ (Ap (F168) ([b49])) ∧ (inR .i64 i165) ∧ (okArr .i64 16 f170) ∧ (I277 i165 o167 f170)) (m278 (0 : Int) r40 (List.replicate 16 (0 : Int))) [(9, (.int .i64 (0 : Int)))] (vs_cons (by kernel_rfl) vs_nil) ⟨X51, (0 : Int), r40, (List.replicate 16 (0 : Int)), Fr45, rfl, rfl, E291, hXo290, hS292, hfirst287, hsecond288, hkeep289, m293, k53, p56, (by decide : inR .i64 (0 : Int)), (okArr_rep _ _), hI279⟩ ?_
        rintro _ _ w281 g284 ⟨X282, i165, o167, f170, F168, rfl, rfl, E294, hXo295, hS296, hfirst297, hsecond298, hkeep299, m169, k172, p300, ri166, kf171, hI280⟩ Kl285 hA286
        replace hp := hp i165 o167 f170 hI280 ri166 kf171
        refine seq_ (fun _ K301 => ?_)
        refine seq_ (fun _ K302 => ?_)
        refine reg_ ?_
        refine sq (o_pv (.int .i64 i165) rfl (by kernel_rfl) ?_)
        refine sq (o_pv (.slice afirst1 first.length cfirst2) rfl (by kernel_rfl) ?_)
        refine sq (o_pv (.int .i64 (first.length : Int)) rfl (by kernel_rfl) ?_)
        refine sq (o_pv (.bool (decide (i165 < (first.length : Int)))) rfl (by kernel_rfl) ?_)
        refine nil_ ?_
        refine then_normal (K302 _ _ _ _ ?_)
        refine cond_d (i165 < (first.length : Int)) (by kernel_rfl) (fun h303 => ?_) (fun h303 => ?_)
        ·
          replace hp := hp.1 h303
          refine wp_skip ?_
          refine then_normal (K301 _ _ _ _ ?_)
          refine seq_ (fun _ K304 => ?_)
          refine wp_block ?_
          refine seq_ (fun _ K305 => ?_)
          refine seq_ (fun _ K306 => ?_)
          refine reg_ ?_
          refine sq (o_pv (.pointer (some ⟨br44, 0, none⟩)) rfl (by kernel_rfl) ?_)
          refine sq (o_pv (.slice afirst1 first.length cfirst2) rfl (by kernel_rfl) ?_)
          refine sq (o_pv (.int .i64 i165) rfl (by kernel_rfl) ?_)
          obtain ⟨h307, hp⟩ := hp
          obtain ⟨b308, o309, cs310, ha311, nx312, lt313, ok314, hc315⟩ := Sl.atI hfirst297 i165 h307
          obtain ⟨rfl, re316⟩ := ok314
          replace hp := hp re316
          refine sq (o_pv (.pointer (some ⟨b308, o309 + i165.toNat * 1, none⟩)) rfl (x_ixA (m := first.length) (c := cfirst2) (k := .i64) (i := i165) Tryd.underlying28 Tryd.sizeOf5 (by rw [← ha311]; kernel_rfl) (by kernel_rfl) h307) ?_)
          refine sq (o_pv (.int .u8 (lget first i165)) rfl (x_load1 (by kernel_rfl) Tryd.isAgg5 (hc315 0 _ rfl)) ?_)
          refine sq (o_pv (.int .u8 ((lget first i165) % (16 : Int))) rfl (x_rem2 (k := .u8) (a := lget first i165) (b := (16 : Int)) ((lget first i165) % (16 : Int)) (by kernel_rfl) (by kernel_rfl) (inR_nn re316) (by decide) rfl (wrap_inR (inR_rem (inR_nn re316) (by decide) re316 (by decide : inR .u8 (16 : Int))))) ?_)
          refine sq (o_pv (.int .u8 (((97 : Int) + ((lget first i165) % (16 : Int))) % 256)) rfl (x_add2 (k := .u8) (a := (97 : Int)) (b := (lget first i165) % (16 : Int)) (((97 : Int) + ((lget first i165) % (16 : Int))) % 256) (by kernel_rfl) (by kernel_rfl) (wrap_u8_mod _)) ?_)
          refine sq (o_rowX (R := (rInt .u8)) [(.int .u8 (((97 : Int) + ((lget first i165) % (16 : Int))) % 256))] [((97 : Int) + ((lget first i165) % (16 : Int))) % 256] 5 1 (X := X282) (B := w.heap.size) E294.size rfl (by kernel_rfl) (Flat.cons (cs := [(.int .u8 (((97 : Int) + ((lget first i165) % (16 : Int))) % 256))]) (rInt_mk (inR_u8_mod _)) Flat.nil) rfl (by decide) ?_)
          intro b317 w318 X319 s320 O321 n322
          have p323 := n322 _ (MO.old m169)
          have p324 := n322 _ (OB.old k172)
          have hl325 := OS.len O321
          refine sq (o_pv (.string (strOfNums ([((97 : Int) + ((lget first i165) % (16 : Int))) % 256]))) rfl (x_b2s_sl (a := (some ⟨b317, 0, none⟩)) (len := 1) (c := 1) ([((97 : Int) + ((lget first i165) % (16 : Int))) % 256]) Tryd.underlying28 Tryd.underlying5 Tryd.underlying9 (by kernel_rfl) O321.1 (OS.rd O321)) ?_)
          obtain ⟨h326, hp⟩ := hp
          refine sq (o_pv (.string ((ByteArray.mk #[102]) ++ (strOfNums ([((97 : Int) + ((lget first i165) % (16 : Int))) % 256])))) rfl (x_cat (by kernel_rfl) (by kernel_rfl) h326) ?_)
          refine sq (o_pv (.int .i64 i165) rfl (by kernel_rfl) ?_)
          refine sq (o_pv (.int .u8 (iwrap .u8 i165)) rfl (x_convw (k := .i64) Tryd.underlying3 Tryd.underlying5 (by kernel_rfl)) ?_)
          have m327 := (MO.step0 m169 s320)
          have k328 := (OB.step0 k172 s320)
          have E335 := (Evo.then0 E294 (Step.evo s320))
          refine sq (o_rowX (R := (rInt .u8)) [(.int .u8 (iwrap .u8 i165))] [iwrap .u8 i165] 5 1 (X := X319) (B := w.heap.size) E335.size rfl (by kernel_rfl) (Flat.cons (cs := [(.int .u8 (iwrap .u8 i165))]) (rInt_mk (inR_iwrap _ _)) Flat.nil) rfl (by decide) ?_)
          intro b329 w330 X331 s332 O333 n334
          have p336 := n334 _ (MO.old m327)
          have p337 := n334 _ (OB.old k328)
          have p338 := n334 _ (OS.old O321)
          have hS339 := (Sub.trans (Sub.trans hS296 (Step.up s320)) (Step.up s332))
          have E345 := (Evo.then0 E335 (Step.evo s332))
          have hXo346 := (Old.step (Old.step hXo295 s320) s332)
          have hfirst347 := (Sl.step (Sl.step hfirst297 s320) s332)
          have hsecond348 := (Sl.step (Sl.step hsecond298 s320) s332)
          have hkeep349 := (Sl.step (Sl.step hkeep299 s320) s332)
          have m350 := (MO.step0 m327 s332)
          have k351 := (OB.step0 k328 s332)
          have O352 := (OS.step0 O321 s332)
          have ax344 := OS.apold O333 hX0
          obtain ⟨X340, u341, r342, hm343⟩ := OS.release O333
          have E353 := E345
          have hXo354 := (Old.less hXo346 u341)
          have hS355 := (hm343 _ ax344 hS339)
          have hfirst356 := (Sl.less hfirst347 u341)
          have hsecond357 := (Sl.less hsecond348 u341)
          have hkeep358 := (Sl.less hkeep349 u341)
          have m359 := (MO.less m350 u341 (hm343 _ p336 (MO.mem m350)))
          have k360 := (OB.less k351 (hm343 _ p337 (OB.mem k351)))
          have O361 := (OS.less O352 u341 (hm343 _ p338 (OS.mem O352)))
          refine sq (o_call 9 #[(.pointer (some ⟨br44, 0, none⟩)), (.string ((ByteArray.mk #[102]) ++ (strOfNums ([((97 : Int) + ((lget first i165) % (16 : Int))) % 256])))), (.int .i64 (1 : Int)), (.slice (some ⟨b329, 0, none⟩) ([iwrap .u8 i165]).length 1)] rfl (x_call Tryd.call9 (by rw [← show 1 = ([iwrap .u8 i165]).length from O333.1]; kernel_rfl)) (simfs_FS_Write_w (X := X340) (f_ := o167) (p := (ByteArray.mk #[102]) ++ (strOfNums ([((97 : Int) + ((lget first i165) % (16 : Int))) % 256]))) (mode := (1 : Int)) (b := [iwrap .u8 i165]) hXo354 (MO.re m359 (Wr.self _ _ (Sub.refl _))) h326 (by decide : inR .i64 (1 : Int)) r342 hp) ?_)
          rintro _ w364 ⟨f_362, r363, hp, X365, F367, s366, rfl, m368, rr369⟩
          have m370 := MO.re m368 (Wr.trans m368.wr m359.wr E353.size)
          have p371 := Ap.grow m368.wr (Ap.symm p300) (OB.old k360) (Nat.le_refl _)
          have p372 := Ap.grow m368.wr (Ap.symm p323) (OS.old O361) (Nat.le_refl _)
          replace hp := hp rr369
          refine sq (o_pv (.bool (!decide (r363 = (0 : Int)))) rfl (by kernel_rfl) ?_)
          refine nil_ ?_
          refine then_normal (K306 _ _ _ _ ?_)
          refine cond_nd (r363 = (0 : Int)) (by kernel_rfl) (fun h373 => ?_) (fun h373 => ?_)
          ·
            replace hp := hp.1 h373
            refine seq_ (fun _ K374 => ?_)
            refine reg_ ?_
            refine sq (o_pv (.bool false) rfl (by kernel_rfl) ?_)
            refine nil_ ?_
            refine then_normal (K374 _ _ _ _ ?_)
            refine wp_ret ?_
            refine then_ret ?_
            refine blk_ret ?_
            refine then_ret ?_
            refine then_ret ?_
            refine blk_ret ?_
            refine then_ret ?_
            have E375 := (Evo.thenW E353 (Step.evo s366) m359.wr)
            refine end_ret hQ (.bool false) (by kernel_rfl) ?_
            exact ⟨false, hp, E375, rfl⟩
          ·
            replace hp := hp.2 h373
            refine wp_skip ?_
            refine then_normal (K305 _ _ _ _ ?_)
            refine reg_ ?_
            refine sq (o_pv (.slice afirst1 first.length cfirst2) rfl (by kernel_rfl) ?_)
            refine sq (o_pv (.int .i64 i165) rfl (by kernel_rfl) ?_)
            obtain ⟨h376, hp⟩ := hp
            have hfirst377 := (Sl.step hfirst356 s366)
            obtain ⟨b378, o379, cs380, ha381, nx382, lt383, ok384, hc385⟩ := Sl.atI hfirst377 i165 h376
            obtain ⟨rfl, re386⟩ := ok384
            replace hp := hp re386
            refine sq (o_pv (.pointer (some ⟨b378, o379 + i165.toNat * 1, none⟩)) rfl (x_ixA (m := first.length) (c := cfirst2) (k := .i64) (i := i165) Tryd.underlying28 Tryd.sizeOf5 (by rw [← ha381]; kernel_rfl) (by kernel_rfl) h376) ?_)
            refine sq (o_pv (.int .u8 (lget first i165)) rfl (x_load1 (by kernel_rfl) Tryd.isAgg5 (hc385 0 _ rfl)) ?_)
            refine sq (o_pv (.int .u8 ((lget first i165) % (16 : Int))) rfl (x_rem2 (k := .u8) (a := lget first i165) (b := (16 : Int)) ((lget first i165) % (16 : Int)) (by kernel_rfl) (by kernel_rfl) (inR_nn re386) (by decide) rfl (wrap_inR (inR_rem (inR_nn re386) (by decide) re386 (by decide : inR .u8 (16 : Int))))) ?_)
            refine sq (o_pv (.int .i64 i165) rfl (by kernel_rfl) ?_)
            obtain ⟨h387, hp⟩ := hp
            refine sq (o_pv (.int .i64 (i165 + (1 : Int))) rfl (x_add2 (k := .i64) (a := i165) (b := (1 : Int)) (i165 + (1 : Int)) (by kernel_rfl) (by kernel_rfl) (wrap_inR h387)) ?_)
            obtain ⟨h388, hp⟩ := hp
            refine sq (o_pv (.pointer (some ⟨b49, ((lget first i165) % (16 : Int)).toNat, none⟩)) rfl (x_ixR (k := .u8) (i := (lget first i165) % (16 : Int)) Tryd.underlying35 Tryd.sizeOf3 (by kernel_rfl) (by kernel_rfl) h388) ?_)
            have k389 := (OB.step k360 s366 (Ap.symm p300))
            have O390 := (OS.step O361 s366 (Ap.symm p323))
            have E391 := (Evo.thenW E353 (Step.evo s366) m359.wr)
            refine sq (o_stA (k := .i64) (i := (lget first i165) % (16 : Int)) (v := i165 + (1 : Int)) (e := f170) rfl k389 (by kernel_rfl) (by kernel_rfl) Tryd.sizeOf3 kf171 h388 ?_)
            intro w392 s393 k394
            obtain ⟨l395, ql395⟩ : ∃ y, y = (lset f170 ((lget first i165) % (16 : Int)) (i165 + (1 : Int))) := ⟨_, rfl⟩
            replace hp := hp l395 ql395
            rw [← ql395] at k394
            have ok396 : okArr .i64 16 l395 := by rw [ql395]; exact (okArr_set kf171 h387)
            refine nil_ ?_
            refine blk_normal ?_
            refine then_normal (K304 _ _ _ _ ?_)
            refine reg_ ?_
            refine sq (o_pv (.int .i64 i165) rfl (by kernel_rfl) ?_)
            obtain ⟨h397, hp⟩ := hp
            refine sq (o_pv (.int .i64 (i165 + (1 : Int))) rfl (x_add2 (k := .i64) (a := i165) (b := (1 : Int)) (i165 + (1 : Int)) (by kernel_rfl) (by kernel_rfl) (wrap_inR h397)) ?_)
            refine sq (o_pv (.int .i64 (i165 + (1 : Int))) rfl (by kernel_rfl) ?_)
            refine nil_ ?_
            have E398 := (Evo.thenW E391 (Step.evo s393) k389.2.2)
            have hXo399 := (Old.step (Old.step hXo354 s366) s393)
            have hS400 := (Sub.trans (Sub.trans hS355 (Step.up s366)) (Step.up s393))
            have hfirst401 := (Sl.step hfirst377 s393)
            have hsecond402 := (Sl.step (Sl.step hsecond357 s366) s393)
            have hkeep403 := (Sl.step (Sl.step hkeep358 s366) s393)
            have m404 := (MO.step m370 s393 (Ap.symm p371))
            refine then_normal (hA286 _ _ _ ⟨_, [(9, (.int .i64 (i165 + (1 : Int))))], hp.2, fit_mk (AgB.mix _ _ _) (by kernel_rfl) (vs_cons (by kernel_rfl) vs_nil), ?_⟩)
            exact ⟨X365, (i165 + (1 : Int)), f_362, l395, F367, rfl, rfl, E398, hXo399, hS400, hfirst401, hsecond402, hkeep403, m404, k394, (Ap.symm p371), h397, ok396, hp.1⟩
        ·
          replace hp := hp.2 h303
          refine wp_exit ?_
          refine then_exit ?_
          refine then_exit ?_
          refine blk_exit ?_
          refine then_normal (K57 _ _ _ _ ?_)
          refine seq_ (fun _ K405 => ?_)
          refine reg_ ?_
          refine sq (o_pv (.pointer (some ⟨br44, 0, none⟩)) rfl (by kernel_rfl) ?_)
          refine sq (o_call 15 #[(.pointer (some ⟨br44, 0, none⟩))] rfl (x_call Tryd.call15 (by kernel_rfl)) (simfs_FS_Sync_w (X := X282) (f_ := o167) hXo295 (MO.re m169 (Wr.self _ _ (Sub.refl _))) hp) ?_)
          rintro _ w408 ⟨f_406, r407, hp, X409, F411, s410, rfl, m412, rr413⟩
          have m414 := MO.re m412 (Wr.trans m412.wr m169.wr E294.size)
          have p415 := Ap.grow m412.wr (Ap.symm p300) (OB.old k172) (Nat.le_refl _)
          replace hp := hp rr413
          refine nil_ ?_
          refine then_normal (K405 _ _ _ _ ?_)
          refine seq_ (fun _ K416 => ?_)
          refine seq_ (fun _ K417 => ?_)
          refine reg_ ?_
          refine sq (o_pv (.int .i64 (0 : Int)) rfl (by kernel_rfl) ?_)
          refine nil_ ?_
          refine then_normal (K417 _ _ _ _ ?_)
          refine wp_block ?_
          have E1048 := (Evo.thenW E294 (Step.evo s410) m169.wr)
          have hXo1049 := (Old.step hXo295 s410)
          have hS1050 := (Sub.trans hS296 (Step.up s410))
          have hfirst1051 := (Sl.step hfirst297 s410)
          have hsecond1052 := (Sl.step hsecond298 s410)
          have hkeep1053 := (Sl.step hkeep299 s410)
          have k1054 := (OB.step k172 s410 (Ap.symm p300))
          obtain ⟨I1038, m1039, hI1040, hp⟩ := hp
          refine loop_ 20282409603633223679873541735488 (fun kq lq w1042 => ∃ (X1043 : List Nat) (i725 : Int) (o727 : S_simfs_FS) (f730 : (List Int)) (F728 : List Nat), (lq = [(10, (.int .i64 i725))]) ∧ (kq = m1039 i725 o727 f730) ∧ (Evo [] w w1042) ∧ (Old X1043 w1042) ∧ (Sub X X1043) ∧ (Sl (rInt .u8) X1043 w1042 asecond4 csecond5 second) ∧ (Sl rBool X1043 w1042 akeep7 ckeep8 keep) ∧ (MO o_simfs_FS 50 ([]) w.heap.size X1043 w1042 F728 br44 o727) ∧ (OB ([]) w.heap.size X1043 w1042 b49 (f730.map (Value.int .i64)) 35) ∧ (Ap (F728) ([b49])) ∧ (inR .i64 i725) ∧ (okArr .i64 16 f730) ∧ (I1038 i725 o727 f730)) (m1039 (0 : Int) f_406 f170) [(10, (.int .i64 (0 : Int)))] (vs_cons (by kernel_rfl) vs_nil) ⟨X409, (0 : Int), f_406, f170, F411, rfl, rfl, E1048, hXo1049, hS1050, hsecond1052, hkeep1053, m414, k1054, (Ap.symm p415), (by decide : inR .i64 (0 : Int)), kf171, hI1040⟩ ?_
          rintro _ _ w1042 g1045 ⟨X1043, i725, o727, f730, F728, rfl, rfl, E1055, hXo1056, hS1057, hsecond1058, hkeep1059, m729, k732, p1060, ri726, kf731, hI1041⟩ Kl1046 hA1047
          replace hp := hp i725 o727 f730 hI1041 ri726 kf731
          refine seq_ (fun _ K1061 => ?_)
          refine seq_ (fun _ K1062 => ?_)
          refine reg_ ?_
          refine sq (o_pv (.int .i64 i725) rfl (by kernel_rfl) ?_)
          refine sq (o_pv (.slice asecond4 second.length csecond5) rfl (by kernel_rfl) ?_)
          refine sq (o_pv (.int .i64 (second.length : Int)) rfl (by kernel_rfl) ?_)
          refine sq (o_pv (.bool (decide (i725 < (second.length : Int)))) rfl (by kernel_rfl) ?_)
          refine nil_ ?_
          refine then_normal (K1062 _ _ _ _ ?_)
          refine cond_d (i725 < (second.length : Int)) (by kernel_rfl) (fun h1063 => ?_) (fun h1063 => ?_)
          ·
            replace hp := hp.1 h1063
            refine wp_skip ?_
            refine then_normal (K1061 _ _ _ _ ?_)
            refine seq_ (fun _ K1064 => ?_)
            obtain ⟨k1204, hk1205, hp⟩ := hp
            refine ground_ ?_
            refine join_ 20282409602471078803229839982656 (fun lq w1206 => ∃ (X1207 : List Nat) (o1198 : S_simfs_FS) (f1201 : (List Int)) (F1199 : List Nat), (lq = []) ∧ (Evo [] w w1206) ∧ (Old X1207 w1206) ∧ (Sub X X1207) ∧ (Sl (rInt .u8) X1207 w1206 asecond4 csecond5 second) ∧ (Sl rBool X1207 w1206 akeep7 ckeep8 keep) ∧ (MO o_simfs_FS 50 ([]) w.heap.size X1207 w1206 F1199 br44 o1198) ∧ (OB ([]) w.heap.size X1207 w1206 b49 (f1201.map (Value.int .i64)) 35) ∧ (Ap (F1199) ([b49])) ∧ (okArr .i64 16 f1201) ∧ (k1204 o1198 f1201)) (fun Kj1208 hJ1209 => ?_) ?_
            ·
              refine wp_block ?_
              refine seq_ (fun _ K1217 => ?_)
              refine seq_ (fun _ K1218 => ?_)
              refine reg_ ?_
              refine sq (o_pv (.pointer (some ⟨br44, 0, none⟩)) rfl (by kernel_rfl) ?_)
              refine sq (o_pv (.slice asecond4 second.length csecond5) rfl (by kernel_rfl) ?_)
              refine sq (o_pv (.int .i64 i725) rfl (by kernel_rfl) ?_)
              obtain ⟨h1219, hp⟩ := hp
              obtain ⟨b1220, o1221, cs1222, ha1223, nx1224, lt1225, ok1226, hc1227⟩ := Sl.atI hsecond1058 i725 h1219
              obtain ⟨rfl, re1228⟩ := ok1226
              replace hp := hp re1228
              refine sq (o_pv (.pointer (some ⟨b1220, o1221 + i725.toNat * 1, none⟩)) rfl (x_ixA (m := second.length) (c := csecond5) (k := .i64) (i := i725) Tryd.underlying28 Tryd.sizeOf5 (by rw [← ha1223]; kernel_rfl) (by kernel_rfl) h1219) ?_)
              refine sq (o_pv (.int .u8 (lget second i725)) rfl (x_load1 (by kernel_rfl) Tryd.isAgg5 (hc1227 0 _ rfl)) ?_)
              refine sq (o_pv (.int .u8 ((lget second i725) % (16 : Int))) rfl (x_rem2 (k := .u8) (a := lget second i725) (b := (16 : Int)) ((lget second i725) % (16 : Int)) (by kernel_rfl) (by kernel_rfl) (inR_nn re1228) (by decide) rfl (wrap_inR (inR_rem (inR_nn re1228) (by decide) re1228 (by decide : inR .u8 (16 : Int))))) ?_)
              refine sq (o_pv (.int .u8 (((97 : Int) + ((lget second i725) % (16 : Int))) % 256)) rfl (x_add2 (k := .u8) (a := (97 : Int)) (b := (lget second i725) % (16 : Int)) (((97 : Int) + ((lget second i725) % (16 : Int))) % 256) (by kernel_rfl) (by kernel_rfl) (wrap_u8_mod _)) ?_)
              refine sq (o_rowX (R := (rInt .u8)) [(.int .u8 (((97 : Int) + ((lget second i725) % (16 : Int))) % 256))] [((97 : Int) + ((lget second i725) % (16 : Int))) % 256] 5 1 (X := X1043) (B := w.heap.size) E1055.size rfl (by kernel_rfl) (Flat.cons (cs := [(.int .u8 (((97 : Int) + ((lget second i725) % (16 : Int))) % 256))]) (rInt_mk (inR_u8_mod _)) Flat.nil) rfl (by decide) ?_)
              intro b1229 w1230 X1231 s1232 O1233 n1234
              have p1235 := n1234 _ (MO.old m729)
              have p1236 := n1234 _ (OB.old k732)
              have hl1237 := OS.len O1233
              refine sq (o_pv (.string (strOfNums ([((97 : Int) + ((lget second i725) % (16 : Int))) % 256]))) rfl (x_b2s_sl (a := (some ⟨b1229, 0, none⟩)) (len := 1) (c := 1) ([((97 : Int) + ((lget second i725) % (16 : Int))) % 256]) Tryd.underlying28 Tryd.underlying5 Tryd.underlying9 (by kernel_rfl) O1233.1 (OS.rd O1233)) ?_)
              obtain ⟨h1238, hp⟩ := hp
              refine sq (o_pv (.string ((ByteArray.mk #[102]) ++ (strOfNums ([((97 : Int) + ((lget second i725) % (16 : Int))) % 256])))) rfl (x_cat (by kernel_rfl) (by kernel_rfl) h1238) ?_)
              refine sq (o_pv (.int .i64 i725) rfl (by kernel_rfl) ?_)
              obtain ⟨h1239, hp⟩ := hp
              refine sq (o_pv (.int .i64 ((100 : Int) + i725)) rfl (x_add2 (k := .i64) (a := (100 : Int)) (b := i725) ((100 : Int) + i725) (by kernel_rfl) (by kernel_rfl) (wrap_inR h1239)) ?_)
              refine sq (o_pv (.int .u8 (iwrap .u8 ((100 : Int) + i725))) rfl (x_convw (k := .i64) Tryd.underlying3 Tryd.underlying5 (by kernel_rfl)) ?_)
              have m1240 := (MO.step0 m729 s1232)
              have k1241 := (OB.step0 k732 s1232)
              have E1248 := (Evo.then0 E1055 (Step.evo s1232))
              refine sq (o_rowX (R := (rInt .u8)) [(.int .u8 (iwrap .u8 ((100 : Int) + i725)))] [iwrap .u8 ((100 : Int) + i725)] 5 1 (X := X1231) (B := w.heap.size) E1248.size rfl (by kernel_rfl) (Flat.cons (cs := [(.int .u8 (iwrap .u8 ((100 : Int) + i725)))]) (rInt_mk (inR_iwrap _ _)) Flat.nil) rfl (by decide) ?_)
              intro b1242 w1243 X1244 s1245 O1246 n1247
              have p1249 := n1247 _ (MO.old m1240)
              have p1250 := n1247 _ (OB.old k1241)
              have p1251 := n1247 _ (OS.old O1233)
              have hS1252 := (Sub.trans (Sub.trans hS1057 (Step.up s1232)) (Step.up s1245))
              have E1258 := (Evo.then0 E1248 (Step.evo s1245))
              have hXo1259 := (Old.step (Old.step hXo1056 s1232) s1245)
              have hsecond1260 := (Sl.step (Sl.step hsecond1058 s1232) s1245)
              have hkeep1261 := (Sl.step (Sl.step hkeep1059 s1232) s1245)
              have m1262 := (MO.step0 m1240 s1245)
              have k1263 := (OB.step0 k1241 s1245)
              have O1264 := (OS.step0 O1233 s1245)
              have ax1257 := OS.apold O1246 hX0
              obtain ⟨X1253, u1254, r1255, hm1256⟩ := OS.release O1246
              have E1265 := E1258
              have hXo1266 := (Old.less hXo1259 u1254)
              have hS1267 := (hm1256 _ ax1257 hS1252)
              have hsecond1268 := (Sl.less hsecond1260 u1254)
              have hkeep1269 := (Sl.less hkeep1261 u1254)
              have m1270 := (MO.less m1262 u1254 (hm1256 _ p1249 (MO.mem m1262)))
              have k1271 := (OB.less k1263 (hm1256 _ p1250 (OB.mem k1263)))
              have O1272 := (OS.less O1264 u1254 (hm1256 _ p1251 (OS.mem O1264)))
              refine sq (o_call 9 #[(.pointer (some ⟨br44, 0, none⟩)), (.string ((ByteArray.mk #[102]) ++ (strOfNums ([((97 : Int) + ((lget second i725) % (16 : Int))) % 256])))), (.int .i64 (1 : Int)), (.slice (some ⟨b1242, 0, none⟩) ([iwrap .u8 ((100 : Int) + i725)]).length 1)] rfl (x_call Tryd.call9 (by rw [← show 1 = ([iwrap .u8 ((100 : Int) + i725)]).length from O1246.1]; kernel_rfl)) (simfs_FS_Write_w (X := X1253) (f_ := o727) (p := (ByteArray.mk #[102]) ++ (strOfNums ([((97 : Int) + ((lget second i725) % (16 : Int))) % 256]))) (mode := (1 : Int)) (b := [iwrap .u8 ((100 : Int) + i725)]) hXo1266 (MO.re m1270 (Wr.self _ _ (Sub.refl _))) h1238 (by decide : inR .i64 (1 : Int)) r1255 hp) ?_)
              rintro _ w1275 ⟨f_1273, r1274, hp, X1276, F1278, s1277, rfl, m1279, rr1280⟩
              have m1281 := MO.re m1279 (Wr.trans m1279.wr m1270.wr E1265.size)
              have p1282 := Ap.grow m1279.wr (Ap.symm p1060) (OB.old k1271) (Nat.le_refl _)
              have p1283 := Ap.grow m1279.wr (Ap.symm p1235) (OS.old O1272) (Nat.le_refl _)
              replace hp := hp rr1280
              refine sq (o_pv (.bool (!decide (r1274 = (0 : Int)))) rfl (by kernel_rfl) ?_)
              refine nil_ ?_
              refine then_normal (K1218 _ _ _ _ ?_)
              refine cond_nd (r1274 = (0 : Int)) (by kernel_rfl) (fun h1284 => ?_) (fun h1284 => ?_)
              ·
                replace hp := hp.1 h1284
                refine seq_ (fun _ K1285 => ?_)
                refine reg_ ?_
                refine sq (o_pv (.bool false) rfl (by kernel_rfl) ?_)
                refine nil_ ?_
                refine then_normal (K1285 _ _ _ _ ?_)
                refine wp_ret ?_
                refine then_ret ?_
                refine blk_ret ?_
                refine then_ret ?_
                refine then_ret ?_
                refine then_ret ?_
                refine blk_ret ?_
                refine then_ret ?_
                have E1286 := (Evo.thenW E1265 (Step.evo s1277) m1270.wr)
                refine end_ret hQ (.bool false) (by kernel_rfl) ?_
                exact ⟨false, hp, E1286, rfl⟩
              ·
                replace hp := hp.2 h1284
                refine wp_skip ?_
                refine then_normal (K1217 _ _ _ _ ?_)
                refine seq_ (fun _ K1287 => ?_)
                have E1307 := (Evo.thenW E1265 (Step.evo s1277) m1270.wr)
                have hXo1308 := (Old.step hXo1266 s1277)
                have hS1309 := (Sub.trans hS1267 (Step.up s1277))
                have hsecond1310 := (Sl.step hsecond1268 s1277)
                have hkeep1311 := (Sl.step hkeep1269 s1277)
                have k1312 := (OB.step k1271 s1277 (Ap.symm p1060))
                have O1313 := (OS.step O1272 s1277 (Ap.symm p1235))
                have r1314 := (Sl.step r1255 s1277)
                obtain ⟨k1300, hk1301, hp⟩ := hp
                refine ground_ ?_
                refine join_ 79150791261809001326362755072 (fun lq w1302 => ∃ (X1303 : List Nat) (s1299 : Bool), (lq = [(95, (.bool s1299))]) ∧ (Evo [] w w1302) ∧ (Old X1303 w1302) ∧ (Sub X X1303) ∧ (Sl (rInt .u8) X1303 w1302 asecond4 csecond5 second) ∧ (Sl rBool X1303 w1302 akeep7 ckeep8 keep) ∧ (MO o_simfs_FS 50 ([]) w.heap.size X1303 w1302 F1278 br44 f_1273) ∧ (OB ([]) w.heap.size X1303 w1302 b49 (f730.map (Value.int .i64)) 35) ∧ (k1300 s1299)) (fun Kj1304 hJ1305 => ?_) ?_
                ·
                  refine reg_ ?_
                  refine sq (o_pv (.int .i64 i725) rfl (by kernel_rfl) ?_)
                  refine sq (o_pv (.slice akeep7 keep.length ckeep8) rfl (by kernel_rfl) ?_)
                  refine sq (o_pv (.int .i64 (keep.length : Int)) rfl (by kernel_rfl) ?_)
                  by_cases h1322 : i725 < (keep.length : Int)
                  ·
                    replace hp := hp.1 h1322
                    refine sq (o_pv (.bool true) rfl (x_dt (p := i725 < (keep.length : Int)) (by kernel_rfl) h1322) ?_)
                    refine sq (o_pv (.bool true) rfl (by kernel_rfl) ?_)
                    refine sq (o_pv (.slice akeep7 keep.length ckeep8) (by kernel_rfl) (by kernel_rfl) ?_)
                    refine sq (o_pv (.int .i64 i725) (by kernel_rfl) (by kernel_rfl) ?_)
                    obtain ⟨h1323, hp⟩ := hp
                    obtain ⟨b1324, o1325, cs1326, ha1327, nx1328, lt1329, ok1330, hc1331⟩ := Sl.atI hkeep1311 i725 h1323
                    obtain rfl := ok1330
                    refine sq (o_pv (.pointer (some ⟨b1324, o1325 + i725.toNat * 1, none⟩)) (by kernel_rfl) (x_ixA (m := keep.length) (c := ckeep8) (k := .i64) (i := i725) Tryd.underlying34 Tryd.sizeOf4 (by rw [← ha1327]; kernel_rfl) (by kernel_rfl) h1323) ?_)
                    refine sq (o_pv (.bool (lget keep i725)) (by kernel_rfl) (x_load1 (by kernel_rfl) Tryd.isAgg4 (hc1331 0 _ rfl)) ?_)
                    refine sq (o_pv (.bool (lget keep i725)) rfl (by kernel_rfl) ?_)
                    refine nil_ ?_
                    refine then_normal (hJ1305 _ _ _ ⟨[(95, (.bool (lget keep i725)))], fit_mk (fun _ _ => rfl) (by kernel_rfl) (vs_cons (by kernel_rfl) vs_nil), ?_⟩)
                    exact ⟨X1276, (lget keep i725), rfl, E1307, hXo1308, hS1309, hsecond1310, hkeep1311, m1281, k1312, hp⟩
                  ·
                    replace hp := hp.2 h1322
                    refine sq (o_pv (.bool false) rfl (x_df (p := i725 < (keep.length : Int)) (by kernel_rfl) h1322) ?_)
                    refine sq (o_pv (.bool false) rfl (by kernel_rfl) ?_)
                    refine sq (o_not (by kernel_rfl) ?_)
                    refine sq (o_not (by kernel_rfl) ?_)
                    refine sq (o_not (by kernel_rfl) ?_)
                    refine sq (o_not (by kernel_rfl) ?_)
                    refine sq (o_pv (.bool false) rfl (by kernel_rfl) ?_)
                    refine nil_ ?_
                    refine then_normal (hJ1305 _ _ _ ⟨[(95, (.bool false))], fit_mk (fun _ _ => rfl) (by kernel_rfl) (vs_cons (by kernel_rfl) vs_nil), ?_⟩)
                    exact ⟨X1276, false, rfl, E1307, hXo1308, hS1309, hsecond1310, hkeep1311, m1281, k1312, hp⟩
                ·
                  rintro _ w1302 g1332 ⟨X1303, s1299, rfl, E1315, hXo1316, hS1317, hsecond1318, hkeep1319, m1320, k1321, hv1306⟩
                  replace hp := hk1301 s1299 hv1306
                  refine then_normal (K1287 _ _ _ _ ?_)
                  refine cond_b s1299 (by kernel_rfl) (fun h1333 => ?_) (fun h1333 => ?_)
                  ·
                    replace hp := hp.1 h1333
                    refine reg_ ?_
                    refine sq (o_pv (.slice asecond4 second.length csecond5) rfl (by kernel_rfl) ?_)
                    refine sq (o_pv (.int .i64 i725) rfl (by kernel_rfl) ?_)
                    obtain ⟨h1334, hp⟩ := hp
                    obtain ⟨b1335, o1336, cs1337, ha1338, nx1339, lt1340, ok1341, hc1342⟩ := Sl.atI hsecond1318 i725 h1334
                    obtain ⟨rfl, re1343⟩ := ok1341
                    replace hp := hp re1343
                    refine sq (o_pv (.pointer (some ⟨b1335, o1336 + i725.toNat * 1, none⟩)) rfl (x_ixA (m := second.length) (c := csecond5) (k := .i64) (i := i725) Tryd.underlying28 Tryd.sizeOf5 (by rw [← ha1338]; kernel_rfl) (by kernel_rfl) h1334) ?_)
                    refine sq (o_pv (.int .u8 (lget second i725)) rfl (x_load1 (by kernel_rfl) Tryd.isAgg5 (hc1342 0 _ rfl)) ?_)
                    refine sq (o_pv (.int .u8 ((lget second i725) % (16 : Int))) rfl (x_rem2 (k := .u8) (a := lget second i725) (b := (16 : Int)) ((lget second i725) % (16 : Int)) (by kernel_rfl) (by kernel_rfl) (inR_nn re1343) (by decide) rfl (wrap_inR (inR_rem (inR_nn re1343) (by decide) re1343 (by decide : inR .u8 (16 : Int))))) ?_)
                    refine sq (o_pv (.int .i64 i725) rfl (by kernel_rfl) ?_)
                    obtain ⟨h1344, hp⟩ := hp
                    refine sq (o_pv (.int .i64 ((101 : Int) + i725)) rfl (x_add2 (k := .i64) (a := (101 : Int)) (b := i725) ((101 : Int) + i725) (by kernel_rfl) (by kernel_rfl) (wrap_inR h1344)) ?_)
                    obtain ⟨h1345, hp⟩ := hp
                    refine sq (o_pv (.pointer (some ⟨b49, ((lget second i725) % (16 : Int)).toNat, none⟩)) rfl (x_ixR (k := .u8) (i := (lget second i725) % (16 : Int)) Tryd.underlying35 Tryd.sizeOf3 (by kernel_rfl) (by kernel_rfl) h1345) ?_)
                    refine sq (o_stA (k := .i64) (i := (lget second i725) % (16 : Int)) (v := (101 : Int) + i725) (e := f730) rfl k1321 (by kernel_rfl) (by kernel_rfl) Tryd.sizeOf3 kf731 h1345 ?_)
                    intro w1346 s1347 k1348
                    obtain ⟨l1349, ql1349⟩ : ∃ y, y = (lset f730 ((lget second i725) % (16 : Int)) ((101 : Int) + i725)) := ⟨_, rfl⟩
                    replace hp := hp l1349 ql1349
                    rw [← ql1349] at k1348
                    have ok1350 : okArr .i64 16 l1349 := by rw [ql1349]; exact (okArr_set kf731 h1344)
                    refine nil_ ?_
                    refine blk_normal ?_
                    have E1351 := (Evo.thenW E1315 (Step.evo s1347) k1321.2.2)
                    have hXo1352 := (Old.step hXo1316 s1347)
                    have hS1353 := (Sub.trans hS1317 (Step.up s1347))
                    have hsecond1354 := (Sl.step hsecond1318 s1347)
                    have hkeep1355 := (Sl.step hkeep1319 s1347)
                    have m1356 := (MO.step m1320 s1347 (Ap.symm p1282))
                    refine then_normal (hJ1209 _ _ _ ⟨[], fit_mk (AgB.nest (AgB.look (fun _ _ => rfl) (by kernel_rfl)) (by kernel_rfl) (by kernel_rfl)) (by kernel_rfl) vs_nil, ?_⟩)
                    exact ⟨X1303, f_1273, l1349, F1278, rfl, E1351, hXo1352, hS1353, hsecond1354, hkeep1355, m1356, k1348, (Ap.symm p1282), ok1350, hp⟩
                  ·
                    replace hp := hp.2 h1333
                    refine wp_skip ?_
                    refine blk_normal ?_
                    refine then_normal (hJ1209 _ _ _ ⟨[], fit_mk (AgB.nest (AgB.look (fun _ _ => rfl) (by kernel_rfl)) (by kernel_rfl) (by kernel_rfl)) (by kernel_rfl) vs_nil, ?_⟩)
                    exact ⟨X1303, f_1273, f730, F1278, rfl, E1315, hXo1316, hS1317, hsecond1318, hkeep1319, m1320, k1321, (Ap.symm p1282), kf731, hp⟩
            ·
              rintro _ w1206 g1357 ⟨X1207, o1198, f1201, F1199, rfl, E1211, hXo1212, hS1213, hsecond1214, hkeep1215, m1200, k1203, p1216, kf1202, hv1210⟩
              replace hp := hk1205 o1198 f1201 hv1210 kf1202
              refine then_normal (K1064 _ _ _ _ ?_)
              refine reg_ ?_
              refine sq (o_pv (.int .i64 i725) rfl (by kernel_rfl) ?_)
              obtain ⟨h1358, hp⟩ := hp
              refine sq (o_pv (.int .i64 (i725 + (1 : Int))) rfl (x_add2 (k := .i64) (a := i725) (b := (1 : Int)) (i725 + (1 : Int)) (by kernel_rfl) (by kernel_rfl) (wrap_inR h1358)) ?_)
              refine sq (o_pv (.int .i64 (i725 + (1 : Int))) rfl (by kernel_rfl) ?_)
              refine nil_ ?_
              refine then_normal (hA1047 _ _ _ ⟨_, [(10, (.int .i64 (i725 + (1 : Int))))], hp.2, fit_mk (AgB.nest (AgB.look (AgB.mix _ _ _) (by kernel_rfl)) (by kernel_rfl) (by kernel_rfl)) (by kernel_rfl) (vs_cons (by kernel_rfl) vs_nil), ?_⟩)
              exact ⟨X1207, (i725 + (1 : Int)), o1198, f1201, F1199, rfl, rfl, E1211, hXo1212, hS1213, hsecond1214, hkeep1215, m1200, k1203, p1216, h1358, kf1202, hp.1⟩
          ·
            replace hp := hp.2 h1063
            refine wp_exit ?_
            refine then_exit ?_
            refine then_exit ?_
            refine blk_exit ?_
            refine then_normal (K416 _ _ _ _ ?_)
            refine seq_ (fun _ K1359 => ?_)
            refine reg_ ?_
            refine sq (o_pv (.pointer (some ⟨br44, 0, none⟩)) rfl (by kernel_rfl) ?_)
            refine sq (o_pv (.slice akeep7 keep.length ckeep8) rfl (by kernel_rfl) ?_)
            refine sq (o_call 16 #[(.pointer (some ⟨br44, 0, none⟩)), (.slice akeep7 keep.length ckeep8)] rfl (x_call Tryd.call16 (by kernel_rfl)) (simfs_FS_Cut_w (X := X1043) (f_ := o727) (keep := keep) hXo1056 (MO.re m729 (Wr.self _ _ (Sub.refl _))) hkeep1059 hp) ?_)
            rintro _ w1361 ⟨f_1360, hp, X1362, F1364, s1363, rfl, m1365⟩
            have m1366 := MO.re m1365 (Wr.trans m1365.wr m729.wr E1055.size)
            have p1367 := Ap.grow m1365.wr (Ap.symm p1060) (OB.old k732) (Nat.le_refl _)
            refine nil_ ?_
            refine then_normal (K1359 _ _ _ _ ?_)
            refine seq_ (fun _ K1368 => ?_)
            refine reg_ ?_
            refine sq (o_pv (.pointer (some ⟨br44, 0, none⟩)) rfl (by kernel_rfl) ?_)
            have E1369 := (Evo.thenW E1055 (Step.evo s1363) m729.wr)
            have hXo1370 := (Old.step hXo1056 s1363)
            have hS1371 := (Sub.trans hS1057 (Step.up s1363))
            have hsecond1372 := (Sl.step hsecond1058 s1363)
            have hkeep1373 := (Sl.step hkeep1059 s1363)
            have k1374 := (OB.step k732 s1363 (Ap.symm p1060))
            refine sq (o_call 11 #[(.pointer (some ⟨br44, 0, none⟩))] rfl (x_call Tryd.call11 (by kernel_rfl)) (simfs_FS_On_w (X := X1362) (f_ := f_1360) hXo1370 (MO.re m1366 (Wr.self _ _ (Sub.refl _))) hp) ?_)
            rintro _ w1376 ⟨f_1375, hp, X1377, F1379, s1378, rfl, m1380⟩
            have m1381 := MO.re m1380 (Wr.trans m1380.wr m1366.wr E1369.size)
            have p1382 := Ap.grow m1380.wr p1367 (OB.old k1374) (Nat.le_refl _)
            refine nil_ ?_
            refine then_normal (K1368 _ _ _ _ ?_)
            refine seq_ (fun _ K1383 => ?_)
            refine reg_ ?_
            refine sq (o_pv (.int .i64 (0 : Int)) rfl (by kernel_rfl) ?_)
            refine nil_ ?_
            refine then_normal (K1383 _ _ _ _ ?_)
            refine seq_ (fun _ K1384 => ?_)
            refine seq_ (fun _ K1385 => ?_)
            refine reg_ ?_
            refine sq (o_pv (.int .i64 (0 : Int)) rfl (by kernel_rfl) ?_)
            refine nil_ ?_
            refine then_normal (K1385 _ _ _ _ ?_)
            refine wp_block ?_
            have E1971 := (Evo.thenW E1369 (Step.evo s1378) m1366.wr)
            have hXo1972 := (Old.step hXo1370 s1378)
            have hS1973 := (Sub.trans hS1371 (Step.up s1378))
            have hsecond1974 := (Sl.step hsecond1372 s1378)
            have hkeep1975 := (Sl.step hkeep1373 s1378)
            have k1976 := (OB.step k1374 s1378 p1367)
            obtain ⟨I1961, m1962, hI1963, hp⟩ := hp
            refine loop_ 730750818665450810064735099504687943515925149760 (fun kq lq w1965 => ∃ (X1966 : List Nat) (n_1672 : Int) (i1674 : Int) (o1676 : S_simfs_FS) (F1677 : List Nat), (lq = [(11, (.int .i64 n_1672)), (12, (.int .i64 i1674))]) ∧ (kq = m1962 n_1672 i1674 o1676) ∧ (Evo [] w w1965) ∧ (Old X1966 w1965) ∧ (Sub X X1966) ∧ (OB ([]) w.heap.size X1966 w1965 b49 (f730.map (Value.int .i64)) 35) ∧ (MO o_simfs_FS 50 ([]) w.heap.size X1966 w1965 F1677 br44 o1676) ∧ (Ap ([b49]) (F1677)) ∧ (inR .i64 n_1672) ∧ (inR .i64 i1674) ∧ (I1961 n_1672 i1674 o1676)) (m1962 (0 : Int) (0 : Int) f_1375) [(11, (.int .i64 (0 : Int))), (12, (.int .i64 (0 : Int)))] (vs_cons (by kernel_rfl) (vs_cons (by kernel_rfl) vs_nil)) ⟨X1377, (0 : Int), (0 : Int), f_1375, F1379, rfl, rfl, E1971, hXo1972, hS1973, k1976, m1381, p1382, (by decide : inR .i64 (0 : Int)), (by decide : inR .i64 (0 : Int)), hI1963⟩ ?_
            rintro _ _ w1965 g1968 ⟨X1966, n_1672, i1674, o1676, F1677, rfl, rfl, E1977, hXo1978, hS1979, k1980, m1678, p1981, rn_1673, ri1675, hI1964⟩ Kl1969 hA1970
            replace hp := hp n_1672 i1674 o1676 hI1964 rn_1673 ri1675
            refine seq_ (fun _ K1982 => ?_)
            refine seq_ (fun _ K1983 => ?_)
            refine reg_ ?_
            refine sq (o_pv (.int .i64 i1674) rfl (by kernel_rfl) ?_)
            refine sq (o_pv (.bool (decide (i1674 < (16 : Int)))) rfl (by kernel_rfl) ?_)
            refine nil_ ?_
            refine then_normal (K1983 _ _ _ _ ?_)
            refine cond_d (i1674 < (16 : Int)) (by kernel_rfl) (fun h1984 => ?_) (fun h1984 => ?_)
            ·
              replace hp := hp.1 h1984
              refine wp_skip ?_
              refine then_normal (K1982 _ _ _ _ ?_)
              refine seq_ (fun _ K1985 => ?_)
              obtain ⟨k2117, hk2118, hp⟩ := hp
              refine ground_ ?_
              refine join_ 730750818665441074508125346702884448835307857984 (fun lq w2119 => ∃ (X2120 : List Nat) (n_2112 : Int) (o2114 : S_simfs_FS) (F2115 : List Nat), (lq = [(11, (.int .i64 n_2112))]) ∧ (Evo [] w w2119) ∧ (Old X2120 w2119) ∧ (Sub X X2120) ∧ (OB ([]) w.heap.size X2120 w2119 b49 (f730.map (Value.int .i64)) 35) ∧ (MO o_simfs_FS 50 ([]) w.heap.size X2120 w2119 F2115 br44 o2114) ∧ (Ap ([b49]) (F2115)) ∧ (inR .i64 n_2112) ∧ (k2117 n_2112 o2114)) (fun Kj2121 hJ2122 => ?_) ?_
              ·
                refine wp_block ?_
                refine seq_ (fun _ K2129 => ?_)
                refine reg_ ?_
                refine sq (o_pv (.pointer (some ⟨br44, 0, none⟩)) rfl (by kernel_rfl) ?_)
                refine sq (o_pv (.int .i64 i1674) rfl (by kernel_rfl) ?_)
                obtain ⟨h2130, hp⟩ := hp
                refine sq (o_pv (.int .i64 ((97 : Int) + i1674)) rfl (x_add2 (k := .i64) (a := (97 : Int)) (b := i1674) ((97 : Int) + i1674) (by kernel_rfl) (by kernel_rfl) (wrap_inR h2130)) ?_)
                refine sq (o_pv (.int .u8 (iwrap .u8 ((97 : Int) + i1674))) rfl (x_convw (k := .i64) Tryd.underlying3 Tryd.underlying5 (by kernel_rfl)) ?_)
                refine sq (o_rowX (R := (rInt .u8)) [(.int .u8 (iwrap .u8 ((97 : Int) + i1674)))] [iwrap .u8 ((97 : Int) + i1674)] 5 1 (X := X1966) (B := w.heap.size) E1977.size rfl (by kernel_rfl) (Flat.cons (cs := [(.int .u8 (iwrap .u8 ((97 : Int) + i1674)))]) (rInt_mk (inR_iwrap _ _)) Flat.nil) rfl (by decide) ?_)
                intro b2131 w2132 X2133 s2134 O2135 n2136
                have p2137 := n2136 _ (OB.old k1980)
                have p2138 := n2136 _ (MO.old m1678)
                have hl2139 := OS.len O2135
                refine sq (o_pv (.string (strOfNums ([iwrap .u8 ((97 : Int) + i1674)]))) rfl (x_b2s_sl (a := (some ⟨b2131, 0, none⟩)) (len := 1) (c := 1) ([iwrap .u8 ((97 : Int) + i1674)]) Tryd.underlying28 Tryd.underlying5 Tryd.underlying9 (by kernel_rfl) O2135.1 (OS.rd O2135)) ?_)
                obtain ⟨h2140, hp⟩ := hp
                refine sq (o_pv (.string ((ByteArray.mk #[102]) ++ (strOfNums ([iwrap .u8 ((97 : Int) + i1674)])))) rfl (x_cat (by kernel_rfl) (by kernel_rfl) h2140) ?_)
                have E2141 := (Evo.then0 E1977 (Step.evo s2134))
                have hXo2142 := (Old.step hXo1978 s2134)
                have hS2143 := (Sub.trans hS1979 (Step.up s2134))
                have k2144 := (OB.step0 k1980 s2134)
                have m2145 := (MO.step0 m1678 s2134)
                refine sq (o_call 17 #[(.pointer (some ⟨br44, 0, none⟩)), (.string ((ByteArray.mk #[102]) ++ (strOfNums ([iwrap .u8 ((97 : Int) + i1674)]))))] rfl (x_call Tryd.call17 (by kernel_rfl)) (simfs_FS_Read_w (X := X2133) (f_ := o1676) (p := (ByteArray.mk #[102]) ++ (strOfNums ([iwrap .u8 ((97 : Int) + i1674)]))) hXo2142 (MO.re m2145 (Wr.self _ _ (Sub.refl _))) h2140 hp) ?_)
                rintro _ w2149 ⟨f_2146, r2147, r2148, hp, X2150, F2152, ar2154, cr2155, s2151, rfl, m2153, hr2156, rr2157⟩
                have m2158 := MO.re m2153 (Wr.trans m2153.wr m2145.wr E2141.size)
                have p2159 := Ap.grow m2153.wr p1981 (OB.old k2144) (Nat.le_refl _)
                have p2160 := Ap.grow m2153.wr (Ap.symm p2138) (OS.old O2135) (Nat.le_refl _)
                replace hp := hp (Sl.len hr2156)
                replace hp := hp rr2157
                refine sq (o_pv (.tuple #[(.slice ar2154 r2147.length cr2155), (.int .i64 r2148)]) rfl (by kernel_rfl) ?_)
                refine sq (o_pv (.slice ar2154 r2147.length cr2155) rfl (by kernel_rfl) ?_)
                refine sq (o_pv (.int .i64 r2148) rfl (by kernel_rfl) ?_)
                refine sq (o_pv (.slice ar2154 r2147.length cr2155) rfl (by kernel_rfl) ?_)
                refine sq (o_pv (.int .i64 r2148) rfl (by kernel_rfl) ?_)
                refine nil_ ?_
                refine then_normal (K2129 _ _ _ _ ?_)
                refine seq_ (fun _ K2161 => ?_)
                refine seq_ (fun _ K2162 => ?_)
                have E2207 := (Evo.thenW E2141 (Step.evo s2151) m2145.wr)
                have hXo2208 := (Old.step hXo2142 s2151)
                have hS2209 := (Sub.trans hS2143 (Step.up s2151))
                have k2210 := (OB.step k2144 s2151 p1981)
                have O2211 := (OS.step O2135 s2151 (Ap.symm p2138))
                obtain ⟨k2200, hk2201, hp⟩ := hp
                refine ground_ ?_
                refine join_ 11417981520380031115907633789135048126576459776 (fun lq w2202 => ∃ (X2203 : List Nat) (s2199 : Bool), (lq = [(152, (.bool s2199))]) ∧ (Evo [] w w2202) ∧ (Old X2203 w2202) ∧ (Sub X X2203) ∧ (MO o_simfs_FS 50 ([]) w.heap.size X2203 w2202 F2152 br44 f_2146) ∧ (OB ([]) w.heap.size X2203 w2202 b49 (f730.map (Value.int .i64)) 35) ∧ (k2200 s2199)) (fun Kj2204 hJ2205 => ?_) ?_
                ·
                  refine reg_drawn (RB w2149.heap.size []) 29 (by kernel_rfl) (fun w2217 hd2218 => ?_)
                  have e2219 := Evo.of_drew hd2218
                  have z2220 : w2217.heap.size = w2149.heap.size := by rw [hd2218]
                  clear hd2218
                  have s2222 := Step.of0 X2150 e2219
                  have er2221 := RB.refl w2149.heap.size [] w2217
                  have E2223 := (Evo.then0 E2207 (Step.evo s2222))
                  have hXo2224 := (Old.step hXo2208 s2222)
                  have hS2225 := (Sub.trans hS2209 (Step.up s2222))
                  have k2226 := (OB.step0 k2210 s2222)
                  have O2227 := (OS.step0 O2211 s2222)
                  have m2228 := (MO.step0 m2158 s2222)
                  have hr2229 := (Sl.step hr2156 s2222)
                  refine r_take 0 (.int .i64 r2148) (RB.pre _ _) rfl (by kernel_rfl) (fun _ _ _ h => hQ.panic _ _ _ _ _ h) (.inl ⟨rfl, fun wq hq => (by kernel_rfl)⟩) ?_
                  refine r_take 1 (.bool (decide (r2148 = (0 : Int)))) (RB.pre _ _) rfl (by kernel_rfl) (fun _ _ _ h => hQ.panic _ _ _ _ _ h) (.inl ⟨rfl, fun wq hq => (by kernel_rfl)⟩) ?_
                  refine r_take 2 (.int .i64 i1674) (RB.pre _ _) rfl (by kernel_rfl) (fun _ _ _ h => hQ.panic _ _ _ _ _ h) (.inl ⟨rfl, fun wq hq => (by kernel_rfl)⟩) ?_
                  obtain ⟨h2230, hp⟩ := hp
                  refine r_take 3 (.pointer (some ⟨b49, i1674.toNat, none⟩)) (RB.pre _ _) rfl (by kernel_rfl) (fun _ _ _ h => hQ.panic _ _ _ _ _ h) (.inl ⟨rfl, fun wq hq => (x_ixR (k := .i64) (i := i1674) Tryd.underlying35 Tryd.sizeOf3 (by kernel_rfl) (by kernel_rfl) h2230)⟩) ?_
                  refine r_take 4 (.int .i64 (lget f730 i1674)) (RB.pre _ _) rfl (by kernel_rfl) (fun _ _ _ h => hQ.panic _ _ _ _ _ h) (.inl ⟨rfl, fun wq hq => (x_load1 (by kernel_rfl) Tryd.isAgg3 (Blk.acell (Blk.rb k2226.2.1 (RB.trans er2221 hq) (Nat.lt_of_lt_of_eq (Blk.lt k2226.2.1) z2220) (fun h => by cases h)) kf731 h2230))⟩) ?_
                  refine r_take 5 (.bool (decide ((lget f730 i1674) > (0 : Int)))) (RB.pre _ _) rfl (by kernel_rfl) (fun _ _ _ h => hQ.panic _ _ _ _ _ h) (.inl ⟨rfl, fun wq hq => (by kernel_rfl)⟩) ?_
                  by_cases h2231 : ((decide (r2148 = (0 : Int))) : Bool) = (decide ((lget f730 i1674) > (0 : Int)))
                  ·
                    replace hp := hp.1 h2231
                    refine r_take 6 (.bool false) (RB.pre _ _) rfl (by kernel_rfl) (fun _ _ _ h => hQ.panic _ _ _ _ _ h) (.inl ⟨rfl, fun wq hq => (x_ndf (p := ((decide (r2148 = (0 : Int))) : Bool) = (decide ((lget f730 i1674) > (0 : Int)))) (x_boolne (a := (decide (r2148 = (0 : Int)))) (b := (decide ((lget f730 i1674) > (0 : Int)))) Tryd.underlying4 (by kernel_rfl) (by kernel_rfl)) h2231)⟩) ?_
                    refine r_take 7 (.bool false) (RB.pre _ _) rfl (by kernel_rfl) (fun _ _ _ h => hQ.panic _ _ _ _ _ h) (.inl ⟨rfl, fun wq hq => (by kernel_rfl)⟩) ?_
                    refine r_take 8 (.int .i64 i1674) (RB.pre _ _) rfl (by kernel_rfl) (fun _ _ _ h => hQ.panic _ _ _ _ _ h) (.inl ⟨(by kernel_rfl), fun wq hq => (by kernel_rfl)⟩) ?_
                    obtain ⟨h2232, hp⟩ := hp
                    refine r_take 9 (.pointer (some ⟨b49, i1674.toNat, none⟩)) (RB.pre _ _) rfl (by kernel_rfl) (fun _ _ _ h => hQ.panic _ _ _ _ _ h) (.inl ⟨(by kernel_rfl), fun wq hq => (x_ixR (k := .i64) (i := i1674) Tryd.underlying35 Tryd.sizeOf3 (by kernel_rfl) (by kernel_rfl) h2232)⟩) ?_
                    refine r_take 10 (.int .i64 (lget f730 i1674)) (RB.pre _ _) rfl (by kernel_rfl) (fun _ _ _ h => hQ.panic _ _ _ _ _ h) (.inl ⟨(by kernel_rfl), fun wq hq => (x_load1 (by kernel_rfl) Tryd.isAgg3 (Blk.acell (Blk.rb k2226.2.1 (RB.trans er2221 hq) (Nat.lt_of_lt_of_eq (Blk.lt k2226.2.1) z2220) (fun h => by cases h)) kf731 h2232))⟩) ?_
                    by_cases h2233 : (lget f730 i1674) > (0 : Int)
                    ·
                      replace hp := hp.1 h2233
                      refine r_take 11 (.bool true) (RB.pre _ _) rfl (by kernel_rfl) (fun _ _ _ h => hQ.panic _ _ _ _ _ h) (.inl ⟨(by kernel_rfl), fun wq hq => (x_dt (p := (lget f730 i1674) > (0 : Int)) (by kernel_rfl) h2233)⟩) ?_
                      refine r_take 12 (.bool true) (RB.pre _ _) rfl (by kernel_rfl) (fun _ _ _ h => hQ.panic _ _ _ _ _ h) (.inl ⟨(by kernel_rfl), fun wq hq => (by kernel_rfl)⟩) ?_
                      refine r_take 13 (.slice ar2154 r2147.length cr2155) (RB.pre _ _) rfl (by kernel_rfl) (fun _ _ _ h => hQ.panic _ _ _ _ _ h) (.inl ⟨(by kernel_rfl), fun wq hq => (by kernel_rfl)⟩) ?_
                      refine r_take 14 (.int .i64 (r2147.length : Int)) (RB.pre _ _) rfl (by kernel_rfl) (fun _ _ _ h => hQ.panic _ _ _ _ _ h) (.inl ⟨(by kernel_rfl), fun wq hq => (by kernel_rfl)⟩) ?_
                      by_cases h2234 : (r2147.length : Int) = (1 : Int)
                      ·
                        replace hp := hp.1 h2234
                        refine r_take 15 (.bool false) (RB.pre _ _) rfl (by kernel_rfl) (fun _ _ _ h => hQ.panic _ _ _ _ _ h) (.inl ⟨(by kernel_rfl), fun wq hq => (x_ndf (p := (r2147.length : Int) = (1 : Int)) (by kernel_rfl) h2234)⟩) ?_
                        refine r_take 16 (.bool false) (RB.pre _ _) rfl (by kernel_rfl) (fun _ _ _ h => hQ.panic _ _ _ _ _ h) (.inl ⟨(by kernel_rfl), fun wq hq => (by kernel_rfl)⟩) ?_
                        refine r_take 17 (.slice ar2154 r2147.length cr2155) (RB.pre _ _) rfl (by kernel_rfl) (fun _ _ _ h => hQ.panic _ _ _ _ _ h) (.inl ⟨(by kernel_rfl), fun wq hq => (by kernel_rfl)⟩) ?_
                        obtain ⟨h2235, hp⟩ := hp
                        obtain ⟨b2236, o2237, cs2238, ha2239, nx2240, lt2241, ok2242, hc2243⟩ := Sl.atI hr2229 (0 : Int) h2235
                        obtain ⟨rfl, re2244⟩ := ok2242
                        replace hp := hp re2244
                        refine r_take 18 (.pointer (some ⟨b2236, o2237 + (0 : Int).toNat * 1, none⟩)) (RB.pre _ _) rfl (by kernel_rfl) (fun _ _ _ h => hQ.panic _ _ _ _ _ h) (.inl ⟨(by kernel_rfl), fun wq hq => (x_ixA (m := r2147.length) (c := cr2155) (k := .i64) (i := (0 : Int)) Tryd.underlying28 Tryd.sizeOf5 (by rw [← ha2239]; kernel_rfl) (by kernel_rfl) h2235)⟩) ?_
                        refine r_take 19 (.int .u8 (lget r2147 (0 : Int))) (RB.pre _ _) rfl (by kernel_rfl) (fun _ _ _ h => hQ.panic _ _ _ _ _ h) (.inl ⟨(by kernel_rfl), fun wq hq => (x_load1 (by kernel_rfl) Tryd.isAgg5 ((CellsAt.rb hc2243 (RB.trans er2221 hq) (Nat.lt_of_lt_of_eq lt2241 z2220) (fun h => by cases h)) 0 _ rfl))⟩) ?_
                        have r2245 : inR .i64 (lget r2147 (0 : Int)) := inR_up (by decide) (by decide) re2244
                        refine r_take 20 (.int .i64 (lget r2147 (0 : Int))) (RB.pre _ _) rfl (by kernel_rfl) (fun _ _ _ h => hQ.panic _ _ _ _ _ h) (.inl ⟨(by kernel_rfl), fun wq hq => (x_conv (k := .u8) Tryd.underlying5 Tryd.underlying3 (by kernel_rfl) (wrap_inR r2245))⟩) ?_
                        refine r_take 21 (.int .i64 i1674) (RB.pre _ _) rfl (by kernel_rfl) (fun _ _ _ h => hQ.panic _ _ _ _ _ h) (.inl ⟨(by kernel_rfl), fun wq hq => (by kernel_rfl)⟩) ?_
                        obtain ⟨h2246, hp⟩ := hp
                        refine r_take 22 (.pointer (some ⟨b49, i1674.toNat, none⟩)) (RB.pre _ _) rfl (by kernel_rfl) (fun _ _ _ h => hQ.panic _ _ _ _ _ h) (.inl ⟨(by kernel_rfl), fun wq hq => (x_ixR (k := .i64) (i := i1674) Tryd.underlying35 Tryd.sizeOf3 (by kernel_rfl) (by kernel_rfl) h2246)⟩) ?_
                        refine r_take 23 (.int .i64 (lget f730 i1674)) (RB.pre _ _) rfl (by kernel_rfl) (fun _ _ _ h => hQ.panic _ _ _ _ _ h) (.inl ⟨(by kernel_rfl), fun wq hq => (x_load1 (by kernel_rfl) Tryd.isAgg3 (Blk.acell (Blk.rb k2226.2.1 (RB.trans er2221 hq) (Nat.lt_of_lt_of_eq (Blk.lt k2226.2.1) z2220) (fun h => by cases h)) kf731 h2246))⟩) ?_
                        obtain ⟨h2247, hp⟩ := hp
                        refine r_take 24 (.int .i64 ((lget f730 i1674) - (1 : Int))) (RB.pre _ _) rfl (by kernel_rfl) (fun _ _ _ h => hQ.panic _ _ _ _ _ h) (.inl ⟨(by kernel_rfl), fun wq hq => (x_sub2 (k := .i64) (a := lget f730 i1674) (b := (1 : Int)) ((lget f730 i1674) - (1 : Int)) (by kernel_rfl) (by kernel_rfl) (wrap_inR h2247))⟩) ?_
                        refine r_take 25 (.bool (!decide ((lget r2147 (0 : Int)) = ((lget f730 i1674) - (1 : Int))))) (RB.pre _ _) rfl (by kernel_rfl) (fun _ _ _ h => hQ.panic _ _ _ _ _ h) (.inl ⟨(by kernel_rfl), fun wq hq => (by kernel_rfl)⟩) ?_
                        refine r_take 26 (.bool (!decide ((lget r2147 (0 : Int)) = ((lget f730 i1674) - (1 : Int))))) (RB.pre _ _) rfl (by kernel_rfl) (fun _ _ _ h => hQ.panic _ _ _ _ _ h) (.inl ⟨(by kernel_rfl), fun wq hq => (by kernel_rfl)⟩) ?_
                        refine r_take 27 (.bool (!decide ((lget r2147 (0 : Int)) = ((lget f730 i1674) - (1 : Int))))) (RB.pre _ _) rfl (by kernel_rfl) (fun _ _ _ h => hQ.panic _ _ _ _ _ h) (.inl ⟨(by kernel_rfl), fun wq hq => (by kernel_rfl)⟩) ?_
                        refine r_take 28 (.bool (!decide ((lget r2147 (0 : Int)) = ((lget f730 i1674) - (1 : Int))))) (RB.pre _ _) rfl (by kernel_rfl) (fun _ _ _ h => hQ.panic _ _ _ _ _ h) (.inl ⟨rfl, fun wq hq => (by kernel_rfl)⟩) ?_
                        refine r_done (by kernel_rfl) ?_
                        refine then_normal (hJ2205 _ _ _ ⟨[(152, (.bool (!decide ((lget r2147 (0 : Int)) = ((lget f730 i1674) - (1 : Int))))))], fit_mk (fun _ _ => rfl) (by kernel_rfl) (vs_cons (by kernel_rfl) vs_nil), ?_⟩)
                        exact ⟨X2150, (!decide ((lget r2147 (0 : Int)) = ((lget f730 i1674) - (1 : Int)))), rfl, E2223, hXo2224, hS2225, m2228, k2226, hp⟩
                      ·
                        replace hp := hp.2 h2234
                        refine r_take 15 (.bool true) (RB.pre _ _) rfl (by kernel_rfl) (fun _ _ _ h => hQ.panic _ _ _ _ _ h) (.inl ⟨(by kernel_rfl), fun wq hq => (x_ndt (p := (r2147.length : Int) = (1 : Int)) (by kernel_rfl) h2234)⟩) ?_
                        refine r_take 16 (.bool true) (RB.pre _ _) rfl (by kernel_rfl) (fun _ _ _ h => hQ.panic _ _ _ _ _ h) (.inl ⟨(by kernel_rfl), fun wq hq => (by kernel_rfl)⟩) ?_
                        refine r_take 17 undef (RB.pre _ _) rfl (by kernel_rfl) (fun _ _ _ h => hQ.panic _ _ _ _ _ h) (.inr ⟨by kernel_rfl, rfl⟩) ?_
                        refine r_take 18 undef (RB.pre _ _) rfl (by kernel_rfl) (fun _ _ _ h => hQ.panic _ _ _ _ _ h) (.inr ⟨by kernel_rfl, rfl⟩) ?_
                        refine r_take 19 undef (RB.pre _ _) rfl (by kernel_rfl) (fun _ _ _ h => hQ.panic _ _ _ _ _ h) (.inr ⟨by kernel_rfl, rfl⟩) ?_
                        refine r_take 20 undef (RB.pre _ _) rfl (by kernel_rfl) (fun _ _ _ h => hQ.panic _ _ _ _ _ h) (.inr ⟨by kernel_rfl, rfl⟩) ?_
                        refine r_take 21 undef (RB.pre _ _) rfl (by kernel_rfl) (fun _ _ _ h => hQ.panic _ _ _ _ _ h) (.inr ⟨by kernel_rfl, rfl⟩) ?_
                        refine r_take 22 undef (RB.pre _ _) rfl (by kernel_rfl) (fun _ _ _ h => hQ.panic _ _ _ _ _ h) (.inr ⟨by kernel_rfl, rfl⟩) ?_
                        refine r_take 23 undef (RB.pre _ _) rfl (by kernel_rfl) (fun _ _ _ h => hQ.panic _ _ _ _ _ h) (.inr ⟨by kernel_rfl, rfl⟩) ?_
                        refine r_take 24 undef (RB.pre _ _) rfl (by kernel_rfl) (fun _ _ _ h => hQ.panic _ _ _ _ _ h) (.inr ⟨by kernel_rfl, rfl⟩) ?_
                        refine r_take 25 undef (RB.pre _ _) rfl (by kernel_rfl) (fun _ _ _ h => hQ.panic _ _ _ _ _ h) (.inr ⟨by kernel_rfl, rfl⟩) ?_
                        refine r_take 26 (.bool true) (RB.pre _ _) rfl (by kernel_rfl) (fun _ _ _ h => hQ.panic _ _ _ _ _ h) (.inl ⟨(by kernel_rfl), fun wq hq => (by kernel_rfl)⟩) ?_
                        refine r_take 27 (.bool true) (RB.pre _ _) rfl (by kernel_rfl) (fun _ _ _ h => hQ.panic _ _ _ _ _ h) (.inl ⟨(by kernel_rfl), fun wq hq => (by kernel_rfl)⟩) ?_
                        refine r_take 28 (.bool true) (RB.pre _ _) rfl (by kernel_rfl) (fun _ _ _ h => hQ.panic _ _ _ _ _ h) (.inl ⟨rfl, fun wq hq => (by kernel_rfl)⟩) ?_
                        refine r_done (by kernel_rfl) ?_
                        refine then_normal (hJ2205 _ _ _ ⟨[(152, (.bool true))], fit_mk (fun _ _ => rfl) (by kernel_rfl) (vs_cons (by kernel_rfl) vs_nil), ?_⟩)
                        exact ⟨X2150, true, rfl, E2223, hXo2224, hS2225, m2228, k2226, hp⟩
                    ·
                      replace hp := hp.2 h2233
                      refine r_take 11 (.bool false) (RB.pre _ _) rfl (by kernel_rfl) (fun _ _ _ h => hQ.panic _ _ _ _ _ h) (.inl ⟨(by kernel_rfl), fun wq hq => (x_df (p := (lget f730 i1674) > (0 : Int)) (by kernel_rfl) h2233)⟩) ?_
                      refine r_take 12 (.bool false) (RB.pre _ _) rfl (by kernel_rfl) (fun _ _ _ h => hQ.panic _ _ _ _ _ h) (.inl ⟨(by kernel_rfl), fun wq hq => (by kernel_rfl)⟩) ?_
                      refine r_take 13 undef (RB.pre _ _) rfl (by kernel_rfl) (fun _ _ _ h => hQ.panic _ _ _ _ _ h) (.inr ⟨by kernel_rfl, rfl⟩) ?_
                      refine r_take 14 undef (RB.pre _ _) rfl (by kernel_rfl) (fun _ _ _ h => hQ.panic _ _ _ _ _ h) (.inr ⟨by kernel_rfl, rfl⟩) ?_
                      refine r_take 15 undef (RB.pre _ _) rfl (by kernel_rfl) (fun _ _ _ h => hQ.panic _ _ _ _ _ h) (.inr ⟨by kernel_rfl, rfl⟩) ?_
                      refine r_take 16 undef (RB.pre _ _) rfl (by kernel_rfl) (fun _ _ _ h => hQ.panic _ _ _ _ _ h) (.inr ⟨by kernel_rfl, rfl⟩) ?_
                      refine r_take 17 undef (RB.pre _ _) rfl (by kernel_rfl) (fun _ _ _ h => hQ.panic _ _ _ _ _ h) (.inr ⟨by kernel_rfl, rfl⟩) ?_
                      refine r_take 18 undef (RB.pre _ _) rfl (by kernel_rfl) (fun _ _ _ h => hQ.panic _ _ _ _ _ h) (.inr ⟨by kernel_rfl, rfl⟩) ?_
                      refine r_take 19 undef (RB.pre _ _) rfl (by kernel_rfl) (fun _ _ _ h => hQ.panic _ _ _ _ _ h) (.inr ⟨by kernel_rfl, rfl⟩) ?_
                      refine r_take 20 undef (RB.pre _ _) rfl (by kernel_rfl) (fun _ _ _ h => hQ.panic _ _ _ _ _ h) (.inr ⟨by kernel_rfl, rfl⟩) ?_
                      refine r_take 21 undef (RB.pre _ _) rfl (by kernel_rfl) (fun _ _ _ h => hQ.panic _ _ _ _ _ h) (.inr ⟨by kernel_rfl, rfl⟩) ?_
                      refine r_take 22 undef (RB.pre _ _) rfl (by kernel_rfl) (fun _ _ _ h => hQ.panic _ _ _ _ _ h) (.inr ⟨by kernel_rfl, rfl⟩) ?_
                      refine r_take 23 undef (RB.pre _ _) rfl (by kernel_rfl) (fun _ _ _ h => hQ.panic _ _ _ _ _ h) (.inr ⟨by kernel_rfl, rfl⟩) ?_
                      refine r_take 24 undef (RB.pre _ _) rfl (by kernel_rfl) (fun _ _ _ h => hQ.panic _ _ _ _ _ h) (.inr ⟨by kernel_rfl, rfl⟩) ?_
                      refine r_take 25 undef (RB.pre _ _) rfl (by kernel_rfl) (fun _ _ _ h => hQ.panic _ _ _ _ _ h) (.inr ⟨by kernel_rfl, rfl⟩) ?_
                      refine r_take 26 undef (RB.pre _ _) rfl (by kernel_rfl) (fun _ _ _ h => hQ.panic _ _ _ _ _ h) (.inr ⟨by kernel_rfl, rfl⟩) ?_
                      refine r_take 27 (.bool false) (RB.pre _ _) rfl (by kernel_rfl) (fun _ _ _ h => hQ.panic _ _ _ _ _ h) (.inl ⟨(by kernel_rfl), fun wq hq => (by kernel_rfl)⟩) ?_
                      refine r_take 28 (.bool false) (RB.pre _ _) rfl (by kernel_rfl) (fun _ _ _ h => hQ.panic _ _ _ _ _ h) (.inl ⟨rfl, fun wq hq => (by kernel_rfl)⟩) ?_
                      refine r_done (by kernel_rfl) ?_
                      refine then_normal (hJ2205 _ _ _ ⟨[(152, (.bool false))], fit_mk (fun _ _ => rfl) (by kernel_rfl) (vs_cons (by kernel_rfl) vs_nil), ?_⟩)
                      exact ⟨X2150, false, rfl, E2223, hXo2224, hS2225, m2228, k2226, hp⟩
                  ·
                    replace hp := hp.2 h2231
                    refine r_take 6 (.bool true) (RB.pre _ _) rfl (by kernel_rfl) (fun _ _ _ h => hQ.panic _ _ _ _ _ h) (.inl ⟨rfl, fun wq hq => (x_ndt (p := ((decide (r2148 = (0 : Int))) : Bool) = (decide ((lget f730 i1674) > (0 : Int)))) (x_boolne (a := (decide (r2148 = (0 : Int)))) (b := (decide ((lget f730 i1674) > (0 : Int)))) Tryd.underlying4 (by kernel_rfl) (by kernel_rfl)) h2231)⟩) ?_
                    refine r_take 7 (.bool true) (RB.pre _ _) rfl (by kernel_rfl) (fun _ _ _ h => hQ.panic _ _ _ _ _ h) (.inl ⟨rfl, fun wq hq => (by kernel_rfl)⟩) ?_
                    refine r_take 8 undef (RB.pre _ _) rfl (by kernel_rfl) (fun _ _ _ h => hQ.panic _ _ _ _ _ h) (.inr ⟨by kernel_rfl, rfl⟩) ?_
                    refine r_take 9 undef (RB.pre _ _) rfl (by kernel_rfl) (fun _ _ _ h => hQ.panic _ _ _ _ _ h) (.inr ⟨by kernel_rfl, rfl⟩) ?_
                    refine r_take 10 undef (RB.pre _ _) rfl (by kernel_rfl) (fun _ _ _ h => hQ.panic _ _ _ _ _ h) (.inr ⟨by kernel_rfl, rfl⟩) ?_
                    refine r_take 11 undef (RB.pre _ _) rfl (by kernel_rfl) (fun _ _ _ h => hQ.panic _ _ _ _ _ h) (.inr ⟨by kernel_rfl, rfl⟩) ?_
                    refine r_take 12 undef (RB.pre _ _) rfl (by kernel_rfl) (fun _ _ _ h => hQ.panic _ _ _ _ _ h) (.inr ⟨by kernel_rfl, rfl⟩) ?_
                    refine r_take 13 undef (RB.pre _ _) rfl (by kernel_rfl) (fun _ _ _ h => hQ.panic _ _ _ _ _ h) (.inr ⟨by kernel_rfl, rfl⟩) ?_
                    refine r_take 14 undef (RB.pre _ _) rfl (by kernel_rfl) (fun _ _ _ h => hQ.panic _ _ _ _ _ h) (.inr ⟨by kernel_rfl, rfl⟩) ?_
                    refine r_take 15 undef (RB.pre _ _) rfl (by kernel_rfl) (fun _ _ _ h => hQ.panic _ _ _ _ _ h) (.inr ⟨by kernel_rfl, rfl⟩) ?_
                    refine r_take 16 undef (RB.pre _ _) rfl (by kernel_rfl) (fun _ _ _ h => hQ.panic _ _ _ _ _ h) (.inr ⟨by kernel_rfl, rfl⟩) ?_
                    refine r_take 17 undef (RB.pre _ _) rfl (by kernel_rfl) (fun _ _ _ h => hQ.panic _ _ _ _ _ h) (.inr ⟨by kernel_rfl, rfl⟩) ?_
                    refine r_take 18 undef (RB.pre _ _) rfl (by kernel_rfl) (fun _ _ _ h => hQ.panic _ _ _ _ _ h) (.inr ⟨by kernel_rfl, rfl⟩) ?_
                    refine r_take 19 undef (RB.pre _ _) rfl (by kernel_rfl) (fun _ _ _ h => hQ.panic _ _ _ _ _ h) (.inr ⟨by kernel_rfl, rfl⟩) ?_
                    refine r_take 20 undef (RB.pre _ _) rfl (by kernel_rfl) (fun _ _ _ h => hQ.panic _ _ _ _ _ h) (.inr ⟨by kernel_rfl, rfl⟩) ?_
                    refine r_take 21 undef (RB.pre _ _) rfl (by kernel_rfl) (fun _ _ _ h => hQ.panic _ _ _ _ _ h) (.inr ⟨by kernel_rfl, rfl⟩) ?_
                    refine r_take 22 undef (RB.pre _ _) rfl (by kernel_rfl) (fun _ _ _ h => hQ.panic _ _ _ _ _ h) (.inr ⟨by kernel_rfl, rfl⟩) ?_
                    refine r_take 23 undef (RB.pre _ _) rfl (by kernel_rfl) (fun _ _ _ h => hQ.panic _ _ _ _ _ h) (.inr ⟨by kernel_rfl, rfl⟩) ?_
                    refine r_take 24 undef (RB.pre _ _) rfl (by kernel_rfl) (fun _ _ _ h => hQ.panic _ _ _ _ _ h) (.inr ⟨by kernel_rfl, rfl⟩) ?_
                    refine r_take 25 undef (RB.pre _ _) rfl (by kernel_rfl) (fun _ _ _ h => hQ.panic _ _ _ _ _ h) (.inr ⟨by kernel_rfl, rfl⟩) ?_
                    refine r_take 26 undef (RB.pre _ _) rfl (by kernel_rfl) (fun _ _ _ h => hQ.panic _ _ _ _ _ h) (.inr ⟨by kernel_rfl, rfl⟩) ?_
                    refine r_take 27 undef (RB.pre _ _) rfl (by kernel_rfl) (fun _ _ _ h => hQ.panic _ _ _ _ _ h) (.inr ⟨by kernel_rfl, rfl⟩) ?_
                    refine r_take 28 (.bool true) (RB.pre _ _) rfl (by kernel_rfl) (fun _ _ _ h => hQ.panic _ _ _ _ _ h) (.inl ⟨rfl, fun wq hq => (by kernel_rfl)⟩) ?_
                    refine r_done (by kernel_rfl) ?_
                    refine then_normal (hJ2205 _ _ _ ⟨[(152, (.bool true))], fit_mk (fun _ _ => rfl) (by kernel_rfl) (vs_cons (by kernel_rfl) vs_nil), ?_⟩)
                    exact ⟨X2150, true, rfl, E2223, hXo2224, hS2225, m2228, k2226, hp⟩
                ·
                  rintro _ w2202 g2248 ⟨X2203, s2199, rfl, E2212, hXo2213, hS2214, m2215, k2216, hv2206⟩
                  replace hp := hk2201 s2199 hv2206
                  refine then_normal (K2162 _ _ _ _ ?_)
                  refine cond_b s2199 (by kernel_rfl) (fun h2249 => ?_) (fun h2249 => ?_)
                  ·
                    replace hp := hp.1 h2249
                    refine seq_ (fun _ K2250 => ?_)
                    refine reg_ ?_
                    refine sq (o_pv (.bool false) rfl (by kernel_rfl) ?_)
                    refine nil_ ?_
                    refine then_normal (K2250 _ _ _ _ ?_)
                    refine wp_ret ?_
                    refine then_ret ?_
                    refine blk_ret ?_
                    refine then_ret ?_
                    refine then_ret ?_
                    refine then_ret ?_
                    refine blk_ret ?_
                    refine then_ret ?_
                    refine end_ret hQ (.bool false) (by kernel_rfl) ?_
                    exact ⟨false, hp, E2212, rfl⟩
                  ·
                    replace hp := hp.2 h2249
                    refine wp_skip ?_
                    refine then_normal (K2161 _ _ _ _ ?_)
                    refine seq_ (fun _ K2251 => ?_)
                    refine reg_ ?_
                    refine sq (o_pv (.int .i64 i1674) rfl (by kernel_rfl) ?_)
                    obtain ⟨h2252, hp⟩ := hp
                    refine sq (o_pv (.pointer (some ⟨b49, i1674.toNat, none⟩)) rfl (x_ixR (k := .i64) (i := i1674) Tryd.underlying35 Tryd.sizeOf3 (by kernel_rfl) (by kernel_rfl) h2252) ?_)
                    refine sq (o_pv (.int .i64 (lget f730 i1674)) rfl (x_load1 (by kernel_rfl) Tryd.isAgg3 (Blk.acell k2216.2.1 kf731 h2252)) ?_)
                    refine sq (o_pv (.bool (decide ((lget f730 i1674) > (0 : Int)))) rfl (by kernel_rfl) ?_)
                    refine nil_ ?_
                    refine then_normal (K2251 _ _ _ _ ?_)
                    refine cond_d ((lget f730 i1674) > (0 : Int)) (by kernel_rfl) (fun h2253 => ?_) (fun h2253 => ?_)
                    ·
                      replace hp := hp.1 h2253
                      refine reg_ ?_
                      refine sq (o_pv (.int .i64 n_1672) rfl (by kernel_rfl) ?_)
                      obtain ⟨h2254, hp⟩ := hp
                      refine sq (o_pv (.int .i64 (n_1672 + (1 : Int))) rfl (x_add2 (k := .i64) (a := n_1672) (b := (1 : Int)) (n_1672 + (1 : Int)) (by kernel_rfl) (by kernel_rfl) (wrap_inR h2254)) ?_)
                      refine sq (o_pv (.int .i64 (n_1672 + (1 : Int))) rfl (by kernel_rfl) ?_)
                      refine nil_ ?_
                      refine blk_normal ?_
                      refine then_normal (hJ2122 _ _ _ ⟨[(11, (.int .i64 (n_1672 + (1 : Int))))], fit_mk (AgB.nest (AgB.look (fun _ _ => rfl) (by kernel_rfl)) (by kernel_rfl) (by kernel_rfl)) (by kernel_rfl) (vs_cons (by kernel_rfl) vs_nil), ?_⟩)
                      exact ⟨X2203, (n_1672 + (1 : Int)), f_2146, F2152, rfl, E2212, hXo2213, hS2214, k2216, m2215, p2159, h2254, hp⟩
                    ·
                      replace hp := hp.2 h2253
                      refine wp_skip ?_
                      refine blk_normal ?_
                      refine then_normal (hJ2122 _ _ _ ⟨[(11, (.int .i64 n_1672))], fit_mk (AgB.nest (AgB.look (fun _ _ => rfl) (by kernel_rfl)) (by kernel_rfl) (by kernel_rfl)) (by kernel_rfl) (vs_cons (by kernel_rfl) vs_nil), ?_⟩)
                      exact ⟨X2203, n_1672, f_2146, F2152, rfl, E2212, hXo2213, hS2214, k2216, m2215, p2159, rn_1673, hp⟩
              ·
                rintro _ w2119 g2255 ⟨X2120, n_2112, o2114, F2115, rfl, E2124, hXo2125, hS2126, k2127, m2116, p2128, rn_2113, hv2123⟩
                replace hp := hk2118 n_2112 o2114 hv2123 rn_2113
                refine then_normal (K1985 _ _ _ _ ?_)
                refine reg_ ?_
                refine sq (o_pv (.int .i64 i1674) rfl (by kernel_rfl) ?_)
                obtain ⟨h2256, hp⟩ := hp
                refine sq (o_pv (.int .i64 (i1674 + (1 : Int))) rfl (x_add2 (k := .i64) (a := i1674) (b := (1 : Int)) (i1674 + (1 : Int)) (by kernel_rfl) (by kernel_rfl) (wrap_inR h2256)) ?_)
                refine sq (o_pv (.int .i64 (i1674 + (1 : Int))) rfl (by kernel_rfl) ?_)
                refine nil_ ?_
                refine then_normal (hA1970 _ _ _ ⟨_, [(11, (.int .i64 n_2112)), (12, (.int .i64 (i1674 + (1 : Int))))], hp.2, fit_mk (AgB.nest (AgB.look (AgB.mix _ _ _) (by kernel_rfl)) (by kernel_rfl) (by kernel_rfl)) (by kernel_rfl) (vs_cons (by kernel_rfl) (vs_cons (by kernel_rfl) vs_nil)), ?_⟩)
                exact ⟨X2120, n_2112, (i1674 + (1 : Int)), o2114, F2115, rfl, rfl, E2124, hXo2125, hS2126, k2127, m2116, p2128, rn_2113, h2256, hp.1⟩
            ·
              replace hp := hp.2 h1984
              refine wp_exit ?_
              refine then_exit ?_
              refine then_exit ?_
              refine blk_exit ?_
              refine then_normal (K1384 _ _ _ _ ?_)
              refine seq_ (fun _ K2257 => ?_)
              refine reg_ ?_
              refine sq (o_pv (.pointer (some ⟨br44, 0, none⟩)) rfl (by kernel_rfl) ?_)
              refine sq (o_call 12 #[(.pointer (some ⟨br44, 0, none⟩))] rfl (x_call Tryd.call12 (by kernel_rfl)) (simfs_FS_List_w (X := X1966) (f_ := o1676) hXo1978 (MO.re m1678 (Wr.self _ _ (Sub.refl _))) hp) ?_)
              rintro _ w2261 ⟨f_2258, r2259, r2260, hp, X2262, F2264, ar2266, cr2267, s2263, rfl, m2265, hr2268, rr2269⟩
              have m2270 := MO.re m2265 (Wr.trans m2265.wr m1678.wr E1977.size)
              have p2271 := Ap.grow m2265.wr p1981 (OB.old k1980) (Nat.le_refl _)
              replace hp := hp (Sl.len hr2268)
              replace hp := hp rr2269
              refine sq (o_pv (.tuple #[(.slice ar2266 r2259.length cr2267), (.int .i64 r2260)]) rfl (by kernel_rfl) ?_)
              refine sq (o_pv (.slice ar2266 r2259.length cr2267) rfl (by kernel_rfl) ?_)
              refine sq (o_pv (.int .i64 r2260) rfl (by kernel_rfl) ?_)
              refine sq (o_pv (.slice ar2266 r2259.length cr2267) rfl (by kernel_rfl) ?_)
              refine sq (o_pv (.int .i64 r2260) rfl (by kernel_rfl) ?_)
              refine nil_ ?_
              refine then_normal (K2257 _ _ _ _ ?_)
              refine seq_ (fun _ K2272 => ?_)
              refine ground_ ?_
              refine join_ 5962926680310083906271034117482434720196204775342144 (fun lq w2276 => lq = [(6, (.bool (decide ((r2260 = (0 : Int)) ∧ ((r2259.length : Int) = n_1672)))))] ∧ w2261 = w2276) (fun Kj2274 hJ2275 => ?_) ?_
              ·
                refine reg_ ?_
                refine sq (o_pv (.int .i64 r2260) rfl (by kernel_rfl) ?_)
                by_cases h2278 : r2260 = (0 : Int)
                ·
                  refine sq (o_pv (.bool true) rfl (x_dt (p := r2260 = (0 : Int)) (by kernel_rfl) h2278) ?_)
                  refine sq (o_pv (.bool true) rfl (by kernel_rfl) ?_)
                  refine sq (o_pv (.slice ar2266 r2259.length cr2267) (by kernel_rfl) (by kernel_rfl) ?_)
                  refine sq (o_pv (.int .i64 (r2259.length : Int)) (by kernel_rfl) (by kernel_rfl) ?_)
                  refine sq (o_pv (.int .i64 n_1672) (by kernel_rfl) (by kernel_rfl) ?_)
                  refine sq (o_pv (.bool (decide ((r2259.length : Int) = n_1672))) (by kernel_rfl) (by kernel_rfl) ?_)
                  refine sq (o_pv (.bool (decide ((r2259.length : Int) = n_1672))) rfl (by kernel_rfl) ?_)
                  refine sq (o_pv (.bool (decide ((r2259.length : Int) = n_1672))) rfl (by kernel_rfl) ?_)
                  refine nil_ ?_
                  refine then_normal (hJ2275 _ _ _ ⟨[(6, (.bool (decide ((r2260 = (0 : Int)) ∧ ((r2259.length : Int) = n_1672)))))], fit_mk (fun _ _ => rfl) (by kernel_rfl) (vs_cons (Eq.trans (b := (.bool (decide ((r2259.length : Int) = n_1672)))) (by kernel_rfl) (dec_d ((and_iff_right h2278).trans Iff.rfl)).symm) vs_nil), rfl, rfl⟩)
                ·
                  refine sq (o_pv (.bool false) rfl (x_df (p := r2260 = (0 : Int)) (by kernel_rfl) h2278) ?_)
                  refine sq (o_pv (.bool false) rfl (by kernel_rfl) ?_)
                  refine sq (o_not (by kernel_rfl) ?_)
                  refine sq (o_not (by kernel_rfl) ?_)
                  refine sq (o_not (by kernel_rfl) ?_)
                  refine sq (o_not (by kernel_rfl) ?_)
                  refine sq (o_pv (.bool false) rfl (by kernel_rfl) ?_)
                  refine sq (o_pv (.bool false) rfl (by kernel_rfl) ?_)
                  refine nil_ ?_
                  refine then_normal (hJ2275 _ _ _ ⟨[(6, (.bool (decide ((r2260 = (0 : Int)) ∧ ((r2259.length : Int) = n_1672)))))], fit_mk (fun _ _ => rfl) (by kernel_rfl) (vs_cons (Eq.trans (b := (.bool false)) (by kernel_rfl) (dec_f (iff_false_intro (fun h => h2278 h.1))).symm) vs_nil), rfl, rfl⟩)
              ·
                rintro _ w2276 g2277 ⟨rfl, hw⟩
                subst hw
                refine then_normal (K2272 _ _ _ _ ?_)
                refine wp_ret ?_
                have E2279 := (Evo.thenW E1977 (Step.evo s2263) m1678.wr)
                refine end_ret hQ (.bool (decide ((r2260 = (0 : Int)) ∧ ((r2259.length : Int) = n_1672)))) (by kernel_rfl) ?_
                exact ⟨(decide ((r2260 = (0 : Int)) ∧ ((r2259.length : Int) = n_1672))), hp, E2279, rfl⟩

def simfs_FS_Arm_p (f_ : S_simfs_FS) (n_ : Int) (keep : (List Bool)) (Q : S_simfs_FS → Prop) : Prop :=
  ((inR .i64 n_) → ((keep.length ≤ 9223372036854775807) → (slices_Clone_bool_bool_p keep (fun (r8 : (List Bool)) => ((r8.length ≤ 9223372036854775807) → ((f_.pending.length ≤ 9223372036854775807) → ((inR .i64 f_.quota) → ((inR .i64 f_.now) → ((inR .i64 f_.inodes) → ((inR .i64 f_.ops_) → ((inR .i64 f_.left) → ((f_.keep.length ≤ 9223372036854775807) → Q (S_simfs_FS.mk f_.kept f_.files f_.pending f_.quota f_.now f_.inodes f_.ops_ f_.off true (max n_ (1 : Int)) r8)))))))))))))
set_option maxRecDepth 20000 in
set_option maxHeartbeats 4000000 in
theorem simfs_FS_Arm_w {X : List Nat} {w : World} {f_ : S_simfs_FS} {n_ : Int} {keep : (List Bool)} {bf_1 : Nat} {Ff_2 : List Nat} {akeep5 : Option Addr} {ckeep6 : Nat} {Q : S_simfs_FS → Prop} (hX0 : Old X w) (mf_3 : MO o_simfs_FS 50 Ff_2 w.heap.size X w Ff_2 bf_1 f_) (rn_4 : inR .i64 n_) (hkeep7 : Sl rBool X w akeep5 ckeep6 keep) (hp : simfs_FS_Arm_p f_ n_ keep Q) :
    Calls Tryd.prog 8 #[(.pointer (some ⟨bf_1, 0, none⟩)), (.int .i64 n_), (.slice akeep5 keep.length ckeep6)] w (Ret fun v w' => ∃ (m0 : S_simfs_FS), Q m0 ∧ ∃ (X' : List Nat) (Fm0 : List Nat), Step X w Ff_2 X' w' ∧ v = .tuple #[] ∧ MO o_simfs_FS 50 Ff_2 w.heap.size X' w' Fm0 bf_1 m0) := by
  have hXo := hX0
  have E0 : Evo Ff_2 w w := RB.refl _ _ _
  have hS : Sub X X := Sub.refl _
  have hN : News X w X w := News.refl _ _
  have hF0 : Sub Ff_2 X := MO.mem mf_3
  unfold simfs_FS_Arm_p at hp
  refine enter_ Tryd.func8 rfl 19 [(0, (.pointer (some ⟨bf_1, 0, none⟩))), (1, (.int .i64 n_)), (2, (.slice akeep5 keep.length ckeep6))] (by kernel_rfl) (fun Qe hQ => ?_)
  replace hp := hp rn_4
  replace hp := hp (Sl.len hkeep7)
  refine reg_ ?_
  refine sq (o_pv (.pointer (some ⟨bf_1, 0, none⟩)) rfl (by kernel_rfl) ?_)
  refine sq (o_pv (.pointer (some ⟨bf_1, 0, none⟩)) rfl (by kernel_rfl) ?_)
  refine sq (o_pv (.pointer (some ⟨bf_1, 0, none⟩)) rfl (by kernel_rfl) ?_)
  refine sq (o_pv (.int .i64 n_) rfl (by kernel_rfl) ?_)
  refine sq (o_pv (.int .i64 (max n_ (1 : Int))) rfl (x_max (k := .i64) (a := n_) (b := (1 : Int)) (max n_ (1 : Int)) (by kernel_rfl) (by kernel_rfl) rfl) ?_)
  refine sq (o_pv (.slice akeep5 keep.length ckeep6) rfl (by kernel_rfl) ?_)
  refine sq (o_call 23 #[(.slice akeep5 keep.length ckeep6)] rfl (x_call Tryd.call23 (by kernel_rfl)) (slices_Clone_bool_bool_w (X := X) (s := keep) hXo (Sl.sq hkeep7) hp) ?_)
  rintro _ w9 ⟨r8, hp, e10, a12, c13, rfl, O14⟩
  obtain ⟨X15, s11, O16, n17⟩ := OS.own_in O14 e10 E0.size
  have p18 := n17 _ (MO.old mf_3)
  replace hp := hp (OS.len O16)
  refine sq (o_pv (.pointer (some ⟨bf_1, 0, none⟩)) rfl (by kernel_rfl) ?_)
  have mf_19 := (MO.step0 mf_3 s11)
  obtain ⟨rokept20, rofiles22, ao24, no25, co26, aokeep33, cokeep34, k36, mokept21, mofiles23, Oo27, roquota28, ronow29, roinodes30, roops_31, roleft32, hokeep35, sb37, sb38, sb39, sb40, p41, p42, p43, p44, p45, p46⟩ := o_simfs_FS_open mf_19
  have p47 := Ap.subr (Ap.symm p18) sb37
  have p48 := Ap.subr (Ap.symm p18) sb38
  have p49 := Ap.subr (Ap.symm p18) sb39
  have p50 := Ap.subr (Ap.symm p18) sb40
  replace hp := hp (OS.len Oo27)
  replace hp := hp roquota28
  replace hp := hp ronow29
  replace hp := hp roinodes30
  replace hp := hp roops_31
  replace hp := hp roleft32
  replace hp := hp (Sl.len hokeep35)
  refine sq (o_pv (.pointer (some ⟨bf_1, 8, none⟩)) rfl (by kernel_rfl) ?_)
  have E51 := (Evo.then0 E0 (Step.evo s11))
  refine sq (o_stB (o := 8) (v := (.bool true)) [(.map (some rokept20)), (.map (some rofiles22)), (.slice ao24 no25 co26), (.int .i64 f_.quota), (.int .i64 f_.now), (.int .i64 f_.inodes), (.int .i64 f_.ops_), (.bool f_.off), (.bool true), (.int .i64 f_.left), (.slice aokeep33 f_.keep.length cokeep34)] rfl k36 (by kernel_rfl) (by kernel_rfl) Tryd.sizeOf4 rfl rfl rfl ?_)
  intro w52 s53 k54
  refine sq (o_pv (.pointer (some ⟨bf_1, 0, none⟩)) rfl (by kernel_rfl) ?_)
  refine sq (o_pv (.pointer (some ⟨bf_1, 9, none⟩)) rfl (by kernel_rfl) ?_)
  have O55 := (OS.step O16 s53 p47)
  have mokept56 := (OM.step mokept21 s53 (Ap.symm p41))
  have mofiles57 := (OM.step mofiles23 s53 (Ap.symm p42))
  have Oo58 := (OS.step Oo27 s53 (Ap.symm p43))
  have E59 := (Evo.thenW E51 (Step.evo s53) k36.2.2)
  refine sq (o_stB (o := 9) (v := (.int .i64 (max n_ (1 : Int)))) [(.map (some rokept20)), (.map (some rofiles22)), (.slice ao24 no25 co26), (.int .i64 f_.quota), (.int .i64 f_.now), (.int .i64 f_.inodes), (.int .i64 f_.ops_), (.bool f_.off), (.bool true), (.int .i64 (max n_ (1 : Int))), (.slice aokeep33 f_.keep.length cokeep34)] rfl k54 (by kernel_rfl) (by kernel_rfl) Tryd.sizeOf3 rfl rfl rfl ?_)
  intro w60 s61 k62
  refine sq (o_pv (.pointer (some ⟨bf_1, 0, none⟩)) rfl (by kernel_rfl) ?_)
  refine sq (o_pv (.pointer (some ⟨bf_1, 10, none⟩)) rfl (by kernel_rfl) ?_)
  have O63 := (OS.step O55 s61 p47)
  have mokept64 := (OM.step mokept56 s61 (Ap.symm p41))
  have mofiles65 := (OM.step mofiles57 s61 (Ap.symm p42))
  have Oo66 := (OS.step Oo58 s61 (Ap.symm p43))
  have E67 := (Evo.thenW E59 (Step.evo s61) k54.2.2)
  refine sq (o_stB (o := 10) (v := (.slice a12 r8.length c13)) [(.map (some rokept20)), (.map (some rofiles22)), (.slice ao24 no25 co26), (.int .i64 f_.quota), (.int .i64 f_.now), (.int .i64 f_.inodes), (.int .i64 f_.ops_), (.bool f_.off), (.bool true), (.int .i64 (max n_ (1 : Int))), (.slice a12 r8.length c13)] rfl k62 (by kernel_rfl) (by kernel_rfl) Tryd.sizeOf34 rfl rfl rfl ?_)
  intro w68 s69 k70
  refine nil_ ?_
  have O71 := (OS.step O63 s69 p47)
  have hS72 := (Sub.trans (Sub.trans (Sub.trans (Sub.trans hS (Step.up s11)) (Step.up s53)) (Step.up s61)) (Step.up s69))
  have hkeep78 := (Sl.step (Sl.step (Sl.step (Sl.step hkeep7 s11) s53) s61) s69)
  have hXo79 := (Old.step (Old.step (Old.step (Old.step hXo s11) s53) s61) s69)
  have E80 := (Evo.thenW E67 (Step.evo s69) k62.2.2)
  have hN81 := (News.step (News.step (News.step (News.step hN s11) s53) s61) s69)
  have mokept82 := (OM.step mokept64 s69 (Ap.symm p41))
  have mofiles83 := (OM.step mofiles65 s69 (Ap.symm p42))
  have Oo84 := (OS.step Oo66 s69 (Ap.symm p43))
  have hokeep85 := (Sl.step (Sl.step (Sl.step hokeep35 s53) s61) s69)
  have ax77 := OS.apold O71 hX0
  obtain ⟨X73, u74, r75, hm76⟩ := OS.release O71
  have hkeep86 := (Sl.less hkeep78 u74)
  have hXo87 := (Old.less hXo79 u74)
  have E88 := E80
  have hS89 := (hm76 _ ax77 hS72)
  have hN90 := (News.less hN81 u74)
  have k91 := (OB.less k70 (hm76 _ (Ap.symm p47) (OB.mem k70)))
  have mokept92 := (OM.less mokept82 u74 (hm76 _ (Ap.symm p48) (OM.mem mokept82)))
  have mofiles93 := (OM.less mofiles83 u74 (hm76 _ (Ap.symm p49) (OM.mem mofiles83)))
  have Oo94 := (OS.less Oo84 u74 (hm76 _ (Ap.symm p50) (OS.mem Oo84)))
  have hokeep95 := (Sl.less hokeep85 u74)
  obtain ⟨F96, m97, hs98⟩ := MO.pack (o_simfs_FS_mk k91 mokept92 mofiles93 Oo94 roquota28 ronow29 roinodes30 roops_31 (inR_max rn_4 (by decide : inR .i64 (1 : Int))) r75 rfl p41 p42 p43 p44 p45 p46)
  refine end_normal hQ (.tuple #[]) (by kernel_rfl) ?_
  exact ⟨(S_simfs_FS.mk f_.kept f_.files f_.pending f_.quota f_.now f_.inodes f_.ops_ f_.off true (max n_ (1 : Int)) r8), hp, X73, F96, step_of E88 hF0 hS89 hN90, rfl, m97⟩

def simfs_FS_Off_p (f_ : S_simfs_FS) (Q : S_simfs_FS → Bool → Prop) : Prop :=
  ((f_.pending.length ≤ 9223372036854775807) → ((inR .i64 f_.quota) → ((inR .i64 f_.now) → ((inR .i64 f_.inodes) → ((inR .i64 f_.ops_) → ((inR .i64 f_.left) → ((f_.keep.length ≤ 9223372036854775807) → Q f_ f_.off)))))))
set_option maxRecDepth 20000 in
set_option maxHeartbeats 4000000 in
theorem simfs_FS_Off_w {X : List Nat} {w : World} {f_ : S_simfs_FS} {bf_1 : Nat} {Ff_2 : List Nat} {Q : S_simfs_FS → Bool → Prop} (hX0 : Old X w) (mf_3 : MO o_simfs_FS 50 Ff_2 w.heap.size X w Ff_2 bf_1 f_) (hp : simfs_FS_Off_p f_ Q) :
    Calls Tryd.prog 10 #[(.pointer (some ⟨bf_1, 0, none⟩))] w (Ret fun v w' => ∃ (m0 : S_simfs_FS) (r0 : Bool), Q m0 r0 ∧ ∃ (X' : List Nat) (Fm0 : List Nat), Step X w Ff_2 X' w' ∧ v = (.bool r0) ∧ MO o_simfs_FS 50 Ff_2 w.heap.size X' w' Fm0 bf_1 m0) := by
  have hXo := hX0
  have E0 : Evo Ff_2 w w := RB.refl _ _ _
  have hS : Sub X X := Sub.refl _
  have hN : News X w X w := News.refl _ _
  have hF0 : Sub Ff_2 X := MO.mem mf_3
  unfold simfs_FS_Off_p at hp
  refine enter_ Tryd.func10 rfl 7 [(0, (.pointer (some ⟨bf_1, 0, none⟩)))] (by kernel_rfl) (fun Qe hQ => ?_)
  refine seq_ (fun _ K4 => ?_)
  refine reg_ ?_
  refine sq (o_pv (.bool false) rfl (by kernel_rfl) ?_)
  refine nil_ ?_
  refine then_normal (K4 _ _ _ _ ?_)
  refine seq_ (fun _ K5 => ?_)
  refine reg_ ?_
  refine sq (o_pv (.pointer (some ⟨bf_1, 0, none⟩)) rfl (by kernel_rfl) ?_)
  refine sq (o_pv (.pointer (some ⟨bf_1, 0, none⟩)) rfl (by kernel_rfl) ?_)
  obtain ⟨rokept6, rofiles8, ao10, no11, co12, aokeep19, cokeep20, k22, mokept7, mofiles9, Oo13, roquota14, ronow15, roinodes16, roops_17, roleft18, hokeep21, sb23, sb24, sb25, sb26, p27, p28, p29, p30, p31, p32⟩ := o_simfs_FS_open mf_3
  replace hp := hp (OS.len Oo13)
  replace hp := hp roquota14
  replace hp := hp ronow15
  replace hp := hp roinodes16
  replace hp := hp roops_17
  replace hp := hp roleft18
  replace hp := hp (Sl.len hokeep21)
  refine sq (o_pv (.pointer (some ⟨bf_1, 7, none⟩)) rfl (by kernel_rfl) ?_)
  refine sq (o_pv (.bool f_.off) rfl (x_load1 (by kernel_rfl) Tryd.isAgg4 (k22.2.1.cell' 7 rfl)) ?_)
  refine sq (o_pv (.bool f_.off) rfl (by kernel_rfl) ?_)
  refine nil_ ?_
  refine then_normal (K5 _ _ _ _ ?_)
  refine wp_ret ?_
  obtain ⟨F33, m34, hs35⟩ := MO.pack (o_simfs_FS_mk k22 mokept7 mofiles9 Oo13 roquota14 ronow15 roinodes16 roops_17 roleft18 hokeep21 rfl p27 p28 p29 p30 p31 p32)
  refine end_ret hQ (.bool f_.off) (by kernel_rfl) ?_
  exact ⟨f_, f_.off, hp, X, F33, step_of E0 hF0 hS hN, rfl, m34⟩

end Go.Proofs.YtaolmfepdmgohaaDoor
