/- Walks of functions: what each asks and computes, as a plain predicate, and the contract from it. -/
import Derived.Test.YtaolmfepdmgohaaDoorChecked
import Derived.Test.YtaolmfepdmgohaaDoorFi4
namespace Go.Proofs.YtaolmfepdmgohaaDoor
open Go


def rectolaw5_FilesRename_p (a : (List Int)) (b : (List Int)) (there : Bool) (keep : Bool) (Q : Bool → Prop) : Prop :=
  ((a.length ≤ 9223372036854775807) → ((b.length ≤ 9223372036854775807) → (rectolaw5_known_p  (fun (r10 : Bool) => ((((!r10) = true) → Q false) ∧ (((!r10) = false) → (((((a.length : Int) > (300 : Int)) ∨ ((b.length : Int) > (300 : Int))) → Q true) ∧ ((¬ (((a.length : Int) > (300 : Int)) ∨ ((b.length : Int) > (300 : Int)))) → (simfs_New_p (0 : Int) (fun (r34 : S_simfs_FS) => (simfs_FS_Write_p r34 (ByteArray.mk #[97]) (2 : Int) a (fun (f_48 : S_simfs_FS) (r49 : Int) => ((inR .i64 r49) → (∃ k77 : S_simfs_FS → Prop, (∀ (o74 : S_simfs_FS), k77 o74 → (simfs_FS_Sync_p o74 (fun (f_111 : S_simfs_FS) (r112 : Int) => ((inR .i64 r112) → (simfs_FS_Tick_p f_111 (fun (f_126 : S_simfs_FS) => (simfs_FS_Stat_p f_126 (ByteArray.mk #[97]) (fun (f_139 : S_simfs_FS) (r140 : S_simfs_Stat) (r141 : Int) => ((inR .i64 r140.Size) → ((inR .i64 r140.Time) → ((inR .i64 r140.Inode) → ((inR .i64 r140.Mode) → ((inR .i64 r141) → (∃ k205 : Bool → S_simfs_FS → Prop, (∀ (s201 : Bool) (o202 : S_simfs_FS), k205 s201 o202 → (((s201 = true) → Q false) ∧ ((s201 = false) → (simfs_FS_Stat_p o202 (ByteArray.mk #[98]) (fun (f_268 : S_simfs_FS) (r269 : S_simfs_Stat) (r270 : Int) => ((inR .i64 r269.Size) → ((inR .i64 r269.Time) → ((inR .i64 r269.Inode) → ((inR .i64 r269.Mode) → ((inR .i64 r270) → (simfs_FS_Stat_p f_268 (ByteArray.mk #[97]) (fun (f_307 : S_simfs_FS) (r308 : S_simfs_Stat) (r309 : Int) => ((inR .i64 r308.Size) → ((inR .i64 r308.Time) → ((inR .i64 r308.Inode) → ((inR .i64 r308.Mode) → ((inR .i64 r309) → ((((¬ (r270 = (0 : Int))) ∨ ((¬ (r309 = (5 : Int))) ∨ ((¬ ((r269.Size = r140.Size) ∧ ((r269.Time = r140.Time) ∧ ((r269.Inode = r140.Inode) ∧ ((r269.Mode = r140.Mode) ∧ True))))) ∨ (¬ (r140.Time = (0 : Int)))))) → Q false) ∧ ((¬ ((¬ (r270 = (0 : Int))) ∨ ((¬ (r309 = (5 : Int))) ∨ ((¬ ((r269.Size = r140.Size) ∧ ((r269.Time = r140.Time) ∧ ((r269.Inode = r140.Inode) ∧ ((r269.Mode = r140.Mode) ∧ True))))) ∨ (¬ (r140.Time = (0 : Int))))))) → (simfs_FS_Cut_p f_307 ([keep]) (fun (f_399 : S_simfs_FS) => (simfs_FS_On_p f_399 (fun (f_419 : S_simfs_FS) => (simfs_FS_Read_p f_419 (ByteArray.mk #[97]) (fun (f_439 : S_simfs_FS) (r440 : (List Int)) (r441 : Int) => ((r440.length ≤ 9223372036854775807) → ((inR .i64 r441) → (simfs_FS_Read_p f_439 (ByteArray.mk #[98]) (fun (f_465 : S_simfs_FS) (r466 : (List Int)) (r467 : Int) => ((r466.length ≤ 9223372036854775807) → ((inR .i64 r467) → (((keep = true) → Q (decide ((r441 = (5 : Int)) ∧ ((r467 = (0 : Int)) ∧ ((strOfNums r466 : ByteArray) = strOfNums a))))) ∧ ((keep = false) → Q (decide ((r441 = (0 : Int)) ∧ (((strOfNums r440 : ByteArray) = strOfNums a) ∧ ((((decide (r467 = (0 : Int))) : Bool) = there) ∧ ((¬ (there = true)) ∨ ((strOfNums r466 : ByteArray) = strOfNums b))))))))))))))))))))))))))))))))))))))) ∧ (simfs_FS_Rename_p f_139 (ByteArray.mk #[97]) (ByteArray.mk #[98]) (fun (f_225 : S_simfs_FS) (r226 : Int) => ((inR .i64 r226) → (((r226 = (0 : Int)) → (simfs_FS_Pending_p f_225 (fun (f_242 : S_simfs_FS) (r243 : Int) => ((inR .i64 r243) → (k205 (!decide (r243 = (1 : Int))) f_242))))) ∧ ((¬ (r226 = (0 : Int))) → (k205 true f_225)))))))))))))))))))) ∧ (((there = true) → (simfs_FS_Write_p f_48 (ByteArray.mk #[98]) (1 : Int) b (fun (f_95 : S_simfs_FS) (r96 : Int) => ((inR .i64 r96) → (k77 f_95))))) ∧ ((there = false) → (k77 f_48)))))))))))))))))
set_option maxRecDepth 20000 in
set_option maxHeartbeats 4000000 in
theorem rectolaw5_FilesRename_w {X : List Nat} {w : World} {a : (List Int)} {b : (List Int)} {there : Bool} {keep : Bool} {aa1 : Option Addr} {ca2 : Nat} {ab4 : Option Addr} {cb5 : Nat} {Q : Bool → Prop} (hX0 : Old X w) (ha3 : Sl (rInt .u8) X w aa1 ca2 a) (hb6 : Sl (rInt .u8) X w ab4 cb5 b) (hp : rectolaw5_FilesRename_p a b there keep Q) :
    Calls Tryd.prog 5 #[(.slice aa1 a.length ca2), (.slice ab4 b.length cb5), (.bool there), (.bool keep)] w (Ret fun v w' => ∃ (r0 : Bool), Q r0 ∧ Evo [] w w' ∧ v = (.bool r0)) := by
  have hXo := hX0
  have E0 : Evo [] w w := RB.refl _ _ _
  have hS : Sub X X := Sub.refl _
  unfold rectolaw5_FilesRename_p at hp
  refine enter_ Tryd.func5 rfl 137 [(0, (.slice aa1 a.length ca2)), (1, (.slice ab4 b.length cb5)), (2, (.bool there)), (3, (.bool keep))] (by kernel_rfl) (fun Qe hQ => ?_)
  replace hp := hp (Sl.len ha3)
  replace hp := hp (Sl.len hb6)
  refine seq_ (fun _ K7 => ?_)
  refine reg_ ?_
  refine sq (o_pv (.bool false) rfl (by kernel_rfl) ?_)
  refine nil_ ?_
  refine then_normal (K7 _ _ _ _ ?_)
  refine seq_ (fun _ K8 => ?_)
  refine seq_ (fun _ K9 => ?_)
  refine reg_ ?_
  refine sq (o_call 6 #[] rfl (x_call Tryd.call6 (by kernel_rfl)) (rectolaw5_known_w (X := [])  (Old.nil _) hp) ?_)
  rintro _ w11 ⟨r10, hp, e12, rfl⟩
  have s13 := Step.of0 X e12
  refine sq (o_pv (.bool (!r10)) rfl (by kernel_rfl) ?_)
  refine nil_ ?_
  refine then_normal (K9 _ _ _ _ ?_)
  refine cond_b (!r10) (by kernel_rfl) (fun h14 => ?_) (fun h14 => ?_)
  ·
    replace hp := hp.1 h14
    refine seq_ (fun _ K15 => ?_)
    refine reg_ ?_
    refine sq (o_pv (.bool false) rfl (by kernel_rfl) ?_)
    refine nil_ ?_
    refine then_normal (K15 _ _ _ _ ?_)
    refine wp_ret ?_
    refine then_ret ?_
    have E16 := (Evo.then0 E0 e12)
    refine end_ret hQ (.bool false) (by kernel_rfl) ?_
    exact ⟨false, hp, E16, rfl⟩
  ·
    replace hp := hp.2 h14
    refine wp_skip ?_
    refine then_normal (K8 _ _ _ _ ?_)
    refine seq_ (fun _ K17 => ?_)
    refine seq_ (fun _ K18 => ?_)
    refine ground_ ?_
    refine join_ 1069547520 (fun lq w22 => lq = [(29, (.bool (decide (((a.length : Int) > (300 : Int)) ∨ ((b.length : Int) > (300 : Int))))))] ∧ w11 = w22) (fun Kj20 hJ21 => ?_) ?_
    ·
      refine reg_ ?_
      refine sq (o_pv (.slice aa1 a.length ca2) rfl (by kernel_rfl) ?_)
      refine sq (o_pv (.int .i64 (a.length : Int)) rfl (by kernel_rfl) ?_)
      by_cases h24 : (a.length : Int) > (300 : Int)
      ·
        refine sq (o_pv (.bool true) rfl (x_dt (p := (a.length : Int) > (300 : Int)) (by kernel_rfl) h24) ?_)
        refine sq (o_pv (.bool true) rfl (by kernel_rfl) ?_)
        refine sq (o_not (by kernel_rfl) ?_)
        refine sq (o_not (by kernel_rfl) ?_)
        refine sq (o_not (by kernel_rfl) ?_)
        refine sq (o_pv (.bool true) rfl (by kernel_rfl) ?_)
        refine nil_ ?_
        refine then_normal (hJ21 _ _ _ ⟨[(29, (.bool (decide (((a.length : Int) > (300 : Int)) ∨ ((b.length : Int) > (300 : Int))))))], fit_mk (fun _ _ => rfl) (by kernel_rfl) (vs_cons (Eq.trans (b := (.bool true)) (by kernel_rfl) (dec_t (iff_true_intro (Or.inl h24))).symm) vs_nil), rfl, rfl⟩)
      ·
        refine sq (o_pv (.bool false) rfl (x_df (p := (a.length : Int) > (300 : Int)) (by kernel_rfl) h24) ?_)
        refine sq (o_pv (.bool false) rfl (by kernel_rfl) ?_)
        refine sq (o_pv (.slice ab4 b.length cb5) (by kernel_rfl) (by kernel_rfl) ?_)
        refine sq (o_pv (.int .i64 (b.length : Int)) (by kernel_rfl) (by kernel_rfl) ?_)
        refine sq (o_pv (.bool (decide ((b.length : Int) > (300 : Int)))) (by kernel_rfl) (by kernel_rfl) ?_)
        refine sq (o_pv (.bool (decide ((b.length : Int) > (300 : Int)))) rfl (by kernel_rfl) ?_)
        refine nil_ ?_
        refine then_normal (hJ21 _ _ _ ⟨[(29, (.bool (decide (((a.length : Int) > (300 : Int)) ∨ ((b.length : Int) > (300 : Int))))))], fit_mk (fun _ _ => rfl) (by kernel_rfl) (vs_cons (Eq.trans (b := (.bool (decide ((b.length : Int) > (300 : Int))))) (by kernel_rfl) (dec_d ((or_iff_right h24).trans Iff.rfl)).symm) vs_nil), rfl, rfl⟩)
    ·
      rintro _ w22 g23 ⟨rfl, hw⟩
      subst hw
      refine then_normal (K18 _ _ _ _ ?_)
      refine cond_d (((a.length : Int) > (300 : Int)) ∨ ((b.length : Int) > (300 : Int))) (by kernel_rfl) (fun h25 => ?_) (fun h25 => ?_)
      ·
        replace hp := hp.1 h25
        refine seq_ (fun _ K26 => ?_)
        refine reg_ ?_
        refine sq (o_pv (.bool true) rfl (by kernel_rfl) ?_)
        refine nil_ ?_
        refine then_normal (K26 _ _ _ _ ?_)
        refine wp_ret ?_
        refine then_ret ?_
        have E27 := (Evo.then0 E0 e12)
        refine end_ret hQ (.bool true) (by kernel_rfl) ?_
        exact ⟨true, hp, E27, rfl⟩
      ·
        replace hp := hp.2 h25
        refine wp_skip ?_
        refine then_normal (K17 _ _ _ _ ?_)
        refine seq_ (fun _ K28 => ?_)
        refine reg_ ?_
        have ha29 := (Sl.step ha3 s13)
        have hb30 := (Sl.step hb6 s13)
        have hXo31 := (Old.step hXo s13)
        have E32 := (Evo.then0 E0 e12)
        have hS33 := (Sub.trans hS (Step.up s13))
        refine sq (o_call 7 #[(.int .i64 (0 : Int))] rfl (x_call Tryd.call7 (by kernel_rfl)) (simfs_New_w (X := X) (quota := (0 : Int)) hXo31 (by decide : inR .i64 (0 : Int)) hp) ?_)
        rintro _ w35 ⟨r34, hp, X36, br38, Fr39, s37, rfl, mr40⟩
        have m41 := MO.re mr40 (Wr.trans mr40.wr (Wr.nil [] _) E32.size)
        refine sq (o_pv (.pointer (some ⟨br38, 0, none⟩)) rfl (by kernel_rfl) ?_)
        refine nil_ ?_
        refine then_normal (K28 _ _ _ _ ?_)
        refine seq_ (fun _ K42 => ?_)
        refine reg_ ?_
        refine sq (o_pv (.pointer (some ⟨br38, 0, none⟩)) rfl (by kernel_rfl) ?_)
        refine sq (o_pv (.slice aa1 a.length ca2) rfl (by kernel_rfl) ?_)
        have ha43 := (Sl.step ha29 s37)
        have hb44 := (Sl.step hb30 s37)
        have hXo45 := (Old.step hXo31 s37)
        have E46 := (Evo.then0 E32 (Step.evo s37))
        have hS47 := (Sub.trans hS33 (Step.up s37))
        refine sq (o_call 9 #[(.pointer (some ⟨br38, 0, none⟩)), (.string (ByteArray.mk #[97])), (.int .i64 (2 : Int)), (.slice aa1 a.length ca2)] rfl (x_call Tryd.call9 (by kernel_rfl)) (simfs_FS_Write_w (X := X36) (f_ := r34) (p := (ByteArray.mk #[97])) (mode := (2 : Int)) (b := a) hXo45 (MO.re m41 (Wr.self _ _ (Sub.refl _))) (by decide : (ByteArray.mk #[97]).size ≤ maxLen) (by decide : inR .i64 (2 : Int)) ha43 hp) ?_)
        rintro _ w50 ⟨f_48, r49, hp, X51, F53, s52, rfl, m54, rr55⟩
        have m56 := MO.re m54 (Wr.trans m54.wr m41.wr E46.size)
        replace hp := hp rr55
        refine nil_ ?_
        refine then_normal (K42 _ _ _ _ ?_)
        refine seq_ (fun _ K57 => ?_)
        refine seq_ (fun _ K58 => ?_)
        refine reg_ ?_
        refine sq (o_pv (.bool there) rfl (by kernel_rfl) ?_)
        refine nil_ ?_
        refine then_normal (K58 _ _ _ _ ?_)
        have ha84 := (Sl.step ha43 s52)
        have hb85 := (Sl.step hb44 s52)
        have hXo86 := (Old.step hXo45 s52)
        have E87 := (Evo.thenW E46 (Step.evo s52) m41.wr)
        have hS88 := (Sub.trans hS47 (Step.up s52))
        obtain ⟨k77, hk78, hp⟩ := hp
        refine ground_ ?_
        refine join_ 240518168576 (fun lq w79 => ∃ (X80 : List Nat) (o74 : S_simfs_FS) (F75 : List Nat), (lq = []) ∧ (Evo [] w w79) ∧ (Old X80 w79) ∧ (Sub X X80) ∧ (Sl (rInt .u8) X80 w79 aa1 ca2 a) ∧ (Sl (rInt .u8) X80 w79 ab4 cb5 b) ∧ (MO o_simfs_FS 50 ([]) w.heap.size X80 w79 F75 br38 o74) ∧ (k77 o74)) (fun Kj81 hJ82 => ?_) ?_
        ·
          refine cond_b there (by kernel_rfl) (fun h94 => ?_) (fun h94 => ?_)
          ·
            replace hp := hp.1 h94
            refine reg_ ?_
            refine sq (o_pv (.pointer (some ⟨br38, 0, none⟩)) rfl (by kernel_rfl) ?_)
            refine sq (o_pv (.slice ab4 b.length cb5) rfl (by kernel_rfl) ?_)
            refine sq (o_call 9 #[(.pointer (some ⟨br38, 0, none⟩)), (.string (ByteArray.mk #[98])), (.int .i64 (1 : Int)), (.slice ab4 b.length cb5)] rfl (x_call Tryd.call9 (by kernel_rfl)) (simfs_FS_Write_w (X := X51) (f_ := f_48) (p := (ByteArray.mk #[98])) (mode := (1 : Int)) (b := b) hXo86 (MO.re m56 (Wr.self _ _ (Sub.refl _))) (by decide : (ByteArray.mk #[98]).size ≤ maxLen) (by decide : inR .i64 (1 : Int)) hb85 hp) ?_)
            rintro _ w97 ⟨f_95, r96, hp, X98, F100, s99, rfl, m101, rr102⟩
            have m103 := MO.re m101 (Wr.trans m101.wr m56.wr E87.size)
            replace hp := hp rr102
            refine nil_ ?_
            have E104 := (Evo.thenW E87 (Step.evo s99) m56.wr)
            have hXo105 := (Old.step hXo86 s99)
            have hS106 := (Sub.trans hS88 (Step.up s99))
            have ha107 := (Sl.step ha84 s99)
            have hb108 := (Sl.step hb85 s99)
            refine then_normal (hJ82 _ _ _ ⟨[], fit_mk (fun _ _ => rfl) (by kernel_rfl) vs_nil, ?_⟩)
            exact ⟨X98, f_95, F100, rfl, E104, hXo105, hS106, ha107, hb108, m103, hp⟩
          ·
            replace hp := hp.2 h94
            refine wp_skip ?_
            refine then_normal (hJ82 _ _ _ ⟨[], fit_mk (fun _ _ => rfl) (by kernel_rfl) vs_nil, ?_⟩)
            exact ⟨X51, f_48, F53, rfl, E87, hXo86, hS88, ha84, hb85, m56, hp⟩
        ·
          rintro _ w79 g109 ⟨X80, o74, F75, rfl, E89, hXo90, hS91, ha92, hb93, m76, hv83⟩
          replace hp := hk78 o74 hv83
          refine then_normal (K57 _ _ _ _ ?_)
          refine seq_ (fun _ K110 => ?_)
          refine reg_ ?_
          refine sq (o_pv (.pointer (some ⟨br38, 0, none⟩)) rfl (by kernel_rfl) ?_)
          refine sq (o_call 15 #[(.pointer (some ⟨br38, 0, none⟩))] rfl (x_call Tryd.call15 (by kernel_rfl)) (simfs_FS_Sync_w (X := X80) (f_ := o74) hXo90 (MO.re m76 (Wr.self _ _ (Sub.refl _))) hp) ?_)
          rintro _ w113 ⟨f_111, r112, hp, X114, F116, s115, rfl, m117, rr118⟩
          have m119 := MO.re m117 (Wr.trans m117.wr m76.wr E89.size)
          replace hp := hp rr118
          refine nil_ ?_
          refine then_normal (K110 _ _ _ _ ?_)
          refine seq_ (fun _ K120 => ?_)
          refine reg_ ?_
          refine sq (o_pv (.pointer (some ⟨br38, 0, none⟩)) rfl (by kernel_rfl) ?_)
          have E121 := (Evo.thenW E89 (Step.evo s115) m76.wr)
          have hXo122 := (Old.step hXo90 s115)
          have hS123 := (Sub.trans hS91 (Step.up s115))
          have ha124 := (Sl.step ha92 s115)
          have hb125 := (Sl.step hb93 s115)
          refine sq (o_call 18 #[(.pointer (some ⟨br38, 0, none⟩))] rfl (x_call Tryd.call18 (by kernel_rfl)) (simfs_FS_Tick_w (X := X114) (f_ := f_111) hXo122 (MO.re m119 (Wr.self _ _ (Sub.refl _))) hp) ?_)
          rintro _ w127 ⟨f_126, hp, X128, F130, s129, rfl, m131⟩
          have m132 := MO.re m131 (Wr.trans m131.wr m119.wr E121.size)
          refine nil_ ?_
          refine then_normal (K120 _ _ _ _ ?_)
          refine seq_ (fun _ K133 => ?_)
          refine reg_ ?_
          refine sq (o_pv (.pointer (some ⟨br38, 0, none⟩)) rfl (by kernel_rfl) ?_)
          have E134 := (Evo.thenW E121 (Step.evo s129) m119.wr)
          have hXo135 := (Old.step hXo122 s129)
          have hS136 := (Sub.trans hS123 (Step.up s129))
          have ha137 := (Sl.step ha124 s129)
          have hb138 := (Sl.step hb125 s129)
          refine sq (o_call 19 #[(.pointer (some ⟨br38, 0, none⟩)), (.string (ByteArray.mk #[97]))] rfl (x_call Tryd.call19 (by kernel_rfl)) (simfs_FS_Stat_w (X := X128) (f_ := f_126) (p := (ByteArray.mk #[97])) hXo135 (MO.re m132 (Wr.self _ _ (Sub.refl _))) (by decide : (ByteArray.mk #[97]).size ≤ maxLen) hp) ?_)
          rintro _ w142 ⟨f_139, r140, r141, hp, X143, F145, s144, rfl, m146, rrSize147, rrTime148, rrInode149, rrMode150, rr151⟩
          have m152 := MO.re m146 (Wr.trans m146.wr m132.wr E134.size)
          replace hp := hp rrSize147
          replace hp := hp rrTime148
          replace hp := hp rrInode149
          replace hp := hp rrMode150
          replace hp := hp rr151
          refine sq (o_pv (.tuple #[(.agg #[(.int .i64 r140.Size), (.int .i64 r140.Time), (.int .i64 r140.Inode), (.int .i64 r140.Mode)]), (.int .i64 r141)]) rfl (by kernel_rfl) ?_)
          refine sq (o_pv (.agg #[(.int .i64 r140.Size), (.int .i64 r140.Time), (.int .i64 r140.Inode), (.int .i64 r140.Mode)]) rfl (by kernel_rfl) ?_)
          refine sq (o_pv (.int .i64 r141) rfl (by kernel_rfl) ?_)
          have E159 := (Evo.thenW E134 (Step.evo s144) m132.wr)
          refine sq (o_newX [(.int .i64 (0 : Int)), (.int .i64 (0 : Int)), (.int .i64 (0 : Int)), (.int .i64 (0 : Int))] 42 (X := X143) (B := w.heap.size) E159.size rfl (by kernel_rfl) ?_)
          intro b153 w154 X155 s156 k157 n158
          have p160 := n158 _ (MO.old m152)
          have m161 := (MO.step0 m152 s156)
          have E162 := (Evo.then0 E159 (Step.evo s156))
          refine sq (o_stB (o := 0) (v := (.agg #[(.int .i64 r140.Size), (.int .i64 r140.Time), (.int .i64 r140.Inode), (.int .i64 r140.Mode)])) [(.int .i64 r140.Size), (.int .i64 r140.Time), (.int .i64 r140.Inode), (.int .i64 r140.Mode)] rfl k157 (by kernel_rfl) (by kernel_rfl) Tryd.sizeOf42 rfl rfl rfl ?_)
          intro w163 s164 k165
          refine sq (o_pv (.int .i64 r141) rfl (by kernel_rfl) ?_)
          refine nil_ ?_
          refine then_normal (K133 _ _ _ _ ?_)
          refine seq_ (fun _ K166 => ?_)
          refine seq_ (fun _ K167 => ?_)
          have E212 := (Evo.thenW E162 (Step.evo s164) k157.2.2)
          have hXo213 := (Old.step (Old.step (Old.step hXo135 s144) s156) s164)
          have hS214 := (Sub.trans (Sub.trans (Sub.trans hS136 (Step.up s144)) (Step.up s156)) (Step.up s164))
          have ha215 := (Sl.step (Sl.step (Sl.step ha137 s144) s156) s164)
          have hb216 := (Sl.step (Sl.step (Sl.step hb138 s144) s156) s164)
          have m217 := (MO.step m161 s164 p160)
          obtain ⟨k205, hk206, hp⟩ := hp
          refine ground_ ?_
          refine join_ 35888059530608640 (fun lq w207 => ∃ (X208 : List Nat) (s201 : Bool) (o202 : S_simfs_FS) (F203 : List Nat), (lq = [(54, (.bool s201))]) ∧ (Evo [] w w207) ∧ (Old X208 w207) ∧ (Sub X X208) ∧ (Sl (rInt .u8) X208 w207 aa1 ca2 a) ∧ (Sl (rInt .u8) X208 w207 ab4 cb5 b) ∧ (OB ([]) w.heap.size X208 w207 b153 [(.int .i64 r140.Size), (.int .i64 r140.Time), (.int .i64 r140.Inode), (.int .i64 r140.Mode)] 42) ∧ (MO o_simfs_FS 50 ([]) w.heap.size X208 w207 F203 br38 o202) ∧ (Ap ([b153]) (F203)) ∧ (k205 s201 o202)) (fun Kj209 hJ210 => ?_) ?_
          ·
            refine reg_ ?_
            refine sq (o_pv (.pointer (some ⟨br38, 0, none⟩)) rfl (by kernel_rfl) ?_)
            refine sq (o_call 20 #[(.pointer (some ⟨br38, 0, none⟩)), (.string (ByteArray.mk #[97])), (.string (ByteArray.mk #[98]))] rfl (x_call Tryd.call20 (by kernel_rfl)) (simfs_FS_Rename_w (X := X155) (f_ := f_139) (from_ := (ByteArray.mk #[97])) (to_ := (ByteArray.mk #[98])) hXo213 (MO.re m217 (Wr.self _ _ (Sub.refl _))) (by decide : (ByteArray.mk #[97]).size ≤ maxLen) (by decide : (ByteArray.mk #[98]).size ≤ maxLen) hp) ?_)
            rintro _ w227 ⟨f_225, r226, hp, X228, F230, s229, rfl, m231, rr232⟩
            have m233 := MO.re m231 (Wr.trans m231.wr m217.wr E212.size)
            have p234 := Ap.grow m231.wr (Ap.symm p160) (OB.old k165) (Nat.le_refl _)
            replace hp := hp rr232
            by_cases h235 : r226 = (0 : Int)
            ·
              replace hp := hp.1 h235
              refine sq (o_pv (.bool false) rfl (x_ndf (p := r226 = (0 : Int)) (by kernel_rfl) h235) ?_)
              refine sq (o_pv (.bool false) rfl (by kernel_rfl) ?_)
              refine sq (o_pv (.pointer (some ⟨br38, 0, none⟩)) (by kernel_rfl) (by kernel_rfl) ?_)
              have E236 := (Evo.thenW E212 (Step.evo s229) m217.wr)
              have hXo237 := (Old.step hXo213 s229)
              have hS238 := (Sub.trans hS214 (Step.up s229))
              have ha239 := (Sl.step ha215 s229)
              have hb240 := (Sl.step hb216 s229)
              have k241 := (OB.step k165 s229 (Ap.symm p160))
              refine sq (o_call 14 #[(.pointer (some ⟨br38, 0, none⟩))] (by kernel_rfl) (x_call Tryd.call14 (by kernel_rfl)) (simfs_FS_Pending_w (X := X228) (f_ := f_225) hXo237 (MO.re m233 (Wr.self _ _ (Sub.refl _))) hp) ?_)
              rintro _ w244 ⟨f_242, r243, hp, X245, F247, s246, rfl, m248, rr249⟩
              have m250 := MO.re m248 (Wr.trans m248.wr m233.wr E236.size)
              have p251 := Ap.grow m248.wr p234 (OB.old k241) (Nat.le_refl _)
              replace hp := hp rr249
              refine sq (o_pv (.bool (!decide (r243 = (1 : Int)))) (by kernel_rfl) (by kernel_rfl) ?_)
              refine sq (o_pv (.bool (!decide (r243 = (1 : Int)))) rfl (by kernel_rfl) ?_)
              refine nil_ ?_
              have E252 := (Evo.thenW E236 (Step.evo s246) m233.wr)
              have hXo253 := (Old.step hXo237 s246)
              have hS254 := (Sub.trans hS238 (Step.up s246))
              have ha255 := (Sl.step ha239 s246)
              have hb256 := (Sl.step hb240 s246)
              have k257 := (OB.step k241 s246 p234)
              refine then_normal (hJ210 _ _ _ ⟨[(54, (.bool (!decide (r243 = (1 : Int)))))], fit_mk (fun _ _ => rfl) (by kernel_rfl) (vs_cons (by kernel_rfl) vs_nil), ?_⟩)
              exact ⟨X245, (!decide (r243 = (1 : Int))), f_242, F247, rfl, E252, hXo253, hS254, ha255, hb256, k257, m250, p251, hp⟩
            ·
              replace hp := hp.2 h235
              refine sq (o_pv (.bool true) rfl (x_ndt (p := r226 = (0 : Int)) (by kernel_rfl) h235) ?_)
              refine sq (o_pv (.bool true) rfl (by kernel_rfl) ?_)
              refine sq (o_not (by kernel_rfl) ?_)
              refine sq (o_not (by kernel_rfl) ?_)
              refine sq (o_not (by kernel_rfl) ?_)
              refine sq (o_pv (.bool true) rfl (by kernel_rfl) ?_)
              refine nil_ ?_
              have E258 := (Evo.thenW E212 (Step.evo s229) m217.wr)
              have hXo259 := (Old.step hXo213 s229)
              have hS260 := (Sub.trans hS214 (Step.up s229))
              have ha261 := (Sl.step ha215 s229)
              have hb262 := (Sl.step hb216 s229)
              have k263 := (OB.step k165 s229 (Ap.symm p160))
              refine then_normal (hJ210 _ _ _ ⟨[(54, (.bool true))], fit_mk (fun _ _ => rfl) (by kernel_rfl) (vs_cons (by kernel_rfl) vs_nil), ?_⟩)
              exact ⟨X228, true, f_225, F230, rfl, E258, hXo259, hS260, ha261, hb262, k263, m233, p234, hp⟩
          ·
            rintro _ w207 g264 ⟨X208, s201, o202, F203, rfl, E218, hXo219, hS220, ha221, hb222, k223, m204, p224, hv211⟩
            replace hp := hk206 s201 o202 hv211
            refine then_normal (K167 _ _ _ _ ?_)
            refine cond_b s201 (by kernel_rfl) (fun h265 => ?_) (fun h265 => ?_)
            ·
              replace hp := hp.1 h265
              refine seq_ (fun _ K266 => ?_)
              refine reg_ ?_
              refine sq (o_pv (.bool false) rfl (by kernel_rfl) ?_)
              refine nil_ ?_
              refine then_normal (K266 _ _ _ _ ?_)
              refine wp_ret ?_
              refine then_ret ?_
              refine end_ret hQ (.bool false) (by kernel_rfl) ?_
              exact ⟨false, hp, E218, rfl⟩
            ·
              replace hp := hp.2 h265
              refine wp_skip ?_
              refine then_normal (K166 _ _ _ _ ?_)
              refine seq_ (fun _ K267 => ?_)
              refine reg_ ?_
              refine sq (o_pv (.pointer (some ⟨br38, 0, none⟩)) rfl (by kernel_rfl) ?_)
              refine sq (o_call 19 #[(.pointer (some ⟨br38, 0, none⟩)), (.string (ByteArray.mk #[98]))] rfl (x_call Tryd.call19 (by kernel_rfl)) (simfs_FS_Stat_w (X := X208) (f_ := o202) (p := (ByteArray.mk #[98])) hXo219 (MO.re m204 (Wr.self _ _ (Sub.refl _))) (by decide : (ByteArray.mk #[98]).size ≤ maxLen) hp) ?_)
              rintro _ w271 ⟨f_268, r269, r270, hp, X272, F274, s273, rfl, m275, rrSize276, rrTime277, rrInode278, rrMode279, rr280⟩
              have m281 := MO.re m275 (Wr.trans m275.wr m204.wr E218.size)
              have p282 := Ap.grow m275.wr p224 (OB.old k223) (Nat.le_refl _)
              replace hp := hp rrSize276
              replace hp := hp rrTime277
              replace hp := hp rrInode278
              replace hp := hp rrMode279
              replace hp := hp rr280
              refine sq (o_pv (.tuple #[(.agg #[(.int .i64 r269.Size), (.int .i64 r269.Time), (.int .i64 r269.Inode), (.int .i64 r269.Mode)]), (.int .i64 r270)]) rfl (by kernel_rfl) ?_)
              refine sq (o_pv (.agg #[(.int .i64 r269.Size), (.int .i64 r269.Time), (.int .i64 r269.Inode), (.int .i64 r269.Mode)]) rfl (by kernel_rfl) ?_)
              refine sq (o_pv (.int .i64 r270) rfl (by kernel_rfl) ?_)
              have k289 := (OB.step k223 s273 p224)
              have E290 := (Evo.thenW E218 (Step.evo s273) m204.wr)
              refine sq (o_newX [(.int .i64 (0 : Int)), (.int .i64 (0 : Int)), (.int .i64 (0 : Int)), (.int .i64 (0 : Int))] 42 (X := X272) (B := w.heap.size) E290.size rfl (by kernel_rfl) ?_)
              intro b283 w284 X285 s286 k287 n288
              have p291 := n288 _ (OB.old k289)
              have p292 := n288 _ (MO.old m281)
              have k293 := (OB.step0 k289 s286)
              have m294 := (MO.step0 m281 s286)
              have E295 := (Evo.then0 E290 (Step.evo s286))
              refine sq (o_stB (o := 0) (v := (.agg #[(.int .i64 r269.Size), (.int .i64 r269.Time), (.int .i64 r269.Inode), (.int .i64 r269.Mode)])) [(.int .i64 r269.Size), (.int .i64 r269.Time), (.int .i64 r269.Inode), (.int .i64 r269.Mode)] rfl k287 (by kernel_rfl) (by kernel_rfl) Tryd.sizeOf42 rfl rfl rfl ?_)
              intro w296 s297 k298
              refine sq (o_pv (.int .i64 r270) rfl (by kernel_rfl) ?_)
              refine nil_ ?_
              refine then_normal (K267 _ _ _ _ ?_)
              refine seq_ (fun _ K299 => ?_)
              refine reg_ ?_
              refine sq (o_pv (.pointer (some ⟨br38, 0, none⟩)) rfl (by kernel_rfl) ?_)
              have E300 := (Evo.thenW E295 (Step.evo s297) k287.2.2)
              have hXo301 := (Old.step (Old.step (Old.step hXo219 s273) s286) s297)
              have hS302 := (Sub.trans (Sub.trans (Sub.trans hS220 (Step.up s273)) (Step.up s286)) (Step.up s297))
              have ha303 := (Sl.step (Sl.step (Sl.step ha221 s273) s286) s297)
              have hb304 := (Sl.step (Sl.step (Sl.step hb222 s273) s286) s297)
              have k305 := (OB.step k293 s297 p291)
              have m306 := (MO.step m294 s297 p292)
              refine sq (o_call 19 #[(.pointer (some ⟨br38, 0, none⟩)), (.string (ByteArray.mk #[97]))] rfl (x_call Tryd.call19 (by kernel_rfl)) (simfs_FS_Stat_w (X := X285) (f_ := f_268) (p := (ByteArray.mk #[97])) hXo301 (MO.re m306 (Wr.self _ _ (Sub.refl _))) (by decide : (ByteArray.mk #[97]).size ≤ maxLen) hp) ?_)
              rintro _ w310 ⟨f_307, r308, r309, hp, X311, F313, s312, rfl, m314, rrSize315, rrTime316, rrInode317, rrMode318, rr319⟩
              have m320 := MO.re m314 (Wr.trans m314.wr m306.wr E300.size)
              have p321 := Ap.grow m314.wr p282 (OB.old k305) (Nat.le_refl _)
              have p322 := Ap.grow m314.wr (Ap.symm p292) (OB.old k298) (Nat.le_refl _)
              replace hp := hp rrSize315
              replace hp := hp rrTime316
              replace hp := hp rrInode317
              replace hp := hp rrMode318
              replace hp := hp rr319
              refine sq (o_pv (.tuple #[(.agg #[(.int .i64 r308.Size), (.int .i64 r308.Time), (.int .i64 r308.Inode), (.int .i64 r308.Mode)]), (.int .i64 r309)]) rfl (by kernel_rfl) ?_)
              refine sq (o_pv (.agg #[(.int .i64 r308.Size), (.int .i64 r308.Time), (.int .i64 r308.Inode), (.int .i64 r308.Mode)]) rfl (by kernel_rfl) ?_)
              refine sq (o_pv (.int .i64 r309) rfl (by kernel_rfl) ?_)
              have k329 := (OB.step k305 s312 p282)
              have k330 := (OB.step k298 s312 (Ap.symm p292))
              have E331 := (Evo.thenW E300 (Step.evo s312) m306.wr)
              refine sq (o_newX [(.int .i64 (0 : Int)), (.int .i64 (0 : Int)), (.int .i64 (0 : Int)), (.int .i64 (0 : Int))] 42 (X := X311) (B := w.heap.size) E331.size rfl (by kernel_rfl) ?_)
              intro b323 w324 X325 s326 k327 n328
              have p332 := n328 _ (OB.old k329)
              have p333 := n328 _ (OB.old k330)
              have p334 := n328 _ (MO.old m320)
              have k335 := (OB.step0 k329 s326)
              have k336 := (OB.step0 k330 s326)
              have m337 := (MO.step0 m320 s326)
              have E338 := (Evo.then0 E331 (Step.evo s326))
              refine sq (o_stB (o := 0) (v := (.agg #[(.int .i64 r308.Size), (.int .i64 r308.Time), (.int .i64 r308.Inode), (.int .i64 r308.Mode)])) [(.int .i64 r308.Size), (.int .i64 r308.Time), (.int .i64 r308.Inode), (.int .i64 r308.Mode)] rfl k327 (by kernel_rfl) (by kernel_rfl) Tryd.sizeOf42 rfl rfl rfl ?_)
              intro w339 s340 k341
              refine sq (o_pv (.int .i64 r309) rfl (by kernel_rfl) ?_)
              refine nil_ ?_
              refine then_normal (K299 _ _ _ _ ?_)
              refine seq_ (fun _ K342 => ?_)
              refine seq_ (fun _ K343 => ?_)
              refine ground_ ?_
              refine join_ 2417814745741110930309120 (fun lq w351 => lq = [(80, (.bool (decide ((¬ (r270 = (0 : Int))) ∨ ((¬ (r309 = (5 : Int))) ∨ ((¬ ((r269.Size = r140.Size) ∧ ((r269.Time = r140.Time) ∧ ((r269.Inode = r140.Inode) ∧ ((r269.Mode = r140.Mode) ∧ True))))) ∨ (¬ (r140.Time = (0 : Int)))))))))] ∧ w339 = w351) (fun Kj349 hJ350 => ?_) ?_
              ·
                refine reg_ ?_
                refine sq (o_pv (.int .i64 r270) rfl (by kernel_rfl) ?_)
                by_cases h353 : r270 = (0 : Int)
                ·
                  refine sq (o_pv (.bool false) rfl (x_ndf (p := r270 = (0 : Int)) (by kernel_rfl) h353) ?_)
                  refine sq (o_pv (.bool false) rfl (by kernel_rfl) ?_)
                  refine sq (o_pv (.int .i64 r309) (by kernel_rfl) (by kernel_rfl) ?_)
                  by_cases h354 : r309 = (5 : Int)
                  ·
                    refine sq (o_pv (.bool false) (by kernel_rfl) (x_ndf (p := r309 = (5 : Int)) (by kernel_rfl) h354) ?_)
                    refine sq (o_pv (.bool false) rfl (by kernel_rfl) ?_)
                    refine sq (o_pv (.bool false) rfl (by kernel_rfl) ?_)
                    have k355 := (OB.step k336 s340 p333)
                    refine sq (o_pv (.agg #[(.int .i64 r269.Size), (.int .i64 r269.Time), (.int .i64 r269.Inode), (.int .i64 r269.Mode)]) (by kernel_rfl) (x_loadN [(.int .i64 r269.Size), (.int .i64 r269.Time), (.int .i64 r269.Inode), (.int .i64 r269.Mode)] (by kernel_rfl) Tryd.isAgg42 Tryd.sizeOf42 (k355.2.1.cells' 0 rfl)) ?_)
                    have k356 := (OB.step k335 s340 p332)
                    refine sq (o_pv (.agg #[(.int .i64 r140.Size), (.int .i64 r140.Time), (.int .i64 r140.Inode), (.int .i64 r140.Mode)]) (by kernel_rfl) (x_loadN [(.int .i64 r140.Size), (.int .i64 r140.Time), (.int .i64 r140.Inode), (.int .i64 r140.Mode)] (by kernel_rfl) Tryd.isAgg42 Tryd.sizeOf42 (k356.2.1.cells' 0 rfl)) ?_)
                    by_cases h357 : (r269.Size = r140.Size) ∧ ((r269.Time = r140.Time) ∧ ((r269.Inode = r140.Inode) ∧ ((r269.Mode = r140.Mode) ∧ True)))
                    ·
                      refine sq (o_pv (.bool false) (by kernel_rfl) (x_ndf (p := (r269.Size = r140.Size) ∧ ((r269.Time = r140.Time) ∧ ((r269.Inode = r140.Inode) ∧ ((r269.Mode = r140.Mode) ∧ True)))) (x_stne (q := (r269.Size = r140.Size) ∧ ((r269.Time = r140.Time) ∧ ((r269.Inode = r140.Inode) ∧ ((r269.Mode = r140.Mode) ∧ True)))) (xs := #[(.int .i64 r269.Size), (.int .i64 r269.Time), (.int .i64 r269.Inode), (.int .i64 r269.Mode)]) (ys := #[(.int .i64 r140.Size), (.int .i64 r140.Time), (.int .i64 r140.Inode), (.int .i64 r140.Mode)]) [({ name := "Size", type := 3, offset := 0, embedded := false, tag := "", pkgPath := "", byteOffset := 0 } : Field), ({ name := "Time", type := 3, offset := 1, embedded := false, tag := "", pkgPath := "", byteOffset := 8 } : Field), ({ name := "Inode", type := 3, offset := 2, embedded := false, tag := "", pkgPath := "", byteOffset := 16 } : Field), ({ name := "Mode", type := 3, offset := 3, embedded := false, tag := "", pkgPath := "", byteOffset := 24 } : Field)] (by kernel_rfl) (by kernel_rfl) (by kernel_rfl) (by kernel_rfl) (by kernel_rfl) (by kernel_rfl) (eqF_int (k := .i64) (a := r269.Size) (b := r140.Size) (by kernel_rfl) (by kernel_rfl) (by kernel_rfl) Tryd.underlying3 (eqF_int (k := .i64) (a := r269.Time) (b := r140.Time) (by kernel_rfl) (by kernel_rfl) (by kernel_rfl) Tryd.underlying3 (eqF_int (k := .i64) (a := r269.Inode) (b := r140.Inode) (by kernel_rfl) (by kernel_rfl) (by kernel_rfl) Tryd.underlying3 (eqF_int (k := .i64) (a := r269.Mode) (b := r140.Mode) (by kernel_rfl) (by kernel_rfl) (by kernel_rfl) Tryd.underlying3 eqF_nil))))) h357) ?_)
                      refine sq (o_pv (.bool false) rfl (by kernel_rfl) ?_)
                      refine sq (o_pv (.bool false) rfl (by kernel_rfl) ?_)
                      refine sq (o_pv (.pointer (some ⟨b153, 1, none⟩)) (by kernel_rfl) (by kernel_rfl) ?_)
                      refine sq (o_pv (.int .i64 r140.Time) (by kernel_rfl) (x_load1 (by kernel_rfl) Tryd.isAgg3 (k356.2.1.cell' 1 rfl)) ?_)
                      refine sq (o_pv (.bool (!decide (r140.Time = (0 : Int)))) (by kernel_rfl) (by kernel_rfl) ?_)
                      refine sq (o_pv (.bool (!decide (r140.Time = (0 : Int)))) rfl (by kernel_rfl) ?_)
                      refine nil_ ?_
                      refine then_normal (hJ350 _ _ _ ⟨[(80, (.bool (decide ((¬ (r270 = (0 : Int))) ∨ ((¬ (r309 = (5 : Int))) ∨ ((¬ ((r269.Size = r140.Size) ∧ ((r269.Time = r140.Time) ∧ ((r269.Inode = r140.Inode) ∧ ((r269.Mode = r140.Mode) ∧ True))))) ∨ (¬ (r140.Time = (0 : Int)))))))))], fit_mk (fun _ _ => rfl) (by kernel_rfl) (vs_cons (Eq.trans (b := (.bool (!decide (r140.Time = (0 : Int))))) (by kernel_rfl) (dec_n ((or_iff_right (fun h1 => h1 h353)).trans ((or_iff_right (fun h1 => h1 h354)).trans ((or_iff_right (fun h1 => h1 h357)).trans Iff.rfl)))).symm) vs_nil), rfl, rfl⟩)
                    ·
                      refine sq (o_pv (.bool true) (by kernel_rfl) (x_ndt (p := (r269.Size = r140.Size) ∧ ((r269.Time = r140.Time) ∧ ((r269.Inode = r140.Inode) ∧ ((r269.Mode = r140.Mode) ∧ True)))) (x_stne (q := (r269.Size = r140.Size) ∧ ((r269.Time = r140.Time) ∧ ((r269.Inode = r140.Inode) ∧ ((r269.Mode = r140.Mode) ∧ True)))) (xs := #[(.int .i64 r269.Size), (.int .i64 r269.Time), (.int .i64 r269.Inode), (.int .i64 r269.Mode)]) (ys := #[(.int .i64 r140.Size), (.int .i64 r140.Time), (.int .i64 r140.Inode), (.int .i64 r140.Mode)]) [({ name := "Size", type := 3, offset := 0, embedded := false, tag := "", pkgPath := "", byteOffset := 0 } : Field), ({ name := "Time", type := 3, offset := 1, embedded := false, tag := "", pkgPath := "", byteOffset := 8 } : Field), ({ name := "Inode", type := 3, offset := 2, embedded := false, tag := "", pkgPath := "", byteOffset := 16 } : Field), ({ name := "Mode", type := 3, offset := 3, embedded := false, tag := "", pkgPath := "", byteOffset := 24 } : Field)] (by kernel_rfl) (by kernel_rfl) (by kernel_rfl) (by kernel_rfl) (by kernel_rfl) (by kernel_rfl) (eqF_int (k := .i64) (a := r269.Size) (b := r140.Size) (by kernel_rfl) (by kernel_rfl) (by kernel_rfl) Tryd.underlying3 (eqF_int (k := .i64) (a := r269.Time) (b := r140.Time) (by kernel_rfl) (by kernel_rfl) (by kernel_rfl) Tryd.underlying3 (eqF_int (k := .i64) (a := r269.Inode) (b := r140.Inode) (by kernel_rfl) (by kernel_rfl) (by kernel_rfl) Tryd.underlying3 (eqF_int (k := .i64) (a := r269.Mode) (b := r140.Mode) (by kernel_rfl) (by kernel_rfl) (by kernel_rfl) Tryd.underlying3 eqF_nil))))) h357) ?_)
                      refine sq (o_pv (.bool true) rfl (by kernel_rfl) ?_)
                      refine sq (o_pv (.bool true) rfl (by kernel_rfl) ?_)
                      refine sq (o_not (by kernel_rfl) ?_)
                      refine sq (o_not (by kernel_rfl) ?_)
                      refine sq (o_not (by kernel_rfl) ?_)
                      refine sq (o_pv (.bool true) rfl (by kernel_rfl) ?_)
                      refine nil_ ?_
                      refine then_normal (hJ350 _ _ _ ⟨[(80, (.bool (decide ((¬ (r270 = (0 : Int))) ∨ ((¬ (r309 = (5 : Int))) ∨ ((¬ ((r269.Size = r140.Size) ∧ ((r269.Time = r140.Time) ∧ ((r269.Inode = r140.Inode) ∧ ((r269.Mode = r140.Mode) ∧ True))))) ∨ (¬ (r140.Time = (0 : Int)))))))))], fit_mk (fun _ _ => rfl) (by kernel_rfl) (vs_cons (Eq.trans (b := (.bool true)) (by kernel_rfl) (dec_t ((or_iff_right (fun h1 => h1 h353)).trans ((or_iff_right (fun h1 => h1 h354)).trans (iff_true_intro (Or.inl h357))))).symm) vs_nil), rfl, rfl⟩)
                  ·
                    refine sq (o_pv (.bool true) (by kernel_rfl) (x_ndt (p := r309 = (5 : Int)) (by kernel_rfl) h354) ?_)
                    refine sq (o_pv (.bool true) rfl (by kernel_rfl) ?_)
                    refine sq (o_pv (.bool true) rfl (by kernel_rfl) ?_)
                    refine sq (o_not (by kernel_rfl) ?_)
                    refine sq (o_not (by kernel_rfl) ?_)
                    refine sq (o_not (by kernel_rfl) ?_)
                    refine sq (o_pv (.bool true) rfl (by kernel_rfl) ?_)
                    refine sq (o_pv (.bool true) rfl (by kernel_rfl) ?_)
                    refine sq (o_not (by kernel_rfl) ?_)
                    refine sq (o_not (by kernel_rfl) ?_)
                    refine sq (o_not (by kernel_rfl) ?_)
                    refine sq (o_pv (.bool true) rfl (by kernel_rfl) ?_)
                    refine nil_ ?_
                    refine then_normal (hJ350 _ _ _ ⟨[(80, (.bool (decide ((¬ (r270 = (0 : Int))) ∨ ((¬ (r309 = (5 : Int))) ∨ ((¬ ((r269.Size = r140.Size) ∧ ((r269.Time = r140.Time) ∧ ((r269.Inode = r140.Inode) ∧ ((r269.Mode = r140.Mode) ∧ True))))) ∨ (¬ (r140.Time = (0 : Int)))))))))], fit_mk (fun _ _ => rfl) (by kernel_rfl) (vs_cons (Eq.trans (b := (.bool true)) (by kernel_rfl) (dec_t ((or_iff_right (fun h1 => h1 h353)).trans (iff_true_intro (Or.inl h354)))).symm) vs_nil), rfl, rfl⟩)
                ·
                  refine sq (o_pv (.bool true) rfl (x_ndt (p := r270 = (0 : Int)) (by kernel_rfl) h353) ?_)
                  refine sq (o_pv (.bool true) rfl (by kernel_rfl) ?_)
                  refine sq (o_not (by kernel_rfl) ?_)
                  refine sq (o_not (by kernel_rfl) ?_)
                  refine sq (o_pv (.bool true) rfl (by kernel_rfl) ?_)
                  refine sq (o_pv (.bool true) rfl (by kernel_rfl) ?_)
                  refine sq (o_not (by kernel_rfl) ?_)
                  refine sq (o_not (by kernel_rfl) ?_)
                  refine sq (o_not (by kernel_rfl) ?_)
                  refine sq (o_pv (.bool true) rfl (by kernel_rfl) ?_)
                  refine sq (o_pv (.bool true) rfl (by kernel_rfl) ?_)
                  refine sq (o_not (by kernel_rfl) ?_)
                  refine sq (o_not (by kernel_rfl) ?_)
                  refine sq (o_not (by kernel_rfl) ?_)
                  refine sq (o_pv (.bool true) rfl (by kernel_rfl) ?_)
                  refine nil_ ?_
                  refine then_normal (hJ350 _ _ _ ⟨[(80, (.bool (decide ((¬ (r270 = (0 : Int))) ∨ ((¬ (r309 = (5 : Int))) ∨ ((¬ ((r269.Size = r140.Size) ∧ ((r269.Time = r140.Time) ∧ ((r269.Inode = r140.Inode) ∧ ((r269.Mode = r140.Mode) ∧ True))))) ∨ (¬ (r140.Time = (0 : Int)))))))))], fit_mk (fun _ _ => rfl) (by kernel_rfl) (vs_cons (Eq.trans (b := (.bool true)) (by kernel_rfl) (dec_t (iff_true_intro (Or.inl h353))).symm) vs_nil), rfl, rfl⟩)
              ·
                rintro _ w351 g352 ⟨rfl, hw⟩
                subst hw
                refine then_normal (K343 _ _ _ _ ?_)
                refine cond_d ((¬ (r270 = (0 : Int))) ∨ ((¬ (r309 = (5 : Int))) ∨ ((¬ ((r269.Size = r140.Size) ∧ ((r269.Time = r140.Time) ∧ ((r269.Inode = r140.Inode) ∧ ((r269.Mode = r140.Mode) ∧ True))))) ∨ (¬ (r140.Time = (0 : Int)))))) (by kernel_rfl) (fun h358 => ?_) (fun h358 => ?_)
                ·
                  replace hp := hp.1 h358
                  refine seq_ (fun _ K359 => ?_)
                  refine reg_ ?_
                  refine sq (o_pv (.bool false) rfl (by kernel_rfl) ?_)
                  refine nil_ ?_
                  refine then_normal (K359 _ _ _ _ ?_)
                  refine wp_ret ?_
                  refine then_ret ?_
                  have E360 := (Evo.thenW E338 (Step.evo s340) k327.2.2)
                  refine end_ret hQ (.bool false) (by kernel_rfl) ?_
                  exact ⟨false, hp, E360, rfl⟩
                ·
                  replace hp := hp.2 h358
                  refine wp_skip ?_
                  refine then_normal (K342 _ _ _ _ ?_)
                  refine seq_ (fun _ K361 => ?_)
                  refine reg_ ?_
                  refine sq (o_pv (.pointer (some ⟨br38, 0, none⟩)) rfl (by kernel_rfl) ?_)
                  refine sq (o_pv (.bool keep) rfl (by kernel_rfl) ?_)
                  have k362 := (OB.step k335 s340 p332)
                  have k363 := (OB.step k336 s340 p333)
                  have m364 := (MO.step m337 s340 p334)
                  have E371 := (Evo.thenW E338 (Step.evo s340) k327.2.2)
                  refine sq (o_rowX (R := rBool) [(.bool keep)] [keep] 4 1 (X := X325) (B := w.heap.size) E371.size rfl (by kernel_rfl) (Flat.cons (cs := [(.bool keep)]) rBool_mk Flat.nil) rfl (by decide) ?_)
                  intro b365 w366 X367 s368 O369 n370
                  have p372 := n370 _ (OB.old k362)
                  have p373 := n370 _ (OB.old k363)
                  have p374 := n370 _ (MO.old m364)
                  have p375 := n370 _ (OB.old k341)
                  have hS376 := (Sub.trans (Sub.trans (Sub.trans (Sub.trans hS302 (Step.up s312)) (Step.up s326)) (Step.up s340)) (Step.up s368))
                  have E382 := (Evo.then0 E371 (Step.evo s368))
                  have hXo383 := (Old.step (Old.step (Old.step (Old.step hXo301 s312) s326) s340) s368)
                  have ha384 := (Sl.step (Sl.step (Sl.step (Sl.step ha303 s312) s326) s340) s368)
                  have hb385 := (Sl.step (Sl.step (Sl.step (Sl.step hb304 s312) s326) s340) s368)
                  have k386 := (OB.step0 k362 s368)
                  have k387 := (OB.step0 k363 s368)
                  have m388 := (MO.step0 m364 s368)
                  have k389 := (OB.step0 k341 s368)
                  have ax381 := OS.apold O369 hX0
                  obtain ⟨X377, u378, r379, hm380⟩ := OS.release O369
                  have E390 := E382
                  have hXo391 := (Old.less hXo383 u378)
                  have hS392 := (hm380 _ ax381 hS376)
                  have ha393 := (Sl.less ha384 u378)
                  have hb394 := (Sl.less hb385 u378)
                  have k395 := (OB.less k386 (hm380 _ p372 (OB.mem k386)))
                  have k396 := (OB.less k387 (hm380 _ p373 (OB.mem k387)))
                  have m397 := (MO.less m388 u378 (hm380 _ p374 (MO.mem m388)))
                  have k398 := (OB.less k389 (hm380 _ p375 (OB.mem k389)))
                  refine sq (o_call 16 #[(.pointer (some ⟨br38, 0, none⟩)), (.slice (some ⟨b365, 0, none⟩) ([keep]).length 1)] rfl (x_call Tryd.call16 (by rw [← show 1 = ([keep]).length from O369.1]; kernel_rfl)) (simfs_FS_Cut_w (X := X377) (f_ := f_307) (keep := [keep]) hXo391 (MO.re m397 (Wr.self _ _ (Sub.refl _))) r379 hp) ?_)
                  rintro _ w400 ⟨f_399, hp, X401, F403, s402, rfl, m404⟩
                  have m405 := MO.re m404 (Wr.trans m404.wr m397.wr E390.size)
                  have p406 := Ap.grow m404.wr p321 (OB.old k395) (Nat.le_refl _)
                  have p407 := Ap.grow m404.wr p322 (OB.old k396) (Nat.le_refl _)
                  have p408 := Ap.grow m404.wr (Ap.symm p334) (OB.old k398) (Nat.le_refl _)
                  refine nil_ ?_
                  refine then_normal (K361 _ _ _ _ ?_)
                  refine seq_ (fun _ K409 => ?_)
                  refine reg_ ?_
                  refine sq (o_pv (.pointer (some ⟨br38, 0, none⟩)) rfl (by kernel_rfl) ?_)
                  have E410 := (Evo.thenW E390 (Step.evo s402) m397.wr)
                  have hXo411 := (Old.step hXo391 s402)
                  have hS412 := (Sub.trans hS392 (Step.up s402))
                  have ha413 := (Sl.step ha393 s402)
                  have hb414 := (Sl.step hb394 s402)
                  have k415 := (OB.step k395 s402 p321)
                  have k416 := (OB.step k396 s402 p322)
                  have k417 := (OB.step k398 s402 (Ap.symm p334))
                  have r418 := (Sl.step r379 s402)
                  refine sq (o_call 11 #[(.pointer (some ⟨br38, 0, none⟩))] rfl (x_call Tryd.call11 (by kernel_rfl)) (simfs_FS_On_w (X := X401) (f_ := f_399) hXo411 (MO.re m405 (Wr.self _ _ (Sub.refl _))) hp) ?_)
                  rintro _ w420 ⟨f_419, hp, X421, F423, s422, rfl, m424⟩
                  have m425 := MO.re m424 (Wr.trans m424.wr m405.wr E410.size)
                  have p426 := Ap.grow m424.wr p406 (OB.old k415) (Nat.le_refl _)
                  have p427 := Ap.grow m424.wr p407 (OB.old k416) (Nat.le_refl _)
                  have p428 := Ap.grow m424.wr p408 (OB.old k417) (Nat.le_refl _)
                  refine nil_ ?_
                  refine then_normal (K409 _ _ _ _ ?_)
                  refine seq_ (fun _ K429 => ?_)
                  refine reg_ ?_
                  refine sq (o_pv (.pointer (some ⟨br38, 0, none⟩)) rfl (by kernel_rfl) ?_)
                  have E430 := (Evo.thenW E410 (Step.evo s422) m405.wr)
                  have hXo431 := (Old.step hXo411 s422)
                  have hS432 := (Sub.trans hS412 (Step.up s422))
                  have ha433 := (Sl.step ha413 s422)
                  have hb434 := (Sl.step hb414 s422)
                  have k435 := (OB.step k415 s422 p406)
                  have k436 := (OB.step k416 s422 p407)
                  have k437 := (OB.step k417 s422 p408)
                  have r438 := (Sl.step r418 s422)
                  refine sq (o_call 17 #[(.pointer (some ⟨br38, 0, none⟩)), (.string (ByteArray.mk #[97]))] rfl (x_call Tryd.call17 (by kernel_rfl)) (simfs_FS_Read_w (X := X421) (f_ := f_419) (p := (ByteArray.mk #[97])) hXo431 (MO.re m425 (Wr.self _ _ (Sub.refl _))) (by decide : (ByteArray.mk #[97]).size ≤ maxLen) hp) ?_)
                  rintro _ w442 ⟨f_439, r440, r441, hp, X443, F445, ar447, cr448, s444, rfl, m446, hr449, rr450⟩
                  have m451 := MO.re m446 (Wr.trans m446.wr m425.wr E430.size)
                  have p452 := Ap.grow m446.wr p426 (OB.old k435) (Nat.le_refl _)
                  have p453 := Ap.grow m446.wr p427 (OB.old k436) (Nat.le_refl _)
                  have p454 := Ap.grow m446.wr p428 (OB.old k437) (Nat.le_refl _)
                  replace hp := hp (Sl.len hr449)
                  replace hp := hp rr450
                  refine sq (o_pv (.tuple #[(.slice ar447 r440.length cr448), (.int .i64 r441)]) rfl (by kernel_rfl) ?_)
                  refine sq (o_pv (.slice ar447 r440.length cr448) rfl (by kernel_rfl) ?_)
                  refine sq (o_pv (.int .i64 r441) rfl (by kernel_rfl) ?_)
                  refine sq (o_pv (.slice ar447 r440.length cr448) rfl (by kernel_rfl) ?_)
                  refine sq (o_pv (.int .i64 r441) rfl (by kernel_rfl) ?_)
                  refine nil_ ?_
                  refine then_normal (K429 _ _ _ _ ?_)
                  refine seq_ (fun _ K455 => ?_)
                  refine reg_ ?_
                  refine sq (o_pv (.pointer (some ⟨br38, 0, none⟩)) rfl (by kernel_rfl) ?_)
                  have E456 := (Evo.thenW E430 (Step.evo s444) m425.wr)
                  have hXo457 := (Old.step hXo431 s444)
                  have hS458 := (Sub.trans hS432 (Step.up s444))
                  have ha459 := (Sl.step ha433 s444)
                  have hb460 := (Sl.step hb434 s444)
                  have k461 := (OB.step k435 s444 p426)
                  have k462 := (OB.step k436 s444 p427)
                  have k463 := (OB.step k437 s444 p428)
                  have r464 := (Sl.step r438 s444)
                  refine sq (o_call 17 #[(.pointer (some ⟨br38, 0, none⟩)), (.string (ByteArray.mk #[98]))] rfl (x_call Tryd.call17 (by kernel_rfl)) (simfs_FS_Read_w (X := X443) (f_ := f_439) (p := (ByteArray.mk #[98])) hXo457 (MO.re m451 (Wr.self _ _ (Sub.refl _))) (by decide : (ByteArray.mk #[98]).size ≤ maxLen) hp) ?_)
                  rintro _ w468 ⟨f_465, r466, r467, hp, X469, F471, ar473, cr474, s470, rfl, m472, hr475, rr476⟩
                  have m477 := MO.re m472 (Wr.trans m472.wr m451.wr E456.size)
                  have p478 := Ap.grow m472.wr p452 (OB.old k461) (Nat.le_refl _)
                  have p479 := Ap.grow m472.wr p453 (OB.old k462) (Nat.le_refl _)
                  have p480 := Ap.grow m472.wr p454 (OB.old k463) (Nat.le_refl _)
                  replace hp := hp (Sl.len hr475)
                  replace hp := hp rr476
                  refine sq (o_pv (.tuple #[(.slice ar473 r466.length cr474), (.int .i64 r467)]) rfl (by kernel_rfl) ?_)
                  refine sq (o_pv (.slice ar473 r466.length cr474) rfl (by kernel_rfl) ?_)
                  refine sq (o_pv (.int .i64 r467) rfl (by kernel_rfl) ?_)
                  refine sq (o_pv (.slice ar473 r466.length cr474) rfl (by kernel_rfl) ?_)
                  refine sq (o_pv (.int .i64 r467) rfl (by kernel_rfl) ?_)
                  refine nil_ ?_
                  refine then_normal (K455 _ _ _ _ ?_)
                  refine seq_ (fun _ K481 => ?_)
                  refine seq_ (fun _ K482 => ?_)
                  refine reg_ ?_
                  refine sq (o_pv (.bool keep) rfl (by kernel_rfl) ?_)
                  refine nil_ ?_
                  refine then_normal (K482 _ _ _ _ ?_)
                  refine cond_b keep (by kernel_rfl) (fun h483 => ?_) (fun h483 => ?_)
                  ·
                    replace hp := hp.1 h483
                    refine seq_ (fun _ K484 => ?_)
                    refine ground_ ?_
                    refine join_ 2595831516617356756914873988808960 (fun lq w492 => lq = [(8, (.bool (decide ((r441 = (5 : Int)) ∧ ((r467 = (0 : Int)) ∧ ((strOfNums r466 : ByteArray) = strOfNums a))))))] ∧ w468 = w492) (fun Kj490 hJ491 => ?_) ?_
                    ·
                      refine reg_ ?_
                      refine sq (o_pv (.int .i64 r441) rfl (by kernel_rfl) ?_)
                      by_cases h494 : r441 = (5 : Int)
                      ·
                        refine sq (o_pv (.bool true) rfl (x_dt (p := r441 = (5 : Int)) (by kernel_rfl) h494) ?_)
                        refine sq (o_pv (.bool true) rfl (by kernel_rfl) ?_)
                        refine sq (o_pv (.int .i64 r467) (by kernel_rfl) (by kernel_rfl) ?_)
                        by_cases h495 : r467 = (0 : Int)
                        ·
                          refine sq (o_pv (.bool true) (by kernel_rfl) (x_dt (p := r467 = (0 : Int)) (by kernel_rfl) h495) ?_)
                          refine sq (o_pv (.bool true) rfl (by kernel_rfl) ?_)
                          refine sq (o_pv (.bool true) rfl (by kernel_rfl) ?_)
                          refine sq (o_pv (.slice ar473 r466.length cr474) (by kernel_rfl) (by kernel_rfl) ?_)
                          have hl496 := Sl.len hr475
                          refine sq (o_pv (.string (strOfNums r466)) (by kernel_rfl) (x_b2s_sl (a := ar473) (len := r466.length) (c := cr474) r466 Tryd.underlying28 Tryd.underlying5 Tryd.underlying9 (by kernel_rfl) rfl hr475) ?_)
                          refine sq (o_pv (.slice aa1 a.length ca2) (by kernel_rfl) (by kernel_rfl) ?_)
                          have ha498 := (Sl.step ha459 s470)
                          have hl497 := Sl.len ha498
                          refine sq (o_pv (.string (strOfNums a)) (by kernel_rfl) (x_b2s_sl (a := aa1) (len := a.length) (c := ca2) a Tryd.underlying28 Tryd.underlying5 Tryd.underlying9 (by kernel_rfl) rfl ha498) ?_)
                          refine sq (o_pv (.bool (decide ((strOfNums r466 : ByteArray) = strOfNums a))) (by kernel_rfl) (x_streq (by kernel_rfl) (by kernel_rfl)) ?_)
                          refine sq (o_pv (.bool (decide ((strOfNums r466 : ByteArray) = strOfNums a))) rfl (by kernel_rfl) ?_)
                          refine sq (o_pv (.bool (decide ((strOfNums r466 : ByteArray) = strOfNums a))) rfl (by kernel_rfl) ?_)
                          refine nil_ ?_
                          refine then_normal (hJ491 _ _ _ ⟨[(8, (.bool (decide ((r441 = (5 : Int)) ∧ ((r467 = (0 : Int)) ∧ ((strOfNums r466 : ByteArray) = strOfNums a))))))], fit_mk (fun _ _ => rfl) (by kernel_rfl) (vs_cons (Eq.trans (b := (.bool (decide ((strOfNums r466 : ByteArray) = strOfNums a)))) (by kernel_rfl) (dec_d ((and_iff_right h494).trans ((and_iff_right h495).trans Iff.rfl))).symm) vs_nil), rfl, rfl⟩)
                        ·
                          refine sq (o_pv (.bool false) (by kernel_rfl) (x_df (p := r467 = (0 : Int)) (by kernel_rfl) h495) ?_)
                          refine sq (o_pv (.bool false) rfl (by kernel_rfl) ?_)
                          refine sq (o_pv (.bool false) rfl (by kernel_rfl) ?_)
                          refine sq (o_not (by kernel_rfl) ?_)
                          refine sq (o_not (by kernel_rfl) ?_)
                          refine sq (o_not (by kernel_rfl) ?_)
                          refine sq (o_not (by kernel_rfl) ?_)
                          refine sq (o_not (by kernel_rfl) ?_)
                          refine sq (o_pv (.bool false) rfl (by kernel_rfl) ?_)
                          refine sq (o_pv (.bool false) rfl (by kernel_rfl) ?_)
                          refine nil_ ?_
                          refine then_normal (hJ491 _ _ _ ⟨[(8, (.bool (decide ((r441 = (5 : Int)) ∧ ((r467 = (0 : Int)) ∧ ((strOfNums r466 : ByteArray) = strOfNums a))))))], fit_mk (fun _ _ => rfl) (by kernel_rfl) (vs_cons (Eq.trans (b := (.bool false)) (by kernel_rfl) (dec_f ((and_iff_right h494).trans (iff_false_intro (fun h => h495 h.1)))).symm) vs_nil), rfl, rfl⟩)
                      ·
                        refine sq (o_pv (.bool false) rfl (x_df (p := r441 = (5 : Int)) (by kernel_rfl) h494) ?_)
                        refine sq (o_pv (.bool false) rfl (by kernel_rfl) ?_)
                        refine sq (o_not (by kernel_rfl) ?_)
                        refine sq (o_not (by kernel_rfl) ?_)
                        refine sq (o_pv (.bool false) rfl (by kernel_rfl) ?_)
                        refine sq (o_pv (.bool false) rfl (by kernel_rfl) ?_)
                        refine sq (o_not (by kernel_rfl) ?_)
                        refine sq (o_not (by kernel_rfl) ?_)
                        refine sq (o_not (by kernel_rfl) ?_)
                        refine sq (o_not (by kernel_rfl) ?_)
                        refine sq (o_not (by kernel_rfl) ?_)
                        refine sq (o_pv (.bool false) rfl (by kernel_rfl) ?_)
                        refine sq (o_pv (.bool false) rfl (by kernel_rfl) ?_)
                        refine nil_ ?_
                        refine then_normal (hJ491 _ _ _ ⟨[(8, (.bool (decide ((r441 = (5 : Int)) ∧ ((r467 = (0 : Int)) ∧ ((strOfNums r466 : ByteArray) = strOfNums a))))))], fit_mk (fun _ _ => rfl) (by kernel_rfl) (vs_cons (Eq.trans (b := (.bool false)) (by kernel_rfl) (dec_f (iff_false_intro (fun h => h494 h.1))).symm) vs_nil), rfl, rfl⟩)
                    ·
                      rintro _ w492 g493 ⟨rfl, hw⟩
                      subst hw
                      refine then_normal (K484 _ _ _ _ ?_)
                      refine wp_ret ?_
                      refine then_ret ?_
                      have E499 := (Evo.thenW E456 (Step.evo s470) m451.wr)
                      refine end_ret hQ (.bool (decide ((r441 = (5 : Int)) ∧ ((r467 = (0 : Int)) ∧ ((strOfNums r466 : ByteArray) = strOfNums a))))) (by kernel_rfl) ?_
                      exact ⟨(decide ((r441 = (5 : Int)) ∧ ((r467 = (0 : Int)) ∧ ((strOfNums r466 : ByteArray) = strOfNums a)))), hp, E499, rfl⟩
                  ·
                    replace hp := hp.2 h483
                    refine wp_skip ?_
                    refine then_normal (K481 _ _ _ _ ?_)
                    refine seq_ (fun _ K500 => ?_)
                    refine ground_ ?_
                    refine join_ 174224569267372064025833984739817159655680 (fun lq w514 => lq = [(8, (.bool (decide ((r441 = (0 : Int)) ∧ (((strOfNums r440 : ByteArray) = strOfNums a) ∧ ((((decide (r467 = (0 : Int))) : Bool) = there) ∧ ((¬ (there = true)) ∨ ((strOfNums r466 : ByteArray) = strOfNums b))))))))] ∧ w468 = w514) (fun Kj512 hJ513 => ?_) ?_
                    ·
                      refine reg_ ?_
                      refine sq (o_pv (.int .i64 r441) rfl (by kernel_rfl) ?_)
                      by_cases h516 : r441 = (0 : Int)
                      ·
                        refine sq (o_pv (.bool true) rfl (x_dt (p := r441 = (0 : Int)) (by kernel_rfl) h516) ?_)
                        refine sq (o_pv (.bool true) rfl (by kernel_rfl) ?_)
                        refine sq (o_pv (.slice ar447 r440.length cr448) (by kernel_rfl) (by kernel_rfl) ?_)
                        have hr518 := (Sl.step hr449 s470)
                        have hl517 := Sl.len hr518
                        refine sq (o_pv (.string (strOfNums r440)) (by kernel_rfl) (x_b2s_sl (a := ar447) (len := r440.length) (c := cr448) r440 Tryd.underlying28 Tryd.underlying5 Tryd.underlying9 (by kernel_rfl) rfl hr518) ?_)
                        refine sq (o_pv (.slice aa1 a.length ca2) (by kernel_rfl) (by kernel_rfl) ?_)
                        have ha520 := (Sl.step ha459 s470)
                        have hl519 := Sl.len ha520
                        refine sq (o_pv (.string (strOfNums a)) (by kernel_rfl) (x_b2s_sl (a := aa1) (len := a.length) (c := ca2) a Tryd.underlying28 Tryd.underlying5 Tryd.underlying9 (by kernel_rfl) rfl ha520) ?_)
                        by_cases h521 : (strOfNums r440 : ByteArray) = strOfNums a
                        ·
                          refine sq (o_pv (.bool true) (by kernel_rfl) (x_dt (p := (strOfNums r440 : ByteArray) = strOfNums a) (x_streq (by kernel_rfl) (by kernel_rfl)) h521) ?_)
                          refine sq (o_pv (.bool true) rfl (by kernel_rfl) ?_)
                          refine sq (o_pv (.bool true) rfl (by kernel_rfl) ?_)
                          refine sq (o_pv (.int .i64 r467) (by kernel_rfl) (by kernel_rfl) ?_)
                          refine sq (o_pv (.bool (decide (r467 = (0 : Int)))) (by kernel_rfl) (by kernel_rfl) ?_)
                          refine sq (o_pv (.bool there) (by kernel_rfl) (by kernel_rfl) ?_)
                          by_cases h522 : ((decide (r467 = (0 : Int))) : Bool) = there
                          ·
                            refine sq (o_pv (.bool true) (by kernel_rfl) (x_dt (p := ((decide (r467 = (0 : Int))) : Bool) = there) (x_booleq (a := (decide (r467 = (0 : Int)))) (b := there) Tryd.underlying4 (by kernel_rfl) (by kernel_rfl)) h522) ?_)
                            refine sq (o_pv (.bool true) rfl (by kernel_rfl) ?_)
                            refine sq (o_pv (.bool true) rfl (by kernel_rfl) ?_)
                            by_cases h523 : there = true
                            ·
                              refine sq (o_pv (.bool true) (by kernel_rfl) (x_bt (by kernel_rfl) h523) ?_)
                              refine sq (o_pv (.bool false) (by kernel_rfl) (by kernel_rfl) ?_)
                              refine sq (o_pv (.bool false) (by kernel_rfl) (by kernel_rfl) ?_)
                              refine sq (o_pv (.slice ar473 r466.length cr474) (by kernel_rfl) (by kernel_rfl) ?_)
                              have hl524 := Sl.len hr475
                              refine sq (o_pv (.string (strOfNums r466)) (by kernel_rfl) (x_b2s_sl (a := ar473) (len := r466.length) (c := cr474) r466 Tryd.underlying28 Tryd.underlying5 Tryd.underlying9 (by kernel_rfl) rfl hr475) ?_)
                              refine sq (o_pv (.slice ab4 b.length cb5) (by kernel_rfl) (by kernel_rfl) ?_)
                              have hb526 := (Sl.step hb460 s470)
                              have hl525 := Sl.len hb526
                              refine sq (o_pv (.string (strOfNums b)) (by kernel_rfl) (x_b2s_sl (a := ab4) (len := b.length) (c := cb5) b Tryd.underlying28 Tryd.underlying5 Tryd.underlying9 (by kernel_rfl) rfl hb526) ?_)
                              refine sq (o_pv (.bool (decide ((strOfNums r466 : ByteArray) = strOfNums b))) (by kernel_rfl) (x_streq (by kernel_rfl) (by kernel_rfl)) ?_)
                              refine sq (o_pv (.bool (decide ((strOfNums r466 : ByteArray) = strOfNums b))) (by kernel_rfl) (by kernel_rfl) ?_)
                              refine sq (o_pv (.bool (decide ((strOfNums r466 : ByteArray) = strOfNums b))) rfl (by kernel_rfl) ?_)
                              refine sq (o_pv (.bool (decide ((strOfNums r466 : ByteArray) = strOfNums b))) rfl (by kernel_rfl) ?_)
                              refine nil_ ?_
                              refine then_normal (hJ513 _ _ _ ⟨[(8, (.bool (decide ((r441 = (0 : Int)) ∧ (((strOfNums r440 : ByteArray) = strOfNums a) ∧ ((((decide (r467 = (0 : Int))) : Bool) = there) ∧ ((¬ (there = true)) ∨ ((strOfNums r466 : ByteArray) = strOfNums b))))))))], fit_mk (fun _ _ => rfl) (by kernel_rfl) (vs_cons (Eq.trans (b := (.bool (decide ((strOfNums r466 : ByteArray) = strOfNums b)))) (by kernel_rfl) (dec_d ((and_iff_right h516).trans ((and_iff_right h521).trans ((and_iff_right h522).trans ((or_iff_right (fun h1 => h1 h523)).trans Iff.rfl))))).symm) vs_nil), rfl, rfl⟩)
                            ·
                              refine sq (o_pv (.bool false) (by kernel_rfl) (x_bf (by kernel_rfl) h523) ?_)
                              refine sq (o_pv (.bool true) (by kernel_rfl) (by kernel_rfl) ?_)
                              refine sq (o_pv (.bool true) (by kernel_rfl) (by kernel_rfl) ?_)
                              refine sq (o_not (by kernel_rfl) ?_)
                              refine sq (o_not (by kernel_rfl) ?_)
                              refine sq (o_not (by kernel_rfl) ?_)
                              refine sq (o_not (by kernel_rfl) ?_)
                              refine sq (o_not (by kernel_rfl) ?_)
                              refine sq (o_pv (.bool true) (by kernel_rfl) (by kernel_rfl) ?_)
                              refine sq (o_pv (.bool true) rfl (by kernel_rfl) ?_)
                              refine sq (o_pv (.bool true) rfl (by kernel_rfl) ?_)
                              refine nil_ ?_
                              refine then_normal (hJ513 _ _ _ ⟨[(8, (.bool (decide ((r441 = (0 : Int)) ∧ (((strOfNums r440 : ByteArray) = strOfNums a) ∧ ((((decide (r467 = (0 : Int))) : Bool) = there) ∧ ((¬ (there = true)) ∨ ((strOfNums r466 : ByteArray) = strOfNums b))))))))], fit_mk (fun _ _ => rfl) (by kernel_rfl) (vs_cons (Eq.trans (b := (.bool true)) (by kernel_rfl) (dec_t ((and_iff_right h516).trans ((and_iff_right h521).trans ((and_iff_right h522).trans (iff_true_intro (Or.inl h523)))))).symm) vs_nil), rfl, rfl⟩)
                          ·
                            refine sq (o_pv (.bool false) (by kernel_rfl) (x_df (p := ((decide (r467 = (0 : Int))) : Bool) = there) (x_booleq (a := (decide (r467 = (0 : Int)))) (b := there) Tryd.underlying4 (by kernel_rfl) (by kernel_rfl)) h522) ?_)
                            refine sq (o_pv (.bool false) rfl (by kernel_rfl) ?_)
                            refine sq (o_pv (.bool false) rfl (by kernel_rfl) ?_)
                            refine sq (o_not (by kernel_rfl) ?_)
                            refine sq (o_not (by kernel_rfl) ?_)
                            refine sq (o_not (by kernel_rfl) ?_)
                            refine sq (o_not (by kernel_rfl) ?_)
                            refine sq (o_not (by kernel_rfl) ?_)
                            refine sq (o_not (by kernel_rfl) ?_)
                            refine sq (o_not (by kernel_rfl) ?_)
                            refine sq (o_not (by kernel_rfl) ?_)
                            refine sq (o_not (by kernel_rfl) ?_)
                            refine sq (o_pv (.bool false) rfl (by kernel_rfl) ?_)
                            refine sq (o_pv (.bool false) rfl (by kernel_rfl) ?_)
                            refine nil_ ?_
                            refine then_normal (hJ513 _ _ _ ⟨[(8, (.bool (decide ((r441 = (0 : Int)) ∧ (((strOfNums r440 : ByteArray) = strOfNums a) ∧ ((((decide (r467 = (0 : Int))) : Bool) = there) ∧ ((¬ (there = true)) ∨ ((strOfNums r466 : ByteArray) = strOfNums b))))))))], fit_mk (fun _ _ => rfl) (by kernel_rfl) (vs_cons (Eq.trans (b := (.bool false)) (by kernel_rfl) (dec_f ((and_iff_right h516).trans ((and_iff_right h521).trans (iff_false_intro (fun h => h522 h.1))))).symm) vs_nil), rfl, rfl⟩)
                        ·
                          refine sq (o_pv (.bool false) (by kernel_rfl) (x_df (p := (strOfNums r440 : ByteArray) = strOfNums a) (x_streq (by kernel_rfl) (by kernel_rfl)) h521) ?_)
                          refine sq (o_pv (.bool false) rfl (by kernel_rfl) ?_)
                          refine sq (o_pv (.bool false) rfl (by kernel_rfl) ?_)
                          refine sq (o_not (by kernel_rfl) ?_)
                          refine sq (o_not (by kernel_rfl) ?_)
                          refine sq (o_not (by kernel_rfl) ?_)
                          refine sq (o_not (by kernel_rfl) ?_)
                          refine sq (o_pv (.bool false) rfl (by kernel_rfl) ?_)
                          refine sq (o_pv (.bool false) rfl (by kernel_rfl) ?_)
                          refine sq (o_not (by kernel_rfl) ?_)
                          refine sq (o_not (by kernel_rfl) ?_)
                          refine sq (o_not (by kernel_rfl) ?_)
                          refine sq (o_not (by kernel_rfl) ?_)
                          refine sq (o_not (by kernel_rfl) ?_)
                          refine sq (o_not (by kernel_rfl) ?_)
                          refine sq (o_not (by kernel_rfl) ?_)
                          refine sq (o_not (by kernel_rfl) ?_)
                          refine sq (o_not (by kernel_rfl) ?_)
                          refine sq (o_pv (.bool false) rfl (by kernel_rfl) ?_)
                          refine sq (o_pv (.bool false) rfl (by kernel_rfl) ?_)
                          refine nil_ ?_
                          refine then_normal (hJ513 _ _ _ ⟨[(8, (.bool (decide ((r441 = (0 : Int)) ∧ (((strOfNums r440 : ByteArray) = strOfNums a) ∧ ((((decide (r467 = (0 : Int))) : Bool) = there) ∧ ((¬ (there = true)) ∨ ((strOfNums r466 : ByteArray) = strOfNums b))))))))], fit_mk (fun _ _ => rfl) (by kernel_rfl) (vs_cons (Eq.trans (b := (.bool false)) (by kernel_rfl) (dec_f ((and_iff_right h516).trans (iff_false_intro (fun h => h521 h.1)))).symm) vs_nil), rfl, rfl⟩)
                      ·
                        refine sq (o_pv (.bool false) rfl (x_df (p := r441 = (0 : Int)) (by kernel_rfl) h516) ?_)
                        refine sq (o_pv (.bool false) rfl (by kernel_rfl) ?_)
                        refine sq (o_not (by kernel_rfl) ?_)
                        refine sq (o_not (by kernel_rfl) ?_)
                        refine sq (o_not (by kernel_rfl) ?_)
                        refine sq (o_not (by kernel_rfl) ?_)
                        refine sq (o_not (by kernel_rfl) ?_)
                        refine sq (o_pv (.bool false) rfl (by kernel_rfl) ?_)
                        refine sq (o_pv (.bool false) rfl (by kernel_rfl) ?_)
                        refine sq (o_not (by kernel_rfl) ?_)
                        refine sq (o_not (by kernel_rfl) ?_)
                        refine sq (o_not (by kernel_rfl) ?_)
                        refine sq (o_not (by kernel_rfl) ?_)
                        refine sq (o_pv (.bool false) rfl (by kernel_rfl) ?_)
                        refine sq (o_pv (.bool false) rfl (by kernel_rfl) ?_)
                        refine sq (o_not (by kernel_rfl) ?_)
                        refine sq (o_not (by kernel_rfl) ?_)
                        refine sq (o_not (by kernel_rfl) ?_)
                        refine sq (o_not (by kernel_rfl) ?_)
                        refine sq (o_not (by kernel_rfl) ?_)
                        refine sq (o_not (by kernel_rfl) ?_)
                        refine sq (o_not (by kernel_rfl) ?_)
                        refine sq (o_not (by kernel_rfl) ?_)
                        refine sq (o_not (by kernel_rfl) ?_)
                        refine sq (o_pv (.bool false) rfl (by kernel_rfl) ?_)
                        refine sq (o_pv (.bool false) rfl (by kernel_rfl) ?_)
                        refine nil_ ?_
                        refine then_normal (hJ513 _ _ _ ⟨[(8, (.bool (decide ((r441 = (0 : Int)) ∧ (((strOfNums r440 : ByteArray) = strOfNums a) ∧ ((((decide (r467 = (0 : Int))) : Bool) = there) ∧ ((¬ (there = true)) ∨ ((strOfNums r466 : ByteArray) = strOfNums b))))))))], fit_mk (fun _ _ => rfl) (by kernel_rfl) (vs_cons (Eq.trans (b := (.bool false)) (by kernel_rfl) (dec_f (iff_false_intro (fun h => h516 h.1))).symm) vs_nil), rfl, rfl⟩)
                    ·
                      rintro _ w514 g515 ⟨rfl, hw⟩
                      subst hw
                      refine then_normal (K500 _ _ _ _ ?_)
                      refine wp_ret ?_
                      have E527 := (Evo.thenW E456 (Step.evo s470) m451.wr)
                      refine end_ret hQ (.bool (decide ((r441 = (0 : Int)) ∧ (((strOfNums r440 : ByteArray) = strOfNums a) ∧ ((((decide (r467 = (0 : Int))) : Bool) = there) ∧ ((¬ (there = true)) ∨ ((strOfNums r466 : ByteArray) = strOfNums b))))))) (by kernel_rfl) ?_
                      exact ⟨(decide ((r441 = (0 : Int)) ∧ (((strOfNums r440 : ByteArray) = strOfNums a) ∧ ((((decide (r467 = (0 : Int))) : Bool) = there) ∧ ((¬ (there = true)) ∨ ((strOfNums r466 : ByteArray) = strOfNums b)))))), hp, E527, rfl⟩

end Go.Proofs.YtaolmfepdmgohaaDoor
