/- Walks of functions: what each asks and computes, as a plain predicate, and the contract from it. -/
import Derived.Test.YtaolmfepdmgohaaDoorChecked
import Derived.Test.YtaolmfepdmgohaaDoorFi3
namespace Go.Proofs.YtaolmfepdmgohaaDoor
open Go


def rectolaw5_known_p (Q : Bool → Prop) : Prop :=
  (simfs_New_p (0 : Int) (fun (r3 : S_simfs_FS) => (simfs_FS_Write_p r3 (ByteArray.mk #[97]) (1 : Int) ([(120 : Int), (121 : Int)]) (fun (f_40 : S_simfs_FS) (r41 : Int) => ((inR .i64 r41) → (simfs_FS_Write_p f_40 (ByteArray.mk #[98]) (2 : Int) ([] : List Int) (fun (f_54 : S_simfs_FS) (r55 : Int) => ((inR .i64 r55) → (simfs_FS_Tick_p f_54 (fun (f_68 : S_simfs_FS) => (simfs_FS_Pending_p f_68 (fun (f_80 : S_simfs_FS) (r81 : Int) => ((inR .i64 r81) → (simfs_FS_Cut_p f_80 ([true]) (fun (f_113 : S_simfs_FS) => (simfs_FS_Read_p f_113 (ByteArray.mk #[97]) (fun (f_126 : S_simfs_FS) (r127 : (List Int)) (r128 : Int) => ((r127.length ≤ 9223372036854775807) → ((inR .i64 r128) → (simfs_FS_On_p f_126 (fun (f_145 : S_simfs_FS) => (simfs_FS_Read_p f_145 (ByteArray.mk #[97]) (fun (f_159 : S_simfs_FS) (r160 : (List Int)) (r161 : Int) => ((r160.length ≤ 9223372036854775807) → ((inR .i64 r161) → (simfs_FS_Read_p f_159 (ByteArray.mk #[98]) (fun (f_179 : S_simfs_FS) (r180 : (List Int)) (r181 : Int) => ((r180.length ≤ 9223372036854775807) → ((inR .i64 r181) → (simfs_FS_Stat_p f_179 (ByteArray.mk #[97]) (fun (f_200 : S_simfs_FS) (r201 : S_simfs_Stat) (r202 : Int) => ((inR .i64 r201.Size) → ((inR .i64 r201.Time) → ((inR .i64 r201.Inode) → ((inR .i64 r201.Mode) → ((inR .i64 r202) → (simfs_FS_List_p f_200 (fun (f_237 : S_simfs_FS) (r238 : (List ByteArray)) (r239 : Int) => ((r238.length ≤ 9223372036854775807) → ((inR .i64 r239) → (∃ k328 : Bool → Prop, (∀ (s327 : Bool), k328 s327 → Q s327) ∧ ((inR .i64 (r41 + r55)) ∧ ((inR .i64 ((r41 + r55) + r161)) ∧ ((inR .i64 (((r41 + r55) + r161) + r202)) ∧ ((inR .i64 ((((r41 + r55) + r161) + r202) + r239)) ∧ (((((((r41 + r55) + r161) + r202) + r239) = (0 : Int)) → (((r81 = (2 : Int)) → (((r128 = (13 : Int)) → ((((strOfNums r160 : ByteArray) = (ByteArray.mk #[120, 121])) → (((r181 = (5 : Int)) → (((r201.Size = (2 : Int)) → (((r201.Mode = (1 : Int)) → (((r201.Inode = (1 : Int)) → ((((r238.length : Int) = (1 : Int)) → (simfs_FS_Now_p f_237 (fun (f_361 : S_simfs_FS) (r362 : Int) => ((inR .i64 r362) → (((r362 = (1 : Int)) → (simfs_FS_Used_p f_361 (fun (f_382 : S_simfs_FS) (r383 : Int) => ((inR .i64 r383) → (((r383 = (2 : Int)) → (simfs_FS_Ops_p f_382 (fun (f_403 : S_simfs_FS) (r404 : Int) => ((inR .i64 r404) → (k328 (decide (r404 = (2 : Int)))))))) ∧ ((¬ (r383 = (2 : Int))) → (k328 false))))))) ∧ ((¬ (r362 = (1 : Int))) → (k328 false))))))) ∧ ((¬ ((r238.length : Int) = (1 : Int))) → (k328 false)))) ∧ ((¬ (r201.Inode = (1 : Int))) → (k328 false)))) ∧ ((¬ (r201.Mode = (1 : Int))) → (k328 false)))) ∧ ((¬ (r201.Size = (2 : Int))) → (k328 false)))) ∧ ((¬ (r181 = (5 : Int))) → (k328 false)))) ∧ ((¬ ((strOfNums r160 : ByteArray) = (ByteArray.mk #[120, 121]))) → (k328 false)))) ∧ ((¬ (r128 = (13 : Int))) → (k328 false)))) ∧ ((¬ (r81 = (2 : Int))) → (k328 false)))) ∧ ((¬ (((((r41 + r55) + r161) + r202) + r239) = (0 : Int))) → (k328 false))))))))))))))))))))))))))))))))))))))))))))))))
set_option maxRecDepth 20000 in
set_option maxHeartbeats 4000000 in
theorem rectolaw5_known_w {X : List Nat} {w : World} {Q : Bool → Prop} (hX0 : Old X w) (hp : rectolaw5_known_p Q) :
    Calls Tryd.prog 6 #[] w (Ret fun v w' => ∃ (r0 : Bool), Q r0 ∧ Evo [] w w' ∧ v = (.bool r0)) := by
  have hXo := hX0
  have E0 : Evo [] w w := RB.refl _ _ _
  have hS : Sub X X := Sub.refl _
  unfold rectolaw5_known_p at hp
  refine enter_ Tryd.func6 rfl 120 [] (by kernel_rfl) (fun Qe hQ => ?_)
  refine seq_ (fun _ K1 => ?_)
  refine reg_ ?_
  refine sq (o_pv (.bool false) rfl (by kernel_rfl) ?_)
  refine nil_ ?_
  refine then_normal (K1 _ _ _ _ ?_)
  refine seq_ (fun _ K2 => ?_)
  refine reg_ ?_
  refine sq (o_call 7 #[(.int .i64 (0 : Int))] rfl (x_call Tryd.call7 (by kernel_rfl)) (simfs_New_w (X := X) (quota := (0 : Int)) hXo (by decide : inR .i64 (0 : Int)) hp) ?_)
  rintro _ w4 ⟨r3, hp, X5, br7, Fr8, s6, rfl, mr9⟩
  have m10 := MO.re mr9 (Wr.trans mr9.wr (Wr.nil [] _) E0.size)
  refine sq (o_pv (.pointer (some ⟨br7, 0, none⟩)) rfl (by kernel_rfl) ?_)
  refine nil_ ?_
  refine then_normal (K2 _ _ _ _ ?_)
  refine seq_ (fun _ K11 => ?_)
  refine seq_ (fun _ K12 => ?_)
  refine reg_ ?_
  refine sq (o_pv (.pointer (some ⟨br7, 0, none⟩)) rfl (by kernel_rfl) ?_)
  refine sq (o_pv (.bool false) rfl (x_pnil_eq (a := ⟨br7, 0, none⟩) Tryd.underlying23 (by kernel_rfl) (by kernel_rfl)) ?_)
  refine nil_ ?_
  refine then_normal (K12 _ _ _ _ ?_)
  refine cond_f (by kernel_rfl) ?_
  refine wp_skip ?_
  refine then_normal (K11 _ _ _ _ ?_)
  refine seq_ (fun _ K13 => ?_)
  refine reg_ ?_
  refine sq (o_pv (.pointer (some ⟨br7, 0, none⟩)) rfl (by kernel_rfl) ?_)
  have E20 := (Evo.then0 E0 (Step.evo s6))
  refine sq (o_rowX (R := (rInt .u8)) [(.int .u8 (120 : Int)), (.int .u8 (121 : Int))] [(120 : Int), (121 : Int)] 5 2 (X := X5) (B := w.heap.size) E20.size rfl (by kernel_rfl) (Flat.cons (cs := [(.int .u8 (120 : Int))]) (rInt_mk (by decide : inR .u8 (120 : Int))) (Flat.cons (cs := [(.int .u8 (121 : Int))]) (rInt_mk (by decide : inR .u8 (121 : Int))) Flat.nil)) rfl (by decide) ?_)
  intro b14 w15 X16 s17 O18 n19
  have p21 := n19 _ (MO.old m10)
  have m22 := (MO.step0 m10 s17)
  have hS23 := (Sub.trans (Sub.trans hS (Step.up s6)) (Step.up s17))
  have ax24 := OS.apold O18 hX0
  refine sq (o_mark rfl Tryd.underlying28 Tryd.underlying5 O18 (by kernel_rfl) ?_)
  intro w25 X26 s27 u28 h29 hm30
  have hXo32 := (Old.step (Old.step (Old.step hXo s6) s17) s27)
  have E33 := (Evo.thenW (Evo.then0 E20 (Step.evo s17)) (Step.evo s27) O18.2.2)
  have hS34 := (Sub.trans hS23 (Step.up s27))
  have m35 := (MO.step m22 s27 p21)
  have ax31 : Ap X [b14] := ax24
  have hXo36 := (Old.less hXo32 u28)
  have E37 := E33
  have hS38 := (hm30 _ ax31 hS34)
  have m39 := (MO.less m35 u28 (hm30 _ p21 (MO.mem m35)))
  refine sq (o_call 9 #[(.pointer (some ⟨br7, 0, none⟩)), (.string (ByteArray.mk #[97])), (.int .i64 (1 : Int)), (.slice (some ⟨b14, 0, none⟩) ([(120 : Int), (121 : Int)]).length 2)] rfl (x_call Tryd.call9 (by rw [← show 2 = ([(120 : Int), (121 : Int)]).length from O18.1]; kernel_rfl)) (simfs_FS_Write_w (X := X26) (f_ := r3) (p := (ByteArray.mk #[97])) (mode := (1 : Int)) (b := [(120 : Int), (121 : Int)]) hXo36 (MO.re m39 (Wr.self _ _ (Sub.refl _))) (by decide : (ByteArray.mk #[97]).size ≤ maxLen) (by decide : inR .i64 (1 : Int)) h29 hp) ?_)
  rintro _ w42 ⟨f_40, r41, hp, X43, F45, s44, rfl, m46, rr47⟩
  have m48 := MO.re m46 (Wr.trans m46.wr m39.wr E37.size)
  replace hp := hp rr47
  refine sq (o_pv (.int .i64 r41) rfl (by kernel_rfl) ?_)
  refine nil_ ?_
  refine then_normal (K13 _ _ _ _ ?_)
  refine seq_ (fun _ K49 => ?_)
  refine reg_ ?_
  refine sq (o_pv (.pointer (some ⟨br7, 0, none⟩)) rfl (by kernel_rfl) ?_)
  have hXo50 := (Old.step hXo36 s44)
  have E51 := (Evo.thenW E37 (Step.evo s44) m39.wr)
  have hS52 := (Sub.trans hS38 (Step.up s44))
  have h53 := (Sl.step h29 s44)
  refine sq (o_call 9 #[(.pointer (some ⟨br7, 0, none⟩)), (.string (ByteArray.mk #[98])), (.int .i64 (2 : Int)), (.slice none (([] : List Int)).length 0)] rfl (x_call Tryd.call9 (by rw []; kernel_rfl)) (simfs_FS_Write_w (X := X43) (f_ := f_40) (p := (ByteArray.mk #[98])) (mode := (2 : Int)) (b := ([] : List Int)) hXo50 (MO.re m48 (Wr.self _ _ (Sub.refl _))) (by decide : (ByteArray.mk #[98]).size ≤ maxLen) (by decide : inR .i64 (2 : Int)) Sl.nil hp) ?_)
  rintro _ w56 ⟨f_54, r55, hp, X57, F59, s58, rfl, m60, rr61⟩
  have m62 := MO.re m60 (Wr.trans m60.wr m48.wr E51.size)
  replace hp := hp rr61
  refine sq (o_pv (.int .i64 r55) rfl (by kernel_rfl) ?_)
  refine nil_ ?_
  refine then_normal (K49 _ _ _ _ ?_)
  refine seq_ (fun _ K63 => ?_)
  refine reg_ ?_
  refine sq (o_pv (.pointer (some ⟨br7, 0, none⟩)) rfl (by kernel_rfl) ?_)
  have hXo64 := (Old.step hXo50 s58)
  have E65 := (Evo.thenW E51 (Step.evo s58) m48.wr)
  have hS66 := (Sub.trans hS52 (Step.up s58))
  have h67 := (Sl.step h53 s58)
  refine sq (o_call 18 #[(.pointer (some ⟨br7, 0, none⟩))] rfl (x_call Tryd.call18 (by kernel_rfl)) (simfs_FS_Tick_w (X := X57) (f_ := f_54) hXo64 (MO.re m62 (Wr.self _ _ (Sub.refl _))) hp) ?_)
  rintro _ w69 ⟨f_68, hp, X70, F72, s71, rfl, m73⟩
  have m74 := MO.re m73 (Wr.trans m73.wr m62.wr E65.size)
  refine nil_ ?_
  refine then_normal (K63 _ _ _ _ ?_)
  refine seq_ (fun _ K75 => ?_)
  refine reg_ ?_
  refine sq (o_pv (.pointer (some ⟨br7, 0, none⟩)) rfl (by kernel_rfl) ?_)
  have hXo76 := (Old.step hXo64 s71)
  have E77 := (Evo.thenW E65 (Step.evo s71) m62.wr)
  have hS78 := (Sub.trans hS66 (Step.up s71))
  have h79 := (Sl.step h67 s71)
  refine sq (o_call 14 #[(.pointer (some ⟨br7, 0, none⟩))] rfl (x_call Tryd.call14 (by kernel_rfl)) (simfs_FS_Pending_w (X := X70) (f_ := f_68) hXo76 (MO.re m74 (Wr.self _ _ (Sub.refl _))) hp) ?_)
  rintro _ w82 ⟨f_80, r81, hp, X83, F85, s84, rfl, m86, rr87⟩
  have m88 := MO.re m86 (Wr.trans m86.wr m74.wr E77.size)
  replace hp := hp rr87
  refine sq (o_pv (.int .i64 r81) rfl (by kernel_rfl) ?_)
  refine nil_ ?_
  refine then_normal (K75 _ _ _ _ ?_)
  refine seq_ (fun _ K89 => ?_)
  refine reg_ ?_
  refine sq (o_pv (.pointer (some ⟨br7, 0, none⟩)) rfl (by kernel_rfl) ?_)
  have E96 := (Evo.thenW E77 (Step.evo s84) m74.wr)
  refine sq (o_rowX (R := rBool) [(.bool true)] [true] 4 1 (X := X83) (B := w.heap.size) E96.size rfl (by kernel_rfl) (Flat.cons (cs := [(.bool true)]) rBool_mk Flat.nil) rfl (by decide) ?_)
  intro b90 w91 X92 s93 O94 n95
  have p97 := n95 _ (MO.old m88)
  have hS98 := (Sub.trans (Sub.trans hS78 (Step.up s84)) (Step.up s93))
  have hXo104 := (Old.step (Old.step hXo76 s84) s93)
  have E105 := (Evo.then0 E96 (Step.evo s93))
  have h106 := (Sl.step (Sl.step h79 s84) s93)
  have m107 := (MO.step0 m88 s93)
  have ax103 := OS.apold O94 hX0
  obtain ⟨X99, u100, r101, hm102⟩ := OS.release O94
  have hXo108 := (Old.less hXo104 u100)
  have E109 := E105
  have hS110 := (hm102 _ ax103 hS98)
  have h111 := (Sl.less h106 u100)
  have m112 := (MO.less m107 u100 (hm102 _ p97 (MO.mem m107)))
  refine sq (o_call 16 #[(.pointer (some ⟨br7, 0, none⟩)), (.slice (some ⟨b90, 0, none⟩) ([true]).length 1)] rfl (x_call Tryd.call16 (by rw [← show 1 = ([true]).length from O94.1]; kernel_rfl)) (simfs_FS_Cut_w (X := X99) (f_ := f_80) (keep := [true]) hXo108 (MO.re m112 (Wr.self _ _ (Sub.refl _))) r101 hp) ?_)
  rintro _ w114 ⟨f_113, hp, X115, F117, s116, rfl, m118⟩
  have m119 := MO.re m118 (Wr.trans m118.wr m112.wr E109.size)
  refine nil_ ?_
  refine then_normal (K89 _ _ _ _ ?_)
  refine seq_ (fun _ K120 => ?_)
  refine reg_ ?_
  refine sq (o_pv (.pointer (some ⟨br7, 0, none⟩)) rfl (by kernel_rfl) ?_)
  have hXo121 := (Old.step hXo108 s116)
  have E122 := (Evo.thenW E109 (Step.evo s116) m112.wr)
  have hS123 := (Sub.trans hS110 (Step.up s116))
  have h124 := (Sl.step h111 s116)
  have r125 := (Sl.step r101 s116)
  refine sq (o_call 17 #[(.pointer (some ⟨br7, 0, none⟩)), (.string (ByteArray.mk #[97]))] rfl (x_call Tryd.call17 (by kernel_rfl)) (simfs_FS_Read_w (X := X115) (f_ := f_113) (p := (ByteArray.mk #[97])) hXo121 (MO.re m119 (Wr.self _ _ (Sub.refl _))) (by decide : (ByteArray.mk #[97]).size ≤ maxLen) hp) ?_)
  rintro _ w129 ⟨f_126, r127, r128, hp, X130, F132, ar134, cr135, s131, rfl, m133, hr136, rr137⟩
  have m138 := MO.re m133 (Wr.trans m133.wr m119.wr E122.size)
  replace hp := hp (Sl.len hr136)
  replace hp := hp rr137
  refine sq (o_pv (.tuple #[(.slice ar134 r127.length cr135), (.int .i64 r128)]) rfl (by kernel_rfl) ?_)
  refine sq (o_pv (.slice ar134 r127.length cr135) rfl (by kernel_rfl) ?_)
  refine sq (o_pv (.int .i64 r128) rfl (by kernel_rfl) ?_)
  refine sq (o_pv (.slice ar134 r127.length cr135) rfl (by kernel_rfl) ?_)
  refine sq (o_pv (.int .i64 r128) rfl (by kernel_rfl) ?_)
  refine nil_ ?_
  refine then_normal (K120 _ _ _ _ ?_)
  refine seq_ (fun _ K139 => ?_)
  refine reg_ ?_
  refine sq (o_pv (.pointer (some ⟨br7, 0, none⟩)) rfl (by kernel_rfl) ?_)
  have hXo140 := (Old.step hXo121 s131)
  have E141 := (Evo.thenW E122 (Step.evo s131) m119.wr)
  have hS142 := (Sub.trans hS123 (Step.up s131))
  have h143 := (Sl.step h124 s131)
  have r144 := (Sl.step r125 s131)
  refine sq (o_call 11 #[(.pointer (some ⟨br7, 0, none⟩))] rfl (x_call Tryd.call11 (by kernel_rfl)) (simfs_FS_On_w (X := X130) (f_ := f_126) hXo140 (MO.re m138 (Wr.self _ _ (Sub.refl _))) hp) ?_)
  rintro _ w146 ⟨f_145, hp, X147, F149, s148, rfl, m150⟩
  have m151 := MO.re m150 (Wr.trans m150.wr m138.wr E141.size)
  refine nil_ ?_
  refine then_normal (K139 _ _ _ _ ?_)
  refine seq_ (fun _ K152 => ?_)
  refine reg_ ?_
  refine sq (o_pv (.pointer (some ⟨br7, 0, none⟩)) rfl (by kernel_rfl) ?_)
  have hXo153 := (Old.step hXo140 s148)
  have E154 := (Evo.thenW E141 (Step.evo s148) m138.wr)
  have hS155 := (Sub.trans hS142 (Step.up s148))
  have h156 := (Sl.step h143 s148)
  have r157 := (Sl.step r144 s148)
  have hr158 := (Sl.step hr136 s148)
  refine sq (o_call 17 #[(.pointer (some ⟨br7, 0, none⟩)), (.string (ByteArray.mk #[97]))] rfl (x_call Tryd.call17 (by kernel_rfl)) (simfs_FS_Read_w (X := X147) (f_ := f_145) (p := (ByteArray.mk #[97])) hXo153 (MO.re m151 (Wr.self _ _ (Sub.refl _))) (by decide : (ByteArray.mk #[97]).size ≤ maxLen) hp) ?_)
  rintro _ w162 ⟨f_159, r160, r161, hp, X163, F165, ar167, cr168, s164, rfl, m166, hr169, rr170⟩
  have m171 := MO.re m166 (Wr.trans m166.wr m151.wr E154.size)
  replace hp := hp (Sl.len hr169)
  replace hp := hp rr170
  refine sq (o_pv (.tuple #[(.slice ar167 r160.length cr168), (.int .i64 r161)]) rfl (by kernel_rfl) ?_)
  refine sq (o_pv (.slice ar167 r160.length cr168) rfl (by kernel_rfl) ?_)
  refine sq (o_pv (.int .i64 r161) rfl (by kernel_rfl) ?_)
  refine sq (o_pv (.slice ar167 r160.length cr168) rfl (by kernel_rfl) ?_)
  refine sq (o_pv (.int .i64 r161) rfl (by kernel_rfl) ?_)
  refine nil_ ?_
  refine then_normal (K152 _ _ _ _ ?_)
  refine seq_ (fun _ K172 => ?_)
  refine reg_ ?_
  refine sq (o_pv (.pointer (some ⟨br7, 0, none⟩)) rfl (by kernel_rfl) ?_)
  have hXo173 := (Old.step hXo153 s164)
  have E174 := (Evo.thenW E154 (Step.evo s164) m151.wr)
  have hS175 := (Sub.trans hS155 (Step.up s164))
  have h176 := (Sl.step h156 s164)
  have r177 := (Sl.step r157 s164)
  have hr178 := (Sl.step hr158 s164)
  refine sq (o_call 17 #[(.pointer (some ⟨br7, 0, none⟩)), (.string (ByteArray.mk #[98]))] rfl (x_call Tryd.call17 (by kernel_rfl)) (simfs_FS_Read_w (X := X163) (f_ := f_159) (p := (ByteArray.mk #[98])) hXo173 (MO.re m171 (Wr.self _ _ (Sub.refl _))) (by decide : (ByteArray.mk #[98]).size ≤ maxLen) hp) ?_)
  rintro _ w182 ⟨f_179, r180, r181, hp, X183, F185, ar187, cr188, s184, rfl, m186, hr189, rr190⟩
  have m191 := MO.re m186 (Wr.trans m186.wr m171.wr E174.size)
  replace hp := hp (Sl.len hr189)
  replace hp := hp rr190
  refine sq (o_pv (.tuple #[(.slice ar187 r180.length cr188), (.int .i64 r181)]) rfl (by kernel_rfl) ?_)
  refine sq (o_pv (.slice ar187 r180.length cr188) rfl (by kernel_rfl) ?_)
  refine sq (o_pv (.int .i64 r181) rfl (by kernel_rfl) ?_)
  refine sq (o_pv (.slice ar187 r180.length cr188) rfl (by kernel_rfl) ?_)
  refine sq (o_pv (.int .i64 r181) rfl (by kernel_rfl) ?_)
  refine nil_ ?_
  refine then_normal (K172 _ _ _ _ ?_)
  refine seq_ (fun _ K192 => ?_)
  refine reg_ ?_
  refine sq (o_pv (.pointer (some ⟨br7, 0, none⟩)) rfl (by kernel_rfl) ?_)
  have hXo193 := (Old.step hXo173 s184)
  have E194 := (Evo.thenW E174 (Step.evo s184) m171.wr)
  have hS195 := (Sub.trans hS175 (Step.up s184))
  have h196 := (Sl.step h176 s184)
  have r197 := (Sl.step r177 s184)
  have hr198 := (Sl.step hr178 s184)
  have hr199 := (Sl.step hr169 s184)
  refine sq (o_call 19 #[(.pointer (some ⟨br7, 0, none⟩)), (.string (ByteArray.mk #[97]))] rfl (x_call Tryd.call19 (by kernel_rfl)) (simfs_FS_Stat_w (X := X183) (f_ := f_179) (p := (ByteArray.mk #[97])) hXo193 (MO.re m191 (Wr.self _ _ (Sub.refl _))) (by decide : (ByteArray.mk #[97]).size ≤ maxLen) hp) ?_)
  rintro _ w203 ⟨f_200, r201, r202, hp, X204, F206, s205, rfl, m207, rrSize208, rrTime209, rrInode210, rrMode211, rr212⟩
  have m213 := MO.re m207 (Wr.trans m207.wr m191.wr E194.size)
  replace hp := hp rrSize208
  replace hp := hp rrTime209
  replace hp := hp rrInode210
  replace hp := hp rrMode211
  replace hp := hp rr212
  refine sq (o_pv (.tuple #[(.agg #[(.int .i64 r201.Size), (.int .i64 r201.Time), (.int .i64 r201.Inode), (.int .i64 r201.Mode)]), (.int .i64 r202)]) rfl (by kernel_rfl) ?_)
  refine sq (o_pv (.agg #[(.int .i64 r201.Size), (.int .i64 r201.Time), (.int .i64 r201.Inode), (.int .i64 r201.Mode)]) rfl (by kernel_rfl) ?_)
  refine sq (o_pv (.int .i64 r202) rfl (by kernel_rfl) ?_)
  have E220 := (Evo.thenW E194 (Step.evo s205) m191.wr)
  refine sq (o_newX [(.int .i64 (0 : Int)), (.int .i64 (0 : Int)), (.int .i64 (0 : Int)), (.int .i64 (0 : Int))] 42 (X := X204) (B := w.heap.size) E220.size rfl (by kernel_rfl) ?_)
  intro b214 w215 X216 s217 k218 n219
  have p221 := n219 _ (MO.old m213)
  have m222 := (MO.step0 m213 s217)
  have E223 := (Evo.then0 E220 (Step.evo s217))
  refine sq (o_stB (o := 0) (v := (.agg #[(.int .i64 r201.Size), (.int .i64 r201.Time), (.int .i64 r201.Inode), (.int .i64 r201.Mode)])) [(.int .i64 r201.Size), (.int .i64 r201.Time), (.int .i64 r201.Inode), (.int .i64 r201.Mode)] rfl k218 (by kernel_rfl) (by kernel_rfl) Tryd.sizeOf42 rfl rfl rfl ?_)
  intro w224 s225 k226
  refine sq (o_pv (.int .i64 r202) rfl (by kernel_rfl) ?_)
  refine nil_ ?_
  refine then_normal (K192 _ _ _ _ ?_)
  refine seq_ (fun _ K227 => ?_)
  refine reg_ ?_
  refine sq (o_pv (.pointer (some ⟨br7, 0, none⟩)) rfl (by kernel_rfl) ?_)
  have hXo228 := (Old.step (Old.step (Old.step hXo193 s205) s217) s225)
  have E229 := (Evo.thenW E223 (Step.evo s225) k218.2.2)
  have hS230 := (Sub.trans (Sub.trans (Sub.trans hS195 (Step.up s205)) (Step.up s217)) (Step.up s225))
  have h231 := (Sl.step (Sl.step (Sl.step h196 s205) s217) s225)
  have r232 := (Sl.step (Sl.step (Sl.step r197 s205) s217) s225)
  have hr233 := (Sl.step (Sl.step (Sl.step hr198 s205) s217) s225)
  have hr234 := (Sl.step (Sl.step (Sl.step hr199 s205) s217) s225)
  have hr235 := (Sl.step (Sl.step (Sl.step hr189 s205) s217) s225)
  have m236 := (MO.step m222 s225 p221)
  refine sq (o_call 12 #[(.pointer (some ⟨br7, 0, none⟩))] rfl (x_call Tryd.call12 (by kernel_rfl)) (simfs_FS_List_w (X := X216) (f_ := f_200) hXo228 (MO.re m236 (Wr.self _ _ (Sub.refl _))) hp) ?_)
  rintro _ w240 ⟨f_237, r238, r239, hp, X241, F243, ar245, cr246, s242, rfl, m244, hr247, rr248⟩
  have m249 := MO.re m244 (Wr.trans m244.wr m236.wr E229.size)
  have p250 := Ap.grow m244.wr (Ap.symm p221) (OB.old k226) (Nat.le_refl _)
  replace hp := hp (Sl.len hr247)
  replace hp := hp rr248
  refine sq (o_pv (.tuple #[(.slice ar245 r238.length cr246), (.int .i64 r239)]) rfl (by kernel_rfl) ?_)
  refine sq (o_pv (.slice ar245 r238.length cr246) rfl (by kernel_rfl) ?_)
  refine sq (o_pv (.int .i64 r239) rfl (by kernel_rfl) ?_)
  refine sq (o_pv (.slice ar245 r238.length cr246) rfl (by kernel_rfl) ?_)
  refine sq (o_pv (.int .i64 r239) rfl (by kernel_rfl) ?_)
  refine nil_ ?_
  refine then_normal (K227 _ _ _ _ ?_)
  refine seq_ (fun _ K251 => ?_)
  have hXo335 := (Old.step hXo228 s242)
  have E336 := (Evo.thenW E229 (Step.evo s242) m236.wr)
  have hS337 := (Sub.trans hS230 (Step.up s242))
  have h338 := (Sl.step h231 s242)
  have r339 := (Sl.step r232 s242)
  have hr340 := (Sl.step hr233 s242)
  have hr341 := (Sl.step hr234 s242)
  have hr342 := (Sl.step hr235 s242)
  have k343 := (OB.step k226 s242 (Ap.symm p221))
  obtain ⟨k328, hk329, hp⟩ := hp
  refine ground_ ?_
  refine join_ 1329227995784915872615576684128632833 (fun lq w330 => ∃ (X331 : List Nat) (s327 : Bool), (lq = [(0, (.bool s327))]) ∧ (Evo [] w w330) ∧ (Old X331 w330) ∧ (Sub X X331) ∧ (k328 s327)) (fun Kj332 hJ333 => ?_) ?_
  ·
    refine reg_ ?_
    refine sq (o_pv (.int .i64 r41) rfl (by kernel_rfl) ?_)
    refine sq (o_pv (.int .i64 r55) rfl (by kernel_rfl) ?_)
    obtain ⟨h347, hp⟩ := hp
    refine sq (o_pv (.int .i64 (r41 + r55)) rfl (x_add2 (k := .i64) (a := r41) (b := r55) (r41 + r55) (by kernel_rfl) (by kernel_rfl) (wrap_inR h347)) ?_)
    refine sq (o_pv (.int .i64 r161) rfl (by kernel_rfl) ?_)
    obtain ⟨h348, hp⟩ := hp
    refine sq (o_pv (.int .i64 ((r41 + r55) + r161)) rfl (x_add2 (k := .i64) (a := r41 + r55) (b := r161) ((r41 + r55) + r161) (by kernel_rfl) (by kernel_rfl) (wrap_inR h348)) ?_)
    refine sq (o_pv (.int .i64 r202) rfl (by kernel_rfl) ?_)
    obtain ⟨h349, hp⟩ := hp
    refine sq (o_pv (.int .i64 (((r41 + r55) + r161) + r202)) rfl (x_add2 (k := .i64) (a := (r41 + r55) + r161) (b := r202) (((r41 + r55) + r161) + r202) (by kernel_rfl) (by kernel_rfl) (wrap_inR h349)) ?_)
    refine sq (o_pv (.int .i64 r239) rfl (by kernel_rfl) ?_)
    obtain ⟨h350, hp⟩ := hp
    refine sq (o_pv (.int .i64 ((((r41 + r55) + r161) + r202) + r239)) rfl (x_add2 (k := .i64) (a := ((r41 + r55) + r161) + r202) (b := r239) ((((r41 + r55) + r161) + r202) + r239) (by kernel_rfl) (by kernel_rfl) (wrap_inR h350)) ?_)
    by_cases h351 : ((((r41 + r55) + r161) + r202) + r239) = (0 : Int)
    ·
      replace hp := hp.1 h351
      refine sq (o_pv (.bool true) rfl (x_dt (p := ((((r41 + r55) + r161) + r202) + r239) = (0 : Int)) (by kernel_rfl) h351) ?_)
      refine sq (o_pv (.bool true) rfl (by kernel_rfl) ?_)
      refine sq (o_pv (.int .i64 r81) (by kernel_rfl) (by kernel_rfl) ?_)
      by_cases h352 : r81 = (2 : Int)
      ·
        replace hp := hp.1 h352
        refine sq (o_pv (.bool true) (by kernel_rfl) (x_dt (p := r81 = (2 : Int)) (by kernel_rfl) h352) ?_)
        refine sq (o_pv (.bool true) rfl (by kernel_rfl) ?_)
        refine sq (o_pv (.bool true) rfl (by kernel_rfl) ?_)
        refine sq (o_pv (.int .i64 r128) (by kernel_rfl) (by kernel_rfl) ?_)
        by_cases h353 : r128 = (13 : Int)
        ·
          replace hp := hp.1 h353
          refine sq (o_pv (.bool true) (by kernel_rfl) (x_dt (p := r128 = (13 : Int)) (by kernel_rfl) h353) ?_)
          refine sq (o_pv (.bool true) rfl (by kernel_rfl) ?_)
          refine sq (o_pv (.bool true) rfl (by kernel_rfl) ?_)
          refine sq (o_pv (.slice ar167 r160.length cr168) (by kernel_rfl) (by kernel_rfl) ?_)
          have hl354 := Sl.len hr341
          refine sq (o_pv (.string (strOfNums r160)) (by kernel_rfl) (x_b2s_sl (a := ar167) (len := r160.length) (c := cr168) r160 Tryd.underlying28 Tryd.underlying5 Tryd.underlying9 (by kernel_rfl) rfl hr341) ?_)
          by_cases h355 : (strOfNums r160 : ByteArray) = (ByteArray.mk #[120, 121])
          ·
            replace hp := hp.1 h355
            refine sq (o_pv (.bool true) (by kernel_rfl) (x_dt (p := (strOfNums r160 : ByteArray) = (ByteArray.mk #[120, 121])) (x_streq (by kernel_rfl) (by kernel_rfl)) h355) ?_)
            refine sq (o_pv (.bool true) rfl (by kernel_rfl) ?_)
            refine sq (o_pv (.bool true) rfl (by kernel_rfl) ?_)
            refine sq (o_pv (.int .i64 r181) (by kernel_rfl) (by kernel_rfl) ?_)
            by_cases h356 : r181 = (5 : Int)
            ·
              replace hp := hp.1 h356
              refine sq (o_pv (.bool true) (by kernel_rfl) (x_dt (p := r181 = (5 : Int)) (by kernel_rfl) h356) ?_)
              refine sq (o_pv (.bool true) rfl (by kernel_rfl) ?_)
              refine sq (o_pv (.bool true) rfl (by kernel_rfl) ?_)
              refine sq (o_pv (.pointer (some ⟨b214, 0, none⟩)) (by kernel_rfl) (by kernel_rfl) ?_)
              refine sq (o_pv (.int .i64 r201.Size) (by kernel_rfl) (x_load1 (by kernel_rfl) Tryd.isAgg3 (k343.2.1.cell' 0 rfl)) ?_)
              by_cases h357 : r201.Size = (2 : Int)
              ·
                replace hp := hp.1 h357
                refine sq (o_pv (.bool true) (by kernel_rfl) (x_dt (p := r201.Size = (2 : Int)) (by kernel_rfl) h357) ?_)
                refine sq (o_pv (.bool true) rfl (by kernel_rfl) ?_)
                refine sq (o_pv (.bool true) rfl (by kernel_rfl) ?_)
                refine sq (o_pv (.pointer (some ⟨b214, 3, none⟩)) (by kernel_rfl) (by kernel_rfl) ?_)
                refine sq (o_pv (.int .i64 r201.Mode) (by kernel_rfl) (x_load1 (by kernel_rfl) Tryd.isAgg3 (k343.2.1.cell' 3 rfl)) ?_)
                by_cases h358 : r201.Mode = (1 : Int)
                ·
                  replace hp := hp.1 h358
                  refine sq (o_pv (.bool true) (by kernel_rfl) (x_dt (p := r201.Mode = (1 : Int)) (by kernel_rfl) h358) ?_)
                  refine sq (o_pv (.bool true) rfl (by kernel_rfl) ?_)
                  refine sq (o_pv (.bool true) rfl (by kernel_rfl) ?_)
                  refine sq (o_pv (.pointer (some ⟨b214, 2, none⟩)) (by kernel_rfl) (by kernel_rfl) ?_)
                  refine sq (o_pv (.int .i64 r201.Inode) (by kernel_rfl) (x_load1 (by kernel_rfl) Tryd.isAgg3 (k343.2.1.cell' 2 rfl)) ?_)
                  by_cases h359 : r201.Inode = (1 : Int)
                  ·
                    replace hp := hp.1 h359
                    refine sq (o_pv (.bool true) (by kernel_rfl) (x_dt (p := r201.Inode = (1 : Int)) (by kernel_rfl) h359) ?_)
                    refine sq (o_pv (.bool true) rfl (by kernel_rfl) ?_)
                    refine sq (o_pv (.bool true) rfl (by kernel_rfl) ?_)
                    refine sq (o_pv (.slice ar245 r238.length cr246) (by kernel_rfl) (by kernel_rfl) ?_)
                    refine sq (o_pv (.int .i64 (r238.length : Int)) (by kernel_rfl) (by kernel_rfl) ?_)
                    by_cases h360 : (r238.length : Int) = (1 : Int)
                    ·
                      replace hp := hp.1 h360
                      refine sq (o_pv (.bool true) (by kernel_rfl) (x_dt (p := (r238.length : Int) = (1 : Int)) (by kernel_rfl) h360) ?_)
                      refine sq (o_pv (.bool true) rfl (by kernel_rfl) ?_)
                      refine sq (o_pv (.bool true) rfl (by kernel_rfl) ?_)
                      refine sq (o_pv (.pointer (some ⟨br7, 0, none⟩)) (by kernel_rfl) (by kernel_rfl) ?_)
                      refine sq (o_call 21 #[(.pointer (some ⟨br7, 0, none⟩))] (by kernel_rfl) (x_call Tryd.call21 (by kernel_rfl)) (simfs_FS_Now_w (X := X241) (f_ := f_237) hXo335 (MO.re m249 (Wr.self _ _ (Sub.refl _))) hp) ?_)
                      rintro _ w363 ⟨f_361, r362, hp, X364, F366, s365, rfl, m367, rr368⟩
                      have m369 := MO.re m367 (Wr.trans m367.wr m249.wr E336.size)
                      have p370 := Ap.grow m367.wr p250 (OB.old k343) (Nat.le_refl _)
                      replace hp := hp rr368
                      by_cases h371 : r362 = (1 : Int)
                      ·
                        replace hp := hp.1 h371
                        refine sq (o_pv (.bool true) (by kernel_rfl) (x_dt (p := r362 = (1 : Int)) (by kernel_rfl) h371) ?_)
                        refine sq (o_pv (.bool true) rfl (by kernel_rfl) ?_)
                        refine sq (o_pv (.bool true) rfl (by kernel_rfl) ?_)
                        refine sq (o_pv (.pointer (some ⟨br7, 0, none⟩)) (by kernel_rfl) (by kernel_rfl) ?_)
                        have hXo372 := (Old.step hXo335 s365)
                        have E373 := (Evo.thenW E336 (Step.evo s365) m249.wr)
                        have hS374 := (Sub.trans hS337 (Step.up s365))
                        have h375 := (Sl.step h338 s365)
                        have r376 := (Sl.step r339 s365)
                        have hr377 := (Sl.step hr340 s365)
                        have hr378 := (Sl.step hr341 s365)
                        have hr379 := (Sl.step hr342 s365)
                        have k380 := (OB.step k343 s365 p250)
                        have hr381 := (Sl.step hr247 s365)
                        refine sq (o_call 22 #[(.pointer (some ⟨br7, 0, none⟩))] (by kernel_rfl) (x_call Tryd.call22 (by kernel_rfl)) (simfs_FS_Used_w (X := X364) (f_ := f_361) hXo372 (MO.re m369 (Wr.self _ _ (Sub.refl _))) hp) ?_)
                        rintro _ w384 ⟨f_382, r383, hp, X385, F387, s386, rfl, m388, rr389⟩
                        have m390 := MO.re m388 (Wr.trans m388.wr m369.wr E373.size)
                        have p391 := Ap.grow m388.wr p370 (OB.old k380) (Nat.le_refl _)
                        replace hp := hp rr389
                        by_cases h392 : r383 = (2 : Int)
                        ·
                          replace hp := hp.1 h392
                          refine sq (o_pv (.bool true) (by kernel_rfl) (x_dt (p := r383 = (2 : Int)) (by kernel_rfl) h392) ?_)
                          refine sq (o_pv (.bool true) rfl (by kernel_rfl) ?_)
                          refine sq (o_pv (.bool true) rfl (by kernel_rfl) ?_)
                          refine sq (o_pv (.pointer (some ⟨br7, 0, none⟩)) (by kernel_rfl) (by kernel_rfl) ?_)
                          have hXo393 := (Old.step hXo372 s386)
                          have E394 := (Evo.thenW E373 (Step.evo s386) m369.wr)
                          have hS395 := (Sub.trans hS374 (Step.up s386))
                          have h396 := (Sl.step h375 s386)
                          have r397 := (Sl.step r376 s386)
                          have hr398 := (Sl.step hr377 s386)
                          have hr399 := (Sl.step hr378 s386)
                          have hr400 := (Sl.step hr379 s386)
                          have k401 := (OB.step k380 s386 p370)
                          have hr402 := (Sl.step hr381 s386)
                          refine sq (o_call 13 #[(.pointer (some ⟨br7, 0, none⟩))] (by kernel_rfl) (x_call Tryd.call13 (by kernel_rfl)) (simfs_FS_Ops_w (X := X385) (f_ := f_382) hXo393 (MO.re m390 (Wr.self _ _ (Sub.refl _))) hp) ?_)
                          rintro _ w405 ⟨f_403, r404, hp, X406, F408, s407, rfl, m409, rr410⟩
                          have m411 := MO.re m409 (Wr.trans m409.wr m390.wr E394.size)
                          have p412 := Ap.grow m409.wr p391 (OB.old k401) (Nat.le_refl _)
                          replace hp := hp rr410
                          refine sq (o_pv (.bool (decide (r404 = (2 : Int)))) (by kernel_rfl) (by kernel_rfl) ?_)
                          refine sq (o_pv (.bool (decide (r404 = (2 : Int)))) rfl (by kernel_rfl) ?_)
                          refine sq (o_pv (.bool (decide (r404 = (2 : Int)))) rfl (by kernel_rfl) ?_)
                          refine nil_ ?_
                          have E413 := (Evo.thenW E394 (Step.evo s407) m390.wr)
                          have hXo414 := (Old.step hXo393 s407)
                          have hS415 := (Sub.trans hS395 (Step.up s407))
                          refine then_normal (hJ333 _ _ _ ⟨[(0, (.bool (decide (r404 = (2 : Int)))))], fit_mk (fun _ _ => rfl) (by kernel_rfl) (vs_cons (by kernel_rfl) vs_nil), ?_⟩)
                          exact ⟨X406, (decide (r404 = (2 : Int))), rfl, E413, hXo414, hS415, hp⟩
                        ·
                          replace hp := hp.2 h392
                          refine sq (o_pv (.bool false) (by kernel_rfl) (x_df (p := r383 = (2 : Int)) (by kernel_rfl) h392) ?_)
                          refine sq (o_pv (.bool false) rfl (by kernel_rfl) ?_)
                          refine sq (o_pv (.bool false) rfl (by kernel_rfl) ?_)
                          refine sq (o_not (by kernel_rfl) ?_)
                          refine sq (o_not (by kernel_rfl) ?_)
                          refine sq (o_not (by kernel_rfl) ?_)
                          refine sq (o_pv (.bool false) rfl (by kernel_rfl) ?_)
                          refine sq (o_pv (.bool false) rfl (by kernel_rfl) ?_)
                          refine nil_ ?_
                          have E416 := (Evo.thenW E373 (Step.evo s386) m369.wr)
                          have hXo417 := (Old.step hXo372 s386)
                          have hS418 := (Sub.trans hS374 (Step.up s386))
                          refine then_normal (hJ333 _ _ _ ⟨[(0, (.bool false))], fit_mk (fun _ _ => rfl) (by kernel_rfl) (vs_cons (by kernel_rfl) vs_nil), ?_⟩)
                          exact ⟨X385, false, rfl, E416, hXo417, hS418, hp⟩
                      ·
                        replace hp := hp.2 h371
                        refine sq (o_pv (.bool false) (by kernel_rfl) (x_df (p := r362 = (1 : Int)) (by kernel_rfl) h371) ?_)
                        refine sq (o_pv (.bool false) rfl (by kernel_rfl) ?_)
                        refine sq (o_pv (.bool false) rfl (by kernel_rfl) ?_)
                        refine sq (o_not (by kernel_rfl) ?_)
                        refine sq (o_not (by kernel_rfl) ?_)
                        refine sq (o_not (by kernel_rfl) ?_)
                        refine sq (o_pv (.bool false) rfl (by kernel_rfl) ?_)
                        refine sq (o_pv (.bool false) rfl (by kernel_rfl) ?_)
                        refine sq (o_not (by kernel_rfl) ?_)
                        refine sq (o_not (by kernel_rfl) ?_)
                        refine sq (o_not (by kernel_rfl) ?_)
                        refine sq (o_pv (.bool false) rfl (by kernel_rfl) ?_)
                        refine sq (o_pv (.bool false) rfl (by kernel_rfl) ?_)
                        refine nil_ ?_
                        have E419 := (Evo.thenW E336 (Step.evo s365) m249.wr)
                        have hXo420 := (Old.step hXo335 s365)
                        have hS421 := (Sub.trans hS337 (Step.up s365))
                        refine then_normal (hJ333 _ _ _ ⟨[(0, (.bool false))], fit_mk (fun _ _ => rfl) (by kernel_rfl) (vs_cons (by kernel_rfl) vs_nil), ?_⟩)
                        exact ⟨X364, false, rfl, E419, hXo420, hS421, hp⟩
                    ·
                      replace hp := hp.2 h360
                      refine sq (o_pv (.bool false) (by kernel_rfl) (x_df (p := (r238.length : Int) = (1 : Int)) (by kernel_rfl) h360) ?_)
                      refine sq (o_pv (.bool false) rfl (by kernel_rfl) ?_)
                      refine sq (o_pv (.bool false) rfl (by kernel_rfl) ?_)
                      refine sq (o_not (by kernel_rfl) ?_)
                      refine sq (o_not (by kernel_rfl) ?_)
                      refine sq (o_not (by kernel_rfl) ?_)
                      refine sq (o_pv (.bool false) rfl (by kernel_rfl) ?_)
                      refine sq (o_pv (.bool false) rfl (by kernel_rfl) ?_)
                      refine sq (o_not (by kernel_rfl) ?_)
                      refine sq (o_not (by kernel_rfl) ?_)
                      refine sq (o_not (by kernel_rfl) ?_)
                      refine sq (o_pv (.bool false) rfl (by kernel_rfl) ?_)
                      refine sq (o_pv (.bool false) rfl (by kernel_rfl) ?_)
                      refine sq (o_not (by kernel_rfl) ?_)
                      refine sq (o_not (by kernel_rfl) ?_)
                      refine sq (o_not (by kernel_rfl) ?_)
                      refine sq (o_pv (.bool false) rfl (by kernel_rfl) ?_)
                      refine sq (o_pv (.bool false) rfl (by kernel_rfl) ?_)
                      refine nil_ ?_
                      refine then_normal (hJ333 _ _ _ ⟨[(0, (.bool false))], fit_mk (fun _ _ => rfl) (by kernel_rfl) (vs_cons (by kernel_rfl) vs_nil), ?_⟩)
                      exact ⟨X241, false, rfl, E336, hXo335, hS337, hp⟩
                  ·
                    replace hp := hp.2 h359
                    refine sq (o_pv (.bool false) (by kernel_rfl) (x_df (p := r201.Inode = (1 : Int)) (by kernel_rfl) h359) ?_)
                    refine sq (o_pv (.bool false) rfl (by kernel_rfl) ?_)
                    refine sq (o_pv (.bool false) rfl (by kernel_rfl) ?_)
                    refine sq (o_not (by kernel_rfl) ?_)
                    refine sq (o_not (by kernel_rfl) ?_)
                    refine sq (o_not (by kernel_rfl) ?_)
                    refine sq (o_pv (.bool false) rfl (by kernel_rfl) ?_)
                    refine sq (o_pv (.bool false) rfl (by kernel_rfl) ?_)
                    refine sq (o_not (by kernel_rfl) ?_)
                    refine sq (o_not (by kernel_rfl) ?_)
                    refine sq (o_not (by kernel_rfl) ?_)
                    refine sq (o_pv (.bool false) rfl (by kernel_rfl) ?_)
                    refine sq (o_pv (.bool false) rfl (by kernel_rfl) ?_)
                    refine sq (o_not (by kernel_rfl) ?_)
                    refine sq (o_not (by kernel_rfl) ?_)
                    refine sq (o_not (by kernel_rfl) ?_)
                    refine sq (o_pv (.bool false) rfl (by kernel_rfl) ?_)
                    refine sq (o_pv (.bool false) rfl (by kernel_rfl) ?_)
                    refine sq (o_not (by kernel_rfl) ?_)
                    refine sq (o_not (by kernel_rfl) ?_)
                    refine sq (o_not (by kernel_rfl) ?_)
                    refine sq (o_pv (.bool false) rfl (by kernel_rfl) ?_)
                    refine sq (o_pv (.bool false) rfl (by kernel_rfl) ?_)
                    refine nil_ ?_
                    refine then_normal (hJ333 _ _ _ ⟨[(0, (.bool false))], fit_mk (fun _ _ => rfl) (by kernel_rfl) (vs_cons (by kernel_rfl) vs_nil), ?_⟩)
                    exact ⟨X241, false, rfl, E336, hXo335, hS337, hp⟩
                ·
                  replace hp := hp.2 h358
                  refine sq (o_pv (.bool false) (by kernel_rfl) (x_df (p := r201.Mode = (1 : Int)) (by kernel_rfl) h358) ?_)
                  refine sq (o_pv (.bool false) rfl (by kernel_rfl) ?_)
                  refine sq (o_pv (.bool false) rfl (by kernel_rfl) ?_)
                  refine sq (o_not (by kernel_rfl) ?_)
                  refine sq (o_not (by kernel_rfl) ?_)
                  refine sq (o_not (by kernel_rfl) ?_)
                  refine sq (o_pv (.bool false) rfl (by kernel_rfl) ?_)
                  refine sq (o_pv (.bool false) rfl (by kernel_rfl) ?_)
                  refine sq (o_not (by kernel_rfl) ?_)
                  refine sq (o_not (by kernel_rfl) ?_)
                  refine sq (o_not (by kernel_rfl) ?_)
                  refine sq (o_pv (.bool false) rfl (by kernel_rfl) ?_)
                  refine sq (o_pv (.bool false) rfl (by kernel_rfl) ?_)
                  refine sq (o_not (by kernel_rfl) ?_)
                  refine sq (o_not (by kernel_rfl) ?_)
                  refine sq (o_not (by kernel_rfl) ?_)
                  refine sq (o_pv (.bool false) rfl (by kernel_rfl) ?_)
                  refine sq (o_pv (.bool false) rfl (by kernel_rfl) ?_)
                  refine sq (o_not (by kernel_rfl) ?_)
                  refine sq (o_not (by kernel_rfl) ?_)
                  refine sq (o_not (by kernel_rfl) ?_)
                  refine sq (o_pv (.bool false) rfl (by kernel_rfl) ?_)
                  refine sq (o_pv (.bool false) rfl (by kernel_rfl) ?_)
                  refine sq (o_not (by kernel_rfl) ?_)
                  refine sq (o_not (by kernel_rfl) ?_)
                  refine sq (o_not (by kernel_rfl) ?_)
                  refine sq (o_pv (.bool false) rfl (by kernel_rfl) ?_)
                  refine sq (o_pv (.bool false) rfl (by kernel_rfl) ?_)
                  refine nil_ ?_
                  refine then_normal (hJ333 _ _ _ ⟨[(0, (.bool false))], fit_mk (fun _ _ => rfl) (by kernel_rfl) (vs_cons (by kernel_rfl) vs_nil), ?_⟩)
                  exact ⟨X241, false, rfl, E336, hXo335, hS337, hp⟩
              ·
                replace hp := hp.2 h357
                refine sq (o_pv (.bool false) (by kernel_rfl) (x_df (p := r201.Size = (2 : Int)) (by kernel_rfl) h357) ?_)
                refine sq (o_pv (.bool false) rfl (by kernel_rfl) ?_)
                refine sq (o_pv (.bool false) rfl (by kernel_rfl) ?_)
                refine sq (o_not (by kernel_rfl) ?_)
                refine sq (o_not (by kernel_rfl) ?_)
                refine sq (o_not (by kernel_rfl) ?_)
                refine sq (o_pv (.bool false) rfl (by kernel_rfl) ?_)
                refine sq (o_pv (.bool false) rfl (by kernel_rfl) ?_)
                refine sq (o_not (by kernel_rfl) ?_)
                refine sq (o_not (by kernel_rfl) ?_)
                refine sq (o_not (by kernel_rfl) ?_)
                refine sq (o_pv (.bool false) rfl (by kernel_rfl) ?_)
                refine sq (o_pv (.bool false) rfl (by kernel_rfl) ?_)
                refine sq (o_not (by kernel_rfl) ?_)
                refine sq (o_not (by kernel_rfl) ?_)
                refine sq (o_not (by kernel_rfl) ?_)
                refine sq (o_pv (.bool false) rfl (by kernel_rfl) ?_)
                refine sq (o_pv (.bool false) rfl (by kernel_rfl) ?_)
                refine sq (o_not (by kernel_rfl) ?_)
                refine sq (o_not (by kernel_rfl) ?_)
                refine sq (o_not (by kernel_rfl) ?_)
                refine sq (o_pv (.bool false) rfl (by kernel_rfl) ?_)
                refine sq (o_pv (.bool false) rfl (by kernel_rfl) ?_)
                refine sq (o_not (by kernel_rfl) ?_)
                refine sq (o_not (by kernel_rfl) ?_)
                refine sq (o_not (by kernel_rfl) ?_)
                refine sq (o_pv (.bool false) rfl (by kernel_rfl) ?_)
                refine sq (o_pv (.bool false) rfl (by kernel_rfl) ?_)
                refine sq (o_not (by kernel_rfl) ?_)
                refine sq (o_not (by kernel_rfl) ?_)
                refine sq (o_not (by kernel_rfl) ?_)
                refine sq (o_pv (.bool false) rfl (by kernel_rfl) ?_)
                refine sq (o_pv (.bool false) rfl (by kernel_rfl) ?_)
                refine nil_ ?_
                refine then_normal (hJ333 _ _ _ ⟨[(0, (.bool false))], fit_mk (fun _ _ => rfl) (by kernel_rfl) (vs_cons (by kernel_rfl) vs_nil), ?_⟩)
                exact ⟨X241, false, rfl, E336, hXo335, hS337, hp⟩
            ·
              replace hp := hp.2 h356
              refine sq (o_pv (.bool false) (by kernel_rfl) (x_df (p := r181 = (5 : Int)) (by kernel_rfl) h356) ?_)
              refine sq (o_pv (.bool false) rfl (by kernel_rfl) ?_)
              refine sq (o_pv (.bool false) rfl (by kernel_rfl) ?_)
              refine sq (o_not (by kernel_rfl) ?_)
              refine sq (o_not (by kernel_rfl) ?_)
              refine sq (o_not (by kernel_rfl) ?_)
              refine sq (o_pv (.bool false) rfl (by kernel_rfl) ?_)
              refine sq (o_pv (.bool false) rfl (by kernel_rfl) ?_)
              refine sq (o_not (by kernel_rfl) ?_)
              refine sq (o_not (by kernel_rfl) ?_)
              refine sq (o_not (by kernel_rfl) ?_)
              refine sq (o_pv (.bool false) rfl (by kernel_rfl) ?_)
              refine sq (o_pv (.bool false) rfl (by kernel_rfl) ?_)
              refine sq (o_not (by kernel_rfl) ?_)
              refine sq (o_not (by kernel_rfl) ?_)
              refine sq (o_not (by kernel_rfl) ?_)
              refine sq (o_pv (.bool false) rfl (by kernel_rfl) ?_)
              refine sq (o_pv (.bool false) rfl (by kernel_rfl) ?_)
              refine sq (o_not (by kernel_rfl) ?_)
              refine sq (o_not (by kernel_rfl) ?_)
              refine sq (o_not (by kernel_rfl) ?_)
              refine sq (o_pv (.bool false) rfl (by kernel_rfl) ?_)
              refine sq (o_pv (.bool false) rfl (by kernel_rfl) ?_)
              refine sq (o_not (by kernel_rfl) ?_)
              refine sq (o_not (by kernel_rfl) ?_)
              refine sq (o_not (by kernel_rfl) ?_)
              refine sq (o_pv (.bool false) rfl (by kernel_rfl) ?_)
              refine sq (o_pv (.bool false) rfl (by kernel_rfl) ?_)
              refine sq (o_not (by kernel_rfl) ?_)
              refine sq (o_not (by kernel_rfl) ?_)
              refine sq (o_not (by kernel_rfl) ?_)
              refine sq (o_pv (.bool false) rfl (by kernel_rfl) ?_)
              refine sq (o_pv (.bool false) rfl (by kernel_rfl) ?_)
              refine sq (o_not (by kernel_rfl) ?_)
              refine sq (o_not (by kernel_rfl) ?_)
              refine sq (o_not (by kernel_rfl) ?_)
              refine sq (o_pv (.bool false) rfl (by kernel_rfl) ?_)
              refine sq (o_pv (.bool false) rfl (by kernel_rfl) ?_)
              refine nil_ ?_
              refine then_normal (hJ333 _ _ _ ⟨[(0, (.bool false))], fit_mk (fun _ _ => rfl) (by kernel_rfl) (vs_cons (by kernel_rfl) vs_nil), ?_⟩)
              exact ⟨X241, false, rfl, E336, hXo335, hS337, hp⟩
          ·
            replace hp := hp.2 h355
            refine sq (o_pv (.bool false) (by kernel_rfl) (x_df (p := (strOfNums r160 : ByteArray) = (ByteArray.mk #[120, 121])) (x_streq (by kernel_rfl) (by kernel_rfl)) h355) ?_)
            refine sq (o_pv (.bool false) rfl (by kernel_rfl) ?_)
            refine sq (o_pv (.bool false) rfl (by kernel_rfl) ?_)
            refine sq (o_not (by kernel_rfl) ?_)
            refine sq (o_not (by kernel_rfl) ?_)
            refine sq (o_pv (.bool false) rfl (by kernel_rfl) ?_)
            refine sq (o_pv (.bool false) rfl (by kernel_rfl) ?_)
            refine sq (o_not (by kernel_rfl) ?_)
            refine sq (o_not (by kernel_rfl) ?_)
            refine sq (o_not (by kernel_rfl) ?_)
            refine sq (o_pv (.bool false) rfl (by kernel_rfl) ?_)
            refine sq (o_pv (.bool false) rfl (by kernel_rfl) ?_)
            refine sq (o_not (by kernel_rfl) ?_)
            refine sq (o_not (by kernel_rfl) ?_)
            refine sq (o_not (by kernel_rfl) ?_)
            refine sq (o_pv (.bool false) rfl (by kernel_rfl) ?_)
            refine sq (o_pv (.bool false) rfl (by kernel_rfl) ?_)
            refine sq (o_not (by kernel_rfl) ?_)
            refine sq (o_not (by kernel_rfl) ?_)
            refine sq (o_not (by kernel_rfl) ?_)
            refine sq (o_pv (.bool false) rfl (by kernel_rfl) ?_)
            refine sq (o_pv (.bool false) rfl (by kernel_rfl) ?_)
            refine sq (o_not (by kernel_rfl) ?_)
            refine sq (o_not (by kernel_rfl) ?_)
            refine sq (o_not (by kernel_rfl) ?_)
            refine sq (o_pv (.bool false) rfl (by kernel_rfl) ?_)
            refine sq (o_pv (.bool false) rfl (by kernel_rfl) ?_)
            refine sq (o_not (by kernel_rfl) ?_)
            refine sq (o_not (by kernel_rfl) ?_)
            refine sq (o_not (by kernel_rfl) ?_)
            refine sq (o_pv (.bool false) rfl (by kernel_rfl) ?_)
            refine sq (o_pv (.bool false) rfl (by kernel_rfl) ?_)
            refine sq (o_not (by kernel_rfl) ?_)
            refine sq (o_not (by kernel_rfl) ?_)
            refine sq (o_not (by kernel_rfl) ?_)
            refine sq (o_pv (.bool false) rfl (by kernel_rfl) ?_)
            refine sq (o_pv (.bool false) rfl (by kernel_rfl) ?_)
            refine sq (o_not (by kernel_rfl) ?_)
            refine sq (o_not (by kernel_rfl) ?_)
            refine sq (o_not (by kernel_rfl) ?_)
            refine sq (o_pv (.bool false) rfl (by kernel_rfl) ?_)
            refine sq (o_pv (.bool false) rfl (by kernel_rfl) ?_)
            refine nil_ ?_
            refine then_normal (hJ333 _ _ _ ⟨[(0, (.bool false))], fit_mk (fun _ _ => rfl) (by kernel_rfl) (vs_cons (by kernel_rfl) vs_nil), ?_⟩)
            exact ⟨X241, false, rfl, E336, hXo335, hS337, hp⟩
        ·
          replace hp := hp.2 h353
          refine sq (o_pv (.bool false) (by kernel_rfl) (x_df (p := r128 = (13 : Int)) (by kernel_rfl) h353) ?_)
          refine sq (o_pv (.bool false) rfl (by kernel_rfl) ?_)
          refine sq (o_pv (.bool false) rfl (by kernel_rfl) ?_)
          refine sq (o_not (by kernel_rfl) ?_)
          refine sq (o_not (by kernel_rfl) ?_)
          refine sq (o_not (by kernel_rfl) ?_)
          refine sq (o_pv (.bool false) rfl (by kernel_rfl) ?_)
          refine sq (o_pv (.bool false) rfl (by kernel_rfl) ?_)
          refine sq (o_not (by kernel_rfl) ?_)
          refine sq (o_not (by kernel_rfl) ?_)
          refine sq (o_pv (.bool false) rfl (by kernel_rfl) ?_)
          refine sq (o_pv (.bool false) rfl (by kernel_rfl) ?_)
          refine sq (o_not (by kernel_rfl) ?_)
          refine sq (o_not (by kernel_rfl) ?_)
          refine sq (o_not (by kernel_rfl) ?_)
          refine sq (o_pv (.bool false) rfl (by kernel_rfl) ?_)
          refine sq (o_pv (.bool false) rfl (by kernel_rfl) ?_)
          refine sq (o_not (by kernel_rfl) ?_)
          refine sq (o_not (by kernel_rfl) ?_)
          refine sq (o_not (by kernel_rfl) ?_)
          refine sq (o_pv (.bool false) rfl (by kernel_rfl) ?_)
          refine sq (o_pv (.bool false) rfl (by kernel_rfl) ?_)
          refine sq (o_not (by kernel_rfl) ?_)
          refine sq (o_not (by kernel_rfl) ?_)
          refine sq (o_not (by kernel_rfl) ?_)
          refine sq (o_pv (.bool false) rfl (by kernel_rfl) ?_)
          refine sq (o_pv (.bool false) rfl (by kernel_rfl) ?_)
          refine sq (o_not (by kernel_rfl) ?_)
          refine sq (o_not (by kernel_rfl) ?_)
          refine sq (o_not (by kernel_rfl) ?_)
          refine sq (o_pv (.bool false) rfl (by kernel_rfl) ?_)
          refine sq (o_pv (.bool false) rfl (by kernel_rfl) ?_)
          refine sq (o_not (by kernel_rfl) ?_)
          refine sq (o_not (by kernel_rfl) ?_)
          refine sq (o_not (by kernel_rfl) ?_)
          refine sq (o_pv (.bool false) rfl (by kernel_rfl) ?_)
          refine sq (o_pv (.bool false) rfl (by kernel_rfl) ?_)
          refine sq (o_not (by kernel_rfl) ?_)
          refine sq (o_not (by kernel_rfl) ?_)
          refine sq (o_not (by kernel_rfl) ?_)
          refine sq (o_pv (.bool false) rfl (by kernel_rfl) ?_)
          refine sq (o_pv (.bool false) rfl (by kernel_rfl) ?_)
          refine sq (o_not (by kernel_rfl) ?_)
          refine sq (o_not (by kernel_rfl) ?_)
          refine sq (o_not (by kernel_rfl) ?_)
          refine sq (o_pv (.bool false) rfl (by kernel_rfl) ?_)
          refine sq (o_pv (.bool false) rfl (by kernel_rfl) ?_)
          refine nil_ ?_
          refine then_normal (hJ333 _ _ _ ⟨[(0, (.bool false))], fit_mk (fun _ _ => rfl) (by kernel_rfl) (vs_cons (by kernel_rfl) vs_nil), ?_⟩)
          exact ⟨X241, false, rfl, E336, hXo335, hS337, hp⟩
      ·
        replace hp := hp.2 h352
        refine sq (o_pv (.bool false) (by kernel_rfl) (x_df (p := r81 = (2 : Int)) (by kernel_rfl) h352) ?_)
        refine sq (o_pv (.bool false) rfl (by kernel_rfl) ?_)
        refine sq (o_pv (.bool false) rfl (by kernel_rfl) ?_)
        refine sq (o_not (by kernel_rfl) ?_)
        refine sq (o_not (by kernel_rfl) ?_)
        refine sq (o_pv (.bool false) rfl (by kernel_rfl) ?_)
        refine sq (o_pv (.bool false) rfl (by kernel_rfl) ?_)
        refine sq (o_not (by kernel_rfl) ?_)
        refine sq (o_not (by kernel_rfl) ?_)
        refine sq (o_not (by kernel_rfl) ?_)
        refine sq (o_pv (.bool false) rfl (by kernel_rfl) ?_)
        refine sq (o_pv (.bool false) rfl (by kernel_rfl) ?_)
        refine sq (o_not (by kernel_rfl) ?_)
        refine sq (o_not (by kernel_rfl) ?_)
        refine sq (o_pv (.bool false) rfl (by kernel_rfl) ?_)
        refine sq (o_pv (.bool false) rfl (by kernel_rfl) ?_)
        refine sq (o_not (by kernel_rfl) ?_)
        refine sq (o_not (by kernel_rfl) ?_)
        refine sq (o_not (by kernel_rfl) ?_)
        refine sq (o_pv (.bool false) rfl (by kernel_rfl) ?_)
        refine sq (o_pv (.bool false) rfl (by kernel_rfl) ?_)
        refine sq (o_not (by kernel_rfl) ?_)
        refine sq (o_not (by kernel_rfl) ?_)
        refine sq (o_not (by kernel_rfl) ?_)
        refine sq (o_pv (.bool false) rfl (by kernel_rfl) ?_)
        refine sq (o_pv (.bool false) rfl (by kernel_rfl) ?_)
        refine sq (o_not (by kernel_rfl) ?_)
        refine sq (o_not (by kernel_rfl) ?_)
        refine sq (o_not (by kernel_rfl) ?_)
        refine sq (o_pv (.bool false) rfl (by kernel_rfl) ?_)
        refine sq (o_pv (.bool false) rfl (by kernel_rfl) ?_)
        refine sq (o_not (by kernel_rfl) ?_)
        refine sq (o_not (by kernel_rfl) ?_)
        refine sq (o_not (by kernel_rfl) ?_)
        refine sq (o_pv (.bool false) rfl (by kernel_rfl) ?_)
        refine sq (o_pv (.bool false) rfl (by kernel_rfl) ?_)
        refine sq (o_not (by kernel_rfl) ?_)
        refine sq (o_not (by kernel_rfl) ?_)
        refine sq (o_not (by kernel_rfl) ?_)
        refine sq (o_pv (.bool false) rfl (by kernel_rfl) ?_)
        refine sq (o_pv (.bool false) rfl (by kernel_rfl) ?_)
        refine sq (o_not (by kernel_rfl) ?_)
        refine sq (o_not (by kernel_rfl) ?_)
        refine sq (o_not (by kernel_rfl) ?_)
        refine sq (o_pv (.bool false) rfl (by kernel_rfl) ?_)
        refine sq (o_pv (.bool false) rfl (by kernel_rfl) ?_)
        refine sq (o_not (by kernel_rfl) ?_)
        refine sq (o_not (by kernel_rfl) ?_)
        refine sq (o_not (by kernel_rfl) ?_)
        refine sq (o_pv (.bool false) rfl (by kernel_rfl) ?_)
        refine sq (o_pv (.bool false) rfl (by kernel_rfl) ?_)
        refine nil_ ?_
        refine then_normal (hJ333 _ _ _ ⟨[(0, (.bool false))], fit_mk (fun _ _ => rfl) (by kernel_rfl) (vs_cons (by kernel_rfl) vs_nil), ?_⟩)
        exact ⟨X241, false, rfl, E336, hXo335, hS337, hp⟩
    ·
      replace hp := hp.2 h351
      refine sq (o_pv (.bool false) rfl (x_df (p := ((((r41 + r55) + r161) + r202) + r239) = (0 : Int)) (by kernel_rfl) h351) ?_)
      refine sq (o_pv (.bool false) rfl (by kernel_rfl) ?_)
      refine sq (o_not (by kernel_rfl) ?_)
      refine sq (o_not (by kernel_rfl) ?_)
      refine sq (o_pv (.bool false) rfl (by kernel_rfl) ?_)
      refine sq (o_pv (.bool false) rfl (by kernel_rfl) ?_)
      refine sq (o_not (by kernel_rfl) ?_)
      refine sq (o_not (by kernel_rfl) ?_)
      refine sq (o_pv (.bool false) rfl (by kernel_rfl) ?_)
      refine sq (o_pv (.bool false) rfl (by kernel_rfl) ?_)
      refine sq (o_not (by kernel_rfl) ?_)
      refine sq (o_not (by kernel_rfl) ?_)
      refine sq (o_not (by kernel_rfl) ?_)
      refine sq (o_pv (.bool false) rfl (by kernel_rfl) ?_)
      refine sq (o_pv (.bool false) rfl (by kernel_rfl) ?_)
      refine sq (o_not (by kernel_rfl) ?_)
      refine sq (o_not (by kernel_rfl) ?_)
      refine sq (o_pv (.bool false) rfl (by kernel_rfl) ?_)
      refine sq (o_pv (.bool false) rfl (by kernel_rfl) ?_)
      refine sq (o_not (by kernel_rfl) ?_)
      refine sq (o_not (by kernel_rfl) ?_)
      refine sq (o_not (by kernel_rfl) ?_)
      refine sq (o_pv (.bool false) rfl (by kernel_rfl) ?_)
      refine sq (o_pv (.bool false) rfl (by kernel_rfl) ?_)
      refine sq (o_not (by kernel_rfl) ?_)
      refine sq (o_not (by kernel_rfl) ?_)
      refine sq (o_not (by kernel_rfl) ?_)
      refine sq (o_pv (.bool false) rfl (by kernel_rfl) ?_)
      refine sq (o_pv (.bool false) rfl (by kernel_rfl) ?_)
      refine sq (o_not (by kernel_rfl) ?_)
      refine sq (o_not (by kernel_rfl) ?_)
      refine sq (o_not (by kernel_rfl) ?_)
      refine sq (o_pv (.bool false) rfl (by kernel_rfl) ?_)
      refine sq (o_pv (.bool false) rfl (by kernel_rfl) ?_)
      refine sq (o_not (by kernel_rfl) ?_)
      refine sq (o_not (by kernel_rfl) ?_)
      refine sq (o_not (by kernel_rfl) ?_)
      refine sq (o_pv (.bool false) rfl (by kernel_rfl) ?_)
      refine sq (o_pv (.bool false) rfl (by kernel_rfl) ?_)
      refine sq (o_not (by kernel_rfl) ?_)
      refine sq (o_not (by kernel_rfl) ?_)
      refine sq (o_not (by kernel_rfl) ?_)
      refine sq (o_pv (.bool false) rfl (by kernel_rfl) ?_)
      refine sq (o_pv (.bool false) rfl (by kernel_rfl) ?_)
      refine sq (o_not (by kernel_rfl) ?_)
      refine sq (o_not (by kernel_rfl) ?_)
      refine sq (o_not (by kernel_rfl) ?_)
      refine sq (o_pv (.bool false) rfl (by kernel_rfl) ?_)
      refine sq (o_pv (.bool false) rfl (by kernel_rfl) ?_)
      refine sq (o_not (by kernel_rfl) ?_)
      refine sq (o_not (by kernel_rfl) ?_)
      refine sq (o_not (by kernel_rfl) ?_)
      refine sq (o_pv (.bool false) rfl (by kernel_rfl) ?_)
      refine sq (o_pv (.bool false) rfl (by kernel_rfl) ?_)
      refine nil_ ?_
      refine then_normal (hJ333 _ _ _ ⟨[(0, (.bool false))], fit_mk (fun _ _ => rfl) (by kernel_rfl) (vs_cons (by kernel_rfl) vs_nil), ?_⟩)
      exact ⟨X241, false, rfl, E336, hXo335, hS337, hp⟩
  ·
    rintro _ w330 g422 ⟨X331, s327, rfl, E344, hXo345, hS346, hv334⟩
    replace hp := hk329 s327 hv334
    refine then_normal (K251 _ _ _ _ ?_)
    refine wp_ret ?_
    refine end_ret hQ (.bool s327) (by kernel_rfl) ?_
    exact ⟨s327, hp, E344, rfl⟩

def simfs_FS_sync_p (f_ : S_simfs_FS) (Q : S_simfs_FS → Prop) : Prop :=
  ((f_.pending.length ≤ 9223372036854775807) → ((inR .i64 f_.quota) → ((inR .i64 f_.now) → ((inR .i64 f_.inodes) → ((inR .i64 f_.ops_) → ((inR .i64 f_.left) → ((f_.keep.length ≤ 9223372036854775807) → (maps_Clone_map_string_simfs_file_string_simfs_file_p f_.files (fun (m31 : (List (ByteArray × S_simfs_file))) (r32 : (List (ByteArray × S_simfs_file))) => Q (S_simfs_FS.mk r32 m31 ([] : List S_simfs_op) f_.quota f_.now f_.inodes f_.ops_ f_.off f_.armed f_.left f_.keep))))))))))
set_option maxRecDepth 20000 in
set_option maxHeartbeats 4000000 in
theorem simfs_FS_sync_w {X : List Nat} {w : World} {f_ : S_simfs_FS} {bf_1 : Nat} {Ff_2 : List Nat} {Q : S_simfs_FS → Prop} (hX0 : Old X w) (mf_3 : MO o_simfs_FS 50 Ff_2 w.heap.size X w Ff_2 bf_1 f_) (hp : simfs_FS_sync_p f_ Q) :
    Calls Tryd.prog 31 #[(.pointer (some ⟨bf_1, 0, none⟩))] w (Ret fun v w' => ∃ (m0 : S_simfs_FS), Q m0 ∧ ∃ (X' : List Nat) (Fm0 : List Nat), Step X w Ff_2 X' w' ∧ v = .tuple #[] ∧ MO o_simfs_FS 50 Ff_2 w.heap.size X' w' Fm0 bf_1 m0) := by
  have hXo := hX0
  have E0 : Evo Ff_2 w w := RB.refl _ _ _
  have hS : Sub X X := Sub.refl _
  have hN : News X w X w := News.refl _ _
  have hF0 : Sub Ff_2 X := MO.mem mf_3
  unfold simfs_FS_sync_p at hp
  refine enter_ Tryd.func31 rfl 13 [(0, (.pointer (some ⟨bf_1, 0, none⟩)))] (by kernel_rfl) (fun Qe hQ => ?_)
  refine reg_ ?_
  refine sq (o_pv (.pointer (some ⟨bf_1, 0, none⟩)) rfl (by kernel_rfl) ?_)
  refine sq (o_pv (.pointer (some ⟨bf_1, 0, none⟩)) rfl (by kernel_rfl) ?_)
  refine sq (o_pv (.pointer (some ⟨bf_1, 0, none⟩)) rfl (by kernel_rfl) ?_)
  refine sq (o_pv (.pointer (some ⟨bf_1, 0, none⟩)) rfl (by kernel_rfl) ?_)
  obtain ⟨rokept4, rofiles6, ao8, no9, co10, aokeep17, cokeep18, k20, mokept5, mofiles7, Oo11, roquota12, ronow13, roinodes14, roops_15, roleft16, hokeep19, sb21, sb22, sb23, sb24, p25, p26, p27, p28, p29, p30⟩ := o_simfs_FS_open mf_3
  replace hp := hp (OS.len Oo11)
  replace hp := hp roquota12
  replace hp := hp ronow13
  replace hp := hp roinodes14
  replace hp := hp roops_15
  replace hp := hp roleft16
  replace hp := hp (Sl.len hokeep19)
  refine sq (o_pv (.pointer (some ⟨bf_1, 1, none⟩)) rfl (by kernel_rfl) ?_)
  refine sq (o_pv (.map (some rofiles6)) rfl (x_load1 (by kernel_rfl) Tryd.isAgg47 (k20.2.1.cell' 1 rfl)) ?_)
  refine sq (o_call 33 #[(.map (some rofiles6))] rfl (x_call Tryd.call33 (by kernel_rfl)) (maps_Clone_map_string_simfs_file_string_simfs_file_w (X := X) (m := f_.files) hXo (OM.re mofiles7 (Wr.self _ _ (Sub.refl _))) hp) ?_)
  rintro _ w33 ⟨m31, r32, hp, X34, rr37, s35, rfl, m36, mr38, p39⟩
  have m40 := OM.re m36 (Wr.trans m36.wr mofiles7.wr E0.size)
  have p41 := Ap.grow m36.wr p26 (OB.old k20) (Nat.le_refl _)
  have p42 := Ap.grow m36.wr p28 (OM.old mokept5) (Nat.le_refl _)
  have p43 := Ap.grow m36.wr (Ap.symm p30) (OS.old Oo11) (Nat.le_refl _)
  have m44 := OM.re mr38 (Wr.trans mr38.wr (Wr.nil [] _) E0.size)
  have p45 := Ap.grow mr38.wr (Ap.nil_r _) (OB.old k20) (Nat.le_refl _)
  have p46 := Ap.grow mr38.wr (Ap.nil_r _) (OM.old mokept5) (Nat.le_refl _)
  have p47 := Ap.grow mr38.wr (Ap.nil_r _) (OS.old Oo11) (Nat.le_refl _)
  refine sq (o_pv (.pointer (some ⟨bf_1, 0, none⟩)) rfl (by kernel_rfl) ?_)
  refine sq (o_pv (.pointer (some ⟨bf_1, 0, none⟩)) rfl (by kernel_rfl) ?_)
  have k48 := (OB.step k20 s35 p41)
  have mokept49 := (OM.step mokept5 s35 p42)
  have Oo50 := (OS.step Oo11 s35 p43)
  have E51 := (Evo.thenW E0 (Step.evo s35) mofiles7.wr)
  refine sq (o_stB (o := 0) (v := (.map (some rr37))) [(.map (some rr37)), (.map (some rofiles6)), (.slice ao8 no9 co10), (.int .i64 f_.quota), (.int .i64 f_.now), (.int .i64 f_.inodes), (.int .i64 f_.ops_), (.bool f_.off), (.bool f_.armed), (.int .i64 f_.left), (.slice aokeep17 f_.keep.length cokeep18)] rfl k48 (by kernel_rfl) (by kernel_rfl) Tryd.sizeOf47 rfl rfl rfl ?_)
  intro w52 s53 k54
  refine sq (o_pv (.pointer (some ⟨bf_1, 0, none⟩)) rfl (by kernel_rfl) ?_)
  refine sq (o_pv (.pointer (some ⟨bf_1, 2, none⟩)) rfl (by kernel_rfl) ?_)
  have mokept55 := (OM.step mokept49 s53 (Ap.symm p25))
  have Oo56 := (OS.step Oo50 s53 (Ap.symm p27))
  have m57 := (OM.step m40 s53 (Ap.symm p41))
  have m58 := (OM.step m44 s53 (Ap.symm p45))
  have E59 := (Evo.thenW E51 (Step.evo s53) k48.2.2)
  refine sq (o_stB (o := 2) (v := (.slice none 0 0)) [(.map (some rr37)), (.map (some rofiles6)), (.slice none 0 0), (.int .i64 f_.quota), (.int .i64 f_.now), (.int .i64 f_.inodes), (.int .i64 f_.ops_), (.bool f_.off), (.bool f_.armed), (.int .i64 f_.left), (.slice aokeep17 f_.keep.length cokeep18)] rfl k54 (by kernel_rfl) (by kernel_rfl) Tryd.sizeOf48 rfl rfl rfl ?_)
  intro w60 s61 k62
  refine nil_ ?_
  have hXo63 := (Old.step (Old.step (Old.step hXo s35) s53) s61)
  have E64 := (Evo.thenW E59 (Step.evo s61) k54.2.2)
  have hS65 := (Sub.trans (Sub.trans (Sub.trans hS (Step.up s35)) (Step.up s53)) (Step.up s61))
  have hN66 := (News.step (News.step (News.step hN s35) s53) s61)
  have mokept67 := (OM.step mokept55 s61 (Ap.symm p25))
  have Oo68 := (OS.step Oo56 s61 (Ap.symm p27))
  have hokeep69 := (Sl.step (Sl.step (Sl.step hokeep19 s35) s53) s61)
  have m70 := (OM.step m57 s61 (Ap.symm p41))
  have m71 := (OM.step m58 s61 (Ap.symm p45))
  obtain ⟨F72, m73, hs74⟩ := MO.pack (o_simfs_FS_mk k62 (OM.re m71 (Wr.of m71.wr)) m70 (OS.nil2 _ _ _ _ _) roquota12 ronow13 roinodes14 roops_15 roleft16 hokeep69 rfl p45 p41 (Ap.nil_r _) (Ap.symm p39) (Ap.nil_r _) (Ap.nil_r _))
  have p75 := hs74 _ (Ap.cons (Ap.symm p25) (Ap.app p46 (Ap.app p42 (Ap.app (Ap.nil_r _) (Ap.app (Ap.nil_r _) (Ap.app (Ap.nil_r _) (Ap.app (Ap.nil_r _) (Ap.app (Ap.nil_r _) (Ap.app (Ap.nil_r _) (Ap.app (Ap.nil_r _) (Ap.app (Ap.nil_r _) (Ap.nil_r _))))))))))))
  have p76 := hs74 _ (Ap.cons (Ap.symm p27) (Ap.app p47 (Ap.app p43 (Ap.app (Ap.nil_r _) (Ap.app (Ap.nil_r _) (Ap.app (Ap.nil_r _) (Ap.app (Ap.nil_r _) (Ap.app (Ap.nil_r _) (Ap.app (Ap.nil_r _) (Ap.app (Ap.nil_r _) (Ap.app (Ap.nil_r _) (Ap.nil_r _))))))))))))
  refine end_normal hQ (.tuple #[]) (by kernel_rfl) ?_
  exact ⟨(S_simfs_FS.mk r32 m31 ([] : List S_simfs_op) f_.quota f_.now f_.inodes f_.ops_ f_.off f_.armed f_.left f_.keep), hp, X34, F72, step_of E64 hF0 hS65 hN66, rfl, m73⟩

def simfs_FS_Sync_p (f_ : S_simfs_FS) (Q : S_simfs_FS → Int → Prop) : Prop :=
  ((f_.pending.length ≤ 9223372036854775807) → ((inR .i64 f_.quota) → ((inR .i64 f_.now) → ((inR .i64 f_.inodes) → ((inR .i64 f_.ops_) → ((inR .i64 f_.left) → ((f_.keep.length ≤ 9223372036854775807) → (((f_.off = true) → Q f_ (13 : Int)) ∧ ((f_.off = false) → (simfs_FS_sync_p f_ (fun (f_43 : S_simfs_FS) => Q f_43 (0 : Int))))))))))))
set_option maxRecDepth 20000 in
set_option maxHeartbeats 4000000 in
theorem simfs_FS_Sync_w {X : List Nat} {w : World} {f_ : S_simfs_FS} {bf_1 : Nat} {Ff_2 : List Nat} {Q : S_simfs_FS → Int → Prop} (hX0 : Old X w) (mf_3 : MO o_simfs_FS 50 Ff_2 w.heap.size X w Ff_2 bf_1 f_) (hp : simfs_FS_Sync_p f_ Q) :
    Calls Tryd.prog 15 #[(.pointer (some ⟨bf_1, 0, none⟩))] w (Ret fun v w' => ∃ (m0 : S_simfs_FS) (r0 : Int), Q m0 r0 ∧ ∃ (X' : List Nat) (Fm0 : List Nat), Step X w Ff_2 X' w' ∧ v = (.int .i64 r0) ∧ MO o_simfs_FS 50 Ff_2 w.heap.size X' w' Fm0 bf_1 m0 ∧ inR .i64 r0) := by
  have hXo := hX0
  have E0 : Evo Ff_2 w w := RB.refl _ _ _
  have hS : Sub X X := Sub.refl _
  have hN : News X w X w := News.refl _ _
  have hF0 : Sub Ff_2 X := MO.mem mf_3
  unfold simfs_FS_Sync_p at hp
  refine enter_ Tryd.func15 rfl 9 [(0, (.pointer (some ⟨bf_1, 0, none⟩)))] (by kernel_rfl) (fun Qe hQ => ?_)
  refine seq_ (fun _ K4 => ?_)
  refine reg_ ?_
  refine sq (o_pv (.int .i64 (0 : Int)) rfl (by kernel_rfl) ?_)
  refine nil_ ?_
  refine then_normal (K4 _ _ _ _ ?_)
  refine seq_ (fun _ K5 => ?_)
  refine seq_ (fun _ K6 => ?_)
  refine reg_ ?_
  refine sq (o_pv (.pointer (some ⟨bf_1, 0, none⟩)) rfl (by kernel_rfl) ?_)
  refine sq (o_pv (.pointer (some ⟨bf_1, 0, none⟩)) rfl (by kernel_rfl) ?_)
  obtain ⟨rokept7, rofiles9, ao11, no12, co13, aokeep20, cokeep21, k23, mokept8, mofiles10, Oo14, roquota15, ronow16, roinodes17, roops_18, roleft19, hokeep22, sb24, sb25, sb26, sb27, p28, p29, p30, p31, p32, p33⟩ := o_simfs_FS_open mf_3
  replace hp := hp (OS.len Oo14)
  replace hp := hp roquota15
  replace hp := hp ronow16
  replace hp := hp roinodes17
  replace hp := hp roops_18
  replace hp := hp roleft19
  replace hp := hp (Sl.len hokeep22)
  refine sq (o_pv (.pointer (some ⟨bf_1, 7, none⟩)) rfl (by kernel_rfl) ?_)
  refine sq (o_pv (.bool f_.off) rfl (x_load1 (by kernel_rfl) Tryd.isAgg4 (k23.2.1.cell' 7 rfl)) ?_)
  refine nil_ ?_
  refine then_normal (K6 _ _ _ _ ?_)
  refine cond_b f_.off (by kernel_rfl) (fun h34 => ?_) (fun h34 => ?_)
  ·
    replace hp := hp.1 h34
    refine seq_ (fun _ K35 => ?_)
    refine reg_ ?_
    refine sq (o_pv (.int .i64 (13 : Int)) rfl (by kernel_rfl) ?_)
    refine nil_ ?_
    refine then_normal (K35 _ _ _ _ ?_)
    refine wp_ret ?_
    refine then_ret ?_
    obtain ⟨F36, m37, hs38⟩ := MO.pack (o_simfs_FS_mk k23 mokept8 mofiles10 Oo14 roquota15 ronow16 roinodes17 roops_18 roleft19 hokeep22 rfl p28 p29 p30 p31 p32 p33)
    refine end_ret hQ (.int .i64 (13 : Int)) (by kernel_rfl) ?_
    exact ⟨f_, (13 : Int), hp, X, F36, step_of E0 hF0 hS hN, rfl, m37, (by decide : inR .i64 (13 : Int))⟩
  ·
    replace hp := hp.2 h34
    refine wp_skip ?_
    refine then_normal (K5 _ _ _ _ ?_)
    refine seq_ (fun _ K39 => ?_)
    refine reg_ ?_
    refine sq (o_pv (.pointer (some ⟨bf_1, 0, none⟩)) rfl (by kernel_rfl) ?_)
    obtain ⟨F40, m41, hs42⟩ := MO.pack (o_simfs_FS_mk k23 mokept8 mofiles10 Oo14 roquota15 ronow16 roinodes17 roops_18 roleft19 hokeep22 rfl p28 p29 p30 p31 p32 p33)
    refine sq (o_call 31 #[(.pointer (some ⟨bf_1, 0, none⟩))] rfl (x_call Tryd.call31 (by kernel_rfl)) (simfs_FS_sync_w (X := X) (f_ := f_) hXo (MO.re m41 (Wr.self _ _ (Sub.refl _))) hp) ?_)
    rintro _ w44 ⟨f_43, hp, X45, F47, s46, rfl, m48⟩
    have m49 := MO.re m48 (Wr.trans m48.wr m41.wr E0.size)
    refine nil_ ?_
    refine then_normal (K39 _ _ _ _ ?_)
    refine seq_ (fun _ K50 => ?_)
    refine reg_ ?_
    refine sq (o_pv (.int .i64 (0 : Int)) rfl (by kernel_rfl) ?_)
    refine nil_ ?_
    refine then_normal (K50 _ _ _ _ ?_)
    refine wp_ret ?_
    have hXo51 := (Old.step hXo s46)
    have E52 := (Evo.thenW E0 (Step.evo s46) m41.wr)
    have hS53 := (Sub.trans hS (Step.up s46))
    have hN54 := (News.step hN s46)
    have hokeep55 := (Sl.step hokeep22 s46)
    refine end_ret hQ (.int .i64 (0 : Int)) (by kernel_rfl) ?_
    exact ⟨f_43, (0 : Int), hp, X45, F47, step_of E52 hF0 hS53 hN54, rfl, m49, (by decide : inR .i64 (0 : Int))⟩

def simfs_FS_Rename_p (f_ : S_simfs_FS) (from_ : ByteArray) (to_ : ByteArray) (Q : S_simfs_FS → Int → Prop) : Prop :=
  ((from_.size ≤ maxLen) → ((to_.size ≤ maxLen) → ((f_.pending.length ≤ 9223372036854775807) → ((inR .i64 f_.quota) → ((inR .i64 f_.now) → ((inR .i64 f_.inodes) → ((inR .i64 f_.ops_) → ((inR .i64 f_.left) → ((f_.keep.length ≤ 9223372036854775807) → (((f_.off = true) → Q f_ (13 : Int)) ∧ ((f_.off = false) → ((inR .i64 ((mgetD f_.files from_).mode)) → ((inR .i64 ((mgetD f_.files from_).time)) → ((inR .i64 ((mgetD f_.files from_).inode)) → ((((mgetD f_.files from_).b).length ≤ 9223372036854775807) → ((((!(mhas f_.files from_)) = true) → Q f_ (5 : Int)) ∧ (((!(mhas f_.files from_)) = false) → (path_Check_p to_ (fun (r89 : Int) => ((inR .i64 r89) → (((¬ (r89 = (0 : Int))) → Q f_ r89) ∧ ((r89 = (0 : Int)) → (simfs_clash_p f_.files to_ from_ (fun (r116 : Bool) => (((r116 = true) → Q f_ (11 : Int)) ∧ ((r116 = false) → ((((from_ : ByteArray) = to_) → Q f_ (0 : Int)) ∧ ((¬ ((from_ : ByteArray) = to_)) → (simfs_FS_trips_p f_ (fun (f_173 : S_simfs_FS) (r174 : Bool) => (((r174 = true) → Q f_173 (13 : Int)) ∧ ((r174 = false) → (simfs_FS_do_p f_173 (S_simfs_op.mk (2 : Int) from_ to_ (S_simfs_file.mk (0 : Int) (0 : Int) (0 : Int) ([] : List Int))) (fun (f_199 : S_simfs_FS) => Q f_199 (0 : Int)))))))))))))))))))))))))))))))))))
set_option maxRecDepth 20000 in
set_option maxHeartbeats 4000000 in
theorem simfs_FS_Rename_w {X : List Nat} {w : World} {f_ : S_simfs_FS} {from_ : ByteArray} {to_ : ByteArray} {bf_1 : Nat} {Ff_2 : List Nat} {Q : S_simfs_FS → Int → Prop} (hX0 : Old X w) (mf_3 : MO o_simfs_FS 50 Ff_2 w.heap.size X w Ff_2 bf_1 f_) (zfrom_4 : from_.size ≤ maxLen) (zto_5 : to_.size ≤ maxLen) (hp : simfs_FS_Rename_p f_ from_ to_ Q) :
    Calls Tryd.prog 20 #[(.pointer (some ⟨bf_1, 0, none⟩)), (.string from_), (.string to_)] w (Ret fun v w' => ∃ (m0 : S_simfs_FS) (r0 : Int), Q m0 r0 ∧ ∃ (X' : List Nat) (Fm0 : List Nat), Step X w Ff_2 X' w' ∧ v = (.int .i64 r0) ∧ MO o_simfs_FS 50 Ff_2 w.heap.size X' w' Fm0 bf_1 m0 ∧ inR .i64 r0) := by
  have hXo := hX0
  have E0 : Evo Ff_2 w w := RB.refl _ _ _
  have hS : Sub X X := Sub.refl _
  have hN : News X w X w := News.refl _ _
  have hF0 : Sub Ff_2 X := MO.mem mf_3
  unfold simfs_FS_Rename_p at hp
  refine enter_ Tryd.func20 rfl 47 [(0, (.pointer (some ⟨bf_1, 0, none⟩))), (1, (.string from_)), (2, (.string to_))] (by kernel_rfl) (fun Qe hQ => ?_)
  replace hp := hp zfrom_4
  replace hp := hp zto_5
  refine seq_ (fun _ K6 => ?_)
  refine reg_ ?_
  refine sq (o_pv (.int .i64 (0 : Int)) rfl (by kernel_rfl) ?_)
  refine nil_ ?_
  refine then_normal (K6 _ _ _ _ ?_)
  refine seq_ (fun _ K7 => ?_)
  refine seq_ (fun _ K8 => ?_)
  refine reg_ ?_
  refine sq (o_pv (.pointer (some ⟨bf_1, 0, none⟩)) rfl (by kernel_rfl) ?_)
  refine sq (o_pv (.pointer (some ⟨bf_1, 0, none⟩)) rfl (by kernel_rfl) ?_)
  obtain ⟨rokept9, rofiles11, ao13, no14, co15, aokeep22, cokeep23, k25, mokept10, mofiles12, Oo16, roquota17, ronow18, roinodes19, roops_20, roleft21, hokeep24, sb26, sb27, sb28, sb29, p30, p31, p32, p33, p34, p35⟩ := o_simfs_FS_open mf_3
  replace hp := hp (OS.len Oo16)
  replace hp := hp roquota17
  replace hp := hp ronow18
  replace hp := hp roinodes19
  replace hp := hp roops_20
  replace hp := hp roleft21
  replace hp := hp (Sl.len hokeep24)
  refine sq (o_pv (.pointer (some ⟨bf_1, 7, none⟩)) rfl (by kernel_rfl) ?_)
  refine sq (o_pv (.bool f_.off) rfl (x_load1 (by kernel_rfl) Tryd.isAgg4 (k25.2.1.cell' 7 rfl)) ?_)
  refine nil_ ?_
  refine then_normal (K8 _ _ _ _ ?_)
  refine cond_b f_.off (by kernel_rfl) (fun h36 => ?_) (fun h36 => ?_)
  ·
    replace hp := hp.1 h36
    refine seq_ (fun _ K37 => ?_)
    refine reg_ ?_
    refine sq (o_pv (.int .i64 (13 : Int)) rfl (by kernel_rfl) ?_)
    refine nil_ ?_
    refine then_normal (K37 _ _ _ _ ?_)
    refine wp_ret ?_
    refine then_ret ?_
    obtain ⟨F38, m39, hs40⟩ := MO.pack (o_simfs_FS_mk k25 mokept10 mofiles12 Oo16 roquota17 ronow18 roinodes19 roops_20 roleft21 hokeep24 rfl p30 p31 p32 p33 p34 p35)
    refine end_ret hQ (.int .i64 (13 : Int)) (by kernel_rfl) ?_
    exact ⟨f_, (13 : Int), hp, X, F38, step_of E0 hF0 hS hN, rfl, m39, (by decide : inR .i64 (13 : Int))⟩
  ·
    replace hp := hp.2 h36
    refine wp_skip ?_
    refine then_normal (K7 _ _ _ _ ?_)
    refine seq_ (fun _ K41 => ?_)
    refine seq_ (fun _ K42 => ?_)
    refine reg_ ?_
    refine sq (o_pv (.pointer (some ⟨bf_1, 0, none⟩)) rfl (by kernel_rfl) ?_)
    refine sq (o_pv (.pointer (some ⟨bf_1, 0, none⟩)) rfl (by kernel_rfl) ?_)
    refine sq (o_pv (.pointer (some ⟨bf_1, 1, none⟩)) rfl (by kernel_rfl) ?_)
    refine sq (o_pv (.map (some rofiles11)) rfl (x_load1 (by kernel_rfl) Tryd.isAgg47 (k25.2.1.cell' 1 rfl)) ?_)
    refine sq (o_pv (.string from_) rfl (by kernel_rfl) ?_)
    obtain ⟨cs43, ok44, lk45⟩ := MapAt.look mofiles12.2.1 from_ [(.int .i64 (0 : Int)), (.int .i64 (0 : Int)), (.int .i64 (0 : Int)), (.slice none 0 0)] (fun _ _ => (r_simfs_file_mk (by decide : inR .i64 (0 : Int)) (by decide : inR .i64 (0 : Int)) (by decide : inR .i64 (0 : Int)) (Sl.nil) rfl))
    obtain ⟨alb49, clb50, rfl, rlmode46, rltime47, rlinode48, hlb51⟩ := r_simfs_file_open ok44
    replace hp := hp rlmode46
    replace hp := hp rltime47
    replace hp := hp rlinode48
    replace hp := hp (Sl.len hlb51)
    refine sq (o_pv (.tuple #[(.agg #[(.int .i64 ((mgetD f_.files from_).mode)), (.int .i64 ((mgetD f_.files from_).time)), (.int .i64 ((mgetD f_.files from_).inode)), (.slice alb49 (((mgetD f_.files from_).b).length) clb50)]), (.bool (mhas f_.files from_))]) rfl (x_lookup2 (w0 := w) (k := from_) (v := (.agg #[(.int .i64 ((mgetD f_.files from_).mode)), (.int .i64 ((mgetD f_.files from_).time)), (.int .i64 ((mgetD f_.files from_).inode)), (.slice alb49 (((mgetD f_.files from_).b).length) clb50)])) (z := (.agg #[(.int .i64 (0 : Int)), (.int .i64 (0 : Int)), (.int .i64 (0 : Int)), (.slice none 0 0)])) (b := mhas f_.files from_) (s := 4) (bts := 48) (by kernel_rfl) (by kernel_rfl) lk45 rfl Tryd.underlying47 Tryd.underlying9 (by kernel_rfl)) ?_)
    refine sq (o_pv (.tuple #[(.agg #[(.int .i64 ((mgetD f_.files from_).mode)), (.int .i64 ((mgetD f_.files from_).time)), (.int .i64 ((mgetD f_.files from_).inode)), (.slice alb49 (((mgetD f_.files from_).b).length) clb50)]), (.bool (mhas f_.files from_))]) rfl (by kernel_rfl) ?_)
    refine sq (o_pv (.agg #[(.int .i64 ((mgetD f_.files from_).mode)), (.int .i64 ((mgetD f_.files from_).time)), (.int .i64 ((mgetD f_.files from_).inode)), (.slice alb49 (((mgetD f_.files from_).b).length) clb50)]) rfl (by kernel_rfl) ?_)
    refine sq (o_pv (.bool (mhas f_.files from_)) rfl (by kernel_rfl) ?_)
    refine sq (o_newX [(.int .i64 (0 : Int)), (.int .i64 (0 : Int)), (.int .i64 (0 : Int)), (.slice none 0 0)] 54 (X := X) (B := w.heap.size) E0.size rfl (by kernel_rfl) ?_)
    intro b52 w53 X54 s55 k56 n57
    have p58 := n57 _ (OB.old k25)
    have p59 := n57 _ (OM.old mokept10)
    have p60 := n57 _ (OM.old mofiles12)
    have p61 := n57 _ (OS.old Oo16)
    have k62 := (OB.step0 k25 s55)
    have mokept63 := (OM.step0 mokept10 s55)
    have mofiles64 := (OM.step0 mofiles12 s55)
    have Oo65 := (OS.step0 Oo16 s55)
    have E66 := (Evo.then0 E0 (Step.evo s55))
    refine sq (o_stB (o := 0) (v := (.agg #[(.int .i64 ((mgetD f_.files from_).mode)), (.int .i64 ((mgetD f_.files from_).time)), (.int .i64 ((mgetD f_.files from_).inode)), (.slice alb49 (((mgetD f_.files from_).b).length) clb50)])) [(.int .i64 ((mgetD f_.files from_).mode)), (.int .i64 ((mgetD f_.files from_).time)), (.int .i64 ((mgetD f_.files from_).inode)), (.slice alb49 (((mgetD f_.files from_).b).length) clb50)] rfl k56 (by kernel_rfl) (by kernel_rfl) Tryd.sizeOf54 rfl rfl rfl ?_)
    intro w67 s68 k69
    refine sq (o_pv (.bool (mhas f_.files from_)) rfl (by kernel_rfl) ?_)
    refine nil_ ?_
    refine then_normal (K42 _ _ _ _ ?_)
    refine seq_ (fun _ K70 => ?_)
    refine reg_ ?_
    refine sq (o_pv (.bool (mhas f_.files from_)) rfl (by kernel_rfl) ?_)
    refine sq (o_pv (.bool (!(mhas f_.files from_))) rfl (by kernel_rfl) ?_)
    refine nil_ ?_
    refine then_normal (K70 _ _ _ _ ?_)
    refine cond_b (!(mhas f_.files from_)) (by kernel_rfl) (fun h71 => ?_) (fun h71 => ?_)
    ·
      replace hp := hp.1 h71
      refine seq_ (fun _ K72 => ?_)
      refine reg_ ?_
      refine sq (o_pv (.int .i64 (5 : Int)) rfl (by kernel_rfl) ?_)
      refine nil_ ?_
      refine then_normal (K72 _ _ _ _ ?_)
      refine wp_ret ?_
      refine then_ret ?_
      have hXo73 := (Old.step (Old.step hXo s55) s68)
      have E74 := (Evo.thenW E66 (Step.evo s68) (Wr.of k56.2.2))
      have hS75 := (Sub.trans (Sub.trans hS (Step.up s55)) (Step.up s68))
      have hN76 := (News.step (News.step hN s55) s68)
      have k77 := (OB.step k62 s68 p58)
      have mokept78 := (OM.step mokept63 s68 p59)
      have mofiles79 := (OM.step mofiles64 s68 p60)
      have Oo80 := (OS.step Oo65 s68 p61)
      have hokeep81 := (Sl.step (Sl.step hokeep24 s55) s68)
      have hlb82 := (Sl.step (Sl.step hlb51 s55) s68)
      obtain ⟨F83, m84, hs85⟩ := MO.pack (o_simfs_FS_mk k77 mokept78 mofiles79 Oo80 roquota17 ronow18 roinodes19 roops_20 roleft21 hokeep81 rfl p30 p31 p32 p33 p34 p35)
      have p86 := hs85 _ (Ap.cons (Ap.symm p58) (Ap.app (Ap.symm p59) (Ap.app (Ap.symm p60) (Ap.app (Ap.symm p61) (Ap.app (Ap.nil_r _) (Ap.app (Ap.nil_r _) (Ap.app (Ap.nil_r _) (Ap.app (Ap.nil_r _) (Ap.app (Ap.nil_r _) (Ap.app (Ap.nil_r _) (Ap.app (Ap.nil_r _) (Ap.nil_r _))))))))))))
      refine end_ret hQ (.int .i64 (5 : Int)) (by kernel_rfl) ?_
      exact ⟨f_, (5 : Int), hp, X54, F83, step_of E74 hF0 hS75 hN76, rfl, m84, (by decide : inR .i64 (5 : Int))⟩
    ·
      replace hp := hp.2 h71
      refine wp_skip ?_
      refine then_normal (K41 _ _ _ _ ?_)
      refine seq_ (fun _ K87 => ?_)
      refine seq_ (fun _ K88 => ?_)
      refine reg_ ?_
      refine sq (o_pv (.string to_) rfl (by kernel_rfl) ?_)
      refine sq (o_call 37 #[(.string to_)] rfl (x_call Tryd.call37 (by kernel_rfl)) (path_Check_w (X := []) (p := to_) (Old.nil _) zto_5 hp) ?_)
      rintro _ w90 ⟨r89, hp, e91, rfl, rr93⟩
      have s92 := Step.of0 X54 e91
      replace hp := hp rr93
      refine sq (o_pv (.int .i64 r89) rfl (by kernel_rfl) ?_)
      refine nil_ ?_
      refine then_normal (K88 _ _ _ _ ?_)
      refine seq_ (fun _ K94 => ?_)
      refine reg_ ?_
      refine sq (o_pv (.int .i64 r89) rfl (by kernel_rfl) ?_)
      refine sq (o_pv (.bool (!decide (r89 = (0 : Int)))) rfl (by kernel_rfl) ?_)
      refine nil_ ?_
      refine then_normal (K94 _ _ _ _ ?_)
      refine cond_nd (r89 = (0 : Int)) (by kernel_rfl) (fun h95 => ?_) (fun h95 => ?_)
      ·
        replace hp := hp.1 h95
        refine seq_ (fun _ K96 => ?_)
        refine reg_ ?_
        refine sq (o_pv (.int .i64 r89) rfl (by kernel_rfl) ?_)
        refine sq (o_pv (.int .i64 r89) rfl (by kernel_rfl) ?_)
        refine nil_ ?_
        refine then_normal (K96 _ _ _ _ ?_)
        refine wp_ret ?_
        refine then_ret ?_
        have hXo97 := (Old.step (Old.step (Old.step hXo s55) s68) s92)
        have E98 := (Evo.then0 (Evo.thenW E66 (Step.evo s68) (Wr.of k56.2.2)) e91)
        have hS99 := (Sub.trans (Sub.trans (Sub.trans hS (Step.up s55)) (Step.up s68)) (Step.up s92))
        have hN100 := (News.step (News.step (News.step hN s55) s68) s92)
        have k101 := (OB.step0 (OB.step k62 s68 p58) s92)
        have mokept102 := (OM.step0 (OM.step mokept63 s68 p59) s92)
        have mofiles103 := (OM.step0 (OM.step mofiles64 s68 p60) s92)
        have Oo104 := (OS.step0 (OS.step Oo65 s68 p61) s92)
        have hokeep105 := (Sl.step (Sl.step (Sl.step hokeep24 s55) s68) s92)
        have hlb106 := (Sl.step (Sl.step (Sl.step hlb51 s55) s68) s92)
        have k107 := (OB.step0 k69 s92)
        obtain ⟨F108, m109, hs110⟩ := MO.pack (o_simfs_FS_mk k101 mokept102 mofiles103 Oo104 roquota17 ronow18 roinodes19 roops_20 roleft21 hokeep105 rfl p30 p31 p32 p33 p34 p35)
        have p111 := hs110 _ (Ap.cons (Ap.symm p58) (Ap.app (Ap.symm p59) (Ap.app (Ap.symm p60) (Ap.app (Ap.symm p61) (Ap.app (Ap.nil_r _) (Ap.app (Ap.nil_r _) (Ap.app (Ap.nil_r _) (Ap.app (Ap.nil_r _) (Ap.app (Ap.nil_r _) (Ap.app (Ap.nil_r _) (Ap.app (Ap.nil_r _) (Ap.nil_r _))))))))))))
        refine end_ret hQ (.int .i64 r89) (by kernel_rfl) ?_
        exact ⟨f_, r89, hp, X54, F108, step_of E98 hF0 hS99 hN100, rfl, m109, rr93⟩
      ·
        replace hp := hp.2 h95
        refine wp_skip ?_
        refine then_normal (K87 _ _ _ _ ?_)
        refine seq_ (fun _ K112 => ?_)
        refine seq_ (fun _ K113 => ?_)
        refine reg_ ?_
        refine sq (o_pv (.pointer (some ⟨bf_1, 0, none⟩)) rfl (by kernel_rfl) ?_)
        refine sq (o_pv (.pointer (some ⟨bf_1, 0, none⟩)) rfl (by kernel_rfl) ?_)
        refine sq (o_pv (.pointer (some ⟨bf_1, 1, none⟩)) rfl (by kernel_rfl) ?_)
        have k114 := (OB.step0 (OB.step k62 s68 p58) s92)
        refine sq (o_pv (.map (some rofiles11)) rfl (x_load1 (by kernel_rfl) Tryd.isAgg47 (k114.2.1.cell' 1 rfl)) ?_)
        refine sq (o_pv (.string to_) rfl (by kernel_rfl) ?_)
        refine sq (o_pv (.string from_) rfl (by kernel_rfl) ?_)
        have mofiles115 := (OM.step0 (OM.step mofiles64 s68 p60) s92)
        refine sq (o_call 38 #[(.map (some rofiles11)), (.string to_), (.string from_)] rfl (x_call Tryd.call38 (by kernel_rfl)) (simfs_clash_w (X := []) (l := f_.files) (p := to_) (but := from_) (Old.nil _) (OM.rm mofiles115) zto_5 zfrom_4 hp) ?_)
        rintro _ w117 ⟨r116, hp, e118, rfl⟩
        have s119 := Step.of0 X54 e118
        refine nil_ ?_
        refine then_normal (K113 _ _ _ _ ?_)
        refine cond_b r116 (by kernel_rfl) (fun h120 => ?_) (fun h120 => ?_)
        ·
          replace hp := hp.1 h120
          refine seq_ (fun _ K121 => ?_)
          refine reg_ ?_
          refine sq (o_pv (.int .i64 (11 : Int)) rfl (by kernel_rfl) ?_)
          refine nil_ ?_
          refine then_normal (K121 _ _ _ _ ?_)
          refine wp_ret ?_
          refine then_ret ?_
          have hXo122 := (Old.step (Old.step (Old.step (Old.step hXo s55) s68) s92) s119)
          have E123 := (Evo.then0 (Evo.then0 (Evo.thenW E66 (Step.evo s68) (Wr.of k56.2.2)) e91) e118)
          have hS124 := (Sub.trans (Sub.trans (Sub.trans (Sub.trans hS (Step.up s55)) (Step.up s68)) (Step.up s92)) (Step.up s119))
          have hN125 := (News.step (News.step (News.step (News.step hN s55) s68) s92) s119)
          have k126 := (OB.step0 k114 s119)
          have mokept127 := (OM.step0 (OM.step0 (OM.step mokept63 s68 p59) s92) s119)
          have mofiles128 := (OM.step0 mofiles115 s119)
          have Oo129 := (OS.step0 (OS.step0 (OS.step Oo65 s68 p61) s92) s119)
          have hokeep130 := (Sl.step (Sl.step (Sl.step (Sl.step hokeep24 s55) s68) s92) s119)
          have hlb131 := (Sl.step (Sl.step (Sl.step (Sl.step hlb51 s55) s68) s92) s119)
          have k132 := (OB.step0 (OB.step0 k69 s92) s119)
          obtain ⟨F133, m134, hs135⟩ := MO.pack (o_simfs_FS_mk k126 mokept127 mofiles128 Oo129 roquota17 ronow18 roinodes19 roops_20 roleft21 hokeep130 rfl p30 p31 p32 p33 p34 p35)
          have p136 := hs135 _ (Ap.cons (Ap.symm p58) (Ap.app (Ap.symm p59) (Ap.app (Ap.symm p60) (Ap.app (Ap.symm p61) (Ap.app (Ap.nil_r _) (Ap.app (Ap.nil_r _) (Ap.app (Ap.nil_r _) (Ap.app (Ap.nil_r _) (Ap.app (Ap.nil_r _) (Ap.app (Ap.nil_r _) (Ap.app (Ap.nil_r _) (Ap.nil_r _))))))))))))
          refine end_ret hQ (.int .i64 (11 : Int)) (by kernel_rfl) ?_
          exact ⟨f_, (11 : Int), hp, X54, F133, step_of E123 hF0 hS124 hN125, rfl, m134, (by decide : inR .i64 (11 : Int))⟩
        ·
          replace hp := hp.2 h120
          refine wp_skip ?_
          refine then_normal (K112 _ _ _ _ ?_)
          refine seq_ (fun _ K137 => ?_)
          refine seq_ (fun _ K138 => ?_)
          refine reg_ ?_
          refine sq (o_pv (.string from_) rfl (by kernel_rfl) ?_)
          refine sq (o_pv (.string to_) rfl (by kernel_rfl) ?_)
          refine sq (o_pv (.bool (decide ((from_ : ByteArray) = to_))) rfl (x_streq (by kernel_rfl) (by kernel_rfl)) ?_)
          refine nil_ ?_
          refine then_normal (K138 _ _ _ _ ?_)
          refine cond_d ((from_ : ByteArray) = to_) (by kernel_rfl) (fun h139 => ?_) (fun h139 => ?_)
          ·
            replace hp := hp.1 h139
            refine seq_ (fun _ K140 => ?_)
            refine reg_ ?_
            refine sq (o_pv (.int .i64 (0 : Int)) rfl (by kernel_rfl) ?_)
            refine nil_ ?_
            refine then_normal (K140 _ _ _ _ ?_)
            refine wp_ret ?_
            refine then_ret ?_
            have hXo141 := (Old.step (Old.step (Old.step (Old.step hXo s55) s68) s92) s119)
            have E142 := (Evo.then0 (Evo.then0 (Evo.thenW E66 (Step.evo s68) (Wr.of k56.2.2)) e91) e118)
            have hS143 := (Sub.trans (Sub.trans (Sub.trans (Sub.trans hS (Step.up s55)) (Step.up s68)) (Step.up s92)) (Step.up s119))
            have hN144 := (News.step (News.step (News.step (News.step hN s55) s68) s92) s119)
            have k145 := (OB.step0 k114 s119)
            have mokept146 := (OM.step0 (OM.step0 (OM.step mokept63 s68 p59) s92) s119)
            have mofiles147 := (OM.step0 mofiles115 s119)
            have Oo148 := (OS.step0 (OS.step0 (OS.step Oo65 s68 p61) s92) s119)
            have hokeep149 := (Sl.step (Sl.step (Sl.step (Sl.step hokeep24 s55) s68) s92) s119)
            have hlb150 := (Sl.step (Sl.step (Sl.step (Sl.step hlb51 s55) s68) s92) s119)
            have k151 := (OB.step0 (OB.step0 k69 s92) s119)
            obtain ⟨F152, m153, hs154⟩ := MO.pack (o_simfs_FS_mk k145 mokept146 mofiles147 Oo148 roquota17 ronow18 roinodes19 roops_20 roleft21 hokeep149 rfl p30 p31 p32 p33 p34 p35)
            have p155 := hs154 _ (Ap.cons (Ap.symm p58) (Ap.app (Ap.symm p59) (Ap.app (Ap.symm p60) (Ap.app (Ap.symm p61) (Ap.app (Ap.nil_r _) (Ap.app (Ap.nil_r _) (Ap.app (Ap.nil_r _) (Ap.app (Ap.nil_r _) (Ap.app (Ap.nil_r _) (Ap.app (Ap.nil_r _) (Ap.app (Ap.nil_r _) (Ap.nil_r _))))))))))))
            refine end_ret hQ (.int .i64 (0 : Int)) (by kernel_rfl) ?_
            exact ⟨f_, (0 : Int), hp, X54, F152, step_of E142 hF0 hS143 hN144, rfl, m153, (by decide : inR .i64 (0 : Int))⟩
          ·
            replace hp := hp.2 h139
            refine wp_skip ?_
            refine then_normal (K137 _ _ _ _ ?_)
            refine seq_ (fun _ K156 => ?_)
            refine seq_ (fun _ K157 => ?_)
            refine reg_ ?_
            refine sq (o_pv (.pointer (some ⟨bf_1, 0, none⟩)) rfl (by kernel_rfl) ?_)
            have hXo158 := (Old.step (Old.step (Old.step (Old.step hXo s55) s68) s92) s119)
            have E159 := (Evo.then0 (Evo.then0 (Evo.thenW E66 (Step.evo s68) (Wr.of k56.2.2)) e91) e118)
            have hS160 := (Sub.trans (Sub.trans (Sub.trans (Sub.trans hS (Step.up s55)) (Step.up s68)) (Step.up s92)) (Step.up s119))
            have hN161 := (News.step (News.step (News.step (News.step hN s55) s68) s92) s119)
            have k162 := (OB.step0 k114 s119)
            have mokept163 := (OM.step0 (OM.step0 (OM.step mokept63 s68 p59) s92) s119)
            have mofiles164 := (OM.step0 mofiles115 s119)
            have Oo165 := (OS.step0 (OS.step0 (OS.step Oo65 s68 p61) s92) s119)
            have hokeep166 := (Sl.step (Sl.step (Sl.step (Sl.step hokeep24 s55) s68) s92) s119)
            have hlb167 := (Sl.step (Sl.step (Sl.step (Sl.step hlb51 s55) s68) s92) s119)
            have k168 := (OB.step0 (OB.step0 k69 s92) s119)
            obtain ⟨F169, m170, hs171⟩ := MO.pack (o_simfs_FS_mk k162 mokept163 mofiles164 Oo165 roquota17 ronow18 roinodes19 roops_20 roleft21 hokeep166 rfl p30 p31 p32 p33 p34 p35)
            have p172 := hs171 _ (Ap.cons (Ap.symm p58) (Ap.app (Ap.symm p59) (Ap.app (Ap.symm p60) (Ap.app (Ap.symm p61) (Ap.app (Ap.nil_r _) (Ap.app (Ap.nil_r _) (Ap.app (Ap.nil_r _) (Ap.app (Ap.nil_r _) (Ap.app (Ap.nil_r _) (Ap.app (Ap.nil_r _) (Ap.app (Ap.nil_r _) (Ap.nil_r _))))))))))))
            refine sq (o_call 25 #[(.pointer (some ⟨bf_1, 0, none⟩))] rfl (x_call Tryd.call25 (by kernel_rfl)) (simfs_FS_trips_w (X := X54) (f_ := f_) hXo158 (MO.re m170 (Wr.self _ _ (Sub.refl _))) hp) ?_)
            rintro _ w175 ⟨f_173, r174, hp, X176, F178, s177, rfl, m179⟩
            have m180 := MO.re m179 (Wr.trans m179.wr m170.wr E159.size)
            have p181 := Ap.grow m179.wr p172 (OB.old k168) (Nat.le_refl _)
            refine nil_ ?_
            refine then_normal (K157 _ _ _ _ ?_)
            refine cond_b r174 (by kernel_rfl) (fun h182 => ?_) (fun h182 => ?_)
            ·
              replace hp := hp.1 h182
              refine seq_ (fun _ K183 => ?_)
              refine reg_ ?_
              refine sq (o_pv (.int .i64 (13 : Int)) rfl (by kernel_rfl) ?_)
              refine nil_ ?_
              refine then_normal (K183 _ _ _ _ ?_)
              refine wp_ret ?_
              refine then_ret ?_
              have hXo184 := (Old.step hXo158 s177)
              have E185 := (Evo.thenW E159 (Step.evo s177) m170.wr)
              have hS186 := (Sub.trans hS160 (Step.up s177))
              have hN187 := (News.step hN161 s177)
              have hokeep188 := (Sl.step hokeep166 s177)
              have hlb189 := (Sl.step hlb167 s177)
              have k190 := (OB.step k168 s177 p172)
              refine end_ret hQ (.int .i64 (13 : Int)) (by kernel_rfl) ?_
              exact ⟨f_173, (13 : Int), hp, X176, F178, step_of E185 hF0 hS186 hN187, rfl, m180, (by decide : inR .i64 (13 : Int))⟩
            ·
              replace hp := hp.2 h182
              refine wp_skip ?_
              refine then_normal (K156 _ _ _ _ ?_)
              refine seq_ (fun _ K191 => ?_)
              refine reg_ ?_
              refine sq (o_pv (.pointer (some ⟨bf_1, 0, none⟩)) rfl (by kernel_rfl) ?_)
              refine sq (o_pv (.string from_) rfl (by kernel_rfl) ?_)
              refine sq (o_pv (.string to_) rfl (by kernel_rfl) ?_)
              refine sq (o_pv (.agg #[(.int .i64 (2 : Int)), (.string from_), (.string to_), (.int .i64 (0 : Int)), (.int .i64 (0 : Int)), (.int .i64 (0 : Int)), (.slice none 0 0)]) rfl (by kernel_rfl) ?_)
              have hXo192 := (Old.step hXo158 s177)
              have E193 := (Evo.thenW E159 (Step.evo s177) m170.wr)
              have hS194 := (Sub.trans hS160 (Step.up s177))
              have hN195 := (News.step hN161 s177)
              have hokeep196 := (Sl.step hokeep166 s177)
              have hlb197 := (Sl.step hlb167 s177)
              have k198 := (OB.step k168 s177 p172)
              refine sq (o_call 26 #[(.pointer (some ⟨bf_1, 0, none⟩)), (.agg #[(.int .i64 (2 : Int)), (.string from_), (.string to_), (.int .i64 (0 : Int)), (.int .i64 (0 : Int)), (.int .i64 (0 : Int)), (.slice none (([] : List Int)).length 0)])] rfl (x_call Tryd.call26 (by rw []; kernel_rfl)) (simfs_FS_do_w (X := X176) (f_ := f_173) (o := (S_simfs_op.mk (2 : Int) from_ to_ (S_simfs_file.mk (0 : Int) (0 : Int) (0 : Int) ([] : List Int)))) hXo192 (MO.re m180 (Wr.self _ _ (Sub.refl _))) (by decide : inR .i64 (2 : Int)) zfrom_4 zto_5 (by decide : inR .i64 (0 : Int)) (by decide : inR .i64 (0 : Int)) (by decide : inR .i64 (0 : Int)) Sl.nil hp) ?_)
              rintro _ w200 ⟨f_199, hp, X201, F203, s202, rfl, m204⟩
              have m205 := MO.re m204 (Wr.trans m204.wr m180.wr E193.size)
              have p206 := Ap.grow m204.wr p181 (OB.old k198) (Nat.le_refl _)
              refine nil_ ?_
              refine then_normal (K191 _ _ _ _ ?_)
              refine seq_ (fun _ K207 => ?_)
              refine reg_ ?_
              refine sq (o_pv (.int .i64 (0 : Int)) rfl (by kernel_rfl) ?_)
              refine nil_ ?_
              refine then_normal (K207 _ _ _ _ ?_)
              refine wp_ret ?_
              have hXo208 := (Old.step hXo192 s202)
              have E209 := (Evo.thenW E193 (Step.evo s202) m180.wr)
              have hS210 := (Sub.trans hS194 (Step.up s202))
              have hN211 := (News.step hN195 s202)
              have hokeep212 := (Sl.step hokeep196 s202)
              have hlb213 := (Sl.step hlb197 s202)
              have k214 := (OB.step k198 s202 p181)
              refine end_ret hQ (.int .i64 (0 : Int)) (by kernel_rfl) ?_
              exact ⟨f_199, (0 : Int), hp, X201, F203, step_of E209 hF0 hS210 hN211, rfl, m205, (by decide : inR .i64 (0 : Int))⟩

end Go.Proofs.YtaolmfepdmgohaaDoor
