/- Walks of functions: what each asks and computes, as a plain predicate, and the contract from it. -/
import Derived.Test.YtjejeipdndddpaaDoorChecked
import Derived.Test.YtjejeipdndddpaaDoorSf3
namespace Go.Proofs.YtjejeipdndddpaaDoor
open Go


def rectolaw18_known_p (Q : Bool → Prop) : Prop :=
  (stat_Note_p (S_index_Entry.mk (ByteArray.mk #[97]) (0 : Int) (1 : Int) (ByteArray.mk #[120]) (0 : Int) (0 : Int)) (S_simfs_Stat.mk (1 : Int) (3 : Int) (0 : Int) (1 : Int)) (fun (r3 : S_index_Entry) => ((r3.Path.size ≤ maxLen) → ((inR .i64 r3.Stage) → ((inR .i64 r3.Mode) → ((r3.Data.size ≤ maxLen) → ((inR .i64 r3.Time) → ((inR .i64 r3.Size) → (stat_Smudge_p ([r3]) (3 : Int) (fun (r43 : (List S_index_Entry)) => ((r43.length ≤ 9223372036854775807) → (simfs_New_p (0 : Int) (fun (r56 : S_simfs_FS) => (simfs_FS_Edit_p r56 (ByteArray.mk #[97]) (1 : Int) ([(121 : Int)]) (fun (f_103 : S_simfs_FS) (r104 : Int) => ((inR .i64 r104) → (stat_Changed_p f_103 ([(S_index_Entry.mk (ByteArray.mk #[97]) (0 : Int) (1 : Int) (ByteArray.mk #[120]) (0 : Int) (0 : Int))]) (5 : Int) (fun (f_145 : S_simfs_FS) (r146 : (List ByteArray)) (r147 : Int) (r148 : Int) => ((r146.length ≤ 9223372036854775807) → ((inR .i64 r147) → ((inR .i64 r148) → (∃ k195 : Bool → Prop, (∀ (s194 : Bool), k195 s194 → Q s194) ∧ (((r3.Time = (3 : Int)) → (((r3.Size = (1 : Int)) → (stat_Fresh_p r3 (S_simfs_Stat.mk (1 : Int) (3 : Int) (0 : Int) (1 : Int)) (4 : Int) (fun (r215 : Bool) => (((r215 = true) → (stat_Fresh_p r3 (S_simfs_Stat.mk (1 : Int) (3 : Int) (0 : Int) (1 : Int)) (3 : Int) (fun (r223 : Bool) => (((r223 = true) → (k195 false)) ∧ ((r223 = false) → ((((r43.length : Int) = (1 : Int)) → ((inL r43 (0 : Int)) ∧ ((((lget r43 (0 : Int)).Path).size ≤ maxLen) → ((inR .i64 ((lget r43 (0 : Int)).Stage)) → ((inR .i64 ((lget r43 (0 : Int)).Mode)) → ((((lget r43 (0 : Int)).Data).size ≤ maxLen) → ((inR .i64 ((lget r43 (0 : Int)).Time)) → ((inR .i64 ((lget r43 (0 : Int)).Size)) → (((((lget r43 (0 : Int)).Time) = (0 : Int)) → (((r148 = (0 : Int)) → ((((r146.length : Int) = (1 : Int)) → (k195 (decide (r147 = (1 : Int))))) ∧ ((¬ ((r146.length : Int) = (1 : Int))) → (k195 false)))) ∧ ((¬ (r148 = (0 : Int))) → (k195 false)))) ∧ ((¬ (((lget r43 (0 : Int)).Time) = (0 : Int))) → (k195 false))))))))))) ∧ ((¬ ((r43.length : Int) = (1 : Int))) → (k195 false)))))))) ∧ ((r215 = false) → (k195 false)))))) ∧ ((¬ (r3.Size = (1 : Int))) → (k195 false)))) ∧ ((¬ (r3.Time = (3 : Int))) → (k195 false)))))))))))))))))))))))))
set_option maxRecDepth 20000 in
set_option maxHeartbeats 4000000 in
theorem rectolaw18_known_w {X : List Nat} {w : World} {Q : Bool → Prop} (hX0 : Old X w) (hp : rectolaw18_known_p Q) :
    Calls Tryd.prog 41 #[] w (Ret fun v w' => ∃ (r0 : Bool), Q r0 ∧ Evo [] w w' ∧ v = (.bool r0)) := by
  have hXo := hX0
  have E0 : Evo [] w w := RB.refl _ _ _
  have hS : Sub X X := Sub.refl _
  unfold rectolaw18_known_p at hp
  refine enter_ Tryd.func41 rfl 72 [] (by kernel_rfl) (fun Qe hQ => ?_)
  refine seq_ (fun _ K1 => ?_)
  refine reg_ ?_
  refine sq (o_pv (.bool false) rfl (by kernel_rfl) ?_)
  refine nil_ ?_
  refine then_normal (K1 _ _ _ _ ?_)
  refine seq_ (fun _ K2 => ?_)
  refine reg_ ?_
  refine sq (o_pv (.agg #[(.string (ByteArray.mk #[97])), (.int .i64 (0 : Int)), (.int .i64 (1 : Int)), (.string (ByteArray.mk #[120])), (.int .i64 (0 : Int)), (.int .i64 (0 : Int))]) rfl (by kernel_rfl) ?_)
  refine sq (o_pv (.agg #[(.int .i64 (1 : Int)), (.int .i64 (3 : Int)), (.int .i64 (0 : Int)), (.int .i64 (1 : Int))]) rfl (by kernel_rfl) ?_)
  refine sq (o_call 43 #[(.agg #[(.string (ByteArray.mk #[97])), (.int .i64 (0 : Int)), (.int .i64 (1 : Int)), (.string (ByteArray.mk #[120])), (.int .i64 (0 : Int)), (.int .i64 (0 : Int))]), (.agg #[(.int .i64 (1 : Int)), (.int .i64 (3 : Int)), (.int .i64 (0 : Int)), (.int .i64 (1 : Int))])] rfl (x_call Tryd.call43 (by kernel_rfl)) (stat_Note_w (X := []) (e := (S_index_Entry.mk (ByteArray.mk #[97]) (0 : Int) (1 : Int) (ByteArray.mk #[120]) (0 : Int) (0 : Int))) (s := (S_simfs_Stat.mk (1 : Int) (3 : Int) (0 : Int) (1 : Int))) (Old.nil _) (by decide : (ByteArray.mk #[97]).size ≤ maxLen) (by decide : inR .i64 (0 : Int)) (by decide : inR .i64 (1 : Int)) (by decide : (ByteArray.mk #[120]).size ≤ maxLen) (by decide : inR .i64 (0 : Int)) (by decide : inR .i64 (0 : Int)) (by decide : inR .i64 (1 : Int)) (by decide : inR .i64 (3 : Int)) (by decide : inR .i64 (0 : Int)) (by decide : inR .i64 (1 : Int)) hp) ?_)
  rintro _ w4 ⟨r3, hp, e5, rfl, zrPath7, rrStage8, rrMode9, zrData10, rrTime11, rrSize12⟩
  have s6 := Step.of0 X e5
  replace hp := hp zrPath7
  replace hp := hp rrStage8
  replace hp := hp rrMode9
  replace hp := hp zrData10
  replace hp := hp rrTime11
  replace hp := hp rrSize12
  have E19 := (Evo.then0 E0 e5)
  refine sq (o_newX [(.string (ByteArray.mk #[])), (.int .i64 (0 : Int)), (.int .i64 (0 : Int)), (.string (ByteArray.mk #[])), (.int .i64 (0 : Int)), (.int .i64 (0 : Int))] 82 (X := X) (B := w.heap.size) E19.size rfl (by kernel_rfl) ?_)
  intro b13 w14 X15 s16 k17 n18
  have E20 := (Evo.then0 E19 (Step.evo s16))
  refine sq (o_stB (o := 0) (v := (.agg #[(.string r3.Path), (.int .i64 r3.Stage), (.int .i64 r3.Mode), (.string r3.Data), (.int .i64 r3.Time), (.int .i64 r3.Size)])) [(.string r3.Path), (.int .i64 r3.Stage), (.int .i64 r3.Mode), (.string r3.Data), (.int .i64 r3.Time), (.int .i64 r3.Size)] rfl k17 (by kernel_rfl) (by kernel_rfl) Tryd.sizeOf82 rfl rfl rfl ?_)
  intro w21 s22 k23
  refine nil_ ?_
  refine then_normal (K2 _ _ _ _ ?_)
  refine seq_ (fun _ K24 => ?_)
  refine reg_ ?_
  refine sq (o_pv (.agg #[(.string r3.Path), (.int .i64 r3.Stage), (.int .i64 r3.Mode), (.string r3.Data), (.int .i64 r3.Time), (.int .i64 r3.Size)]) rfl (x_loadN [(.string r3.Path), (.int .i64 r3.Stage), (.int .i64 r3.Mode), (.string r3.Data), (.int .i64 r3.Time), (.int .i64 r3.Size)] (by kernel_rfl) Tryd.isAgg82 Tryd.sizeOf82 (k23.2.1.cells' 0 rfl)) ?_)
  have E31 := (Evo.thenW E20 (Step.evo s22) k17.2.2)
  refine sq (o_rowX (R := r_index_Entry) [(.string r3.Path), (.int .i64 r3.Stage), (.int .i64 r3.Mode), (.string r3.Data), (.int .i64 r3.Time), (.int .i64 r3.Size)] [r3] 82 1 (X := X15) (B := w.heap.size) E31.size rfl (by kernel_rfl) (Flat.cons (cs := [(.string r3.Path), (.int .i64 r3.Stage), (.int .i64 r3.Mode), (.string r3.Data), (.int .i64 r3.Time), (.int .i64 r3.Size)]) (r_index_Entry_mk zrPath7 rrStage8 rrMode9 zrData10 rrTime11 rrSize12) Flat.nil) rfl (by decide) ?_)
  intro b25 w26 X27 s28 O29 n30
  have p32 := n30 _ (OB.old k23)
  have hS33 := (Sub.trans (Sub.trans (Sub.trans (Sub.trans hS (Step.up s6)) (Step.up s16)) (Step.up s22)) (Step.up s28))
  have hXo39 := (Old.step (Old.step (Old.step (Old.step hXo s6) s16) s22) s28)
  have E40 := (Evo.then0 E31 (Step.evo s28))
  have k41 := (OB.step0 k23 s28)
  have ax38 := OS.apold O29 hX0
  obtain ⟨X34, u35, r36, hm37⟩ := OS.release O29
  have hXo42 := (Old.less hXo39 u35)
  refine sq (o_call 44 #[(.slice (some ⟨b25, 0, none⟩) ([r3]).length 1), (.int .i64 (3 : Int))] rfl (x_call Tryd.call44 (by rw [← show 1 = ([r3]).length from O29.1]; kernel_rfl)) (stat_Smudge_w (X := X34) (l := [r3]) (written := (3 : Int)) hXo42 r36 (by decide : inR .i64 (3 : Int)) hp) ?_)
  rintro _ w44 ⟨r43, hp, e45, ar47, cr48, rfl, hr49⟩
  have s46 := Step.of0 X34 e45
  replace hp := hp (Sl.len hr49)
  refine sq (o_pv (.slice ar47 r43.length cr48) rfl (by kernel_rfl) ?_)
  refine nil_ ?_
  refine then_normal (K24 _ _ _ _ ?_)
  refine seq_ (fun _ K50 => ?_)
  refine reg_ ?_
  have hXo51 := (Old.step hXo42 s46)
  have E52 := (Evo.then0 E40 e45)
  have hS53 := (Sub.trans (hm37 _ ax38 hS33) (Step.up s46))
  have k54 := (OB.step0 (OB.less k41 (hm37 _ p32 (OB.mem k41))) s46)
  have r55 := (Sl.step r36 s46)
  refine sq (o_call 45 #[(.int .i64 (0 : Int))] rfl (x_call Tryd.call45 (by kernel_rfl)) (simfs_New_w (X := X34) (quota := (0 : Int)) hXo51 (by decide : inR .i64 (0 : Int)) hp) ?_)
  rintro _ w57 ⟨r56, hp, X58, br60, Fr61, s59, rfl, mr62⟩
  have m63 := MO.re mr62 (Wr.trans mr62.wr (Wr.nil [] _) E52.size)
  have p64 := Ap.grow mr62.wr (Ap.nil_r _) (OB.old k54) (Nat.le_refl _)
  refine sq (o_pv (.pointer (some ⟨br60, 0, none⟩)) rfl (by kernel_rfl) ?_)
  refine nil_ ?_
  refine then_normal (K50 _ _ _ _ ?_)
  refine seq_ (fun _ K65 => ?_)
  refine seq_ (fun _ K66 => ?_)
  refine reg_ ?_
  refine sq (o_pv (.pointer (some ⟨br60, 0, none⟩)) rfl (by kernel_rfl) ?_)
  refine sq (o_pv (.bool false) rfl (x_pnil_eq (a := ⟨br60, 0, none⟩) Tryd.underlying92 (by kernel_rfl) (by kernel_rfl)) ?_)
  refine nil_ ?_
  refine then_normal (K66 _ _ _ _ ?_)
  refine cond_f (by kernel_rfl) ?_
  refine wp_skip ?_
  refine then_normal (K65 _ _ _ _ ?_)
  refine seq_ (fun _ K67 => ?_)
  refine reg_ ?_
  refine sq (o_pv (.pointer (some ⟨br60, 0, none⟩)) rfl (by kernel_rfl) ?_)
  have k68 := (OB.step0 k54 s59)
  have E75 := (Evo.then0 E52 (Step.evo s59))
  refine sq (o_rowX (R := (rInt .u8)) [(.int .u8 (121 : Int))] [(121 : Int)] 5 1 (X := X58) (B := w.heap.size) E75.size rfl (by kernel_rfl) (Flat.cons (cs := [(.int .u8 (121 : Int))]) (rInt_mk (by decide : inR .u8 (121 : Int))) Flat.nil) rfl (by decide) ?_)
  intro b69 w70 X71 s72 O73 n74
  have p76 := n74 _ (OB.old k68)
  have p77 := n74 _ (MO.old m63)
  have k78 := (OB.step0 k68 s72)
  have m79 := (MO.step0 m63 s72)
  have hS80 := (Sub.trans (Sub.trans hS53 (Step.up s59)) (Step.up s72))
  have ax81 := OS.apold O73 hX0
  refine sq (o_mark rfl Tryd.underlying91 Tryd.underlying5 O73 (by kernel_rfl) ?_)
  intro w82 X83 s84 u85 h86 hm87
  have hXo89 := (Old.step (Old.step (Old.step hXo51 s59) s72) s84)
  have E90 := (Evo.thenW (Evo.then0 E75 (Step.evo s72)) (Step.evo s84) O73.2.2)
  have hS91 := (Sub.trans hS80 (Step.up s84))
  have k92 := (OB.step k78 s84 p76)
  have r93 := (Sl.step (Sl.step (Sl.step r55 s59) s72) s84)
  have hr94 := (Sl.step (Sl.step (Sl.step hr49 s59) s72) s84)
  have m95 := (MO.step m79 s84 p77)
  have ax88 : Ap X [b69] := ax81
  have hXo96 := (Old.less hXo89 u85)
  have E97 := E90
  have hS98 := (hm87 _ ax88 hS91)
  have k99 := (OB.less k92 (hm87 _ p76 (OB.mem k92)))
  have r100 := (Sl.less r93 u85)
  have hr101 := (Sl.less hr94 u85)
  have m102 := (MO.less m95 u85 (hm87 _ p77 (MO.mem m95)))
  refine sq (o_call 47 #[(.pointer (some ⟨br60, 0, none⟩)), (.string (ByteArray.mk #[97])), (.int .i64 (1 : Int)), (.slice (some ⟨b69, 0, none⟩) ([(121 : Int)]).length 1)] rfl (x_call Tryd.call47 (by rw [← show 1 = ([(121 : Int)]).length from O73.1]; kernel_rfl)) (simfs_FS_Edit_w (X := X83) (f_ := r56) (p := (ByteArray.mk #[97])) (mode := (1 : Int)) (b := [(121 : Int)]) hXo96 (MO.re m102 (Wr.self _ _ (Sub.refl _))) (by decide : (ByteArray.mk #[97]).size ≤ maxLen) (by decide : inR .i64 (1 : Int)) h86 hp) ?_)
  rintro _ w105 ⟨f_103, r104, hp, X106, F108, s107, rfl, m109, rr110⟩
  have m111 := MO.re m109 (Wr.trans m109.wr m102.wr E97.size)
  have p112 := Ap.grow m109.wr p64 (OB.old k99) (Nat.le_refl _)
  replace hp := hp rr110
  refine nil_ ?_
  refine then_normal (K67 _ _ _ _ ?_)
  refine seq_ (fun _ K113 => ?_)
  refine reg_ ?_
  refine sq (o_pv (.pointer (some ⟨br60, 0, none⟩)) rfl (by kernel_rfl) ?_)
  refine sq (o_pv (.agg #[(.string (ByteArray.mk #[97])), (.int .i64 (0 : Int)), (.int .i64 (1 : Int)), (.string (ByteArray.mk #[120])), (.int .i64 (0 : Int)), (.int .i64 (0 : Int))]) rfl (by kernel_rfl) ?_)
  have k114 := (OB.step k99 s107 p64)
  have E121 := (Evo.thenW E97 (Step.evo s107) m102.wr)
  refine sq (o_rowX (R := r_index_Entry) [(.string (ByteArray.mk #[97])), (.int .i64 (0 : Int)), (.int .i64 (1 : Int)), (.string (ByteArray.mk #[120])), (.int .i64 (0 : Int)), (.int .i64 (0 : Int))] [(S_index_Entry.mk (ByteArray.mk #[97]) (0 : Int) (1 : Int) (ByteArray.mk #[120]) (0 : Int) (0 : Int))] 82 1 (X := X106) (B := w.heap.size) E121.size rfl (by kernel_rfl) (Flat.cons (cs := [(.string (ByteArray.mk #[97])), (.int .i64 (0 : Int)), (.int .i64 (1 : Int)), (.string (ByteArray.mk #[120])), (.int .i64 (0 : Int)), (.int .i64 (0 : Int))]) (r_index_Entry_mk (by decide : (ByteArray.mk #[97]).size ≤ maxLen) (by decide : inR .i64 (0 : Int)) (by decide : inR .i64 (1 : Int)) (by decide : (ByteArray.mk #[120]).size ≤ maxLen) (by decide : inR .i64 (0 : Int)) (by decide : inR .i64 (0 : Int))) Flat.nil) rfl (by decide) ?_)
  intro b115 w116 X117 s118 O119 n120
  have p122 := n120 _ (OB.old k114)
  have p123 := n120 _ (MO.old m111)
  have hS124 := (Sub.trans (Sub.trans hS98 (Step.up s107)) (Step.up s118))
  have hXo130 := (Old.step (Old.step hXo96 s107) s118)
  have E131 := (Evo.then0 E121 (Step.evo s118))
  have k132 := (OB.step0 k114 s118)
  have r133 := (Sl.step (Sl.step r100 s107) s118)
  have hr134 := (Sl.step (Sl.step hr101 s107) s118)
  have h135 := (Sl.step (Sl.step h86 s107) s118)
  have m136 := (MO.step0 m111 s118)
  have ax129 := OS.apold O119 hX0
  obtain ⟨X125, u126, r127, hm128⟩ := OS.release O119
  have hXo137 := (Old.less hXo130 u126)
  have E138 := E131
  have hS139 := (hm128 _ ax129 hS124)
  have k140 := (OB.less k132 (hm128 _ p122 (OB.mem k132)))
  have r141 := (Sl.less r133 u126)
  have hr142 := (Sl.less hr134 u126)
  have h143 := (Sl.less h135 u126)
  have m144 := (MO.less m136 u126 (hm128 _ p123 (MO.mem m136)))
  refine sq (o_call 50 #[(.pointer (some ⟨br60, 0, none⟩)), (.slice (some ⟨b115, 0, none⟩) ([(S_index_Entry.mk (ByteArray.mk #[97]) (0 : Int) (1 : Int) (ByteArray.mk #[120]) (0 : Int) (0 : Int))]).length 1), (.int .i64 (5 : Int))] rfl (x_call Tryd.call50 (by rw [← show 1 = ([(S_index_Entry.mk (ByteArray.mk #[97]) (0 : Int) (1 : Int) (ByteArray.mk #[120]) (0 : Int) (0 : Int))]).length from O119.1]; kernel_rfl)) (stat_Changed_w (X := X125) (f_ := f_103) (l := [(S_index_Entry.mk (ByteArray.mk #[97]) (0 : Int) (1 : Int) (ByteArray.mk #[120]) (0 : Int) (0 : Int))]) (written := (5 : Int)) hXo137 (MO.re m144 (Wr.self _ _ (Sub.refl _))) r127 (by decide : inR .i64 (5 : Int)) hp) ?_)
  rintro _ w149 ⟨f_145, r146, r147, r148, hp, X150, F152, ar154, cr155, s151, rfl, m153, hr156, rr157, rr158⟩
  have m159 := MO.re m153 (Wr.trans m153.wr m144.wr E138.size)
  have p160 := Ap.grow m153.wr p112 (OB.old k140) (Nat.le_refl _)
  replace hp := hp (Sl.len hr156)
  replace hp := hp rr157
  replace hp := hp rr158
  refine sq (o_pv (.tuple #[(.slice ar154 r146.length cr155), (.int .i64 r147), (.int .i64 r148)]) rfl (by kernel_rfl) ?_)
  refine sq (o_pv (.slice ar154 r146.length cr155) rfl (by kernel_rfl) ?_)
  refine sq (o_pv (.int .i64 r147) rfl (by kernel_rfl) ?_)
  refine sq (o_pv (.int .i64 r148) rfl (by kernel_rfl) ?_)
  refine sq (o_pv (.slice ar154 r146.length cr155) rfl (by kernel_rfl) ?_)
  refine sq (o_pv (.int .i64 r147) rfl (by kernel_rfl) ?_)
  refine sq (o_pv (.int .i64 r148) rfl (by kernel_rfl) ?_)
  refine nil_ ?_
  refine then_normal (K113 _ _ _ _ ?_)
  refine seq_ (fun _ K161 => ?_)
  have hXo202 := (Old.step hXo137 s151)
  have E203 := (Evo.thenW E138 (Step.evo s151) m144.wr)
  have hS204 := (Sub.trans hS139 (Step.up s151))
  have k205 := (OB.step k140 s151 p112)
  have r206 := (Sl.step r141 s151)
  have hr207 := (Sl.step hr142 s151)
  have h208 := (Sl.step h143 s151)
  have r209 := (Sl.step r127 s151)
  obtain ⟨k195, hk196, hp⟩ := hp
  refine ground_ ?_
  refine join_ 4722366482869376778241 (fun lq w197 => ∃ (X198 : List Nat) (s194 : Bool), (lq = [(0, (.bool s194))]) ∧ (Evo [] w w197) ∧ (Old X198 w197) ∧ (Sub X X198) ∧ (k195 s194)) (fun Kj199 hJ200 => ?_) ?_
  ·
    refine reg_ ?_
    refine sq (o_pv (.pointer (some ⟨b13, 4, none⟩)) rfl (by kernel_rfl) ?_)
    refine sq (o_pv (.int .i64 r3.Time) rfl (x_load1 (by kernel_rfl) Tryd.isAgg3 (k205.2.1.cell' 4 rfl)) ?_)
    by_cases h213 : r3.Time = (3 : Int)
    ·
      replace hp := hp.1 h213
      refine sq (o_pv (.bool true) rfl (x_dt (p := r3.Time = (3 : Int)) (by kernel_rfl) h213) ?_)
      refine sq (o_pv (.bool true) rfl (by kernel_rfl) ?_)
      refine sq (o_pv (.pointer (some ⟨b13, 5, none⟩)) (by kernel_rfl) (by kernel_rfl) ?_)
      refine sq (o_pv (.int .i64 r3.Size) (by kernel_rfl) (x_load1 (by kernel_rfl) Tryd.isAgg3 (k205.2.1.cell' 5 rfl)) ?_)
      by_cases h214 : r3.Size = (1 : Int)
      ·
        replace hp := hp.1 h214
        refine sq (o_pv (.bool true) (by kernel_rfl) (x_dt (p := r3.Size = (1 : Int)) (by kernel_rfl) h214) ?_)
        refine sq (o_pv (.bool true) rfl (by kernel_rfl) ?_)
        refine sq (o_pv (.bool true) rfl (by kernel_rfl) ?_)
        refine sq (o_pv (.agg #[(.string r3.Path), (.int .i64 r3.Stage), (.int .i64 r3.Mode), (.string r3.Data), (.int .i64 r3.Time), (.int .i64 r3.Size)]) (by kernel_rfl) (x_loadN [(.string r3.Path), (.int .i64 r3.Stage), (.int .i64 r3.Mode), (.string r3.Data), (.int .i64 r3.Time), (.int .i64 r3.Size)] (by kernel_rfl) Tryd.isAgg82 Tryd.sizeOf82 (k205.2.1.cells' 0 rfl)) ?_)
        refine sq (o_pv (.agg #[(.int .i64 (1 : Int)), (.int .i64 (3 : Int)), (.int .i64 (0 : Int)), (.int .i64 (1 : Int))]) (by kernel_rfl) (by kernel_rfl) ?_)
        refine sq (o_call 42 #[(.agg #[(.string r3.Path), (.int .i64 r3.Stage), (.int .i64 r3.Mode), (.string r3.Data), (.int .i64 r3.Time), (.int .i64 r3.Size)]), (.agg #[(.int .i64 (1 : Int)), (.int .i64 (3 : Int)), (.int .i64 (0 : Int)), (.int .i64 (1 : Int))]), (.int .i64 (4 : Int))] (by kernel_rfl) (x_call Tryd.call42 (by kernel_rfl)) (stat_Fresh_w (X := []) (e := r3) (s := (S_simfs_Stat.mk (1 : Int) (3 : Int) (0 : Int) (1 : Int))) (written := (4 : Int)) (Old.nil _) zrPath7 rrStage8 rrMode9 zrData10 rrTime11 rrSize12 (by decide : inR .i64 (1 : Int)) (by decide : inR .i64 (3 : Int)) (by decide : inR .i64 (0 : Int)) (by decide : inR .i64 (1 : Int)) (by decide : inR .i64 (4 : Int)) hp) ?_)
        rintro _ w216 ⟨r215, hp, e217, rfl⟩
        have s218 := Step.of0 X150 e217
        cases r215
        ·
          replace hp := hp.2 rfl
          refine sq (o_pv (.bool false) rfl (by kernel_rfl) ?_)
          refine sq (o_pv (.bool false) rfl (by kernel_rfl) ?_)
          refine sq (o_not (by kernel_rfl) ?_)
          refine sq (o_not (by kernel_rfl) ?_)
          refine sq (o_not (by kernel_rfl) ?_)
          refine sq (o_not (by kernel_rfl) ?_)
          refine sq (o_pv (.bool false) rfl (by kernel_rfl) ?_)
          refine sq (o_pv (.bool false) rfl (by kernel_rfl) ?_)
          refine sq (o_not (by kernel_rfl) ?_)
          refine sq (o_not (by kernel_rfl) ?_)
          refine sq (o_not (by kernel_rfl) ?_)
          refine sq (o_pv (.bool false) rfl (by kernel_rfl) ?_)
          refine sq (o_pv (.bool false) rfl (by kernel_rfl) ?_)
          refine sq (o_not (by kernel_rfl) ?_)
          refine sq (o_not (by kernel_rfl) ?_)
          refine sq (o_not (by kernel_rfl) ?_)
          refine sq (o_not (by kernel_rfl) ?_)
          refine sq (o_not (by kernel_rfl) ?_)
          refine sq (o_pv (.bool false) rfl (by kernel_rfl) ?_)
          refine sq (o_pv (.bool false) rfl (by kernel_rfl) ?_)
          refine sq (o_not (by kernel_rfl) ?_)
          refine sq (o_not (by kernel_rfl) ?_)
          refine sq (o_pv (.bool false) rfl (by kernel_rfl) ?_)
          refine sq (o_pv (.bool false) rfl (by kernel_rfl) ?_)
          refine sq (o_not (by kernel_rfl) ?_)
          refine sq (o_not (by kernel_rfl) ?_)
          refine sq (o_not (by kernel_rfl) ?_)
          refine sq (o_pv (.bool false) rfl (by kernel_rfl) ?_)
          refine sq (o_pv (.bool false) rfl (by kernel_rfl) ?_)
          refine sq (o_not (by kernel_rfl) ?_)
          refine sq (o_not (by kernel_rfl) ?_)
          refine sq (o_pv (.bool false) rfl (by kernel_rfl) ?_)
          refine sq (o_pv (.bool false) rfl (by kernel_rfl) ?_)
          refine nil_ ?_
          have E219 := (Evo.then0 E203 e217)
          have hXo220 := (Old.step hXo202 s218)
          have hS221 := (Sub.trans hS204 (Step.up s218))
          refine then_normal (hJ200 _ _ _ ⟨[(0, (.bool false))], fit_mk (fun _ _ => rfl) (by kernel_rfl) (vs_cons (by kernel_rfl) vs_nil), ?_⟩)
          exact ⟨X150, false, rfl, E219, hXo220, hS221, hp⟩
        ·
          replace hp := hp.1 rfl
          refine sq (o_pv (.bool true) rfl (by kernel_rfl) ?_)
          refine sq (o_pv (.bool true) rfl (by kernel_rfl) ?_)
          have k222 := (OB.step0 k205 s218)
          refine sq (o_pv (.agg #[(.string r3.Path), (.int .i64 r3.Stage), (.int .i64 r3.Mode), (.string r3.Data), (.int .i64 r3.Time), (.int .i64 r3.Size)]) (by kernel_rfl) (x_loadN [(.string r3.Path), (.int .i64 r3.Stage), (.int .i64 r3.Mode), (.string r3.Data), (.int .i64 r3.Time), (.int .i64 r3.Size)] (by kernel_rfl) Tryd.isAgg82 Tryd.sizeOf82 (k222.2.1.cells' 0 rfl)) ?_)
          refine sq (o_pv (.agg #[(.int .i64 (1 : Int)), (.int .i64 (3 : Int)), (.int .i64 (0 : Int)), (.int .i64 (1 : Int))]) (by kernel_rfl) (by kernel_rfl) ?_)
          refine sq (o_call 42 #[(.agg #[(.string r3.Path), (.int .i64 r3.Stage), (.int .i64 r3.Mode), (.string r3.Data), (.int .i64 r3.Time), (.int .i64 r3.Size)]), (.agg #[(.int .i64 (1 : Int)), (.int .i64 (3 : Int)), (.int .i64 (0 : Int)), (.int .i64 (1 : Int))]), (.int .i64 (3 : Int))] (by kernel_rfl) (x_call Tryd.call42 (by kernel_rfl)) (stat_Fresh_w (X := []) (e := r3) (s := (S_simfs_Stat.mk (1 : Int) (3 : Int) (0 : Int) (1 : Int))) (written := (3 : Int)) (Old.nil _) zrPath7 rrStage8 rrMode9 zrData10 rrTime11 rrSize12 (by decide : inR .i64 (1 : Int)) (by decide : inR .i64 (3 : Int)) (by decide : inR .i64 (0 : Int)) (by decide : inR .i64 (1 : Int)) (by decide : inR .i64 (3 : Int)) hp) ?_)
          rintro _ w224 ⟨r223, hp, e225, rfl⟩
          have s226 := Step.of0 X150 e225
          cases r223
          ·
            replace hp := hp.2 rfl
            refine sq (o_pv (.bool true) (by kernel_rfl) (by kernel_rfl) ?_)
            refine sq (o_pv (.bool true) rfl (by kernel_rfl) ?_)
            refine sq (o_pv (.bool true) rfl (by kernel_rfl) ?_)
            refine sq (o_pv (.slice ar47 r43.length cr48) (by kernel_rfl) (by kernel_rfl) ?_)
            refine sq (o_pv (.int .i64 (r43.length : Int)) (by kernel_rfl) (by kernel_rfl) ?_)
            by_cases h227 : (r43.length : Int) = (1 : Int)
            ·
              replace hp := hp.1 h227
              refine sq (o_pv (.bool true) (by kernel_rfl) (x_dt (p := (r43.length : Int) = (1 : Int)) (by kernel_rfl) h227) ?_)
              refine sq (o_pv (.bool true) rfl (by kernel_rfl) ?_)
              refine sq (o_pv (.bool true) rfl (by kernel_rfl) ?_)
              refine sq (o_pv (.slice ar47 r43.length cr48) (by kernel_rfl) (by kernel_rfl) ?_)
              obtain ⟨h228, hp⟩ := hp
              have hr229 := (Sl.step (Sl.step hr207 s218) s226)
              obtain ⟨b230, o231, cs232, ha233, nx234, lt235, ok236, hc237⟩ := Sl.atI hr229 (0 : Int) h228
              obtain ⟨rfl, zePath238, reStage239, reMode240, zeData241, reTime242, reSize243⟩ := r_index_Entry_open ok236
              replace hp := hp zePath238
              replace hp := hp reStage239
              replace hp := hp reMode240
              replace hp := hp zeData241
              replace hp := hp reTime242
              replace hp := hp reSize243
              refine sq (o_pv (.pointer (some ⟨b230, o231 + (0 : Int).toNat * 6, none⟩)) (by kernel_rfl) (x_ixA (m := r43.length) (c := cr48) (k := .i64) (i := (0 : Int)) Tryd.underlying87 Tryd.sizeOf82 (by rw [← ha233]; kernel_rfl) (by kernel_rfl) h228) ?_)
              refine sq (o_pv (.pointer (some ⟨b230, o231 + (0 : Int).toNat * 6 + 4, none⟩)) (by kernel_rfl) (by kernel_rfl) ?_)
              refine sq (o_pv (.int .i64 ((lget r43 (0 : Int)).Time)) (by kernel_rfl) (x_load1 (by kernel_rfl) Tryd.isAgg3 (hc237 4 _ rfl)) ?_)
              by_cases h244 : ((lget r43 (0 : Int)).Time) = (0 : Int)
              ·
                replace hp := hp.1 h244
                refine sq (o_pv (.bool true) (by kernel_rfl) (x_dt (p := ((lget r43 (0 : Int)).Time) = (0 : Int)) (by kernel_rfl) h244) ?_)
                refine sq (o_pv (.bool true) rfl (by kernel_rfl) ?_)
                refine sq (o_pv (.bool true) rfl (by kernel_rfl) ?_)
                refine sq (o_pv (.int .i64 r148) (by kernel_rfl) (by kernel_rfl) ?_)
                by_cases h245 : r148 = (0 : Int)
                ·
                  replace hp := hp.1 h245
                  refine sq (o_pv (.bool true) (by kernel_rfl) (x_dt (p := r148 = (0 : Int)) (by kernel_rfl) h245) ?_)
                  refine sq (o_pv (.bool true) rfl (by kernel_rfl) ?_)
                  refine sq (o_pv (.bool true) rfl (by kernel_rfl) ?_)
                  refine sq (o_pv (.slice ar154 r146.length cr155) (by kernel_rfl) (by kernel_rfl) ?_)
                  refine sq (o_pv (.int .i64 (r146.length : Int)) (by kernel_rfl) (by kernel_rfl) ?_)
                  by_cases h246 : (r146.length : Int) = (1 : Int)
                  ·
                    replace hp := hp.1 h246
                    refine sq (o_pv (.bool true) (by kernel_rfl) (x_dt (p := (r146.length : Int) = (1 : Int)) (by kernel_rfl) h246) ?_)
                    refine sq (o_pv (.bool true) rfl (by kernel_rfl) ?_)
                    refine sq (o_pv (.bool true) rfl (by kernel_rfl) ?_)
                    refine sq (o_pv (.int .i64 r147) (by kernel_rfl) (by kernel_rfl) ?_)
                    refine sq (o_pv (.bool (decide (r147 = (1 : Int)))) (by kernel_rfl) (by kernel_rfl) ?_)
                    refine sq (o_pv (.bool (decide (r147 = (1 : Int)))) rfl (by kernel_rfl) ?_)
                    refine sq (o_pv (.bool (decide (r147 = (1 : Int)))) rfl (by kernel_rfl) ?_)
                    refine nil_ ?_
                    have E247 := (Evo.then0 (Evo.then0 E203 e217) e225)
                    have hXo248 := (Old.step (Old.step hXo202 s218) s226)
                    have hS249 := (Sub.trans (Sub.trans hS204 (Step.up s218)) (Step.up s226))
                    refine then_normal (hJ200 _ _ _ ⟨[(0, (.bool (decide (r147 = (1 : Int)))))], fit_mk (fun _ _ => rfl) (by kernel_rfl) (vs_cons (by kernel_rfl) vs_nil), ?_⟩)
                    exact ⟨X150, (decide (r147 = (1 : Int))), rfl, E247, hXo248, hS249, hp⟩
                  ·
                    replace hp := hp.2 h246
                    refine sq (o_pv (.bool false) (by kernel_rfl) (x_df (p := (r146.length : Int) = (1 : Int)) (by kernel_rfl) h246) ?_)
                    refine sq (o_pv (.bool false) rfl (by kernel_rfl) ?_)
                    refine sq (o_pv (.bool false) rfl (by kernel_rfl) ?_)
                    refine sq (o_not (by kernel_rfl) ?_)
                    refine sq (o_not (by kernel_rfl) ?_)
                    refine sq (o_pv (.bool false) rfl (by kernel_rfl) ?_)
                    refine sq (o_pv (.bool false) rfl (by kernel_rfl) ?_)
                    refine nil_ ?_
                    have E250 := (Evo.then0 (Evo.then0 E203 e217) e225)
                    have hXo251 := (Old.step (Old.step hXo202 s218) s226)
                    have hS252 := (Sub.trans (Sub.trans hS204 (Step.up s218)) (Step.up s226))
                    refine then_normal (hJ200 _ _ _ ⟨[(0, (.bool false))], fit_mk (fun _ _ => rfl) (by kernel_rfl) (vs_cons (by kernel_rfl) vs_nil), ?_⟩)
                    exact ⟨X150, false, rfl, E250, hXo251, hS252, hp⟩
                ·
                  replace hp := hp.2 h245
                  refine sq (o_pv (.bool false) (by kernel_rfl) (x_df (p := r148 = (0 : Int)) (by kernel_rfl) h245) ?_)
                  refine sq (o_pv (.bool false) rfl (by kernel_rfl) ?_)
                  refine sq (o_pv (.bool false) rfl (by kernel_rfl) ?_)
                  refine sq (o_not (by kernel_rfl) ?_)
                  refine sq (o_not (by kernel_rfl) ?_)
                  refine sq (o_not (by kernel_rfl) ?_)
                  refine sq (o_pv (.bool false) rfl (by kernel_rfl) ?_)
                  refine sq (o_pv (.bool false) rfl (by kernel_rfl) ?_)
                  refine sq (o_not (by kernel_rfl) ?_)
                  refine sq (o_not (by kernel_rfl) ?_)
                  refine sq (o_pv (.bool false) rfl (by kernel_rfl) ?_)
                  refine sq (o_pv (.bool false) rfl (by kernel_rfl) ?_)
                  refine nil_ ?_
                  have E253 := (Evo.then0 (Evo.then0 E203 e217) e225)
                  have hXo254 := (Old.step (Old.step hXo202 s218) s226)
                  have hS255 := (Sub.trans (Sub.trans hS204 (Step.up s218)) (Step.up s226))
                  refine then_normal (hJ200 _ _ _ ⟨[(0, (.bool false))], fit_mk (fun _ _ => rfl) (by kernel_rfl) (vs_cons (by kernel_rfl) vs_nil), ?_⟩)
                  exact ⟨X150, false, rfl, E253, hXo254, hS255, hp⟩
              ·
                replace hp := hp.2 h244
                refine sq (o_pv (.bool false) (by kernel_rfl) (x_df (p := ((lget r43 (0 : Int)).Time) = (0 : Int)) (by kernel_rfl) h244) ?_)
                refine sq (o_pv (.bool false) rfl (by kernel_rfl) ?_)
                refine sq (o_pv (.bool false) rfl (by kernel_rfl) ?_)
                refine sq (o_not (by kernel_rfl) ?_)
                refine sq (o_not (by kernel_rfl) ?_)
                refine sq (o_pv (.bool false) rfl (by kernel_rfl) ?_)
                refine sq (o_pv (.bool false) rfl (by kernel_rfl) ?_)
                refine sq (o_not (by kernel_rfl) ?_)
                refine sq (o_not (by kernel_rfl) ?_)
                refine sq (o_not (by kernel_rfl) ?_)
                refine sq (o_pv (.bool false) rfl (by kernel_rfl) ?_)
                refine sq (o_pv (.bool false) rfl (by kernel_rfl) ?_)
                refine sq (o_not (by kernel_rfl) ?_)
                refine sq (o_not (by kernel_rfl) ?_)
                refine sq (o_pv (.bool false) rfl (by kernel_rfl) ?_)
                refine sq (o_pv (.bool false) rfl (by kernel_rfl) ?_)
                refine nil_ ?_
                have E256 := (Evo.then0 (Evo.then0 E203 e217) e225)
                have hXo257 := (Old.step (Old.step hXo202 s218) s226)
                have hS258 := (Sub.trans (Sub.trans hS204 (Step.up s218)) (Step.up s226))
                refine then_normal (hJ200 _ _ _ ⟨[(0, (.bool false))], fit_mk (fun _ _ => rfl) (by kernel_rfl) (vs_cons (by kernel_rfl) vs_nil), ?_⟩)
                exact ⟨X150, false, rfl, E256, hXo257, hS258, hp⟩
            ·
              replace hp := hp.2 h227
              refine sq (o_pv (.bool false) (by kernel_rfl) (x_df (p := (r43.length : Int) = (1 : Int)) (by kernel_rfl) h227) ?_)
              refine sq (o_pv (.bool false) rfl (by kernel_rfl) ?_)
              refine sq (o_pv (.bool false) rfl (by kernel_rfl) ?_)
              refine sq (o_not (by kernel_rfl) ?_)
              refine sq (o_not (by kernel_rfl) ?_)
              refine sq (o_not (by kernel_rfl) ?_)
              refine sq (o_not (by kernel_rfl) ?_)
              refine sq (o_not (by kernel_rfl) ?_)
              refine sq (o_pv (.bool false) rfl (by kernel_rfl) ?_)
              refine sq (o_pv (.bool false) rfl (by kernel_rfl) ?_)
              refine sq (o_not (by kernel_rfl) ?_)
              refine sq (o_not (by kernel_rfl) ?_)
              refine sq (o_pv (.bool false) rfl (by kernel_rfl) ?_)
              refine sq (o_pv (.bool false) rfl (by kernel_rfl) ?_)
              refine sq (o_not (by kernel_rfl) ?_)
              refine sq (o_not (by kernel_rfl) ?_)
              refine sq (o_not (by kernel_rfl) ?_)
              refine sq (o_pv (.bool false) rfl (by kernel_rfl) ?_)
              refine sq (o_pv (.bool false) rfl (by kernel_rfl) ?_)
              refine sq (o_not (by kernel_rfl) ?_)
              refine sq (o_not (by kernel_rfl) ?_)
              refine sq (o_pv (.bool false) rfl (by kernel_rfl) ?_)
              refine sq (o_pv (.bool false) rfl (by kernel_rfl) ?_)
              refine nil_ ?_
              have E259 := (Evo.then0 (Evo.then0 E203 e217) e225)
              have hXo260 := (Old.step (Old.step hXo202 s218) s226)
              have hS261 := (Sub.trans (Sub.trans hS204 (Step.up s218)) (Step.up s226))
              refine then_normal (hJ200 _ _ _ ⟨[(0, (.bool false))], fit_mk (fun _ _ => rfl) (by kernel_rfl) (vs_cons (by kernel_rfl) vs_nil), ?_⟩)
              exact ⟨X150, false, rfl, E259, hXo260, hS261, hp⟩
          ·
            replace hp := hp.1 rfl
            refine sq (o_pv (.bool false) (by kernel_rfl) (by kernel_rfl) ?_)
            refine sq (o_pv (.bool false) rfl (by kernel_rfl) ?_)
            refine sq (o_pv (.bool false) rfl (by kernel_rfl) ?_)
            refine sq (o_not (by kernel_rfl) ?_)
            refine sq (o_not (by kernel_rfl) ?_)
            refine sq (o_not (by kernel_rfl) ?_)
            refine sq (o_pv (.bool false) rfl (by kernel_rfl) ?_)
            refine sq (o_pv (.bool false) rfl (by kernel_rfl) ?_)
            refine sq (o_not (by kernel_rfl) ?_)
            refine sq (o_not (by kernel_rfl) ?_)
            refine sq (o_not (by kernel_rfl) ?_)
            refine sq (o_not (by kernel_rfl) ?_)
            refine sq (o_not (by kernel_rfl) ?_)
            refine sq (o_pv (.bool false) rfl (by kernel_rfl) ?_)
            refine sq (o_pv (.bool false) rfl (by kernel_rfl) ?_)
            refine sq (o_not (by kernel_rfl) ?_)
            refine sq (o_not (by kernel_rfl) ?_)
            refine sq (o_pv (.bool false) rfl (by kernel_rfl) ?_)
            refine sq (o_pv (.bool false) rfl (by kernel_rfl) ?_)
            refine sq (o_not (by kernel_rfl) ?_)
            refine sq (o_not (by kernel_rfl) ?_)
            refine sq (o_not (by kernel_rfl) ?_)
            refine sq (o_pv (.bool false) rfl (by kernel_rfl) ?_)
            refine sq (o_pv (.bool false) rfl (by kernel_rfl) ?_)
            refine sq (o_not (by kernel_rfl) ?_)
            refine sq (o_not (by kernel_rfl) ?_)
            refine sq (o_pv (.bool false) rfl (by kernel_rfl) ?_)
            refine sq (o_pv (.bool false) rfl (by kernel_rfl) ?_)
            refine nil_ ?_
            have E262 := (Evo.then0 (Evo.then0 E203 e217) e225)
            have hXo263 := (Old.step (Old.step hXo202 s218) s226)
            have hS264 := (Sub.trans (Sub.trans hS204 (Step.up s218)) (Step.up s226))
            refine then_normal (hJ200 _ _ _ ⟨[(0, (.bool false))], fit_mk (fun _ _ => rfl) (by kernel_rfl) (vs_cons (by kernel_rfl) vs_nil), ?_⟩)
            exact ⟨X150, false, rfl, E262, hXo263, hS264, hp⟩
      ·
        replace hp := hp.2 h214
        refine sq (o_pv (.bool false) (by kernel_rfl) (x_df (p := r3.Size = (1 : Int)) (by kernel_rfl) h214) ?_)
        refine sq (o_pv (.bool false) rfl (by kernel_rfl) ?_)
        refine sq (o_pv (.bool false) rfl (by kernel_rfl) ?_)
        refine sq (o_not (by kernel_rfl) ?_)
        refine sq (o_not (by kernel_rfl) ?_)
        refine sq (o_not (by kernel_rfl) ?_)
        refine sq (o_pv (.bool false) rfl (by kernel_rfl) ?_)
        refine sq (o_pv (.bool false) rfl (by kernel_rfl) ?_)
        refine sq (o_not (by kernel_rfl) ?_)
        refine sq (o_not (by kernel_rfl) ?_)
        refine sq (o_not (by kernel_rfl) ?_)
        refine sq (o_not (by kernel_rfl) ?_)
        refine sq (o_pv (.bool false) rfl (by kernel_rfl) ?_)
        refine sq (o_pv (.bool false) rfl (by kernel_rfl) ?_)
        refine sq (o_not (by kernel_rfl) ?_)
        refine sq (o_not (by kernel_rfl) ?_)
        refine sq (o_not (by kernel_rfl) ?_)
        refine sq (o_pv (.bool false) rfl (by kernel_rfl) ?_)
        refine sq (o_pv (.bool false) rfl (by kernel_rfl) ?_)
        refine sq (o_not (by kernel_rfl) ?_)
        refine sq (o_not (by kernel_rfl) ?_)
        refine sq (o_not (by kernel_rfl) ?_)
        refine sq (o_not (by kernel_rfl) ?_)
        refine sq (o_not (by kernel_rfl) ?_)
        refine sq (o_pv (.bool false) rfl (by kernel_rfl) ?_)
        refine sq (o_pv (.bool false) rfl (by kernel_rfl) ?_)
        refine sq (o_not (by kernel_rfl) ?_)
        refine sq (o_not (by kernel_rfl) ?_)
        refine sq (o_pv (.bool false) rfl (by kernel_rfl) ?_)
        refine sq (o_pv (.bool false) rfl (by kernel_rfl) ?_)
        refine sq (o_not (by kernel_rfl) ?_)
        refine sq (o_not (by kernel_rfl) ?_)
        refine sq (o_not (by kernel_rfl) ?_)
        refine sq (o_pv (.bool false) rfl (by kernel_rfl) ?_)
        refine sq (o_pv (.bool false) rfl (by kernel_rfl) ?_)
        refine sq (o_not (by kernel_rfl) ?_)
        refine sq (o_not (by kernel_rfl) ?_)
        refine sq (o_pv (.bool false) rfl (by kernel_rfl) ?_)
        refine sq (o_pv (.bool false) rfl (by kernel_rfl) ?_)
        refine nil_ ?_
        refine then_normal (hJ200 _ _ _ ⟨[(0, (.bool false))], fit_mk (fun _ _ => rfl) (by kernel_rfl) (vs_cons (by kernel_rfl) vs_nil), ?_⟩)
        exact ⟨X150, false, rfl, E203, hXo202, hS204, hp⟩
    ·
      replace hp := hp.2 h213
      refine sq (o_pv (.bool false) rfl (x_df (p := r3.Time = (3 : Int)) (by kernel_rfl) h213) ?_)
      refine sq (o_pv (.bool false) rfl (by kernel_rfl) ?_)
      refine sq (o_not (by kernel_rfl) ?_)
      refine sq (o_not (by kernel_rfl) ?_)
      refine sq (o_not (by kernel_rfl) ?_)
      refine sq (o_pv (.bool false) rfl (by kernel_rfl) ?_)
      refine sq (o_pv (.bool false) rfl (by kernel_rfl) ?_)
      refine sq (o_not (by kernel_rfl) ?_)
      refine sq (o_not (by kernel_rfl) ?_)
      refine sq (o_not (by kernel_rfl) ?_)
      refine sq (o_pv (.bool false) rfl (by kernel_rfl) ?_)
      refine sq (o_pv (.bool false) rfl (by kernel_rfl) ?_)
      refine sq (o_not (by kernel_rfl) ?_)
      refine sq (o_not (by kernel_rfl) ?_)
      refine sq (o_not (by kernel_rfl) ?_)
      refine sq (o_not (by kernel_rfl) ?_)
      refine sq (o_pv (.bool false) rfl (by kernel_rfl) ?_)
      refine sq (o_pv (.bool false) rfl (by kernel_rfl) ?_)
      refine sq (o_not (by kernel_rfl) ?_)
      refine sq (o_not (by kernel_rfl) ?_)
      refine sq (o_not (by kernel_rfl) ?_)
      refine sq (o_pv (.bool false) rfl (by kernel_rfl) ?_)
      refine sq (o_pv (.bool false) rfl (by kernel_rfl) ?_)
      refine sq (o_not (by kernel_rfl) ?_)
      refine sq (o_not (by kernel_rfl) ?_)
      refine sq (o_not (by kernel_rfl) ?_)
      refine sq (o_not (by kernel_rfl) ?_)
      refine sq (o_not (by kernel_rfl) ?_)
      refine sq (o_pv (.bool false) rfl (by kernel_rfl) ?_)
      refine sq (o_pv (.bool false) rfl (by kernel_rfl) ?_)
      refine sq (o_not (by kernel_rfl) ?_)
      refine sq (o_not (by kernel_rfl) ?_)
      refine sq (o_pv (.bool false) rfl (by kernel_rfl) ?_)
      refine sq (o_pv (.bool false) rfl (by kernel_rfl) ?_)
      refine sq (o_not (by kernel_rfl) ?_)
      refine sq (o_not (by kernel_rfl) ?_)
      refine sq (o_not (by kernel_rfl) ?_)
      refine sq (o_pv (.bool false) rfl (by kernel_rfl) ?_)
      refine sq (o_pv (.bool false) rfl (by kernel_rfl) ?_)
      refine sq (o_not (by kernel_rfl) ?_)
      refine sq (o_not (by kernel_rfl) ?_)
      refine sq (o_pv (.bool false) rfl (by kernel_rfl) ?_)
      refine sq (o_pv (.bool false) rfl (by kernel_rfl) ?_)
      refine nil_ ?_
      refine then_normal (hJ200 _ _ _ ⟨[(0, (.bool false))], fit_mk (fun _ _ => rfl) (by kernel_rfl) (vs_cons (by kernel_rfl) vs_nil), ?_⟩)
      exact ⟨X150, false, rfl, E203, hXo202, hS204, hp⟩
  ·
    rintro _ w197 g265 ⟨X198, s194, rfl, E210, hXo211, hS212, hv201⟩
    replace hp := hk196 s194 hv201
    refine then_normal (K161 _ _ _ _ ?_)
    refine wp_ret ?_
    refine end_ret hQ (.bool s194) (by kernel_rfl) ?_
    exact ⟨s194, hp, E210, rfl⟩

end Go.Proofs.YtjejeipdndddpaaDoor
