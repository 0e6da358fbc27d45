/- Walks of functions: what each asks and computes, as a plain predicate, and the contract from it. -/
import Derived.Test.YtjejeipdndddpaaDoorChecked
import Derived.Test.YtjejeipdndddpaaDoorSm3
namespace Go.Proofs.YtjejeipdndddpaaDoor
open Go


def rectolaw18_known_p (Q : Bool → Prop) : Prop :=
  (stat_Note_p (S_index_Entry.mk (ByteArray.mk #[97]) (0 : Int) (1 : Int) (ByteArray.mk #[120]) (0 : Int) (0 : Int)) (S_simfs_Stat.mk (1 : Int) (3 : Int) (0 : Int) (1 : Int)) (fun (r3 : S_index_Entry) => ((r3.Path.size ≤ maxLen) → ((inR .i64 r3.Stage) → ((inR .i64 r3.Mode) → ((r3.Data.size ≤ maxLen) → ((inR .i64 r3.Time) → ((inR .i64 r3.Size) → (stat_Smudge_p ([r3]) (3 : Int) (fun (r43 : (List S_index_Entry)) => ((r43.length ≤ 9223372036854775807) → (simfs_New_p (0 : Int) (fun (r56 : S_simfs_FS) => (simfs_FS_Edit_p r56 (ByteArray.mk #[97]) (1 : Int) ([(121 : Int)]) (fun (f_103 : S_simfs_FS) (r104 : Int) => ((inR .i64 r104) → (stat_Changed_p f_103 ([(S_index_Entry.mk (ByteArray.mk #[97]) (0 : Int) (1 : Int) (ByteArray.mk #[120]) (0 : Int) (0 : Int))]) (5 : Int) (fun (f_145 : S_simfs_FS) (r146 : (List ByteArray)) (r147 : Int) (r148 : Int) => ((r146.length ≤ 9223372036854775807) → ((inR .i64 r147) → ((inR .i64 r148) → (∃ k195 : Bool → Prop, (∀ (s194 : Bool), k195 s194 → Q s194) ∧ (((r3.Time = (3 : Int)) → (((r3.Size = (1 : Int)) → (stat_Fresh_p r3 (S_simfs_Stat.mk (1 : Int) (3 : Int) (0 : Int) (1 : Int)) (4 : Int) (fun (r215 : Bool) => (((r215 = true) → (stat_Fresh_p r3 (S_simfs_Stat.mk (1 : Int) (3 : Int) (0 : Int) (1 : Int)) (3 : Int) (fun (r223 : Bool) => (((r223 = true) → (k195 false)) ∧ ((r223 = false) → ((((r43.length : Int) = (1 : Int)) → ((inL r43 (0 : Int)) ∧ ((((lget r43 (0 : Int)).Path).size ≤ maxLen) → ((inR .i64 ((lget r43 (0 : Int)).Stage)) → ((inR .i64 ((lget r43 (0 : Int)).Mode)) → ((((lget r43 (0 : Int)).Data).size ≤ maxLen) → ((inR .i64 ((lget r43 (0 : Int)).Time)) → ((inR .i64 ((lget r43 (0 : Int)).Size)) → (((((lget r43 (0 : Int)).Time) = (0 : Int)) → (((r148 = (0 : Int)) → ((((r146.length : Int) = (1 : Int)) → (k195 (decide (r147 = (1 : Int))))) ∧ ((¬ ((r146.length : Int) = (1 : Int))) → (k195 false)))) ∧ ((¬ (r148 = (0 : Int))) → (k195 false)))) ∧ ((¬ (((lget r43 (0 : Int)).Time) = (0 : Int))) → (k195 false))))))))))) ∧ ((¬ ((r43.length : Int) = (1 : Int))) → (k195 false)))))))) ∧ ((r215 = false) → (k195 false)))))) ∧ ((¬ (r3.Size = (1 : Int))) → (k195 false)))) ∧ ((¬ (r3.Time = (3 : Int))) → (k195 false)))))))))))))))))))))))))
set_option maxRecDepth 20000 in
set_option maxHeartbeats 4000000 in
theorem rectolaw18_known_w {X : List Nat} {w : World} {Q : Bool → Prop} (hX0 : Old X w) (hp : rectolaw18_known_p Q) :
    Calls Tryd.prog 41 #[] w (Ret fun v w' => ∃ (r0 : Bool), Q r0 ∧ Evo [] w w' ∧ v = (.bool r0)) := by
  have hXo := hX0
  have E0 : Evo [] w w := RB.refl _ _ _
  have hS : Sub X X := Sub.refl _
  unfold rectolaw18_known_p at hp
  refine enter_ Tryd.func41 rfl 72 [] (by kernel_rfl) (fun Qe hQ => ?_)
  refine seq_ (fun _ K1 => ?_)
  refine reg_ ?_
  refine sq (o_pv (.bool false) rfl (by kernel_rfl) ?_)
  refine nil_ ?_
  refine then_normal (K1 _ _ _ _ ?_)
  refine seq_ (fun _ K2 => ?_)
  refine reg_ ?_
  refine sq (o_pv (.agg #[(.string (ByteArray.mk #[97])), (.int .i64 (0 : Int)), (.int .i64 (1 : Int)), (.string (ByteArray.mk #[120])), (.int .i64 (0 : Int)), (.int .i64 (0 : Int))]) rfl (by kernel_rfl) ?_)
  refine sq (o_pv (.agg #[(.int .i64 (1 : Int)), (.int .i64 (3 : Int)), (.int .i64 (0 : Int)), (.int .i64 (1 : Int))]) rfl (by kernel_rfl) ?_)
  refine sq (o_call 43 #[(.agg #[(.string (ByteArray.mk #[97])), (.int .i64 (0 : Int)), (.int .i64 (1 : Int)), (.string (ByteArray.mk #[120])), (.int .i64 (0 : Int)), (.int .i64 (0 : Int))]), (.agg #[(.int .i64 (1 : Int)), (.int .i64 (3 : Int)), (.int .i64 (0 : Int)), (.int .i64 (1 : Int))])] rfl (x_call Tryd.call43 (by kernel_rfl)) (stat_Note_w (X := []) (e := (S_index_Entry.mk (ByteArray.mk #[97]) (0 : Int) (1 : Int) (ByteArray.mk #[120]) (0 : Int) (0 : Int))) (s := (S_simfs_Stat.mk (1 : Int) (3 : Int) (0 : Int) (1 : Int))) (Old.nil _) (by decide : (ByteArray.mk #[97]).size ≤ maxLen) (by decide : inR .i64 (0 : Int)) (by decide : inR .i64 (1 : Int)) (by decide : (ByteArray.mk #[120]).size ≤ maxLen) (by decide : inR .i64 (0 : Int)) (by decide : inR .i64 (0 : Int)) (by decide : inR .i64 (1 : Int)) (by decide : inR .i64 (3 : Int)) (by decide : inR .i64 (0 : Int)) (by decide : inR .i64 (1 : Int)) hp) ?_)
  rintro _ w4 ⟨r3, hp, e5, rfl, zrPath7, rrStage8, rrMode9, zrData10, rrTime11, rrSize12⟩
  have s6 := Step.of0 X e5
  replace hp := hp zrPath7
  replace hp := hp rrStage8
  replace hp := hp rrMode9
  replace hp := hp zrData10
  replace hp := hp rrTime11
  replace hp := hp rrSize12
  have E19 := (Evo.then0 E0 e5)
  refine sq (o_newX [(.string (ByteArray.mk #[])), (.int .i64 (0 : Int)), (.int .i64 (0 : Int)), (.string (ByteArray.mk #[])), (.int .i64 (0 : Int)), (.int .i64 (0 : Int))] 82 (X := X) (B := w.heap.size) E19.size rfl (by kernel_rfl) ?_)
  intro b13 w14 X15 s16 k17 n18
  have E20 := (Evo.then0 E19 (Step.evo s16))
  refine sq (o_stB (o := 0) (v := (.agg #[(.string r3.Path), (.int .i64 r3.Stage), (.int .i64 r3.Mode), (.string r3.Data), (.int .i64 r3.Time), (.int .i64 r3.Size)])) [(.string r3.Path), (.int .i64 r3.Stage), (.int .i64 r3.Mode), (.string r3.Data), (.int .i64 r3.Time), (.int .i64 r3.Size)] rfl k17 (by kernel_rfl) (by kernel_rfl) Tryd.sizeOf82 rfl rfl rfl ?_)
  intro w21 s22 k23
  refine nil_ ?_
  refine then_normal (K2 _ _ _ _ ?_)
  refine seq_ (fun _ K24 => ?_)
  refine reg_ ?_
  refine sq (o_pv (.agg #[(.string r3.Path), (.int .i64 r3.Stage), (.int .i64 r3.Mode), (.string r3.Data), (.int .i64 r3.Time), (.int .i64 r3.Size)]) rfl (x_loadN [(.string r3.Path), (.int .i64 r3.Stage), (.int .i64 r3.Mode), (.string r3.Data), (.int .i64 r3.Time), (.int .i64 r3.Size)] (by kernel_rfl) Tryd.isAgg82 Tryd.sizeOf82 (k23.2.1.cells' 0 rfl)) ?_)
  have E31 := (Evo.thenW E20 (Step.evo s22) k17.2.2)
  refine sq (o_rowX (R := r_index_Entry) [(.string r3.Path), (.int .i64 r3.Stage), (.int .i64 r3.Mode), (.string r3.Data), (.int .i64 r3.Time), (.int .i64 r3.Size)] [r3] 82 1 (X := X15) (B := w.heap.size) E31.size rfl (by kernel_rfl) (Flat.cons (cs := [(.string r3.Path), (.int .i64 r3.Stage), (.int .i64 r3.Mode), (.string r3.Data), (.int .i64 r3.Time), (.int .i64 r3.Size)]) (r_index_Entry_mk zrPath7 rrStage8 rrMode9 zrData10 rrTime11 rrSize12) Flat.nil) rfl (by decide) ?_)
  intro b25 w26 X27 s28 O29 n30
  have p32 := n30 _ (OB.old k23)
  have hS33 := (Sub.trans (Sub.trans (Sub.trans (Sub.trans hS (Step.up s6)) (Step.up s16)) (Step.up s22)) (Step.up s28))
  have hXo39 := (Old.step (Old.step (Old.step (Old.step hXo s6) s16) s22) s28)
  have E40 := (Evo.then0 E31 (Step.evo s28))
  have k41 := (OB.step0 k23 s28)
  have ax38 := OS.apold O29 hX0
  obtain ⟨X34, u35, r36, hm37⟩ := OS.release O29
  have hXo42 := (Old.less hXo39 u35)
  refine sq (o_call 44 #[(.slice (some ⟨b25, 0, none⟩) ([r3]).length 1), (.int .i64 (3 : Int))] rfl (x_call Tryd.call44 (by rw [← show 1 = ([r3]).length from O29.1]; kernel_rfl)) (stat_Smudge_w (X := X34) (l := [r3]) (written := (3 : Int)) hXo42 r36 (by decide : inR .i64 (3 : Int)) hp) ?_)
  rintro _ w44 ⟨r43, hp, e45, ar47, cr48, rfl, hr49⟩
  have s46 := Step.of0 X34 e45
  replace hp := hp (Sl.len hr49)
  refine sq (o_pv (.slice ar47 r43.length cr48) rfl (by kernel_rfl) ?_)
  refine nil_ ?_
  refine then_normal (K24 _ _ _ _ ?_)
  refine seq_ (fun _ K50 => ?_)
  refine reg_ ?_
  have hXo51 := (Old.step hXo42 s46)
  have E52 := (Evo.then0 E40 e45)
  have hS53 := (Sub.trans (hm37 _ ax38 hS33) (Step.up s46))
  have k54 := (OB.step0 (OB.less k41 (hm37 _ p32 (OB.mem k41))) s46)
  have r55 := (Sl.step r36 s46)
  refine sq (o_call 45 #[(.int .i64 (0 : Int))] rfl (x_call Tryd.call45 (by kernel_rfl)) (simfs_New_w (X := X34) (quota := (0 : Int)) hXo51 (by decide : inR .i64 (0 : Int)) hp) ?_)
  rintro _ w57 ⟨r56, hp, X58, br60, Fr61, s59, rfl, mr62⟩
  have m63 := MO.re mr62 (Wr.trans mr62.wr (Wr.nil [] _) E52.size)
  have p64 := Ap.grow mr62.wr (Ap.nil_r _) (OB.old k54) (Nat.le_refl _)
  refine sq (o_pv (.pointer (some ⟨br60, 0, none⟩)) rfl (by kernel_rfl) ?_)
  refine nil_ ?_
  refine then_normal (K50 _ _ _ _ ?_)
  refine seq_ (fun _ K65 => ?_)
  refine seq_ (fun _ K66 => ?_)
  refine reg_ ?_
  refine sq (o_pv (.pointer (some ⟨br60, 0, none⟩)) rfl (by kernel_rfl) ?_)
  refine sq (o_pv (.bool false) rfl (x_pnil_eq (a := ⟨br60, 0, none⟩) Tryd.underlying92 (by kernel_rfl) (by kernel_rfl)) ?_)
  refine nil_ ?_
  refine then_normal (K66 _ _ _ _ ?_)
  refine cond_f (by kernel_rfl) ?_
  refine wp_skip ?_
  refine then_normal (K65 _ _ _ _ ?_)
  refine seq_ (fun _ K67 => ?_)
  refine reg_ ?_
  refine sq (o_pv (.pointer (some ⟨br60, 0, none⟩)) rfl (by kernel_rfl) ?_)
  have k68 := (OB.step0 k54 s59)
  have E75 := (Evo.then0 E52 (Step.evo s59))
  refine sq (o_rowX (R := (rInt .u8)) [(.int .u8 (121 : Int))] [(121 : Int)] 5 1 (X := X58) (B := w.heap.size) E75.size rfl (by kernel_rfl) (Flat.cons (cs := [(.int .u8 (121 : Int))]) (rInt_mk (by decide : inR .u8 (121 : Int))) Flat.nil) rfl (by decide) ?_)
  intro b69 w70 X71 s72 O73 n74
  have p76 := n74 _ (OB.old k68)
  have p77 := n74 _ (MO.old m63)
  have k78 := (OB.step0 k68 s72)
  have m79 := (MO.step0 m63 s72)
  have hS80 := (Sub.trans (Sub.trans hS53 (Step.up s59)) (Step.up s72))
  have ax81 := OS.apold O73 hX0
  refine sq (o_mark rfl Tryd.underlying91 Tryd.underlying5 O73 (by kernel_rfl) ?_)
  intro w82 X83 s84 u85 h86 hm87
  have hXo89 := (Old.step (Old.step (Old.step hXo51 s59) s72) s84)
  have E90 := (Evo.thenW (Evo.then0 E75 (Step.evo s72)) (Step.evo s84) O73.2.2)
  have hS91 := (Sub.trans hS80 (Step.up s84))
  have k92 := (OB.step k78 s84 p76)
  have r93 := (Sl.step (Sl.step (Sl.step r55 s59) s72) s84)
  have hr94 := (Sl.step (Sl.step (Sl.step hr49 s59) s72) s84)
  have m95 := (MO.step m79 s84 p77)
  have ax88 : Ap X [b69] := ax81
  have hXo96 := (Old.less hXo89 u85)
  have E97 := E90
  have hS98 := (hm87 _ ax88 hS91)
  have k99 := (OB.less k92 (hm87 _ p76 (OB.mem k92)))
  have r100 := (Sl.less r93 u85)
  have hr101 := (Sl.less hr94 u85)
  have m102 := (MO.less m95 u85 (hm87 _ p77 (MO.mem m95)))
  refine sq (o_call 47 #[(.pointer (some ⟨br60, 0, none⟩)), (.string (ByteArray.mk #[97])), (.int .i64 (1 : Int)), (.slice (some ⟨b69, 0, none⟩) ([(121 : Int)]).length 1)] rfl (x_call Tryd.call47 (by rw [← show 1 = ([(121 : Int)]).length from O73.1]; kernel_rfl)) (simfs_FS_Edit_w (X := X83) (f_ := r56) (p := (ByteArray.mk #[97])) (mode := (1 : Int)) (b := [(121 : Int)]) hXo96 (MO.re m102 (Wr.self _ _ (Sub.refl _))) (by decide : (ByteArray.mk #[97]).size ≤ maxLen) (by decide : inR .i64 (1 : Int)) h86 hp) ?_)
  rintro _ w105 ⟨f_103, r104, hp, X106, F108, s107, rfl, m109, rr110⟩
  have m111 := MO.re m109 (Wr.trans m109.wr m102.wr E97.size)
  have p112 := Ap.grow m109.wr p64 (OB.old k99) (Nat.le_refl _)
  replace hp := hp rr110
  refine nil_ ?_
  refine then_normal (K67 _ _ _ _ ?_)
  refine seq_ (fun _ K113 => ?_)
  refine reg_ ?_
  refine sq (o_pv (.pointer (some ⟨br60, 0, none⟩)) rfl (by kernel_rfl) ?_)
  refine sq (o_pv (.agg #[(.string (ByteArray.mk #[97])), (.int .i64 (0 : Int)), (.int .i64 (1 : Int)), (.string (ByteArray.mk #[120])), (.int .i64 (0 : Int)), (.int .i64 (0 : Int))]) rfl (by kernel_rfl) ?_)
  have k114 := (OB.step k99 s107 p64)
  have E121 := (Evo.thenW E97 (Step.evo s107) m102.wr)
  refine sq (o_rowX (R := r_index_Entry) [(.string (ByteArray.mk #[97])), (.int .i64 (0 : Int)), (.int .i64 (1 : Int)), (.string (ByteArray.mk #[120])), (.int .i64 (0 : Int)), (.int .i64 (0 : Int))] [(S_index_Entry.mk (ByteArray.mk #[97]) (0 : Int) (1 : Int) (ByteArray.mk #[120]) (0 : Int) (0 : Int))] 82 1 (X := X106) (B := w.heap.size) E121.size rfl (by kernel_rfl) (Flat.cons (cs := [(.string (ByteArray.mk #[97])), (.int .i64 (0 : Int)), (.int .i64 (1 : Int)), (.string (ByteArray.mk #[120])), (.int .i64 (0 : Int)), (.int .i64 (0 : Int))]) (r_index_Entry_mk (by decide : (ByteArray.mk #[97]).size ≤ maxLen) (by decide : inR .i64 (0 : Int)) (by decide : inR .i64 (1 : Int)) (by decide : (ByteArray.mk #[120]).size ≤ maxLen) (by decide : inR .i64 (0 : Int)) (by decide : inR .i64 (0 : Int))) Flat.nil) rfl (by decide) ?_)
  intro b115 w116 X117 s118 O119 n120
  have p122 := n120 _ (OB.old k114)
  have p123 := n120 _ (MO.old m111)
  have hS124 := (Sub.trans (Sub.trans hS98 (Step.up s107)) (Step.up s118))
  have hXo130 := (Old.step (Old.step hXo96 s107) s118)
  have E131 := (Evo.then0 E121 (Step.evo s118))
  have k132 := (OB.step0 k114 s118)
  have r133 := (Sl.step (Sl.step r100 s107) s118)
  have hr134 := (Sl.step (Sl.step hr101 s107) s118)
  have h135 := (Sl.step (Sl.step h86 s107) s118)
  have m136 := (MO.step0 m111 s118)
  have ax129 := OS.apold O119 hX0
  obtain ⟨X125, u126, r127, hm128⟩ := OS.release O119
  have hXo137 := (Old.less hXo130 u126)
  have E138 := E131
  have hS139 := (hm128 _ ax129 hS124)
  have k140 := (OB.less k132 (hm128 _ p122 (OB.mem k132)))
  have r141 := (Sl.less r133 u126)
  have hr142 := (Sl.less hr134 u126)
  have h143 := (Sl.less h135 u126)
  have m144 := (MO.less m136 u126 (hm128 _ p123 (MO.mem m136)))
  refine sq (o_call 50 #[(.pointer (some ⟨br60, 0, none⟩)), (.slice (some ⟨b115, 0, none⟩) ([(S_index_Entry.mk (ByteArray.mk #[97]) (0 : Int) (1 : Int) (ByteArray.mk #[120]) (0 : Int) (0 : Int))]).length 1), (.int .i64 (5 : Int))] rfl (x_call Tryd.call50 (by rw [← show 1 = ([(S_index_Entry.mk (ByteArray.mk #[97]) (0 : Int) (1 : Int) (ByteArray.mk #[120]) (0 : Int) (0 : Int))]).length from O119.1]; kernel_rfl)) (stat_Changed_w (X := X125) (f_ := f_103) (l := [(S_index_Entry.mk (ByteArray.mk #[97]) (0 : Int) (1 : Int) (ByteArray.mk #[120]) (0 : Int) (0 : Int))]) (written := (5 : Int)) hXo137 (MO.re m144 (Wr.self _ _ (Sub.refl _))) r127 (by decide : inR .i64 (5 : Int)) hp) ?_)
  rintro _ w149 ⟨f_145, r146, r147, r148, hp, X150, F152, ar154, cr155, s151, rfl, m153, hr156, rr157, rr158⟩
  have m159 := MO.re m153 (Wr.trans m153.wr m144.wr E138.size)
  have p160 := Ap.grow m153.wr p112 (OB.old k140) (Nat.le_refl _)
  replace hp := hp (Sl.len hr156)
  replace hp := hp rr157
  replace hp := hp rr158
  refine sq (o_pv (.tuple #[(.slice ar154 r146.length cr155), (.int .i64 r147), (.int .i64 r148)]) rfl (by kernel_rfl) ?_)
  refine sq (o_pv (.slice ar154 r146.length cr155) rfl (by kernel_rfl) ?_)
  refine sq (o_pv (.int .i64 r147) rfl (by kernel_rfl) ?_)
  refine sq (o_pv (.int .i64 r148) rfl (by kernel_rfl) ?_)
  refine sq (o_pv (.slice ar154 r146.length cr155) rfl (by kernel_rfl) ?_)
  refine sq (o_pv (.int .i64 r147) rfl (by kernel_rfl) ?_)
  refine sq (o_pv (.int .i64 r148) rfl (by kernel_rfl) ?_)
  refine nil_ ?_
  refine then_normal (K113 _ _ _ _ ?_)
  refine seq_ (fun _ K161 => ?_)
  have hXo202 := (Old.step hXo137 s151)
  have E203 := (Evo.thenW E138 (Step.evo s151) m144.wr)
  have hS204 := (Sub.trans hS139 (Step.up s151))
  have k205 := (OB.step k140 s151 p112)
  have r206 := (Sl.step r141 s151)
  have hr207 := (Sl.step hr142 s151)
  have h208 := (Sl.step h143 s151)
  have r209 := (Sl.step r127 s151)
  obtain ⟨k195, hk196, hp⟩ := hp
  refine ground_ ?_
  refine join_ 4722366482869376778241 (fun lq w197 => ∃ (X198 : List Nat) (s194 : Bool), (lq = [(0, (.bool s194))]) ∧ (Evo [] w w197) ∧ (Old X198 w197) ∧ (Sub X X198) ∧ (k195 s194)) (fun Kj199 hJ200 => ?_) ?_
  ·
    refine reg_ ?_
    refine sq (o_pv (.pointer (some ⟨b13, 4, none⟩)) rfl (by kernel_rfl) ?_)
    refine sq (o_pv (.int .i64 r3.Time) rfl (x_load1 (by kernel_rfl) Tryd.isAgg3 (k205.2.1.cell' 4 rfl)) ?_)
    by_cases h213 : r3.Time = (3 : Int)
    ·
      replace hp := hp.1 h213
      refine sq (o_pv (.bool true) rfl (x_dt (p := r3.Time = (3 : Int)) (by kernel_rfl) h213) ?_)
      refine sq (o_pv (.bool true) rfl (by kernel_rfl) ?_)
      refine sq (o_pv (.pointer (some ⟨b13, 5, none⟩)) (by kernel_rfl) (by kernel_rfl) ?_)
      refine sq (o_pv (.int .i64 r3.Size) (by kernel_rfl) (x_load1 (by kernel_rfl) Tryd.isAgg3 (k205.2.1.cell' 5 rfl)) ?_)
      by_cases h214 : r3.Size = (1 : Int)
      ·
        replace hp := hp.1 h214
        refine sq (o_pv (.bool true) (by kernel_rfl) (x_dt (p := r3.Size = (1 : Int)) (by kernel_rfl) h214) ?_)
        refine sq (o_pv (.bool true) rfl (by kernel_rfl) ?_)
        refine sq (o_pv (.bool true) rfl (by kernel_rfl) ?_)
        refine sq (o_pv (.agg #[(.string r3.Path), (.int .i64 r3.Stage), (.int .i64 r3.Mode), (.string r3.Data), (.int .i64 r3.Time), (.int .i64 r3.Size)]) (by kernel_rfl) (x_loadN [(.string r3.Path), (.int .i64 r3.Stage), (.int .i64 r3.Mode), (.string r3.Data), (.int .i64 r3.Time), (.int .i64 r3.Size)] (by kernel_rfl) Tryd.isAgg82 Tryd.sizeOf82 (k205.2.1.cells' 0 rfl)) ?_)
        refine sq (o_pv (.agg #[(.int .i64 (1 : Int)), (.int .i64 (3 : Int)), (.int .i64 (0 : Int)), (.int .i64 (1 : Int))]) (by kernel_rfl) (by kernel_rfl) ?_)
        refine sq (o_call 42 #[(.agg #[(.string r3.Path), (.int .i64 r3.Stage), (.int .i64 r3.Mode), (.string r3.Data), (.int .i64 r3.Time), (.int .i64 r3.Size)]), (.agg #[(.int .i64 (1 : Int)), (.int .i64 (3 : Int)), (.int .i64 (0 : Int)), (.int .i64 (1 : Int))]), (.int .i64 (4 : Int))] (by kernel_rfl) (x_call Tryd.call42 (by kernel_rfl)) (stat_Fresh_w (X := []) (e := r3) (s := (S_simfs_Stat.mk (1 : Int) (3 : Int) (0 : Int) (1 : Int))) (written := (4 : Int)) (Old.nil _) zrPath7 rrStage8 rrMode9 zrData10 rrTime11 rrSize12 (by decide : inR .i64 (1 : Int)) (by decide : inR .i64 (3 : Int)) (by decide : inR .i64 (0 : Int)) (by decide : inR .i64 (1 : Int)) (by decide : inR .i64 (4 : Int)) hp) ?_)
        rintro _ w216 ⟨r215, hp, e217, rfl⟩
        have s218 := Step.of0 X150 e217
        cases r215
        ·
          replace hp := hp.2 rfl
          refine sq (o_pv (.bool false) rfl (by kernel_rfl) ?_)
          refine sq (o_pv (.bool false) rfl (by kernel_rfl) ?_)
          refine sq (o_not (by kernel_rfl) ?_)
          refine sq (o_not (by kernel_rfl) ?_)
          refine sq (o_not (by kernel_rfl) ?_)
          refine sq (o_not (by kernel_rfl) ?_)
          refine sq (o_pv (.bool false) rfl (by kernel_rfl) ?_)
          refine sq (o_pv (.bool false) rfl (by kernel_rfl) ?_)
          refine sq (o_not (by kernel_rfl) ?_)
          refine sq (o_not (by kernel_rfl) ?_)
          refine sq (o_not (by kernel_rfl) ?_)
          refine sq (o_pv (.bool false) rfl (by kernel_rfl) ?_)
          refine sq (o_pv (.bool false) rfl (by kernel_rfl) ?_)
          refine sq (o_not (by kernel_rfl) ?_)
          refine sq (o_not (by kernel_rfl) ?_)
          refine sq (o_not (by kernel_rfl) ?_)
          refine sq (o_not (by kernel_rfl) ?_)
          refine sq (o_not (by kernel_rfl) ?_)
          refine sq (o_pv (.bool false) rfl (by kernel_rfl) ?_)
          refine sq (o_pv (.bool false) rfl (by kernel_rfl) ?_)
          refine sq (o_not (by kernel_rfl) ?_)
          refine sq (o_not (by kernel_rfl) ?_)
          refine sq (o_pv (.bool false) rfl (by kernel_rfl) ?_)
          refine sq (o_pv (.bool false) rfl (by kernel_rfl) ?_)
          refine sq (o_not (by kernel_rfl) ?_)
          refine sq (o_not (by kernel_rfl) ?_)
          refine sq (o_not (by kernel_rfl) ?_)
          refine sq (o_pv (.bool false) rfl (by kernel_rfl) ?_)
          refine sq (o_pv (.bool false) rfl (by kernel_rfl) ?_)
          refine sq (o_not (by kernel_rfl) ?_)
          refine sq (o_not (by kernel_rfl) ?_)
          refine sq (o_pv (.bool false) rfl (by kernel_rfl) ?_)
          refine sq (o_pv (.bool false) rfl (by kernel_rfl) ?_)
          refine nil_ ?_
          have E219 := (Evo.then0 E203 e217)
          have hXo220 := (Old.step hXo202 s218)
          have hS221 := (Sub.trans hS204 (Step.up s218))
          refine then_normal (hJ200 _ _ _ ⟨[(0, (.bool false))], fit_mk (fun _ _ => rfl) (by kernel_rfl) (vs_cons (by kernel_rfl) vs_nil), ?_⟩)
          exact ⟨X150, false, rfl, E219, hXo220, hS221, hp⟩
        ·
          replace hp := hp.1 rfl
          refine sq (o_pv (.bool true) rfl (by kernel_rfl) ?_)
          refine sq (o_pv (.bool true) rfl (by kernel_rfl) ?_)
          have k222 := (OB.step0 k205 s218)
          refine sq (o_pv (.agg #[(.string r3.Path), (.int .i64 r3.Stage), (.int .i64 r3.Mode), (.string r3.Data), (.int .i64 r3.Time), (.int .i64 r3.Size)]) (by kernel_rfl) (x_loadN [(.string r3.Path), (.int .i64 r3.Stage), (.int .i64 r3.Mode), (.string r3.Data), (.int .i64 r3.Time), (.int .i64 r3.Size)] (by kernel_rfl) Tryd.isAgg82 Tryd.sizeOf82 (k222.2.1.cells' 0 rfl)) ?_)
          refine sq (o_pv (.agg #[(.int .i64 (1 : Int)), (.int .i64 (3 : Int)), (.int .i64 (0 : Int)), (.int .i64 (1 : Int))]) (by kernel_rfl) (by kernel_rfl) ?_)
          refine sq (o_call 42 #[(.agg #[(.string r3.Path), (.int .i64 r3.Stage), (.int .i64 r3.Mode), (.string r3.Data), (.int .i64 r3.Time), (.int .i64 r3.Size)]), (.agg #[(.int .i64 (1 : Int)), (.int .i64 (3 : Int)), (.int .i64 (0 : Int)), (.int .i64 (1 : Int))]), (.int .i64 (3 : Int))] (by kernel_rfl) (x_call Tryd.call42 (by kernel_rfl)) (stat_Fresh_w (X := []) (e := r3) (s := (S_simfs_Stat.mk (1 : Int) (3 : Int) (0 : Int) (1 : Int))) (written := (3 : Int)) (Old.nil _) zrPath7 rrStage8 rrMode9 zrData10 rrTime11 rrSize12 (by decide : inR .i64 (1 : Int)) (by decide : inR .i64 (3 : Int)) (by decide : inR .i64 (0 : Int)) (by decide : inR .i64 (1 : Int)) (by decide : inR .i64 (3 : Int)) hp) ?_)
          rintro _ w224 ⟨r223, hp, e225, rfl⟩
          have s226 := Step.of0 X150 e225
          cases r223
          ·
            replace hp := hp.2 rfl
            refine sq (o_pv (.bool true) (by kernel_rfl) (by kernel_rfl) ?_)
            refine sq (o_pv (.bool true) rfl (by kernel_rfl) ?_)
            refine sq (o_pv (.bool true) rfl (by kernel_rfl) ?_)
            refine sq (o_pv (.slice ar47 r43.length cr48) (by kernel_rfl) (by kernel_rfl) ?_)
            refine sq (o_pv (.int .i64 (r43.length : Int)) (by kernel_rfl) (by kernel_rfl) ?_)
            by_cases h227 : (r43.length : Int) = (1 : Int)
            ·
              replace hp := hp.1 h227
              refine sq (o_pv (.bool true) (by kernel_rfl) (x_dt (p := (r43.length : Int) = (1 : Int)) (by kernel_rfl) h227) ?_)
              refine sq (o_pv (.bool true) rfl (by kernel_rfl) ?_)
              refine sq (o_pv (.bool true) rfl (by kernel_rfl) ?_)
              refine sq (o_pv (.slice ar47 r43.length cr48) (by kernel_rfl) (by kernel_rfl) ?_)
              obtain ⟨h228, hp⟩ := hp
              have hr229 := (Sl.step (Sl.step hr207 s218) s226)
              obtain ⟨b230, o231, cs232, ha233, nx234, lt235, ok236, hc237⟩ := Sl.atI hr229 (0 : Int) h228
              obtain ⟨rfl, zePath238, reStage239, reMode240, zeData241, reTime242, reSize243⟩ := r_index_Entry_open ok236
              replace hp := hp zePath238
              replace hp := hp reStage239
              replace hp := hp reMode240
              replace hp := hp zeData241
              replace hp := hp reTime242
              replace hp := hp reSize243
              refine sq (o_pv (.pointer (some ⟨b230, o231 + (0 : Int).toNat * 6, none⟩)) (by kernel_rfl) (x_ixA (m := r43.length) (c := cr48) (k := .i64) (i := (0 : Int)) Tryd.underlying87 Tryd.sizeOf82 (by rw [← ha233]; kernel_rfl) (by kernel_rfl) h228) ?_)
              refine sq (o_pv (.pointer (some ⟨b230, o231 + (0 : Int).toNat * 6 + 4, none⟩)) (by kernel_rfl) (by kernel_rfl) ?_)
              refine sq (o_pv (.int .i64 ((lget r43 (0 : Int)).Time)) (by kernel_rfl) (x_load1 (by kernel_rfl) Tryd.isAgg3 (hc237 4 _ rfl)) ?_)
              by_cases h244 : ((lget r43 (0 : Int)).Time) = (0 : Int)
              ·
                replace hp := hp.1 h244
                refine sq (o_pv (.bool true) (by kernel_rfl) (x_dt (p := ((lget r43 (0 : Int)).Time) = (0 : Int)) (by kernel_rfl) h244) ?_)
                refine sq (o_pv (.bool true) rfl (by kernel_rfl) ?_)
                refine sq (o_pv (.bool true) rfl (by kernel_rfl) ?_)
                refine sq (o_pv (.int .i64 r148) (by kernel_rfl) (by kernel_rfl) ?_)
                by_cases h245 : r148 = (0 : Int)
                ·
                  replace hp := hp.1 h245
                  refine sq (o_pv (.bool true) (by kernel_rfl) (x_dt (p := r148 = (0 : Int)) (by kernel_rfl) h245) ?_)
                  refine sq (o_pv (.bool true) rfl (by kernel_rfl) ?_)
                  refine sq (o_pv (.bool true) rfl (by kernel_rfl) ?_)
                  refine sq (o_pv (.slice ar154 r146.length cr155) (by kernel_rfl) (by kernel_rfl) ?_)
                  refine sq (o_pv (.int .i64 (r146.length : Int)) (by kernel_rfl) (by kernel_rfl) ?_)
                  by_cases h246 : (r146.length : Int) = (1 : Int)
                  ·
                    replace hp := hp.1 h246
                    refine sq (o_pv (.bool true) (by kernel_rfl) (x_dt (p := (r146.length : Int) = (1 : Int)) (by kernel_rfl) h246) ?_)
                    refine sq (o_pv (.bool true) rfl (by kernel_rfl) ?_)
                    refine sq (o_pv (.bool true) rfl (by kernel_rfl) ?_)
                    refine sq (o_pv (.int .i64 r147) (by kernel_rfl) (by kernel_rfl) ?_)
                    refine sq (o_pv (.bool (decide (r147 = (1 : Int)))) (by kernel_rfl) (by kernel_rfl) ?_)
                    refine sq (o_pv (.bool (decide (r147 = (1 : Int)))) rfl (by kernel_rfl) ?_)
                    refine sq (o_pv (.bool (decide (r147 = (1 : Int)))) rfl (by kernel_rfl) ?_)
                    refine nil_ ?_
                    have E247 := (Evo.then0 (Evo.then0 E203 e217) e225)
                    have hXo248 := (Old.step (Old.step hXo202 s218) s226)
                    have hS249 := (Sub.trans (Sub.trans hS204 (Step.up s218)) (Step.up s226))
                    refine then_normal (hJ200 _ _ _ ⟨[(0, (.bool (decide (r147 = (1 : Int)))))], fit_mk (fun _ _ => rfl) (by kernel_rfl) (vs_cons (by kernel_rfl) vs_nil), ?_⟩)
                    exact ⟨X150, (decide (r147 = (1 : Int))), rfl, E247, hXo248, hS249, hp⟩
                  ·
                    replace hp := hp.2 h246
                    refine sq (o_pv (.bool false) (by kernel_rfl) (x_df (p := (r146.length : Int) = (1 : Int)) (by kernel_rfl) h246) ?_)
                    refine sq (o_pv (.bool false) rfl (by kernel_rfl) ?_)
                    refine sq (o_pv (.bool false) rfl (by kernel_rfl) ?_)
                    refine sq (o_not (by kernel_rfl) ?_)
                    refine sq (o_not (by kernel_rfl) ?_)
                    refine sq (o_pv (.bool false) rfl (by kernel_rfl) ?_)
                    refine sq (o_pv (.bool false) rfl (by kernel_rfl) ?_)
                    refine nil_ ?_
                    have E250 := (Evo.then0 (Evo.then0 E203 e217) e225)
                    have hXo251 := (Old.step (Old.step hXo202 s218) s226)
                    have hS252 := (Sub.trans (Sub.trans hS204 (Step.up s218)) (Step.up s226))
                    refine then_normal (hJ200 _ _ _ ⟨[(0, (.bool false))], fit_mk (fun _ _ => rfl) (by kernel_rfl) (vs_cons (by kernel_rfl) vs_nil), ?_⟩)
                    exact ⟨X150, false, rfl, E250, hXo251, hS252, hp⟩
                ·
                  replace hp := hp.2 h245
                  refine sq (o_pv (.bool false) (by kernel_rfl) (x_df (p := r148 = (0 : Int)) (by kernel_rfl) h245) ?_)
                  refine sq (o_pv (.bool false) rfl (by kernel_rfl) ?_)
                  refine sq (o_pv (.bool false) rfl (by kernel_rfl) ?_)
                  refine sq (o_not (by kernel_rfl) ?_)
                  refine sq (o_not (by kernel_rfl) ?_)
                  refine sq (o_not (by kernel_rfl) ?_)
                  refine sq (o_pv (.bool false) rfl (by kernel_rfl) ?_)
                  refine sq (o_pv (.bool false) rfl (by kernel_rfl) ?_)
                  refine sq (o_not (by kernel_rfl) ?_)
                  refine sq (o_not (by kernel_rfl) ?_)
                  refine sq (o_pv (.bool false) rfl (by kernel_rfl) ?_)
                  refine sq (o_pv (.bool false) rfl (by kernel_rfl) ?_)
                  refine nil_ ?_
                  have E253 := (Evo.then0 (Evo.then0 E203 e217) e225)
                  have hXo254 := (Old.step (Old.step hXo202 s218) s226)
                  have hS255 := (Sub.trans (Sub.trans hS204 (Step.up s218)) (Step.up s226))
                  refine then_normal (hJ200 _ _ _ ⟨[(0, (.bool false))], fit_mk (fun _ _ => rfl) (by kernel_rfl) (vs_cons (by kernel_rfl) vs_nil), ?_⟩)
                  exact ⟨X150, false, rfl, E253, hXo254, hS255, hp⟩
              ·
                replace hp := hp.2 h244
                refine sq (o_pv (.bool false) (by kernel_rfl) (x_df (p := ((lget r43 (0 : Int)).Time) = (0 : Int)) (by kernel_rfl) h244) ?_)
                refine sq (o_pv (.bool false) rfl (by kernel_rfl) ?_)
                refine sq (o_pv (.bool false) rfl (by kernel_rfl) ?_)
                refine sq (o_not (by kernel_rfl) ?_)
                refine sq (o_not (by kernel_rfl) ?_)
                refine sq (o_pv (.bool false) rfl (by kernel_rfl) ?_)
                refine sq (o_pv (.bool false) rfl (by kernel_rfl) ?_)
                refine sq (o_not (by kernel_rfl) ?_)
                refine sq (o_not (by kernel_rfl) ?_)
                refine sq (o_not (by kernel_rfl) ?_)
                refine sq (o_pv (.bool false) rfl (by kernel_rfl) ?_)
                refine sq (o_pv (.bool false) rfl (by kernel_rfl) ?_)
                refine sq (o_not (by kernel_rfl) ?_)
                refine sq (o_not (by kernel_rfl) ?_)
                refine sq (o_pv (.bool false) rfl (by kernel_rfl) ?_)
                refine sq (o_pv (.bool false) rfl (by kernel_rfl) ?_)
                refine nil_ ?_
                have E256 := (Evo.then0 (Evo.then0 E203 e217) e225)
                have hXo257 := (Old.step (Old.step hXo202 s218) s226)
                have hS258 := (Sub.trans (Sub.trans hS204 (Step.up s218)) (Step.up s226))
                refine then_normal (hJ200 _ _ _ ⟨[(0, (.bool false))], fit_mk (fun _ _ => rfl) (by kernel_rfl) (vs_cons (by kernel_rfl) vs_nil), ?_⟩)
                exact ⟨X150, false, rfl, E256, hXo257, hS258, hp⟩
            ·
              replace hp := hp.2 h227
              refine sq (o_pv (.bool false) (by kernel_rfl) (x_df (p := (r43.length : Int) = (1 : Int)) (by kernel_rfl) h227) ?_)
              refine sq (o_pv (.bool false) rfl (by kernel_rfl) ?_)
              refine sq (o_pv (.bool false) rfl (by kernel_rfl) ?_)
              refine sq (o_not (by kernel_rfl) ?_)
              refine sq (o_not (by kernel_rfl) ?_)
              refine sq (o_not (by kernel_rfl) ?_)
              refine sq (o_not (by kernel_rfl) ?_)
              refine sq (o_not (by kernel_rfl) ?_)
              refine sq (o_pv (.bool false) rfl (by kernel_rfl) ?_)
              refine sq (o_pv (.bool false) rfl (by kernel_rfl) ?_)
              refine sq (o_not (by kernel_rfl) ?_)
              refine sq (o_not (by kernel_rfl) ?_)
              refine sq (o_pv (.bool false) rfl (by kernel_rfl) ?_)
              refine sq (o_pv (.bool false) rfl (by kernel_rfl) ?_)
              refine sq (o_not (by kernel_rfl) ?_)
              refine sq (o_not (by kernel_rfl) ?_)
              refine sq (o_not (by kernel_rfl) ?_)
              refine sq (o_pv (.bool false) rfl (by kernel_rfl) ?_)
              refine sq (o_pv (.bool false) rfl (by kernel_rfl) ?_)
              refine sq (o_not (by kernel_rfl) ?_)
              refine sq (o_not (by kernel_rfl) ?_)
              refine sq (o_pv (.bool false) rfl (by kernel_rfl) ?_)
              refine sq (o_pv (.bool false) rfl (by kernel_rfl) ?_)
              refine nil_ ?_
              have E259 := (Evo.then0 (Evo.then0 E203 e217) e225)
              have hXo260 := (Old.step (Old.step hXo202 s218) s226)
              have hS261 := (Sub.trans (Sub.trans hS204 (Step.up s218)) (Step.up s226))
              refine then_normal (hJ200 _ _ _ ⟨[(0, (.bool false))], fit_mk (fun _ _ => rfl) (by kernel_rfl) (vs_cons (by kernel_rfl) vs_nil), ?_⟩)
              exact ⟨X150, false, rfl, E259, hXo260, hS261, hp⟩
          ·
            replace hp := hp.1 rfl
            refine sq (o_pv (.bool false) (by kernel_rfl) (by kernel_rfl) ?_)
            refine sq (o_pv (.bool false) rfl (by kernel_rfl) ?_)
            refine sq (o_pv (.bool false) rfl (by kernel_rfl) ?_)
            refine sq (o_not (by kernel_rfl) ?_)
            refine sq (o_not (by kernel_rfl) ?_)
            refine sq (o_not (by kernel_rfl) ?_)
            refine sq (o_pv (.bool false) rfl (by kernel_rfl) ?_)
            refine sq (o_pv (.bool false) rfl (by kernel_rfl) ?_)
            refine sq (o_not (by kernel_rfl) ?_)
            refine sq (o_not (by kernel_rfl) ?_)
            refine sq (o_not (by kernel_rfl) ?_)
            refine sq (o_not (by kernel_rfl) ?_)
            refine sq (o_not (by kernel_rfl) ?_)
            refine sq (o_pv (.bool false) rfl (by kernel_rfl) ?_)
            refine sq (o_pv (.bool false) rfl (by kernel_rfl) ?_)
            refine sq (o_not (by kernel_rfl) ?_)
            refine sq (o_not (by kernel_rfl) ?_)
            refine sq (o_pv (.bool false) rfl (by kernel_rfl) ?_)
            refine sq (o_pv (.bool false) rfl (by kernel_rfl) ?_)
            refine sq (o_not (by kernel_rfl) ?_)
            refine sq (o_not (by kernel_rfl) ?_)
            refine sq (o_not (by kernel_rfl) ?_)
            refine sq (o_pv (.bool false) rfl (by kernel_rfl) ?_)
            refine sq (o_pv (.bool false) rfl (by kernel_rfl) ?_)
            refine sq (o_not (by kernel_rfl) ?_)
            refine sq (o_not (by kernel_rfl) ?_)
            refine sq (o_pv (.bool false) rfl (by kernel_rfl) ?_)
            refine sq (o_pv (.bool false) rfl (by kernel_rfl) ?_)
            refine nil_ ?_
            have E262 := (Evo.then0 (Evo.then0 E203 e217) e225)
            have hXo263 := (Old.step (Old.step hXo202 s218) s226)
            have hS264 := (Sub.trans (Sub.trans hS204 (Step.up s218)) (Step.up s226))
            refine then_normal (hJ200 _ _ _ ⟨[(0, (.bool false))], fit_mk (fun _ _ => rfl) (by kernel_rfl) (vs_cons (by kernel_rfl) vs_nil), ?_⟩)
            exact ⟨X150, false, rfl, E262, hXo263, hS264, hp⟩
      ·
        replace hp := hp.2 h214
        refine sq (o_pv (.bool false) (by kernel_rfl) (x_df (p := r3.Size = (1 : Int)) (by kernel_rfl) h214) ?_)
        refine sq (o_pv (.bool false) rfl (by kernel_rfl) ?_)
        refine sq (o_pv (.bool false) rfl (by kernel_rfl) ?_)
        refine sq (o_not (by kernel_rfl) ?_)
        refine sq (o_not (by kernel_rfl) ?_)
        refine sq (o_not (by kernel_rfl) ?_)
        refine sq (o_pv (.bool false) rfl (by kernel_rfl) ?_)
        refine sq (o_pv (.bool false) rfl (by kernel_rfl) ?_)
        refine sq (o_not (by kernel_rfl) ?_)
        refine sq (o_not (by kernel_rfl) ?_)
        refine sq (o_not (by kernel_rfl) ?_)
        refine sq (o_not (by kernel_rfl) ?_)
        refine sq (o_pv (.bool false) rfl (by kernel_rfl) ?_)
        refine sq (o_pv (.bool false) rfl (by kernel_rfl) ?_)
        refine sq (o_not (by kernel_rfl) ?_)
        refine sq (o_not (by kernel_rfl) ?_)
        refine sq (o_not (by kernel_rfl) ?_)
        refine sq (o_pv (.bool false) rfl (by kernel_rfl) ?_)
        refine sq (o_pv (.bool false) rfl (by kernel_rfl) ?_)
        refine sq (o_not (by kernel_rfl) ?_)
        refine sq (o_not (by kernel_rfl) ?_)
        refine sq (o_not (by kernel_rfl) ?_)
        refine sq (o_not (by kernel_rfl) ?_)
        refine sq (o_not (by kernel_rfl) ?_)
        refine sq (o_pv (.bool false) rfl (by kernel_rfl) ?_)
        refine sq (o_pv (.bool false) rfl (by kernel_rfl) ?_)
        refine sq (o_not (by kernel_rfl) ?_)
        refine sq (o_not (by kernel_rfl) ?_)
        refine sq (o_pv (.bool false) rfl (by kernel_rfl) ?_)
        refine sq (o_pv (.bool false) rfl (by kernel_rfl) ?_)
        refine sq (o_not (by kernel_rfl) ?_)
        refine sq (o_not (by kernel_rfl) ?_)
        refine sq (o_not (by kernel_rfl) ?_)
        refine sq (o_pv (.bool false) rfl (by kernel_rfl) ?_)
        refine sq (o_pv (.bool false) rfl (by kernel_rfl) ?_)
        refine sq (o_not (by kernel_rfl) ?_)
        refine sq (o_not (by kernel_rfl) ?_)
        refine sq (o_pv (.bool false) rfl (by kernel_rfl) ?_)
        refine sq (o_pv (.bool false) rfl (by kernel_rfl) ?_)
        refine nil_ ?_
        refine then_normal (hJ200 _ _ _ ⟨[(0, (.bool false))], fit_mk (fun _ _ => rfl) (by kernel_rfl) (vs_cons (by kernel_rfl) vs_nil), ?_⟩)
        exact ⟨X150, false, rfl, E203, hXo202, hS204, hp⟩
    ·
      replace hp := hp.2 h213
      refine sq (o_pv (.bool false) rfl (x_df (p := r3.Time = (3 : Int)) (by kernel_rfl) h213) ?_)
      refine sq (o_pv (.bool false) rfl (by kernel_rfl) ?_)
      refine sq (o_not (by kernel_rfl) ?_)
      refine sq (o_not (by kernel_rfl) ?_)
      refine sq (o_not (by kernel_rfl) ?_)
      refine sq (o_pv (.bool false) rfl (by kernel_rfl) ?_)
      refine sq (o_pv (.bool false) rfl (by kernel_rfl) ?_)
      refine sq (o_not (by kernel_rfl) ?_)
      refine sq (o_not (by kernel_rfl) ?_)
      refine sq (o_not (by kernel_rfl) ?_)
      refine sq (o_pv (.bool false) rfl (by kernel_rfl) ?_)
      refine sq (o_pv (.bool false) rfl (by kernel_rfl) ?_)
      refine sq (o_not (by kernel_rfl) ?_)
      refine sq (o_not (by kernel_rfl) ?_)
      refine sq (o_not (by kernel_rfl) ?_)
      refine sq (o_not (by kernel_rfl) ?_)
      refine sq (o_pv (.bool false) rfl (by kernel_rfl) ?_)
      refine sq (o_pv (.bool false) rfl (by kernel_rfl) ?_)
      refine sq (o_not (by kernel_rfl) ?_)
      refine sq (o_not (by kernel_rfl) ?_)
      refine sq (o_not (by kernel_rfl) ?_)
      refine sq (o_pv (.bool false) rfl (by kernel_rfl) ?_)
      refine sq (o_pv (.bool false) rfl (by kernel_rfl) ?_)
      refine sq (o_not (by kernel_rfl) ?_)
      refine sq (o_not (by kernel_rfl) ?_)
      refine sq (o_not (by kernel_rfl) ?_)
      refine sq (o_not (by kernel_rfl) ?_)
      refine sq (o_not (by kernel_rfl) ?_)
      refine sq (o_pv (.bool false) rfl (by kernel_rfl) ?_)
      refine sq (o_pv (.bool false) rfl (by kernel_rfl) ?_)
      refine sq (o_not (by kernel_rfl) ?_)
      refine sq (o_not (by kernel_rfl) ?_)
      refine sq (o_pv (.bool false) rfl (by kernel_rfl) ?_)
      refine sq (o_pv (.bool false) rfl (by kernel_rfl) ?_)
      refine sq (o_not (by kernel_rfl) ?_)
      refine sq (o_not (by kernel_rfl) ?_)
      refine sq (o_not (by kernel_rfl) ?_)
      refine sq (o_pv (.bool false) rfl (by kernel_rfl) ?_)
      refine sq (o_pv (.bool false) rfl (by kernel_rfl) ?_)
      refine sq (o_not (by kernel_rfl) ?_)
      refine sq (o_not (by kernel_rfl) ?_)
      refine sq (o_pv (.bool false) rfl (by kernel_rfl) ?_)
      refine sq (o_pv (.bool false) rfl (by kernel_rfl) ?_)
      refine nil_ ?_
      refine then_normal (hJ200 _ _ _ ⟨[(0, (.bool false))], fit_mk (fun _ _ => rfl) (by kernel_rfl) (vs_cons (by kernel_rfl) vs_nil), ?_⟩)
      exact ⟨X150, false, rfl, E203, hXo202, hS204, hp⟩
  ·
    rintro _ w197 g265 ⟨X198, s194, rfl, E210, hXo211, hS212, hv201⟩
    replace hp := hk196 s194 hv201
    refine then_normal (K161 _ _ _ _ ?_)
    refine wp_ret ?_
    refine end_ret hQ (.bool s194) (by kernel_rfl) ?_
    exact ⟨s194, hp, E210, rfl⟩

def rectolaw18_StatSmudged_p (t : Int) (later : Int) (Q : Bool → Prop) : Prop :=
  ((inR .u16 t) → ((inR .u16 later) → (rectolaw18_known_p  (fun (r6 : Bool) => ((((!r6) = true) → Q false) ∧ (((!r6) = false) → ((inR .i64 ((1 : Int) + t)) ∧ (stat_Note_p (S_index_Entry.mk (ByteArray.mk #[97]) (0 : Int) (1 : Int) (ByteArray.mk #[120, 121, 122]) (0 : Int) (0 : Int)) (S_simfs_Stat.mk (3 : Int) ((1 : Int) + t) (0 : Int) (1 : Int)) (fun (r29 : S_index_Entry) => ((r29.Path.size ≤ maxLen) → ((inR .i64 r29.Stage) → ((inR .i64 r29.Mode) → ((r29.Data.size ≤ maxLen) → ((inR .i64 r29.Time) → ((inR .i64 r29.Size) → (stat_Smudge_p ([r29]) ((1 : Int) + t) (fun (r75 : (List S_index_Entry)) => ((r75.length ≤ 9223372036854775807) → ((inR .i64 (((1 : Int) + t) + (1 : Int))) ∧ (stat_Smudge_p ([r29]) (((1 : Int) + t) + (1 : Int)) (fun (r108 : (List S_index_Entry)) => ((r108.length ≤ 9223372036854775807) → ((((¬ ((r75.length : Int) = (1 : Int))) ∨ (¬ ((r108.length : Int) = (1 : Int)))) → Q false) ∧ ((¬ ((¬ ((r75.length : Int) = (1 : Int))) ∨ (¬ ((r108.length : Int) = (1 : Int))))) → (∃ k201 : Bool → Prop, (∀ (s200 : Bool), k201 s200 → Q s200) ∧ ((inL r75 (0 : Int)) ∧ ((((lget r75 (0 : Int)).Path).size ≤ maxLen) → ((inR .i64 ((lget r75 (0 : Int)).Stage)) → ((inR .i64 ((lget r75 (0 : Int)).Mode)) → ((((lget r75 (0 : Int)).Data).size ≤ maxLen) → ((inR .i64 ((lget r75 (0 : Int)).Time)) → ((inR .i64 ((lget r75 (0 : Int)).Size)) → ((inR .i64 (((1 : Int) + t) + later)) ∧ (stat_Fresh_p (lget r75 (0 : Int)) (S_simfs_Stat.mk (3 : Int) ((1 : Int) + t) (0 : Int) (1 : Int)) (((1 : Int) + t) + later) (fun (r251 : Bool) => (((r251 = true) → (k201 false)) ∧ ((r251 = false) → ((inL r108 (0 : Int)) ∧ ((((lget r108 (0 : Int)).Path).size ≤ maxLen) → ((inR .i64 ((lget r108 (0 : Int)).Stage)) → ((inR .i64 ((lget r108 (0 : Int)).Mode)) → ((((lget r108 (0 : Int)).Data).size ≤ maxLen) → ((inR .i64 ((lget r108 (0 : Int)).Time)) → ((inR .i64 ((lget r108 (0 : Int)).Size)) → ((inR .i64 (((1 : Int) + t) + (1 : Int))) ∧ ((inR .i64 ((((1 : Int) + t) + (1 : Int)) + later)) ∧ (stat_Fresh_p (lget r108 (0 : Int)) (S_simfs_Stat.mk (3 : Int) ((1 : Int) + t) (0 : Int) (1 : Int)) ((((1 : Int) + t) + (1 : Int)) + later) (fun (r274 : Bool) => (((r274 = true) → (stat_Fresh_p r29 (S_simfs_Stat.mk (3 : Int) ((1 : Int) + t) (0 : Int) (1 : Int)) ((1 : Int) + t) (fun (r282 : Bool) => (k201 (!r282))))) ∧ ((r274 = false) → (k201 false)))))))))))))))))))))))))))))))))))))))))))))))))))
set_option maxRecDepth 20000 in
set_option maxHeartbeats 4000000 in
theorem rectolaw18_StatSmudged_w {X : List Nat} {w : World} {t : Int} {later : Int} {Q : Bool → Prop} (hX0 : Old X w) (rt1 : inR .u16 t) (rlater2 : inR .u16 later) (hp : rectolaw18_StatSmudged_p t later Q) :
    Calls Tryd.prog 9 #[(.int .u16 t), (.int .u16 later)] w (Ret fun v w' => ∃ (r0 : Bool), Q r0 ∧ Evo [] w w' ∧ v = (.bool r0)) := by
  have hXo := hX0
  have E0 : Evo [] w w := RB.refl _ _ _
  have hS : Sub X X := Sub.refl _
  unfold rectolaw18_StatSmudged_p at hp
  refine enter_ Tryd.func9 rfl 66 [(0, (.int .u16 t)), (1, (.int .u16 later))] (by kernel_rfl) (fun Qe hQ => ?_)
  replace hp := hp rt1
  replace hp := hp rlater2
  refine seq_ (fun _ K3 => ?_)
  refine reg_ ?_
  refine sq (o_pv (.bool false) rfl (by kernel_rfl) ?_)
  refine nil_ ?_
  refine then_normal (K3 _ _ _ _ ?_)
  refine seq_ (fun _ K4 => ?_)
  refine seq_ (fun _ K5 => ?_)
  refine reg_ ?_
  refine sq (o_call 41 #[] rfl (x_call Tryd.call41 (by kernel_rfl)) (rectolaw18_known_w (X := [])  (Old.nil _) hp) ?_)
  rintro _ w7 ⟨r6, hp, e8, rfl⟩
  have s9 := Step.of0 X e8
  refine sq (o_pv (.bool (!r6)) rfl (by kernel_rfl) ?_)
  refine nil_ ?_
  refine then_normal (K5 _ _ _ _ ?_)
  refine cond_b (!r6) (by kernel_rfl) (fun h10 => ?_) (fun h10 => ?_)
  ·
    replace hp := hp.1 h10
    refine seq_ (fun _ K11 => ?_)
    refine reg_ ?_
    refine sq (o_pv (.bool false) rfl (by kernel_rfl) ?_)
    refine nil_ ?_
    refine then_normal (K11 _ _ _ _ ?_)
    refine wp_ret ?_
    refine then_ret ?_
    have E12 := (Evo.then0 E0 e8)
    refine end_ret hQ (.bool false) (by kernel_rfl) ?_
    exact ⟨false, hp, E12, rfl⟩
  ·
    replace hp := hp.2 h10
    refine wp_skip ?_
    refine then_normal (K4 _ _ _ _ ?_)
    refine seq_ (fun _ K13 => ?_)
    refine reg_ ?_
    refine sq (o_pv (.int .u16 t) rfl (by kernel_rfl) ?_)
    have r14 : inR .i64 t := inR_up (by decide) (by decide) rt1
    refine sq (o_pv (.int .i64 t) rfl (x_conv (k := .u16) Tryd.underlying89 Tryd.underlying3 (by kernel_rfl) (wrap_inR r14)) ?_)
    obtain ⟨h15, hp⟩ := hp
    refine sq (o_pv (.int .i64 ((1 : Int) + t)) rfl (x_add2 (k := .i64) (a := (1 : Int)) (b := t) ((1 : Int) + t) (by kernel_rfl) (by kernel_rfl) (wrap_inR h15)) ?_)
    refine sq (o_pv (.int .i64 ((1 : Int) + t)) rfl (by kernel_rfl) ?_)
    refine nil_ ?_
    refine then_normal (K13 _ _ _ _ ?_)
    refine seq_ (fun _ K16 => ?_)
    refine reg_ ?_
    refine sq (o_pv (.int .i64 ((1 : Int) + t)) rfl (by kernel_rfl) ?_)
    refine sq (o_pv (.agg #[(.int .i64 (3 : Int)), (.int .i64 ((1 : Int) + t)), (.int .i64 (0 : Int)), (.int .i64 (1 : Int))]) rfl (by kernel_rfl) ?_)
    have E23 := (Evo.then0 E0 e8)
    refine sq (o_newX [(.int .i64 (0 : Int)), (.int .i64 (0 : Int)), (.int .i64 (0 : Int)), (.int .i64 (0 : Int))] 84 (X := X) (B := w.heap.size) E23.size rfl (by kernel_rfl) ?_)
    intro b17 w18 X19 s20 k21 n22
    have E24 := (Evo.then0 E23 (Step.evo s20))
    refine sq (o_stB (o := 0) (v := (.agg #[(.int .i64 (3 : Int)), (.int .i64 ((1 : Int) + t)), (.int .i64 (0 : Int)), (.int .i64 (1 : Int))])) [(.int .i64 (3 : Int)), (.int .i64 ((1 : Int) + t)), (.int .i64 (0 : Int)), (.int .i64 (1 : Int))] rfl k21 (by kernel_rfl) (by kernel_rfl) Tryd.sizeOf84 rfl rfl rfl ?_)
    intro w25 s26 k27
    refine nil_ ?_
    refine then_normal (K16 _ _ _ _ ?_)
    refine seq_ (fun _ K28 => ?_)
    refine reg_ ?_
    refine sq (o_pv (.agg #[(.string (ByteArray.mk #[97])), (.int .i64 (0 : Int)), (.int .i64 (1 : Int)), (.string (ByteArray.mk #[120, 121, 122])), (.int .i64 (0 : Int)), (.int .i64 (0 : Int))]) rfl (by kernel_rfl) ?_)
    refine sq (o_pv (.agg #[(.int .i64 (3 : Int)), (.int .i64 ((1 : Int) + t)), (.int .i64 (0 : Int)), (.int .i64 (1 : Int))]) rfl (x_loadN [(.int .i64 (3 : Int)), (.int .i64 ((1 : Int) + t)), (.int .i64 (0 : Int)), (.int .i64 (1 : Int))] (by kernel_rfl) Tryd.isAgg84 Tryd.sizeOf84 (k27.2.1.cells' 0 rfl)) ?_)
    refine sq (o_call 43 #[(.agg #[(.string (ByteArray.mk #[97])), (.int .i64 (0 : Int)), (.int .i64 (1 : Int)), (.string (ByteArray.mk #[120, 121, 122])), (.int .i64 (0 : Int)), (.int .i64 (0 : Int))]), (.agg #[(.int .i64 (3 : Int)), (.int .i64 ((1 : Int) + t)), (.int .i64 (0 : Int)), (.int .i64 (1 : Int))])] rfl (x_call Tryd.call43 (by kernel_rfl)) (stat_Note_w (X := []) (e := (S_index_Entry.mk (ByteArray.mk #[97]) (0 : Int) (1 : Int) (ByteArray.mk #[120, 121, 122]) (0 : Int) (0 : Int))) (s := (S_simfs_Stat.mk (3 : Int) ((1 : Int) + t) (0 : Int) (1 : Int))) (Old.nil _) (by decide : (ByteArray.mk #[97]).size ≤ maxLen) (by decide : inR .i64 (0 : Int)) (by decide : inR .i64 (1 : Int)) (by decide : (ByteArray.mk #[120, 121, 122]).size ≤ maxLen) (by decide : inR .i64 (0 : Int)) (by decide : inR .i64 (0 : Int)) (by decide : inR .i64 (3 : Int)) h15 (by decide : inR .i64 (0 : Int)) (by decide : inR .i64 (1 : Int)) hp) ?_)
    rintro _ w30 ⟨r29, hp, e31, rfl, zrPath33, rrStage34, rrMode35, zrData36, rrTime37, rrSize38⟩
    have s32 := Step.of0 X19 e31
    replace hp := hp zrPath33
    replace hp := hp rrStage34
    replace hp := hp rrMode35
    replace hp := hp zrData36
    replace hp := hp rrTime37
    replace hp := hp rrSize38
    have k45 := (OB.step0 k27 s32)
    have E46 := (Evo.then0 (Evo.thenW E24 (Step.evo s26) k21.2.2) e31)
    refine sq (o_newX [(.string (ByteArray.mk #[])), (.int .i64 (0 : Int)), (.int .i64 (0 : Int)), (.string (ByteArray.mk #[])), (.int .i64 (0 : Int)), (.int .i64 (0 : Int))] 82 (X := X19) (B := w.heap.size) E46.size rfl (by kernel_rfl) ?_)
    intro b39 w40 X41 s42 k43 n44
    have p47 := n44 _ (OB.old k45)
    have k48 := (OB.step0 k45 s42)
    have E49 := (Evo.then0 E46 (Step.evo s42))
    refine sq (o_stB (o := 0) (v := (.agg #[(.string r29.Path), (.int .i64 r29.Stage), (.int .i64 r29.Mode), (.string r29.Data), (.int .i64 r29.Time), (.int .i64 r29.Size)])) [(.string r29.Path), (.int .i64 r29.Stage), (.int .i64 r29.Mode), (.string r29.Data), (.int .i64 r29.Time), (.int .i64 r29.Size)] rfl k43 (by kernel_rfl) (by kernel_rfl) Tryd.sizeOf82 rfl rfl rfl ?_)
    intro w50 s51 k52
    refine nil_ ?_
    refine then_normal (K28 _ _ _ _ ?_)
    refine seq_ (fun _ K53 => ?_)
    refine reg_ ?_
    refine sq (o_pv (.agg #[(.string r29.Path), (.int .i64 r29.Stage), (.int .i64 r29.Mode), (.string r29.Data), (.int .i64 r29.Time), (.int .i64 r29.Size)]) rfl (x_loadN [(.string r29.Path), (.int .i64 r29.Stage), (.int .i64 r29.Mode), (.string r29.Data), (.int .i64 r29.Time), (.int .i64 r29.Size)] (by kernel_rfl) Tryd.isAgg82 Tryd.sizeOf82 (k52.2.1.cells' 0 rfl)) ?_)
    have k54 := (OB.step k48 s51 p47)
    have E61 := (Evo.thenW E49 (Step.evo s51) k43.2.2)
    refine sq (o_rowX (R := r_index_Entry) [(.string r29.Path), (.int .i64 r29.Stage), (.int .i64 r29.Mode), (.string r29.Data), (.int .i64 r29.Time), (.int .i64 r29.Size)] [r29] 82 1 (X := X41) (B := w.heap.size) E61.size rfl (by kernel_rfl) (Flat.cons (cs := [(.string r29.Path), (.int .i64 r29.Stage), (.int .i64 r29.Mode), (.string r29.Data), (.int .i64 r29.Time), (.int .i64 r29.Size)]) (r_index_Entry_mk zrPath33 rrStage34 rrMode35 zrData36 rrTime37 rrSize38) Flat.nil) rfl (by decide) ?_)
    intro b55 w56 X57 s58 O59 n60
    have p62 := n60 _ (OB.old k54)
    have p63 := n60 _ (OB.old k52)
    refine sq (o_pv (.int .i64 ((1 : Int) + t)) rfl (by kernel_rfl) ?_)
    have hS64 := (Sub.trans (Sub.trans (Sub.trans (Sub.trans (Sub.trans (Sub.trans (Sub.trans hS (Step.up s9)) (Step.up s20)) (Step.up s26)) (Step.up s32)) (Step.up s42)) (Step.up s51)) (Step.up s58))
    have hXo70 := (Old.step (Old.step (Old.step (Old.step (Old.step (Old.step (Old.step hXo s9) s20) s26) s32) s42) s51) s58)
    have E71 := (Evo.then0 E61 (Step.evo s58))
    have k72 := (OB.step0 k54 s58)
    have k73 := (OB.step0 k52 s58)
    have ax69 := OS.apold O59 hX0
    obtain ⟨X65, u66, r67, hm68⟩ := OS.release O59
    have hXo74 := (Old.less hXo70 u66)
    refine sq (o_call 44 #[(.slice (some ⟨b55, 0, none⟩) ([r29]).length 1), (.int .i64 ((1 : Int) + t))] rfl (x_call Tryd.call44 (by rw [← show 1 = ([r29]).length from O59.1]; kernel_rfl)) (stat_Smudge_w (X := X65) (l := [r29]) (written := (1 : Int) + t) hXo74 r67 h15 hp) ?_)
    rintro _ w76 ⟨r75, hp, e77, ar79, cr80, rfl, hr81⟩
    have s78 := Step.of0 X65 e77
    replace hp := hp (Sl.len hr81)
    refine sq (o_pv (.slice ar79 r75.length cr80) rfl (by kernel_rfl) ?_)
    refine nil_ ?_
    refine then_normal (K53 _ _ _ _ ?_)
    refine seq_ (fun _ K82 => ?_)
    refine reg_ ?_
    have k83 := (OB.step0 (OB.less k73 (hm68 _ p63 (OB.mem k73))) s78)
    refine sq (o_pv (.agg #[(.string r29.Path), (.int .i64 r29.Stage), (.int .i64 r29.Mode), (.string r29.Data), (.int .i64 r29.Time), (.int .i64 r29.Size)]) rfl (x_loadN [(.string r29.Path), (.int .i64 r29.Stage), (.int .i64 r29.Mode), (.string r29.Data), (.int .i64 r29.Time), (.int .i64 r29.Size)] (by kernel_rfl) Tryd.isAgg82 Tryd.sizeOf82 (k83.2.1.cells' 0 rfl)) ?_)
    have k84 := (OB.step0 (OB.less k72 (hm68 _ p62 (OB.mem k72))) s78)
    have E91 := (Evo.then0 E71 e77)
    refine sq (o_rowX (R := r_index_Entry) [(.string r29.Path), (.int .i64 r29.Stage), (.int .i64 r29.Mode), (.string r29.Data), (.int .i64 r29.Time), (.int .i64 r29.Size)] [r29] 82 1 (X := X65) (B := w.heap.size) E91.size rfl (by kernel_rfl) (Flat.cons (cs := [(.string r29.Path), (.int .i64 r29.Stage), (.int .i64 r29.Mode), (.string r29.Data), (.int .i64 r29.Time), (.int .i64 r29.Size)]) (r_index_Entry_mk zrPath33 rrStage34 rrMode35 zrData36 rrTime37 rrSize38) Flat.nil) rfl (by decide) ?_)
    intro b85 w86 X87 s88 O89 n90
    have p92 := n90 _ (OB.old k84)
    have p93 := n90 _ (OB.old k83)
    refine sq (o_pv (.int .i64 ((1 : Int) + t)) rfl (by kernel_rfl) ?_)
    obtain ⟨h94, hp⟩ := hp
    refine sq (o_pv (.int .i64 (((1 : Int) + t) + (1 : Int))) rfl (x_add2 (k := .i64) (a := (1 : Int) + t) (b := (1 : Int)) (((1 : Int) + t) + (1 : Int)) (by kernel_rfl) (by kernel_rfl) (wrap_inR h94)) ?_)
    have hS95 := (Sub.trans (Sub.trans (hm68 _ ax69 hS64) (Step.up s78)) (Step.up s88))
    have hXo101 := (Old.step (Old.step hXo74 s78) s88)
    have E102 := (Evo.then0 E91 (Step.evo s88))
    have k103 := (OB.step0 k84 s88)
    have k104 := (OB.step0 k83 s88)
    have r105 := (Sl.step (Sl.step r67 s78) s88)
    have hr106 := (Sl.step hr81 s88)
    have ax100 := OS.apold O89 hX0
    obtain ⟨X96, u97, r98, hm99⟩ := OS.release O89
    have hXo107 := (Old.less hXo101 u97)
    refine sq (o_call 44 #[(.slice (some ⟨b85, 0, none⟩) ([r29]).length 1), (.int .i64 (((1 : Int) + t) + (1 : Int)))] rfl (x_call Tryd.call44 (by rw [← show 1 = ([r29]).length from O89.1]; kernel_rfl)) (stat_Smudge_w (X := X96) (l := [r29]) (written := ((1 : Int) + t) + (1 : Int)) hXo107 r98 h94 hp) ?_)
    rintro _ w109 ⟨r108, hp, e110, ar112, cr113, rfl, hr114⟩
    have s111 := Step.of0 X96 e110
    replace hp := hp (Sl.len hr114)
    refine sq (o_pv (.slice ar112 r108.length cr113) rfl (by kernel_rfl) ?_)
    refine nil_ ?_
    refine then_normal (K82 _ _ _ _ ?_)
    refine seq_ (fun _ K115 => ?_)
    refine seq_ (fun _ K116 => ?_)
    refine ground_ ?_
    refine join_ 136902082560 (fun lq w120 => lq = [(36, (.bool (decide ((¬ ((r75.length : Int) = (1 : Int))) ∨ (¬ ((r108.length : Int) = (1 : Int)))))))] ∧ w109 = w120) (fun Kj118 hJ119 => ?_) ?_
    ·
      refine reg_ ?_
      refine sq (o_pv (.slice ar79 r75.length cr80) rfl (by kernel_rfl) ?_)
      refine sq (o_pv (.int .i64 (r75.length : Int)) rfl (by kernel_rfl) ?_)
      by_cases h122 : (r75.length : Int) = (1 : Int)
      ·
        refine sq (o_pv (.bool false) rfl (x_ndf (p := (r75.length : Int) = (1 : Int)) (by kernel_rfl) h122) ?_)
        refine sq (o_pv (.bool false) rfl (by kernel_rfl) ?_)
        refine sq (o_pv (.slice ar112 r108.length cr113) (by kernel_rfl) (by kernel_rfl) ?_)
        refine sq (o_pv (.int .i64 (r108.length : Int)) (by kernel_rfl) (by kernel_rfl) ?_)
        refine sq (o_pv (.bool (!decide ((r108.length : Int) = (1 : Int)))) (by kernel_rfl) (by kernel_rfl) ?_)
        refine sq (o_pv (.bool (!decide ((r108.length : Int) = (1 : Int)))) rfl (by kernel_rfl) ?_)
        refine nil_ ?_
        refine then_normal (hJ119 _ _ _ ⟨[(36, (.bool (decide ((¬ ((r75.length : Int) = (1 : Int))) ∨ (¬ ((r108.length : Int) = (1 : Int)))))))], fit_mk (fun _ _ => rfl) (by kernel_rfl) (vs_cons (Eq.trans (b := (.bool (!decide ((r108.length : Int) = (1 : Int))))) (by kernel_rfl) (dec_n ((or_iff_right (fun h1 => h1 h122)).trans Iff.rfl)).symm) vs_nil), rfl, rfl⟩)
      ·
        refine sq (o_pv (.bool true) rfl (x_ndt (p := (r75.length : Int) = (1 : Int)) (by kernel_rfl) h122) ?_)
        refine sq (o_pv (.bool true) rfl (by kernel_rfl) ?_)
        refine sq (o_not (by kernel_rfl) ?_)
        refine sq (o_not (by kernel_rfl) ?_)
        refine sq (o_not (by kernel_rfl) ?_)
        refine sq (o_pv (.bool true) rfl (by kernel_rfl) ?_)
        refine nil_ ?_
        refine then_normal (hJ119 _ _ _ ⟨[(36, (.bool (decide ((¬ ((r75.length : Int) = (1 : Int))) ∨ (¬ ((r108.length : Int) = (1 : Int)))))))], fit_mk (fun _ _ => rfl) (by kernel_rfl) (vs_cons (Eq.trans (b := (.bool true)) (by kernel_rfl) (dec_t (iff_true_intro (Or.inl h122))).symm) vs_nil), rfl, rfl⟩)
    ·
      rintro _ w120 g121 ⟨rfl, hw⟩
      subst hw
      refine then_normal (K116 _ _ _ _ ?_)
      refine cond_d ((¬ ((r75.length : Int) = (1 : Int))) ∨ (¬ ((r108.length : Int) = (1 : Int)))) (by kernel_rfl) (fun h123 => ?_) (fun h123 => ?_)
      ·
        replace hp := hp.1 h123
        refine seq_ (fun _ K124 => ?_)
        refine reg_ ?_
        refine sq (o_pv (.bool false) rfl (by kernel_rfl) ?_)
        refine nil_ ?_
        refine then_normal (K124 _ _ _ _ ?_)
        refine wp_ret ?_
        refine then_ret ?_
        have E125 := (Evo.then0 E102 e110)
        refine end_ret hQ (.bool false) (by kernel_rfl) ?_
        exact ⟨false, hp, E125, rfl⟩
      ·
        replace hp := hp.2 h123
        refine wp_skip ?_
        refine then_normal (K115 _ _ _ _ ?_)
        refine seq_ (fun _ K126 => ?_)
        have hXo208 := (Old.step hXo107 s111)
        have E209 := (Evo.then0 E102 e110)
        have hS210 := (Sub.trans (hm99 _ ax100 hS95) (Step.up s111))
        have k211 := (OB.step0 (OB.less k103 (hm99 _ p92 (OB.mem k103))) s111)
        have k212 := (OB.step0 (OB.less k104 (hm99 _ p93 (OB.mem k104))) s111)
        have r213 := (Sl.step (Sl.less r105 u97) s111)
        have hr214 := (Sl.step (Sl.less hr106 u97) s111)
        have r215 := (Sl.step r98 s111)
        obtain ⟨k201, hk202, hp⟩ := hp
        refine ground_ ?_
        refine join_ 73786976157399253008 (fun lq w203 => ∃ (X204 : List Nat) (s200 : Bool), (lq = [(4, (.bool s200))]) ∧ (Evo [] w w203) ∧ (Old X204 w203) ∧ (Sub X X204) ∧ (k201 s200)) (fun Kj205 hJ206 => ?_) ?_
        ·
          refine reg_drawn (RB w109.heap.size []) 29 (by kernel_rfl) (fun w219 hd220 => ?_)
          have e221 := Evo.of_drew hd220
          have z222 : w219.heap.size = w109.heap.size := by rw [hd220]
          clear hd220
          have s224 := Step.of0 X96 e221
          have er223 := RB.refl w109.heap.size [] w219
          have hXo225 := (Old.step hXo208 s224)
          have E226 := (Evo.then0 E209 (Step.evo s224))
          have hS227 := (Sub.trans hS210 (Step.up s224))
          have k228 := (OB.step0 k211 s224)
          have k229 := (OB.step0 k212 s224)
          have r230 := (Sl.step r213 s224)
          have hr231 := (Sl.step hr214 s224)
          have r232 := (Sl.step r215 s224)
          have hr233 := (Sl.step hr114 s224)
          refine r_take 0 (.slice ar79 r75.length cr80) (RB.pre _ _) rfl (by kernel_rfl) (fun _ _ _ h => hQ.panic _ _ _ _ _ h) (.inl ⟨rfl, fun wq hq => (by kernel_rfl)⟩) ?_
          obtain ⟨h234, hp⟩ := hp
          obtain ⟨b235, o236, cs237, ha238, nx239, lt240, ok241, hc242⟩ := Sl.atI hr231 (0 : Int) h234
          obtain ⟨rfl, zePath243, reStage244, reMode245, zeData246, reTime247, reSize248⟩ := r_index_Entry_open ok241
          replace hp := hp zePath243
          replace hp := hp reStage244
          replace hp := hp reMode245
          replace hp := hp zeData246
          replace hp := hp reTime247
          replace hp := hp reSize248
          refine r_take 1 (.pointer (some ⟨b235, o236 + (0 : Int).toNat * 6, none⟩)) (RB.pre _ _) rfl (by kernel_rfl) (fun _ _ _ h => hQ.panic _ _ _ _ _ h) (.inl ⟨rfl, fun wq hq => (x_ixA (m := r75.length) (c := cr80) (k := .i64) (i := (0 : Int)) Tryd.underlying87 Tryd.sizeOf82 (by rw [← ha238]; kernel_rfl) (by kernel_rfl) h234)⟩) ?_
          refine r_take 2 (.agg #[(.string ((lget r75 (0 : Int)).Path)), (.int .i64 ((lget r75 (0 : Int)).Stage)), (.int .i64 ((lget r75 (0 : Int)).Mode)), (.string ((lget r75 (0 : Int)).Data)), (.int .i64 ((lget r75 (0 : Int)).Time)), (.int .i64 ((lget r75 (0 : Int)).Size))]) (RB.pre _ _) rfl (by kernel_rfl) (fun _ _ _ h => hQ.panic _ _ _ _ _ h) (.inl ⟨rfl, fun wq hq => (x_loadN [(.string ((lget r75 (0 : Int)).Path)), (.int .i64 ((lget r75 (0 : Int)).Stage)), (.int .i64 ((lget r75 (0 : Int)).Mode)), (.string ((lget r75 (0 : Int)).Data)), (.int .i64 ((lget r75 (0 : Int)).Time)), (.int .i64 ((lget r75 (0 : Int)).Size))] (by kernel_rfl) Tryd.isAgg82 Tryd.sizeOf82 (CellsAt.rb hc242 (RB.trans er223 hq) (Nat.lt_of_lt_of_eq lt240 z222) (fun h => by cases h)))⟩) ?_
          refine r_take 3 (.agg #[(.int .i64 (3 : Int)), (.int .i64 ((1 : Int) + t)), (.int .i64 (0 : Int)), (.int .i64 (1 : Int))]) (RB.pre _ _) rfl (by kernel_rfl) (fun _ _ _ h => hQ.panic _ _ _ _ _ h) (.inl ⟨rfl, fun wq hq => (x_loadN [(.int .i64 (3 : Int)), (.int .i64 ((1 : Int) + t)), (.int .i64 (0 : Int)), (.int .i64 (1 : Int))] (by kernel_rfl) Tryd.isAgg84 Tryd.sizeOf84 ((Blk.rb k228.2.1 (RB.trans er223 hq) (Nat.lt_of_lt_of_eq (Blk.lt k228.2.1) z222) (fun h => by cases h)).cells' 0 rfl))⟩) ?_
          refine r_take 4 (.int .i64 ((1 : Int) + t)) (RB.pre _ _) rfl (by kernel_rfl) (fun _ _ _ h => hQ.panic _ _ _ _ _ h) (.inl ⟨rfl, fun wq hq => (by kernel_rfl)⟩) ?_
          refine r_take 5 (.int .u16 later) (RB.pre _ _) rfl (by kernel_rfl) (fun _ _ _ h => hQ.panic _ _ _ _ _ h) (.inl ⟨rfl, fun wq hq => (by kernel_rfl)⟩) ?_
          have r249 : inR .i64 later := inR_up (by decide) (by decide) rlater2
          refine r_take 6 (.int .i64 later) (RB.pre _ _) rfl (by kernel_rfl) (fun _ _ _ h => hQ.panic _ _ _ _ _ h) (.inl ⟨rfl, fun wq hq => (x_conv (k := .u16) Tryd.underlying89 Tryd.underlying3 (by kernel_rfl) (wrap_inR r249))⟩) ?_
          obtain ⟨h250, hp⟩ := hp
          refine r_take 7 (.int .i64 (((1 : Int) + t) + later)) (RB.pre _ _) rfl (by kernel_rfl) (fun _ _ _ h => hQ.panic _ _ _ _ _ h) (.inl ⟨rfl, fun wq hq => (x_add2 (k := .i64) (a := (1 : Int) + t) (b := later) (((1 : Int) + t) + later) (by kernel_rfl) (by kernel_rfl) (wrap_inR h250))⟩) ?_
          refine r_ready [8] (by kernel_rfl) rfl (all_cons ⟨_, _, _, _, _, _, rfl, ?_⟩ all_nil)
          refine o_call 42 #[(.agg #[(.string ((lget r75 (0 : Int)).Path)), (.int .i64 ((lget r75 (0 : Int)).Stage)), (.int .i64 ((lget r75 (0 : Int)).Mode)), (.string ((lget r75 (0 : Int)).Data)), (.int .i64 ((lget r75 (0 : Int)).Time)), (.int .i64 ((lget r75 (0 : Int)).Size))]), (.agg #[(.int .i64 (3 : Int)), (.int .i64 ((1 : Int) + t)), (.int .i64 (0 : Int)), (.int .i64 (1 : Int))]), (.int .i64 (((1 : Int) + t) + later))] rfl (x_call Tryd.call42 (by kernel_rfl)) (stat_Fresh_w (X := []) (e := (lget r75 (0 : Int))) (s := (S_simfs_Stat.mk (3 : Int) ((1 : Int) + t) (0 : Int) (1 : Int))) (written := ((1 : Int) + t) + later) (Old.nil _) zePath243 reStage244 reMode245 zeData246 reTime247 reSize248 (by decide : inR .i64 (3 : Int)) h15 (by decide : inR .i64 (0 : Int)) (by decide : inR .i64 (1 : Int)) h250 hp) ?_
          rintro _ w252 ⟨r251, hp, e253, rfl⟩
          have rm := RB.mono (F' := []) e253 (Nat.le_trans (Nat.le_of_eq z222.symm) (RB.size er223)) (fun _ h => by cases h)
          have er255 := RB.trans er223 rm
          refine ⟨fun _ => rm, ?_⟩
          have s254 := Step.of0 X96 e253
          cases r251
          ·
            replace hp := hp.2 rfl
            refine r_take 9 (.bool true) (RB.pre _ _) rfl (by kernel_rfl) (fun _ _ _ h => hQ.panic _ _ _ _ _ h) (.inl ⟨rfl, fun wq hq => (by kernel_rfl)⟩) ?_
            refine r_take 10 (.bool true) (RB.pre _ _) rfl (by kernel_rfl) (fun _ _ _ h => hQ.panic _ _ _ _ _ h) (.inl ⟨rfl, fun wq hq => (by kernel_rfl)⟩) ?_
            refine r_take 11 (.slice ar112 r108.length cr113) (RB.pre _ _) rfl (by kernel_rfl) (fun _ _ _ h => hQ.panic _ _ _ _ _ h) (.inl ⟨(by kernel_rfl), fun wq hq => (by kernel_rfl)⟩) ?_
            obtain ⟨h256, hp⟩ := hp
            obtain ⟨b257, o258, cs259, ha260, nx261, lt262, ok263, hc264⟩ := Sl.atI hr233 (0 : Int) h256
            obtain ⟨rfl, zePath265, reStage266, reMode267, zeData268, reTime269, reSize270⟩ := r_index_Entry_open ok263
            replace hp := hp zePath265
            replace hp := hp reStage266
            replace hp := hp reMode267
            replace hp := hp zeData268
            replace hp := hp reTime269
            replace hp := hp reSize270
            refine r_take 12 (.pointer (some ⟨b257, o258 + (0 : Int).toNat * 6, none⟩)) (RB.pre _ _) rfl (by kernel_rfl) (fun _ _ _ h => hQ.panic _ _ _ _ _ h) (.inl ⟨(by kernel_rfl), fun wq hq => (x_ixA (m := r108.length) (c := cr113) (k := .i64) (i := (0 : Int)) Tryd.underlying87 Tryd.sizeOf82 (by rw [← ha260]; kernel_rfl) (by kernel_rfl) h256)⟩) ?_
            refine r_take 13 (.agg #[(.string ((lget r108 (0 : Int)).Path)), (.int .i64 ((lget r108 (0 : Int)).Stage)), (.int .i64 ((lget r108 (0 : Int)).Mode)), (.string ((lget r108 (0 : Int)).Data)), (.int .i64 ((lget r108 (0 : Int)).Time)), (.int .i64 ((lget r108 (0 : Int)).Size))]) (RB.pre _ _) rfl (by kernel_rfl) (fun _ _ _ h => hQ.panic _ _ _ _ _ h) (.inl ⟨(by kernel_rfl), fun wq hq => (x_loadN [(.string ((lget r108 (0 : Int)).Path)), (.int .i64 ((lget r108 (0 : Int)).Stage)), (.int .i64 ((lget r108 (0 : Int)).Mode)), (.string ((lget r108 (0 : Int)).Data)), (.int .i64 ((lget r108 (0 : Int)).Time)), (.int .i64 ((lget r108 (0 : Int)).Size))] (by kernel_rfl) Tryd.isAgg82 Tryd.sizeOf82 (CellsAt.rb hc264 (RB.trans er255 hq) (Nat.lt_of_lt_of_eq lt262 z222) (fun h => by cases h)))⟩) ?_
            refine r_take 14 (.agg #[(.int .i64 (3 : Int)), (.int .i64 ((1 : Int) + t)), (.int .i64 (0 : Int)), (.int .i64 (1 : Int))]) (RB.pre _ _) rfl (by kernel_rfl) (fun _ _ _ h => hQ.panic _ _ _ _ _ h) (.inl ⟨(by kernel_rfl), fun wq hq => (x_loadN [(.int .i64 (3 : Int)), (.int .i64 ((1 : Int) + t)), (.int .i64 (0 : Int)), (.int .i64 (1 : Int))] (by kernel_rfl) Tryd.isAgg84 Tryd.sizeOf84 ((Blk.rb k228.2.1 (RB.trans er255 hq) (Nat.lt_of_lt_of_eq (Blk.lt k228.2.1) z222) (fun h => by cases h)).cells' 0 rfl))⟩) ?_
            refine r_take 15 (.int .i64 ((1 : Int) + t)) (RB.pre _ _) rfl (by kernel_rfl) (fun _ _ _ h => hQ.panic _ _ _ _ _ h) (.inl ⟨(by kernel_rfl), fun wq hq => (by kernel_rfl)⟩) ?_
            obtain ⟨h271, hp⟩ := hp
            refine r_take 16 (.int .i64 (((1 : Int) + t) + (1 : Int))) (RB.pre _ _) rfl (by kernel_rfl) (fun _ _ _ h => hQ.panic _ _ _ _ _ h) (.inl ⟨(by kernel_rfl), fun wq hq => (x_add2 (k := .i64) (a := (1 : Int) + t) (b := (1 : Int)) (((1 : Int) + t) + (1 : Int)) (by kernel_rfl) (by kernel_rfl) (wrap_inR h271))⟩) ?_
            refine r_take 17 (.int .u16 later) (RB.pre _ _) rfl (by kernel_rfl) (fun _ _ _ h => hQ.panic _ _ _ _ _ h) (.inl ⟨(by kernel_rfl), fun wq hq => (by kernel_rfl)⟩) ?_
            have r272 : inR .i64 later := inR_up (by decide) (by decide) rlater2
            refine r_take 18 (.int .i64 later) (RB.pre _ _) rfl (by kernel_rfl) (fun _ _ _ h => hQ.panic _ _ _ _ _ h) (.inl ⟨(by kernel_rfl), fun wq hq => (x_conv (k := .u16) Tryd.underlying89 Tryd.underlying3 (by kernel_rfl) (wrap_inR r272))⟩) ?_
            obtain ⟨h273, hp⟩ := hp
            refine r_take 19 (.int .i64 ((((1 : Int) + t) + (1 : Int)) + later)) (RB.pre _ _) rfl (by kernel_rfl) (fun _ _ _ h => hQ.panic _ _ _ _ _ h) (.inl ⟨(by kernel_rfl), fun wq hq => (x_add2 (k := .i64) (a := ((1 : Int) + t) + (1 : Int)) (b := later) ((((1 : Int) + t) + (1 : Int)) + later) (by kernel_rfl) (by kernel_rfl) (wrap_inR h273))⟩) ?_
            refine r_ready [20] (by kernel_rfl) rfl (all_cons ⟨_, _, _, _, _, _, rfl, ?_⟩ all_nil)
            refine o_call 42 #[(.agg #[(.string ((lget r108 (0 : Int)).Path)), (.int .i64 ((lget r108 (0 : Int)).Stage)), (.int .i64 ((lget r108 (0 : Int)).Mode)), (.string ((lget r108 (0 : Int)).Data)), (.int .i64 ((lget r108 (0 : Int)).Time)), (.int .i64 ((lget r108 (0 : Int)).Size))]), (.agg #[(.int .i64 (3 : Int)), (.int .i64 ((1 : Int) + t)), (.int .i64 (0 : Int)), (.int .i64 (1 : Int))]), (.int .i64 ((((1 : Int) + t) + (1 : Int)) + later))] (by kernel_rfl) (x_call Tryd.call42 (by kernel_rfl)) (stat_Fresh_w (X := []) (e := (lget r108 (0 : Int))) (s := (S_simfs_Stat.mk (3 : Int) ((1 : Int) + t) (0 : Int) (1 : Int))) (written := (((1 : Int) + t) + (1 : Int)) + later) (Old.nil _) zePath265 reStage266 reMode267 zeData268 reTime269 reSize270 (by decide : inR .i64 (3 : Int)) h15 (by decide : inR .i64 (0 : Int)) (by decide : inR .i64 (1 : Int)) h273 hp) ?_
            rintro _ w275 ⟨r274, hp, e276, rfl⟩
            have rm := RB.mono (F' := []) e276 (Nat.le_trans (Nat.le_of_eq z222.symm) (RB.size er255)) (fun _ h => by cases h)
            have er278 := RB.trans er255 rm
            refine ⟨fun _ => rm, ?_⟩
            have s277 := Step.of0 X96 e276
            cases r274
            ·
              replace hp := hp.2 rfl
              refine r_take 21 (.bool false) (RB.pre _ _) rfl (by kernel_rfl) (fun _ _ _ h => hQ.panic _ _ _ _ _ h) (.inl ⟨rfl, fun wq hq => (by kernel_rfl)⟩) ?_
              refine r_take 22 (.bool false) (RB.pre _ _) rfl (by kernel_rfl) (fun _ _ _ h => hQ.panic _ _ _ _ _ h) (.inl ⟨rfl, fun wq hq => (by kernel_rfl)⟩) ?_
              refine r_take 23 undef (RB.pre _ _) rfl (by kernel_rfl) (fun _ _ _ h => hQ.panic _ _ _ _ _ h) (.inr ⟨by kernel_rfl, rfl⟩) ?_
              refine r_take 24 undef (RB.pre _ _) rfl (by kernel_rfl) (fun _ _ _ h => hQ.panic _ _ _ _ _ h) (.inr ⟨by kernel_rfl, rfl⟩) ?_
              refine r_take 25 undef (RB.pre _ _) rfl (by kernel_rfl) (fun _ _ _ h => hQ.panic _ _ _ _ _ h) (.inr ⟨by kernel_rfl, rfl⟩) ?_
              refine r_take 26 undef (RB.pre _ _) rfl (by kernel_rfl) (fun _ _ _ h => hQ.panic _ _ _ _ _ h) (.inr ⟨by kernel_rfl, rfl⟩) ?_
              refine r_take 27 undef (RB.pre _ _) rfl (by kernel_rfl) (fun _ _ _ h => hQ.panic _ _ _ _ _ h) (.inr ⟨by kernel_rfl, rfl⟩) ?_
              refine r_take 28 (.bool false) (RB.pre _ _) rfl (by kernel_rfl) (fun _ _ _ h => hQ.panic _ _ _ _ _ h) (.inl ⟨rfl, fun wq hq => (by kernel_rfl)⟩) ?_
              refine r_ready [29] (by kernel_rfl) rfl (all_cons ⟨_, _, _, _, _, _, rfl, ?_⟩ all_nil)
              refine o_pv (.bool false) rfl (by kernel_rfl) ?_
              refine ⟨fun h => absurd h (by decide), ?_⟩
              refine r_done (by kernel_rfl) ?_
              have E279 := (Evo.then0 (Evo.then0 E226 e253) e276)
              have hXo280 := (Old.step (Old.step hXo225 s254) s277)
              have hS281 := (Sub.trans (Sub.trans hS227 (Step.up s254)) (Step.up s277))
              refine then_normal (hJ206 _ _ _ ⟨[(4, (.bool false))], fit_mk (fun _ _ => rfl) (by kernel_rfl) (vs_cons (by kernel_rfl) vs_nil), ?_⟩)
              exact ⟨X96, false, rfl, E279, hXo280, hS281, hp⟩
            ·
              replace hp := hp.1 rfl
              refine r_take 21 (.bool true) (RB.pre _ _) rfl (by kernel_rfl) (fun _ _ _ h => hQ.panic _ _ _ _ _ h) (.inl ⟨rfl, fun wq hq => (by kernel_rfl)⟩) ?_
              refine r_take 22 (.bool true) (RB.pre _ _) rfl (by kernel_rfl) (fun _ _ _ h => hQ.panic _ _ _ _ _ h) (.inl ⟨rfl, fun wq hq => (by kernel_rfl)⟩) ?_
              refine r_take 23 (.agg #[(.string r29.Path), (.int .i64 r29.Stage), (.int .i64 r29.Mode), (.string r29.Data), (.int .i64 r29.Time), (.int .i64 r29.Size)]) (RB.pre _ _) rfl (by kernel_rfl) (fun _ _ _ h => hQ.panic _ _ _ _ _ h) (.inl ⟨(by kernel_rfl), fun wq hq => (x_loadN [(.string r29.Path), (.int .i64 r29.Stage), (.int .i64 r29.Mode), (.string r29.Data), (.int .i64 r29.Time), (.int .i64 r29.Size)] (by kernel_rfl) Tryd.isAgg82 Tryd.sizeOf82 ((Blk.rb k229.2.1 (RB.trans er278 hq) (Nat.lt_of_lt_of_eq (Blk.lt k229.2.1) z222) (fun h => by cases h)).cells' 0 rfl))⟩) ?_
              refine r_take 24 (.agg #[(.int .i64 (3 : Int)), (.int .i64 ((1 : Int) + t)), (.int .i64 (0 : Int)), (.int .i64 (1 : Int))]) (RB.pre _ _) rfl (by kernel_rfl) (fun _ _ _ h => hQ.panic _ _ _ _ _ h) (.inl ⟨(by kernel_rfl), fun wq hq => (x_loadN [(.int .i64 (3 : Int)), (.int .i64 ((1 : Int) + t)), (.int .i64 (0 : Int)), (.int .i64 (1 : Int))] (by kernel_rfl) Tryd.isAgg84 Tryd.sizeOf84 ((Blk.rb k228.2.1 (RB.trans er278 hq) (Nat.lt_of_lt_of_eq (Blk.lt k228.2.1) z222) (fun h => by cases h)).cells' 0 rfl))⟩) ?_
              refine r_take 25 (.int .i64 ((1 : Int) + t)) (RB.pre _ _) rfl (by kernel_rfl) (fun _ _ _ h => hQ.panic _ _ _ _ _ h) (.inl ⟨(by kernel_rfl), fun wq hq => (by kernel_rfl)⟩) ?_
              refine r_ready [26] (by kernel_rfl) rfl (all_cons ⟨_, _, _, _, _, _, rfl, ?_⟩ all_nil)
              refine o_call 42 #[(.agg #[(.string r29.Path), (.int .i64 r29.Stage), (.int .i64 r29.Mode), (.string r29.Data), (.int .i64 r29.Time), (.int .i64 r29.Size)]), (.agg #[(.int .i64 (3 : Int)), (.int .i64 ((1 : Int) + t)), (.int .i64 (0 : Int)), (.int .i64 (1 : Int))]), (.int .i64 ((1 : Int) + t))] (by kernel_rfl) (x_call Tryd.call42 (by kernel_rfl)) (stat_Fresh_w (X := []) (e := r29) (s := (S_simfs_Stat.mk (3 : Int) ((1 : Int) + t) (0 : Int) (1 : Int))) (written := (1 : Int) + t) (Old.nil _) zrPath33 rrStage34 rrMode35 zrData36 rrTime37 rrSize38 (by decide : inR .i64 (3 : Int)) h15 (by decide : inR .i64 (0 : Int)) (by decide : inR .i64 (1 : Int)) h15 hp) ?_
              rintro _ w283 ⟨r282, hp, e284, rfl⟩
              have rm := RB.mono (F' := []) e284 (Nat.le_trans (Nat.le_of_eq z222.symm) (RB.size er278)) (fun _ h => by cases h)
              have er286 := RB.trans er278 rm
              refine ⟨fun _ => rm, ?_⟩
              have s285 := Step.of0 X96 e284
              refine r_take 27 (.bool (!r282)) (RB.pre _ _) rfl (by kernel_rfl) (fun _ _ _ h => hQ.panic _ _ _ _ _ h) (.inl ⟨(by kernel_rfl), fun wq hq => (by kernel_rfl)⟩) ?_
              refine r_take 28 (.bool (!r282)) (RB.pre _ _) rfl (by kernel_rfl) (fun _ _ _ h => hQ.panic _ _ _ _ _ h) (.inl ⟨rfl, fun wq hq => (by kernel_rfl)⟩) ?_
              refine r_ready [29] (by kernel_rfl) rfl (all_cons ⟨_, _, _, _, _, _, rfl, ?_⟩ all_nil)
              refine o_pv (.bool (!r282)) rfl (by kernel_rfl) ?_
              refine ⟨fun h => absurd h (by decide), ?_⟩
              refine r_done (by kernel_rfl) ?_
              have E287 := (Evo.then0 (Evo.then0 (Evo.then0 E226 e253) e276) e284)
              have hXo288 := (Old.step (Old.step (Old.step hXo225 s254) s277) s285)
              have hS289 := (Sub.trans (Sub.trans (Sub.trans hS227 (Step.up s254)) (Step.up s277)) (Step.up s285))
              refine then_normal (hJ206 _ _ _ ⟨[(4, (.bool (!r282)))], fit_mk (fun _ _ => rfl) (by kernel_rfl) (vs_cons (by kernel_rfl) vs_nil), ?_⟩)
              exact ⟨X96, (!r282), rfl, E287, hXo288, hS289, hp⟩
          ·
            replace hp := hp.1 rfl
            refine r_take 9 (.bool false) (RB.pre _ _) rfl (by kernel_rfl) (fun _ _ _ h => hQ.panic _ _ _ _ _ h) (.inl ⟨rfl, fun wq hq => (by kernel_rfl)⟩) ?_
            refine r_take 10 (.bool false) (RB.pre _ _) rfl (by kernel_rfl) (fun _ _ _ h => hQ.panic _ _ _ _ _ h) (.inl ⟨rfl, fun wq hq => (by kernel_rfl)⟩) ?_
            refine r_take 11 undef (RB.pre _ _) rfl (by kernel_rfl) (fun _ _ _ h => hQ.panic _ _ _ _ _ h) (.inr ⟨by kernel_rfl, rfl⟩) ?_
            refine r_take 12 undef (RB.pre _ _) rfl (by kernel_rfl) (fun _ _ _ h => hQ.panic _ _ _ _ _ h) (.inr ⟨by kernel_rfl, rfl⟩) ?_
            refine r_take 13 undef (RB.pre _ _) rfl (by kernel_rfl) (fun _ _ _ h => hQ.panic _ _ _ _ _ h) (.inr ⟨by kernel_rfl, rfl⟩) ?_
            refine r_take 14 undef (RB.pre _ _) rfl (by kernel_rfl) (fun _ _ _ h => hQ.panic _ _ _ _ _ h) (.inr ⟨by kernel_rfl, rfl⟩) ?_
            refine r_take 15 undef (RB.pre _ _) rfl (by kernel_rfl) (fun _ _ _ h => hQ.panic _ _ _ _ _ h) (.inr ⟨by kernel_rfl, rfl⟩) ?_
            refine r_take 16 undef (RB.pre _ _) rfl (by kernel_rfl) (fun _ _ _ h => hQ.panic _ _ _ _ _ h) (.inr ⟨by kernel_rfl, rfl⟩) ?_
            refine r_take 17 undef (RB.pre _ _) rfl (by kernel_rfl) (fun _ _ _ h => hQ.panic _ _ _ _ _ h) (.inr ⟨by kernel_rfl, rfl⟩) ?_
            refine r_take 18 undef (RB.pre _ _) rfl (by kernel_rfl) (fun _ _ _ h => hQ.panic _ _ _ _ _ h) (.inr ⟨by kernel_rfl, rfl⟩) ?_
            refine r_take 19 undef (RB.pre _ _) rfl (by kernel_rfl) (fun _ _ _ h => hQ.panic _ _ _ _ _ h) (.inr ⟨by kernel_rfl, rfl⟩) ?_
            refine r_take 20 undef (RB.pre _ _) rfl (by kernel_rfl) (fun _ _ _ h => hQ.panic _ _ _ _ _ h) (.inr ⟨by kernel_rfl, rfl⟩) ?_
            refine r_take 21 (.bool false) (RB.pre _ _) rfl (by kernel_rfl) (fun _ _ _ h => hQ.panic _ _ _ _ _ h) (.inl ⟨rfl, fun wq hq => (by kernel_rfl)⟩) ?_
            refine r_take 22 (.bool false) (RB.pre _ _) rfl (by kernel_rfl) (fun _ _ _ h => hQ.panic _ _ _ _ _ h) (.inl ⟨rfl, fun wq hq => (by kernel_rfl)⟩) ?_
            refine r_take 23 undef (RB.pre _ _) rfl (by kernel_rfl) (fun _ _ _ h => hQ.panic _ _ _ _ _ h) (.inr ⟨by kernel_rfl, rfl⟩) ?_
            refine r_take 24 undef (RB.pre _ _) rfl (by kernel_rfl) (fun _ _ _ h => hQ.panic _ _ _ _ _ h) (.inr ⟨by kernel_rfl, rfl⟩) ?_
            refine r_take 25 undef (RB.pre _ _) rfl (by kernel_rfl) (fun _ _ _ h => hQ.panic _ _ _ _ _ h) (.inr ⟨by kernel_rfl, rfl⟩) ?_
            refine r_take 26 undef (RB.pre _ _) rfl (by kernel_rfl) (fun _ _ _ h => hQ.panic _ _ _ _ _ h) (.inr ⟨by kernel_rfl, rfl⟩) ?_
            refine r_take 27 undef (RB.pre _ _) rfl (by kernel_rfl) (fun _ _ _ h => hQ.panic _ _ _ _ _ h) (.inr ⟨by kernel_rfl, rfl⟩) ?_
            refine r_take 28 (.bool false) (RB.pre _ _) rfl (by kernel_rfl) (fun _ _ _ h => hQ.panic _ _ _ _ _ h) (.inl ⟨rfl, fun wq hq => (by kernel_rfl)⟩) ?_
            refine r_ready [29] (by kernel_rfl) rfl (all_cons ⟨_, _, _, _, _, _, rfl, ?_⟩ all_nil)
            refine o_pv (.bool false) rfl (by kernel_rfl) ?_
            refine ⟨fun h => absurd h (by decide), ?_⟩
            refine r_done (by kernel_rfl) ?_
            have E290 := (Evo.then0 E226 e253)
            have hXo291 := (Old.step hXo225 s254)
            have hS292 := (Sub.trans hS227 (Step.up s254))
            refine then_normal (hJ206 _ _ _ ⟨[(4, (.bool false))], fit_mk (fun _ _ => rfl) (by kernel_rfl) (vs_cons (by kernel_rfl) vs_nil), ?_⟩)
            exact ⟨X96, false, rfl, E290, hXo291, hS292, hp⟩
        ·
          rintro _ w203 g293 ⟨X204, s200, rfl, E216, hXo217, hS218, hv207⟩
          replace hp := hk202 s200 hv207
          refine then_normal (K126 _ _ _ _ ?_)
          refine wp_ret ?_
          refine end_ret hQ (.bool s200) (by kernel_rfl) ?_
          exact ⟨s200, hp, E216, rfl⟩

def simfs_FS_Tick_p (f_ : S_simfs_FS) (Q : S_simfs_FS → Prop) : Prop :=
  ((f_.pending.length ≤ 9223372036854775807) → ((inR .i64 f_.quota) → ((inR .i64 f_.now) → ((inR .i64 f_.inodes) → ((inR .i64 f_.ops_) → ((inR .i64 f_.left) → ((f_.keep.length ≤ 9223372036854775807) → ((inR .i64 (f_.now + (1 : Int))) ∧ Q (S_simfs_FS.mk f_.kept f_.files f_.pending f_.quota (f_.now + (1 : Int)) f_.inodes f_.ops_ f_.off f_.armed f_.left f_.keep)))))))))
set_option maxRecDepth 20000 in
set_option maxHeartbeats 4000000 in
theorem simfs_FS_Tick_w {X : List Nat} {w : World} {f_ : S_simfs_FS} {bf_1 : Nat} {Ff_2 : List Nat} {Q : S_simfs_FS → Prop} (hX0 : Old X w) (mf_3 : MO o_simfs_FS 153 Ff_2 w.heap.size X w Ff_2 bf_1 f_) (hp : simfs_FS_Tick_p f_ Q) :
    Calls Tryd.prog 46 #[(.pointer (some ⟨bf_1, 0, none⟩))] w (Ret fun v w' => ∃ (m0 : S_simfs_FS), Q m0 ∧ ∃ (X' : List Nat) (Fm0 : List Nat), Step X w Ff_2 X' w' ∧ v = .tuple #[] ∧ MO o_simfs_FS 153 Ff_2 w.heap.size X' w' Fm0 bf_1 m0) := by
  have hXo := hX0
  have E0 : Evo Ff_2 w w := RB.refl _ _ _
  have hS : Sub X X := Sub.refl _
  have hN : News X w X w := News.refl _ _
  have hF0 : Sub Ff_2 X := MO.mem mf_3
  unfold simfs_FS_Tick_p at hp
  refine enter_ Tryd.func46 rfl 9 [(0, (.pointer (some ⟨bf_1, 0, none⟩)))] (by kernel_rfl) (fun Qe hQ => ?_)
  refine reg_ ?_
  refine sq (o_pv (.pointer (some ⟨bf_1, 0, none⟩)) rfl (by kernel_rfl) ?_)
  refine sq (o_pv (.pointer (some ⟨bf_1, 0, none⟩)) rfl (by kernel_rfl) ?_)
  obtain ⟨rokept4, rofiles6, ao8, no9, co10, aokeep17, cokeep18, k20, mokept5, mofiles7, Oo11, roquota12, ronow13, roinodes14, roops_15, roleft16, hokeep19, sb21, sb22, sb23, sb24, p25, p26, p27, p28, p29, p30⟩ := o_simfs_FS_open mf_3
  replace hp := hp (OS.len Oo11)
  replace hp := hp roquota12
  replace hp := hp ronow13
  replace hp := hp roinodes14
  replace hp := hp roops_15
  replace hp := hp roleft16
  replace hp := hp (Sl.len hokeep19)
  refine sq (o_pv (.pointer (some ⟨bf_1, 4, none⟩)) rfl (by kernel_rfl) ?_)
  refine sq (o_pv (.int .i64 f_.now) rfl (x_load1 (by kernel_rfl) Tryd.isAgg3 (k20.2.1.cell' 4 rfl)) ?_)
  obtain ⟨h31, hp⟩ := hp
  refine sq (o_pv (.int .i64 (f_.now + (1 : Int))) rfl (x_add2 (k := .i64) (a := f_.now) (b := (1 : Int)) (f_.now + (1 : Int)) (by kernel_rfl) (by kernel_rfl) (wrap_inR h31)) ?_)
  refine sq (o_pv (.pointer (some ⟨bf_1, 0, none⟩)) rfl (by kernel_rfl) ?_)
  refine sq (o_pv (.pointer (some ⟨bf_1, 4, none⟩)) rfl (by kernel_rfl) ?_)
  refine sq (o_stB (o := 4) (v := (.int .i64 (f_.now + (1 : Int)))) [(.map (some rokept4)), (.map (some rofiles6)), (.slice ao8 no9 co10), (.int .i64 f_.quota), (.int .i64 (f_.now + (1 : Int))), (.int .i64 f_.inodes), (.int .i64 f_.ops_), (.bool f_.off), (.bool f_.armed), (.int .i64 f_.left), (.slice aokeep17 f_.keep.length cokeep18)] rfl k20 (by kernel_rfl) (by kernel_rfl) Tryd.sizeOf3 rfl rfl rfl ?_)
  intro w32 s33 k34
  refine nil_ ?_
  have hXo35 := (Old.step hXo s33)
  have E36 := (Evo.thenW E0 (Step.evo s33) k20.2.2)
  have hS37 := (Sub.trans hS (Step.up s33))
  have hN38 := (News.step hN s33)
  have mokept39 := (OM.step mokept5 s33 (Ap.symm p25))
  have mofiles40 := (OM.step mofiles7 s33 (Ap.symm p26))
  have Oo41 := (OS.step Oo11 s33 (Ap.symm p27))
  have hokeep42 := (Sl.step hokeep19 s33)
  obtain ⟨F43, m44, hs45⟩ := MO.pack (o_simfs_FS_mk k34 mokept39 mofiles40 Oo41 roquota12 h31 roinodes14 roops_15 roleft16 hokeep42 rfl p25 p26 p27 p28 p29 p30)
  refine end_normal hQ (.tuple #[]) (by kernel_rfl) ?_
  exact ⟨(S_simfs_FS.mk f_.kept f_.files f_.pending f_.quota (f_.now + (1 : Int)) f_.inodes f_.ops_ f_.off f_.armed f_.left f_.keep), hp, X, F43, step_of E36 hF0 hS37 hN38, rfl, m44⟩

def simfs_FS_Now_p (f_ : S_simfs_FS) (Q : S_simfs_FS → Int → Prop) : Prop :=
  ((f_.pending.length ≤ 9223372036854775807) → ((inR .i64 f_.quota) → ((inR .i64 f_.now) → ((inR .i64 f_.inodes) → ((inR .i64 f_.ops_) → ((inR .i64 f_.left) → ((f_.keep.length ≤ 9223372036854775807) → Q f_ f_.now)))))))
set_option maxRecDepth 20000 in
set_option maxHeartbeats 4000000 in
theorem simfs_FS_Now_w {X : List Nat} {w : World} {f_ : S_simfs_FS} {bf_1 : Nat} {Ff_2 : List Nat} {Q : S_simfs_FS → Int → Prop} (hX0 : Old X w) (mf_3 : MO o_simfs_FS 153 Ff_2 w.heap.size X w Ff_2 bf_1 f_) (hp : simfs_FS_Now_p f_ Q) :
    Calls Tryd.prog 49 #[(.pointer (some ⟨bf_1, 0, none⟩))] w (Ret fun v w' => ∃ (m0 : S_simfs_FS) (r0 : Int), Q m0 r0 ∧ ∃ (X' : List Nat) (Fm0 : List Nat), Step X w Ff_2 X' w' ∧ v = (.int .i64 r0) ∧ MO o_simfs_FS 153 Ff_2 w.heap.size X' w' Fm0 bf_1 m0 ∧ inR .i64 r0) := by
  have hXo := hX0
  have E0 : Evo Ff_2 w w := RB.refl _ _ _
  have hS : Sub X X := Sub.refl _
  have hN : News X w X w := News.refl _ _
  have hF0 : Sub Ff_2 X := MO.mem mf_3
  unfold simfs_FS_Now_p at hp
  refine enter_ Tryd.func49 rfl 7 [(0, (.pointer (some ⟨bf_1, 0, none⟩)))] (by kernel_rfl) (fun Qe hQ => ?_)
  refine seq_ (fun _ K4 => ?_)
  refine reg_ ?_
  refine sq (o_pv (.int .i64 (0 : Int)) rfl (by kernel_rfl) ?_)
  refine nil_ ?_
  refine then_normal (K4 _ _ _ _ ?_)
  refine seq_ (fun _ K5 => ?_)
  refine reg_ ?_
  refine sq (o_pv (.pointer (some ⟨bf_1, 0, none⟩)) rfl (by kernel_rfl) ?_)
  refine sq (o_pv (.pointer (some ⟨bf_1, 0, none⟩)) rfl (by kernel_rfl) ?_)
  obtain ⟨rokept6, rofiles8, ao10, no11, co12, aokeep19, cokeep20, k22, mokept7, mofiles9, Oo13, roquota14, ronow15, roinodes16, roops_17, roleft18, hokeep21, sb23, sb24, sb25, sb26, p27, p28, p29, p30, p31, p32⟩ := o_simfs_FS_open mf_3
  replace hp := hp (OS.len Oo13)
  replace hp := hp roquota14
  replace hp := hp ronow15
  replace hp := hp roinodes16
  replace hp := hp roops_17
  replace hp := hp roleft18
  replace hp := hp (Sl.len hokeep21)
  refine sq (o_pv (.pointer (some ⟨bf_1, 4, none⟩)) rfl (by kernel_rfl) ?_)
  refine sq (o_pv (.int .i64 f_.now) rfl (x_load1 (by kernel_rfl) Tryd.isAgg3 (k22.2.1.cell' 4 rfl)) ?_)
  refine sq (o_pv (.int .i64 f_.now) rfl (by kernel_rfl) ?_)
  refine nil_ ?_
  refine then_normal (K5 _ _ _ _ ?_)
  refine wp_ret ?_
  obtain ⟨F33, m34, hs35⟩ := MO.pack (o_simfs_FS_mk k22 mokept7 mofiles9 Oo13 roquota14 ronow15 roinodes16 roops_17 roleft18 hokeep21 rfl p27 p28 p29 p30 p31 p32)
  refine end_ret hQ (.int .i64 f_.now) (by kernel_rfl) ?_
  exact ⟨f_, f_.now, hp, X, F33, step_of E0 hF0 hS hN, rfl, m34, ronow15⟩

def rectolaw18_StatNever_p (a : (List Int)) (b : (List Int)) (ahead : Int) (between : Int) (Q : Bool → Prop) : Prop :=
  ((a.length ≤ 9223372036854775807) → ((b.length ≤ 9223372036854775807) → ((inR .u8 ahead) → ((inR .u8 between) → (rectolaw18_known_p  (fun (r12 : Bool) => ((((!r12) = true) → Q false) ∧ (((!r12) = false) → ((((¬ ((a.length : Int) = (b.length : Int))) ∨ ((a.length : Int) > (100 : Int))) → Q true) ∧ ((¬ ((¬ ((a.length : Int) = (b.length : Int))) ∨ ((a.length : Int) > (100 : Int)))) → (simfs_New_p (0 : Int) (fun (r36 : S_simfs_FS) => (∃ (I89 : Int → S_simfs_FS → Prop) (m90 : Int → S_simfs_FS → Nat), (I89 (0 : Int) r36) ∧ (∀ (i66 : Int) (o68 : S_simfs_FS), (I89 i66 o68) → (inR .i64 i66) → (((i66 < (ahead % (5 : Int))) → (simfs_FS_Tick_p o68 (fun (f_114 : S_simfs_FS) => ((inR .i64 (i66 + (1 : Int))) ∧ ((I89 (i66 + (1 : Int)) f_114) ∧ m90 (i66 + (1 : Int)) f_114 < m90 i66 o68))))) ∧ ((¬ (i66 < (ahead % (5 : Int)))) → (simfs_FS_Edit_p o68 (ByteArray.mk #[97]) (1 : Int) a (fun (f_128 : S_simfs_FS) (r129 : Int) => ((inR .i64 r129) → (∃ (I182 : Int → S_simfs_FS → Prop) (m183 : Int → S_simfs_FS → Nat), (I182 (0 : Int) f_128) ∧ (∀ (i159 : Int) (o161 : S_simfs_FS), (I182 i159 o161) → (inR .i64 i159) → (((i159 < (between % (3 : Int))) → (simfs_FS_Tick_p o161 (fun (f_207 : S_simfs_FS) => ((inR .i64 (i159 + (1 : Int))) ∧ ((I182 (i159 + (1 : Int)) f_207) ∧ m183 (i159 + (1 : Int)) f_207 < m183 i159 o161))))) ∧ ((¬ (i159 < (between % (3 : Int)))) → (simfs_FS_Stat_p o161 (ByteArray.mk #[97]) (fun (f_221 : S_simfs_FS) (r222 : S_simfs_Stat) (r223 : Int) => ((inR .i64 r222.Size) → ((inR .i64 r222.Time) → ((inR .i64 r222.Inode) → ((inR .i64 r222.Mode) → ((inR .i64 r223) → (stat_Note_p (S_index_Entry.mk (ByteArray.mk #[97]) (0 : Int) (1 : Int) (strOfNums a) (0 : Int) (0 : Int)) r222 (fun (r251 : S_index_Entry) => ((r251.Path.size ≤ maxLen) → ((inR .i64 r251.Stage) → ((inR .i64 r251.Mode) → ((r251.Data.size ≤ maxLen) → ((inR .i64 r251.Time) → ((inR .i64 r251.Size) → (simfs_FS_Now_p f_221 (fun (f_286 : S_simfs_FS) (r287 : Int) => ((inR .i64 r287) → (simfs_FS_Edit_p f_286 (ByteArray.mk #[97]) (1 : Int) b (fun (f_305 : S_simfs_FS) (r306 : Int) => ((inR .i64 r306) → (stat_Changed_p f_305 ([r251]) r287 (fun (f_350 : S_simfs_FS) (r351 : (List ByteArray)) (r352 : Int) (r353 : Int) => ((r351.length ≤ 9223372036854775807) → ((inR .i64 r352) → ((inR .i64 r353) → (((inR .i64 (r223 + r353)) ∧ ((((r223 + r353) = (0 : Int)) → True) ∧ ((¬ ((r223 + r353) = (0 : Int))) → True))) ∧ Q (decide (((r223 + r353) = (0 : Int)) ∧ (((decide ((r351.length : Int) = (1 : Int))) : Bool) = (!decide ((strOfNums a : ByteArray) = strOfNums b)))))))))))))))))))))))))))))))))))))))))))))))))))))))
set_option maxRecDepth 20000 in
set_option maxHeartbeats 4000000 in
theorem rectolaw18_StatNever_w {X : List Nat} {w : World} {a : (List Int)} {b : (List Int)} {ahead : Int} {between : Int} {aa1 : Option Addr} {ca2 : Nat} {ab4 : Option Addr} {cb5 : Nat} {Q : Bool → Prop} (hX0 : Old X w) (ha3 : Sl (rInt .u8) X w aa1 ca2 a) (hb6 : Sl (rInt .u8) X w ab4 cb5 b) (rahead7 : inR .u8 ahead) (rbetween8 : inR .u8 between) (hp : rectolaw18_StatNever_p a b ahead between Q) :
    Calls Tryd.prog 10 #[(.slice aa1 a.length ca2), (.slice ab4 b.length cb5), (.int .u8 ahead), (.int .u8 between)] w (Ret fun v w' => ∃ (r0 : Bool), Q r0 ∧ Evo [] w w' ∧ v = (.bool r0)) := by
  have hXo := hX0
  have E0 : Evo [] w w := RB.refl _ _ _
  have hS : Sub X X := Sub.refl _
  unfold rectolaw18_StatNever_p at hp
  refine enter_ Tryd.func10 rfl 92 [(0, (.slice aa1 a.length ca2)), (1, (.slice ab4 b.length cb5)), (2, (.int .u8 ahead)), (3, (.int .u8 between))] (by kernel_rfl) (fun Qe hQ => ?_)
  replace hp := hp (Sl.len ha3)
  replace hp := hp (Sl.len hb6)
  replace hp := hp rahead7
  replace hp := hp rbetween8
  refine seq_ (fun _ K9 => ?_)
  refine reg_ ?_
  refine sq (o_pv (.bool false) rfl (by kernel_rfl) ?_)
  refine nil_ ?_
  refine then_normal (K9 _ _ _ _ ?_)
  refine seq_ (fun _ K10 => ?_)
  refine seq_ (fun _ K11 => ?_)
  refine reg_ ?_
  refine sq (o_call 41 #[] rfl (x_call Tryd.call41 (by kernel_rfl)) (rectolaw18_known_w (X := [])  (Old.nil _) hp) ?_)
  rintro _ w13 ⟨r12, hp, e14, rfl⟩
  have s15 := Step.of0 X e14
  refine sq (o_pv (.bool (!r12)) rfl (by kernel_rfl) ?_)
  refine nil_ ?_
  refine then_normal (K11 _ _ _ _ ?_)
  refine cond_b (!r12) (by kernel_rfl) (fun h16 => ?_) (fun h16 => ?_)
  ·
    replace hp := hp.1 h16
    refine seq_ (fun _ K17 => ?_)
    refine reg_ ?_
    refine sq (o_pv (.bool false) rfl (by kernel_rfl) ?_)
    refine nil_ ?_
    refine then_normal (K17 _ _ _ _ ?_)
    refine wp_ret ?_
    refine then_ret ?_
    have E18 := (Evo.then0 E0 e14)
    refine end_ret hQ (.bool false) (by kernel_rfl) ?_
    exact ⟨false, hp, E18, rfl⟩
  ·
    replace hp := hp.2 h16
    refine wp_skip ?_
    refine then_normal (K10 _ _ _ _ ?_)
    refine seq_ (fun _ K19 => ?_)
    refine seq_ (fun _ K20 => ?_)
    refine ground_ ?_
    refine join_ 2145386496 (fun lq w24 => lq = [(30, (.bool (decide ((¬ ((a.length : Int) = (b.length : Int))) ∨ ((a.length : Int) > (100 : Int))))))] ∧ w13 = w24) (fun Kj22 hJ23 => ?_) ?_
    ·
      refine reg_ ?_
      refine sq (o_pv (.slice aa1 a.length ca2) rfl (by kernel_rfl) ?_)
      refine sq (o_pv (.int .i64 (a.length : Int)) rfl (by kernel_rfl) ?_)
      refine sq (o_pv (.slice ab4 b.length cb5) rfl (by kernel_rfl) ?_)
      refine sq (o_pv (.int .i64 (b.length : Int)) rfl (by kernel_rfl) ?_)
      by_cases h26 : (a.length : Int) = (b.length : Int)
      ·
        refine sq (o_pv (.bool false) rfl (x_ndf (p := (a.length : Int) = (b.length : Int)) (by kernel_rfl) h26) ?_)
        refine sq (o_pv (.bool false) rfl (by kernel_rfl) ?_)
        refine sq (o_pv (.slice aa1 a.length ca2) (by kernel_rfl) (by kernel_rfl) ?_)
        refine sq (o_pv (.int .i64 (a.length : Int)) (by kernel_rfl) (by kernel_rfl) ?_)
        refine sq (o_pv (.bool (decide ((a.length : Int) > (100 : Int)))) (by kernel_rfl) (by kernel_rfl) ?_)
        refine sq (o_pv (.bool (decide ((a.length : Int) > (100 : Int)))) rfl (by kernel_rfl) ?_)
        refine nil_ ?_
        refine then_normal (hJ23 _ _ _ ⟨[(30, (.bool (decide ((¬ ((a.length : Int) = (b.length : Int))) ∨ ((a.length : Int) > (100 : Int))))))], fit_mk (fun _ _ => rfl) (by kernel_rfl) (vs_cons (Eq.trans (b := (.bool (decide ((a.length : Int) > (100 : Int))))) (by kernel_rfl) (dec_d ((or_iff_right (fun h1 => h1 h26)).trans Iff.rfl)).symm) vs_nil), rfl, rfl⟩)
      ·
        refine sq (o_pv (.bool true) rfl (x_ndt (p := (a.length : Int) = (b.length : Int)) (by kernel_rfl) h26) ?_)
        refine sq (o_pv (.bool true) rfl (by kernel_rfl) ?_)
        refine sq (o_not (by kernel_rfl) ?_)
        refine sq (o_not (by kernel_rfl) ?_)
        refine sq (o_not (by kernel_rfl) ?_)
        refine sq (o_pv (.bool true) rfl (by kernel_rfl) ?_)
        refine nil_ ?_
        refine then_normal (hJ23 _ _ _ ⟨[(30, (.bool (decide ((¬ ((a.length : Int) = (b.length : Int))) ∨ ((a.length : Int) > (100 : Int))))))], fit_mk (fun _ _ => rfl) (by kernel_rfl) (vs_cons (Eq.trans (b := (.bool true)) (by kernel_rfl) (dec_t (iff_true_intro (Or.inl h26))).symm) vs_nil), rfl, rfl⟩)
    ·
      rintro _ w24 g25 ⟨rfl, hw⟩
      subst hw
      refine then_normal (K20 _ _ _ _ ?_)
      refine cond_d ((¬ ((a.length : Int) = (b.length : Int))) ∨ ((a.length : Int) > (100 : Int))) (by kernel_rfl) (fun h27 => ?_) (fun h27 => ?_)
      ·
        replace hp := hp.1 h27
        refine seq_ (fun _ K28 => ?_)
        refine reg_ ?_
        refine sq (o_pv (.bool true) rfl (by kernel_rfl) ?_)
        refine nil_ ?_
        refine then_normal (K28 _ _ _ _ ?_)
        refine wp_ret ?_
        refine then_ret ?_
        have E29 := (Evo.then0 E0 e14)
        refine end_ret hQ (.bool true) (by kernel_rfl) ?_
        exact ⟨true, hp, E29, rfl⟩
      ·
        replace hp := hp.2 h27
        refine wp_skip ?_
        refine then_normal (K19 _ _ _ _ ?_)
        refine seq_ (fun _ K30 => ?_)
        refine reg_ ?_
        have ha31 := (Sl.step ha3 s15)
        have hb32 := (Sl.step hb6 s15)
        have hXo33 := (Old.step hXo s15)
        have E34 := (Evo.then0 E0 e14)
        have hS35 := (Sub.trans hS (Step.up s15))
        refine sq (o_call 45 #[(.int .i64 (0 : Int))] rfl (x_call Tryd.call45 (by kernel_rfl)) (simfs_New_w (X := X) (quota := (0 : Int)) hXo33 (by decide : inR .i64 (0 : Int)) hp) ?_)
        rintro _ w37 ⟨r36, hp, X38, br40, Fr41, s39, rfl, mr42⟩
        have m43 := MO.re mr42 (Wr.trans mr42.wr (Wr.nil [] _) E34.size)
        refine sq (o_pv (.pointer (some ⟨br40, 0, none⟩)) rfl (by kernel_rfl) ?_)
        refine nil_ ?_
        refine then_normal (K30 _ _ _ _ ?_)
        refine seq_ (fun _ K44 => ?_)
        refine seq_ (fun _ K45 => ?_)
        refine reg_ ?_
        refine sq (o_pv (.int .i64 (0 : Int)) rfl (by kernel_rfl) ?_)
        refine nil_ ?_
        refine then_normal (K45 _ _ _ _ ?_)
        refine wp_block ?_
        have ha99 := (Sl.step ha31 s39)
        have hb100 := (Sl.step hb32 s39)
        have hXo101 := (Old.step hXo33 s39)
        have E102 := (Evo.then0 E34 (Step.evo s39))
        have hS103 := (Sub.trans hS35 (Step.up s39))
        obtain ⟨I89, m90, hI91, hp⟩ := hp
        refine loop_ 2194728289280 (fun kq lq w93 => ∃ (X94 : List Nat) (i66 : Int) (o68 : S_simfs_FS) (F69 : List Nat), (lq = [(10, (.int .i64 i66))]) ∧ (kq = m90 i66 o68) ∧ (Evo [] w w93) ∧ (Old X94 w93) ∧ (Sub X X94) ∧ (Sl (rInt .u8) X94 w93 aa1 ca2 a) ∧ (Sl (rInt .u8) X94 w93 ab4 cb5 b) ∧ (MO o_simfs_FS 153 ([]) w.heap.size X94 w93 F69 br40 o68) ∧ (inR .i64 i66) ∧ (I89 i66 o68)) (m90 (0 : Int) r36) [(10, (.int .i64 (0 : Int)))] (vs_cons (by kernel_rfl) vs_nil) ⟨X38, (0 : Int), r36, Fr41, rfl, rfl, E102, hXo101, hS103, ha99, hb100, m43, (by decide : inR .i64 (0 : Int)), hI91⟩ ?_
        rintro _ _ w93 g96 ⟨X94, i66, o68, F69, rfl, rfl, E104, hXo105, hS106, ha107, hb108, m70, ri67, hI92⟩ Kl97 hA98
        replace hp := hp i66 o68 hI92 ri67
        refine seq_ (fun _ K109 => ?_)
        refine seq_ (fun _ K110 => ?_)
        refine reg_ ?_
        refine sq (o_pv (.int .i64 i66) rfl (by kernel_rfl) ?_)
        refine sq (o_pv (.int .u8 ahead) rfl (by kernel_rfl) ?_)
        refine sq (o_pv (.int .u8 (ahead % (5 : Int))) rfl (x_rem2 (k := .u8) (a := ahead) (b := (5 : Int)) (ahead % (5 : Int)) (by kernel_rfl) (by kernel_rfl) (inR_nn rahead7) (by decide) rfl (wrap_inR (inR_rem (inR_nn rahead7) (by decide) rahead7 (by decide : inR .u8 (5 : Int))))) ?_)
        have r111 : inR .i64 (ahead % (5 : Int)) := inR_up (by decide) (by decide) (inR_rem (inR_nn rahead7) (by decide) rahead7 (by decide : inR .u8 (5 : Int)))
        refine sq (o_pv (.int .i64 (ahead % (5 : Int))) rfl (x_conv (k := .u8) Tryd.underlying5 Tryd.underlying3 (by kernel_rfl) (wrap_inR r111)) ?_)
        refine sq (o_pv (.bool (decide (i66 < (ahead % (5 : Int))))) rfl (by kernel_rfl) ?_)
        refine nil_ ?_
        refine then_normal (K110 _ _ _ _ ?_)
        refine cond_d (i66 < (ahead % (5 : Int))) (by kernel_rfl) (fun h112 => ?_) (fun h112 => ?_)
        ·
          replace hp := hp.1 h112
          refine wp_skip ?_
          refine then_normal (K109 _ _ _ _ ?_)
          refine seq_ (fun _ K113 => ?_)
          refine wp_block ?_
          refine reg_ ?_
          refine sq (o_pv (.pointer (some ⟨br40, 0, none⟩)) rfl (by kernel_rfl) ?_)
          refine sq (o_call 46 #[(.pointer (some ⟨br40, 0, none⟩))] rfl (x_call Tryd.call46 (by kernel_rfl)) (simfs_FS_Tick_w (X := X94) (f_ := o68) hXo105 (MO.re m70 (Wr.self _ _ (Sub.refl _))) hp) ?_)
          rintro _ w115 ⟨f_114, hp, X116, F118, s117, rfl, m119⟩
          have m120 := MO.re m119 (Wr.trans m119.wr m70.wr E104.size)
          refine nil_ ?_
          refine blk_normal ?_
          refine then_normal (K113 _ _ _ _ ?_)
          refine reg_ ?_
          refine sq (o_pv (.int .i64 i66) rfl (by kernel_rfl) ?_)
          obtain ⟨h121, hp⟩ := hp
          refine sq (o_pv (.int .i64 (i66 + (1 : Int))) rfl (x_add2 (k := .i64) (a := i66) (b := (1 : Int)) (i66 + (1 : Int)) (by kernel_rfl) (by kernel_rfl) (wrap_inR h121)) ?_)
          refine sq (o_pv (.int .i64 (i66 + (1 : Int))) rfl (by kernel_rfl) ?_)
          refine nil_ ?_
          have E122 := (Evo.thenW E104 (Step.evo s117) m70.wr)
          have hXo123 := (Old.step hXo105 s117)
          have hS124 := (Sub.trans hS106 (Step.up s117))
          have ha125 := (Sl.step ha107 s117)
          have hb126 := (Sl.step hb108 s117)
          refine then_normal (hA98 _ _ _ ⟨_, [(10, (.int .i64 (i66 + (1 : Int))))], hp.2, fit_mk (AgB.mix _ _ _) (by kernel_rfl) (vs_cons (by kernel_rfl) vs_nil), ?_⟩)
          exact ⟨X116, (i66 + (1 : Int)), f_114, F118, rfl, rfl, E122, hXo123, hS124, ha125, hb126, m120, h121, hp.1⟩
        ·
          replace hp := hp.2 h112
          refine wp_exit ?_
          refine then_exit ?_
          refine then_exit ?_
          refine blk_exit ?_
          refine then_normal (K44 _ _ _ _ ?_)
          refine seq_ (fun _ K127 => ?_)
          refine reg_ ?_
          refine sq (o_pv (.pointer (some ⟨br40, 0, none⟩)) rfl (by kernel_rfl) ?_)
          refine sq (o_pv (.slice aa1 a.length ca2) rfl (by kernel_rfl) ?_)
          refine sq (o_call 47 #[(.pointer (some ⟨br40, 0, none⟩)), (.string (ByteArray.mk #[97])), (.int .i64 (1 : Int)), (.slice aa1 a.length ca2)] rfl (x_call Tryd.call47 (by kernel_rfl)) (simfs_FS_Edit_w (X := X94) (f_ := o68) (p := (ByteArray.mk #[97])) (mode := (1 : Int)) (b := a) hXo105 (MO.re m70 (Wr.self _ _ (Sub.refl _))) (by decide : (ByteArray.mk #[97]).size ≤ maxLen) (by decide : inR .i64 (1 : Int)) ha107 hp) ?_)
          rintro _ w130 ⟨f_128, r129, hp, X131, F133, s132, rfl, m134, rr135⟩
          have m136 := MO.re m134 (Wr.trans m134.wr m70.wr E104.size)
          replace hp := hp rr135
          refine nil_ ?_
          refine then_normal (K127 _ _ _ _ ?_)
          refine seq_ (fun _ K137 => ?_)
          refine seq_ (fun _ K138 => ?_)
          refine reg_ ?_
          refine sq (o_pv (.int .i64 (0 : Int)) rfl (by kernel_rfl) ?_)
          refine nil_ ?_
          refine then_normal (K138 _ _ _ _ ?_)
          refine wp_block ?_
          have E192 := (Evo.thenW E104 (Step.evo s132) m70.wr)
          have hXo193 := (Old.step hXo105 s132)
          have hS194 := (Sub.trans hS106 (Step.up s132))
          have ha195 := (Sl.step ha107 s132)
          have hb196 := (Sl.step hb108 s132)
          obtain ⟨I182, m183, hI184, hp⟩ := hp
          refine loop_ 8989607068698624 (fun kq lq w186 => ∃ (X187 : List Nat) (i159 : Int) (o161 : S_simfs_FS) (F162 : List Nat), (lq = [(11, (.int .i64 i159))]) ∧ (kq = m183 i159 o161) ∧ (Evo [] w w186) ∧ (Old X187 w186) ∧ (Sub X X187) ∧ (Sl (rInt .u8) X187 w186 aa1 ca2 a) ∧ (Sl (rInt .u8) X187 w186 ab4 cb5 b) ∧ (MO o_simfs_FS 153 ([]) w.heap.size X187 w186 F162 br40 o161) ∧ (inR .i64 i159) ∧ (I182 i159 o161)) (m183 (0 : Int) f_128) [(11, (.int .i64 (0 : Int)))] (vs_cons (by kernel_rfl) vs_nil) ⟨X131, (0 : Int), f_128, F133, rfl, rfl, E192, hXo193, hS194, ha195, hb196, m136, (by decide : inR .i64 (0 : Int)), hI184⟩ ?_
          rintro _ _ w186 g189 ⟨X187, i159, o161, F162, rfl, rfl, E197, hXo198, hS199, ha200, hb201, m163, ri160, hI185⟩ Kl190 hA191
          replace hp := hp i159 o161 hI185 ri160
          refine seq_ (fun _ K202 => ?_)
          refine seq_ (fun _ K203 => ?_)
          refine reg_ ?_
          refine sq (o_pv (.int .i64 i159) rfl (by kernel_rfl) ?_)
          refine sq (o_pv (.int .u8 between) rfl (by kernel_rfl) ?_)
          refine sq (o_pv (.int .u8 (between % (3 : Int))) rfl (x_rem2 (k := .u8) (a := between) (b := (3 : Int)) (between % (3 : Int)) (by kernel_rfl) (by kernel_rfl) (inR_nn rbetween8) (by decide) rfl (wrap_inR (inR_rem (inR_nn rbetween8) (by decide) rbetween8 (by decide : inR .u8 (3 : Int))))) ?_)
          have r204 : inR .i64 (between % (3 : Int)) := inR_up (by decide) (by decide) (inR_rem (inR_nn rbetween8) (by decide) rbetween8 (by decide : inR .u8 (3 : Int)))
          refine sq (o_pv (.int .i64 (between % (3 : Int))) rfl (x_conv (k := .u8) Tryd.underlying5 Tryd.underlying3 (by kernel_rfl) (wrap_inR r204)) ?_)
          refine sq (o_pv (.bool (decide (i159 < (between % (3 : Int))))) rfl (by kernel_rfl) ?_)
          refine nil_ ?_
          refine then_normal (K203 _ _ _ _ ?_)
          refine cond_d (i159 < (between % (3 : Int))) (by kernel_rfl) (fun h205 => ?_) (fun h205 => ?_)
          ·
            replace hp := hp.1 h205
            refine wp_skip ?_
            refine then_normal (K202 _ _ _ _ ?_)
            refine seq_ (fun _ K206 => ?_)
            refine wp_block ?_
            refine reg_ ?_
            refine sq (o_pv (.pointer (some ⟨br40, 0, none⟩)) rfl (by kernel_rfl) ?_)
            refine sq (o_call 46 #[(.pointer (some ⟨br40, 0, none⟩))] rfl (x_call Tryd.call46 (by kernel_rfl)) (simfs_FS_Tick_w (X := X187) (f_ := o161) hXo198 (MO.re m163 (Wr.self _ _ (Sub.refl _))) hp) ?_)
            rintro _ w208 ⟨f_207, hp, X209, F211, s210, rfl, m212⟩
            have m213 := MO.re m212 (Wr.trans m212.wr m163.wr E197.size)
            refine nil_ ?_
            refine blk_normal ?_
            refine then_normal (K206 _ _ _ _ ?_)
            refine reg_ ?_
            refine sq (o_pv (.int .i64 i159) rfl (by kernel_rfl) ?_)
            obtain ⟨h214, hp⟩ := hp
            refine sq (o_pv (.int .i64 (i159 + (1 : Int))) rfl (x_add2 (k := .i64) (a := i159) (b := (1 : Int)) (i159 + (1 : Int)) (by kernel_rfl) (by kernel_rfl) (wrap_inR h214)) ?_)
            refine sq (o_pv (.int .i64 (i159 + (1 : Int))) rfl (by kernel_rfl) ?_)
            refine nil_ ?_
            have E215 := (Evo.thenW E197 (Step.evo s210) m163.wr)
            have hXo216 := (Old.step hXo198 s210)
            have hS217 := (Sub.trans hS199 (Step.up s210))
            have ha218 := (Sl.step ha200 s210)
            have hb219 := (Sl.step hb201 s210)
            refine then_normal (hA191 _ _ _ ⟨_, [(11, (.int .i64 (i159 + (1 : Int))))], hp.2, fit_mk (AgB.mix _ _ _) (by kernel_rfl) (vs_cons (by kernel_rfl) vs_nil), ?_⟩)
            exact ⟨X209, (i159 + (1 : Int)), f_207, F211, rfl, rfl, E215, hXo216, hS217, ha218, hb219, m213, h214, hp.1⟩
          ·
            replace hp := hp.2 h205
            refine wp_exit ?_
            refine then_exit ?_
            refine then_exit ?_
            refine blk_exit ?_
            refine then_normal (K137 _ _ _ _ ?_)
            refine seq_ (fun _ K220 => ?_)
            refine reg_ ?_
            refine sq (o_pv (.pointer (some ⟨br40, 0, none⟩)) rfl (by kernel_rfl) ?_)
            refine sq (o_call 48 #[(.pointer (some ⟨br40, 0, none⟩)), (.string (ByteArray.mk #[97]))] rfl (x_call Tryd.call48 (by kernel_rfl)) (simfs_FS_Stat_w (X := X187) (f_ := o161) (p := (ByteArray.mk #[97])) hXo198 (MO.re m163 (Wr.self _ _ (Sub.refl _))) (by decide : (ByteArray.mk #[97]).size ≤ maxLen) hp) ?_)
            rintro _ w224 ⟨f_221, r222, r223, hp, X225, F227, s226, rfl, m228, rrSize229, rrTime230, rrInode231, rrMode232, rr233⟩
            have m234 := MO.re m228 (Wr.trans m228.wr m163.wr E197.size)
            replace hp := hp rrSize229
            replace hp := hp rrTime230
            replace hp := hp rrInode231
            replace hp := hp rrMode232
            replace hp := hp rr233
            refine sq (o_pv (.tuple #[(.agg #[(.int .i64 r222.Size), (.int .i64 r222.Time), (.int .i64 r222.Inode), (.int .i64 r222.Mode)]), (.int .i64 r223)]) rfl (by kernel_rfl) ?_)
            refine sq (o_pv (.agg #[(.int .i64 r222.Size), (.int .i64 r222.Time), (.int .i64 r222.Inode), (.int .i64 r222.Mode)]) rfl (by kernel_rfl) ?_)
            refine sq (o_pv (.int .i64 r223) rfl (by kernel_rfl) ?_)
            have E241 := (Evo.thenW E197 (Step.evo s226) m163.wr)
            refine sq (o_newX [(.int .i64 (0 : Int)), (.int .i64 (0 : Int)), (.int .i64 (0 : Int)), (.int .i64 (0 : Int))] 84 (X := X225) (B := w.heap.size) E241.size rfl (by kernel_rfl) ?_)
            intro b235 w236 X237 s238 k239 n240
            have p242 := n240 _ (MO.old m234)
            have m243 := (MO.step0 m234 s238)
            have E244 := (Evo.then0 E241 (Step.evo s238))
            refine sq (o_stB (o := 0) (v := (.agg #[(.int .i64 r222.Size), (.int .i64 r222.Time), (.int .i64 r222.Inode), (.int .i64 r222.Mode)])) [(.int .i64 r222.Size), (.int .i64 r222.Time), (.int .i64 r222.Inode), (.int .i64 r222.Mode)] rfl k239 (by kernel_rfl) (by kernel_rfl) Tryd.sizeOf84 rfl rfl rfl ?_)
            intro w245 s246 k247
            refine sq (o_pv (.int .i64 r223) rfl (by kernel_rfl) ?_)
            refine nil_ ?_
            refine then_normal (K220 _ _ _ _ ?_)
            refine seq_ (fun _ K248 => ?_)
            refine reg_ ?_
            refine sq (o_pv (.slice aa1 a.length ca2) rfl (by kernel_rfl) ?_)
            have ha250 := (Sl.step (Sl.step (Sl.step ha200 s226) s238) s246)
            have hl249 := Sl.len ha250
            refine sq (o_pv (.string (strOfNums a)) rfl (x_b2s_sl (a := aa1) (len := a.length) (c := ca2) a Tryd.underlying91 Tryd.underlying5 Tryd.underlying9 (by kernel_rfl) rfl ha250) ?_)
            refine sq (o_pv (.agg #[(.string (ByteArray.mk #[97])), (.int .i64 (0 : Int)), (.int .i64 (1 : Int)), (.string (strOfNums a)), (.int .i64 (0 : Int)), (.int .i64 (0 : Int))]) rfl (by kernel_rfl) ?_)
            refine sq (o_pv (.agg #[(.int .i64 r222.Size), (.int .i64 r222.Time), (.int .i64 r222.Inode), (.int .i64 r222.Mode)]) rfl (x_loadN [(.int .i64 r222.Size), (.int .i64 r222.Time), (.int .i64 r222.Inode), (.int .i64 r222.Mode)] (by kernel_rfl) Tryd.isAgg84 Tryd.sizeOf84 (k247.2.1.cells' 0 rfl)) ?_)
            refine sq (o_call 43 #[(.agg #[(.string (ByteArray.mk #[97])), (.int .i64 (0 : Int)), (.int .i64 (1 : Int)), (.string (strOfNums a)), (.int .i64 (0 : Int)), (.int .i64 (0 : Int))]), (.agg #[(.int .i64 r222.Size), (.int .i64 r222.Time), (.int .i64 r222.Inode), (.int .i64 r222.Mode)])] rfl (x_call Tryd.call43 (by kernel_rfl)) (stat_Note_w (X := []) (e := (S_index_Entry.mk (ByteArray.mk #[97]) (0 : Int) (1 : Int) (strOfNums a) (0 : Int) (0 : Int))) (s := r222) (Old.nil _) (by decide : (ByteArray.mk #[97]).size ≤ maxLen) (by decide : inR .i64 (0 : Int)) (by decide : inR .i64 (1 : Int)) (strOfNums_le hl249) (by decide : inR .i64 (0 : Int)) (by decide : inR .i64 (0 : Int)) rrSize229 rrTime230 rrInode231 rrMode232 hp) ?_)
            rintro _ w252 ⟨r251, hp, e253, rfl, zrPath255, rrStage256, rrMode257, zrData258, rrTime259, rrSize260⟩
            have s254 := Step.of0 X237 e253
            replace hp := hp zrPath255
            replace hp := hp rrStage256
            replace hp := hp rrMode257
            replace hp := hp zrData258
            replace hp := hp rrTime259
            replace hp := hp rrSize260
            have m267 := (MO.step0 (MO.step m243 s246 p242) s254)
            have k268 := (OB.step0 k247 s254)
            have E269 := (Evo.then0 (Evo.thenW E244 (Step.evo s246) k239.2.2) e253)
            refine sq (o_newX [(.string (ByteArray.mk #[])), (.int .i64 (0 : Int)), (.int .i64 (0 : Int)), (.string (ByteArray.mk #[])), (.int .i64 (0 : Int)), (.int .i64 (0 : Int))] 82 (X := X237) (B := w.heap.size) E269.size rfl (by kernel_rfl) ?_)
            intro b261 w262 X263 s264 k265 n266
            have p270 := n266 _ (MO.old m267)
            have p271 := n266 _ (OB.old k268)
            have m272 := (MO.step0 m267 s264)
            have k273 := (OB.step0 k268 s264)
            have E274 := (Evo.then0 E269 (Step.evo s264))
            refine sq (o_stB (o := 0) (v := (.agg #[(.string r251.Path), (.int .i64 r251.Stage), (.int .i64 r251.Mode), (.string r251.Data), (.int .i64 r251.Time), (.int .i64 r251.Size)])) [(.string r251.Path), (.int .i64 r251.Stage), (.int .i64 r251.Mode), (.string r251.Data), (.int .i64 r251.Time), (.int .i64 r251.Size)] rfl k265 (by kernel_rfl) (by kernel_rfl) Tryd.sizeOf82 rfl rfl rfl ?_)
            intro w275 s276 k277
            refine nil_ ?_
            refine then_normal (K248 _ _ _ _ ?_)
            refine seq_ (fun _ K278 => ?_)
            refine reg_ ?_
            refine sq (o_pv (.pointer (some ⟨br40, 0, none⟩)) rfl (by kernel_rfl) ?_)
            have E279 := (Evo.thenW E274 (Step.evo s276) k265.2.2)
            have hXo280 := (Old.step (Old.step (Old.step (Old.step (Old.step (Old.step hXo198 s226) s238) s246) s254) s264) s276)
            have hS281 := (Sub.trans (Sub.trans (Sub.trans (Sub.trans (Sub.trans (Sub.trans hS199 (Step.up s226)) (Step.up s238)) (Step.up s246)) (Step.up s254)) (Step.up s264)) (Step.up s276))
            have ha282 := (Sl.step (Sl.step (Sl.step ha250 s254) s264) s276)
            have hb283 := (Sl.step (Sl.step (Sl.step (Sl.step (Sl.step (Sl.step hb201 s226) s238) s246) s254) s264) s276)
            have m284 := (MO.step m272 s276 p270)
            have k285 := (OB.step k273 s276 p271)
            refine sq (o_call 49 #[(.pointer (some ⟨br40, 0, none⟩))] rfl (x_call Tryd.call49 (by kernel_rfl)) (simfs_FS_Now_w (X := X263) (f_ := f_221) hXo280 (MO.re m284 (Wr.self _ _ (Sub.refl _))) hp) ?_)
            rintro _ w288 ⟨f_286, r287, hp, X289, F291, s290, rfl, m292, rr293⟩
            have m294 := MO.re m292 (Wr.trans m292.wr m284.wr E279.size)
            have p295 := Ap.grow m292.wr (Ap.symm p242) (OB.old k285) (Nat.le_refl _)
            have p296 := Ap.grow m292.wr (Ap.symm p270) (OB.old k277) (Nat.le_refl _)
            replace hp := hp rr293
            refine sq (o_pv (.int .i64 r287) rfl (by kernel_rfl) ?_)
            refine nil_ ?_
            refine then_normal (K278 _ _ _ _ ?_)
            refine seq_ (fun _ K297 => ?_)
            refine reg_ ?_
            refine sq (o_pv (.pointer (some ⟨br40, 0, none⟩)) rfl (by kernel_rfl) ?_)
            refine sq (o_pv (.slice ab4 b.length cb5) rfl (by kernel_rfl) ?_)
            have E298 := (Evo.thenW E279 (Step.evo s290) m284.wr)
            have hXo299 := (Old.step hXo280 s290)
            have hS300 := (Sub.trans hS281 (Step.up s290))
            have ha301 := (Sl.step ha282 s290)
            have hb302 := (Sl.step hb283 s290)
            have k303 := (OB.step k285 s290 (Ap.symm p242))
            have k304 := (OB.step k277 s290 (Ap.symm p270))
            refine sq (o_call 47 #[(.pointer (some ⟨br40, 0, none⟩)), (.string (ByteArray.mk #[97])), (.int .i64 (1 : Int)), (.slice ab4 b.length cb5)] rfl (x_call Tryd.call47 (by kernel_rfl)) (simfs_FS_Edit_w (X := X289) (f_ := f_286) (p := (ByteArray.mk #[97])) (mode := (1 : Int)) (b := b) hXo299 (MO.re m294 (Wr.self _ _ (Sub.refl _))) (by decide : (ByteArray.mk #[97]).size ≤ maxLen) (by decide : inR .i64 (1 : Int)) hb302 hp) ?_)
            rintro _ w307 ⟨f_305, r306, hp, X308, F310, s309, rfl, m311, rr312⟩
            have m313 := MO.re m311 (Wr.trans m311.wr m294.wr E298.size)
            have p314 := Ap.grow m311.wr p295 (OB.old k303) (Nat.le_refl _)
            have p315 := Ap.grow m311.wr p296 (OB.old k304) (Nat.le_refl _)
            replace hp := hp rr312
            refine nil_ ?_
            refine then_normal (K297 _ _ _ _ ?_)
            refine seq_ (fun _ K316 => ?_)
            refine reg_ ?_
            refine sq (o_pv (.pointer (some ⟨br40, 0, none⟩)) rfl (by kernel_rfl) ?_)
            have k317 := (OB.step k304 s309 p296)
            refine sq (o_pv (.agg #[(.string r251.Path), (.int .i64 r251.Stage), (.int .i64 r251.Mode), (.string r251.Data), (.int .i64 r251.Time), (.int .i64 r251.Size)]) rfl (x_loadN [(.string r251.Path), (.int .i64 r251.Stage), (.int .i64 r251.Mode), (.string r251.Data), (.int .i64 r251.Time), (.int .i64 r251.Size)] (by kernel_rfl) Tryd.isAgg82 Tryd.sizeOf82 (k317.2.1.cells' 0 rfl)) ?_)
            have k318 := (OB.step k303 s309 p295)
            have E325 := (Evo.thenW E298 (Step.evo s309) m294.wr)
            refine sq (o_rowX (R := r_index_Entry) [(.string r251.Path), (.int .i64 r251.Stage), (.int .i64 r251.Mode), (.string r251.Data), (.int .i64 r251.Time), (.int .i64 r251.Size)] [r251] 82 1 (X := X308) (B := w.heap.size) E325.size rfl (by kernel_rfl) (Flat.cons (cs := [(.string r251.Path), (.int .i64 r251.Stage), (.int .i64 r251.Mode), (.string r251.Data), (.int .i64 r251.Time), (.int .i64 r251.Size)]) (r_index_Entry_mk zrPath255 rrStage256 rrMode257 zrData258 rrTime259 rrSize260) Flat.nil) rfl (by decide) ?_)
            intro b319 w320 X321 s322 O323 n324
            have p326 := n324 _ (OB.old k318)
            have p327 := n324 _ (OB.old k317)
            have p328 := n324 _ (MO.old m313)
            refine sq (o_pv (.int .i64 r287) rfl (by kernel_rfl) ?_)
            have hS329 := (Sub.trans (Sub.trans hS300 (Step.up s309)) (Step.up s322))
            have E335 := (Evo.then0 E325 (Step.evo s322))
            have hXo336 := (Old.step (Old.step hXo299 s309) s322)
            have ha337 := (Sl.step (Sl.step ha301 s309) s322)
            have hb338 := (Sl.step (Sl.step hb302 s309) s322)
            have k339 := (OB.step0 k318 s322)
            have k340 := (OB.step0 k317 s322)
            have m341 := (MO.step0 m313 s322)
            have ax334 := OS.apold O323 hX0
            obtain ⟨X330, u331, r332, hm333⟩ := OS.release O323
            have E342 := E335
            have hXo343 := (Old.less hXo336 u331)
            have hS344 := (hm333 _ ax334 hS329)
            have ha345 := (Sl.less ha337 u331)
            have hb346 := (Sl.less hb338 u331)
            have k347 := (OB.less k339 (hm333 _ p326 (OB.mem k339)))
            have k348 := (OB.less k340 (hm333 _ p327 (OB.mem k340)))
            have m349 := (MO.less m341 u331 (hm333 _ p328 (MO.mem m341)))
            refine sq (o_call 50 #[(.pointer (some ⟨br40, 0, none⟩)), (.slice (some ⟨b319, 0, none⟩) ([r251]).length 1), (.int .i64 r287)] rfl (x_call Tryd.call50 (by rw [← show 1 = ([r251]).length from O323.1]; kernel_rfl)) (stat_Changed_w (X := X330) (f_ := f_305) (l := [r251]) (written := r287) hXo343 (MO.re m349 (Wr.self _ _ (Sub.refl _))) r332 rr293 hp) ?_)
            rintro _ w354 ⟨f_350, r351, r352, r353, hp, X355, F357, ar359, cr360, s356, rfl, m358, hr361, rr362, rr363⟩
            have m364 := MO.re m358 (Wr.trans m358.wr m349.wr E342.size)
            have p365 := Ap.grow m358.wr p314 (OB.old k347) (Nat.le_refl _)
            have p366 := Ap.grow m358.wr p315 (OB.old k348) (Nat.le_refl _)
            replace hp := hp (Sl.len hr361)
            replace hp := hp rr362
            replace hp := hp rr363
            refine sq (o_pv (.tuple #[(.slice ar359 r351.length cr360), (.int .i64 r352), (.int .i64 r353)]) rfl (by kernel_rfl) ?_)
            refine sq (o_pv (.slice ar359 r351.length cr360) rfl (by kernel_rfl) ?_)
            refine sq (o_pv (.int .i64 r352) rfl (by kernel_rfl) ?_)
            refine sq (o_pv (.int .i64 r353) rfl (by kernel_rfl) ?_)
            refine sq (o_pv (.slice ar359 r351.length cr360) rfl (by kernel_rfl) ?_)
            refine sq (o_pv (.int .i64 r352) rfl (by kernel_rfl) ?_)
            refine sq (o_pv (.int .i64 r353) rfl (by kernel_rfl) ?_)
            refine nil_ ?_
            refine then_normal (K316 _ _ _ _ ?_)
            refine seq_ (fun _ K367 => ?_)
            obtain ⟨hp, hq⟩ := hp
            refine ground_ ?_
            refine join_ 4951609041414069270949658880 (fun lq w376 => lq = [(8, (.bool (decide (((r223 + r353) = (0 : Int)) ∧ (((decide ((r351.length : Int) = (1 : Int))) : Bool) = (!decide ((strOfNums a : ByteArray) = strOfNums b)))))))] ∧ w354 = w376) (fun Kj374 hJ375 => ?_) ?_
            ·
              refine reg_ ?_
              refine sq (o_pv (.int .i64 r223) rfl (by kernel_rfl) ?_)
              refine sq (o_pv (.int .i64 r353) rfl (by kernel_rfl) ?_)
              obtain ⟨h378, hp⟩ := hp
              refine sq (o_pv (.int .i64 (r223 + r353)) rfl (x_add2 (k := .i64) (a := r223) (b := r353) (r223 + r353) (by kernel_rfl) (by kernel_rfl) (wrap_inR h378)) ?_)
              by_cases h379 : (r223 + r353) = (0 : Int)
              ·
                replace hp := hp.1 h379
                refine sq (o_pv (.bool true) rfl (x_dt (p := (r223 + r353) = (0 : Int)) (by kernel_rfl) h379) ?_)
                refine sq (o_pv (.bool true) rfl (by kernel_rfl) ?_)
                refine sq (o_pv (.slice ar359 r351.length cr360) (by kernel_rfl) (by kernel_rfl) ?_)
                refine sq (o_pv (.int .i64 (r351.length : Int)) (by kernel_rfl) (by kernel_rfl) ?_)
                refine sq (o_pv (.bool (decide ((r351.length : Int) = (1 : Int)))) (by kernel_rfl) (by kernel_rfl) ?_)
                refine sq (o_pv (.slice aa1 a.length ca2) (by kernel_rfl) (by kernel_rfl) ?_)
                have ha381 := (Sl.step ha345 s356)
                have hl380 := Sl.len ha381
                refine sq (o_pv (.string (strOfNums a)) (by kernel_rfl) (x_b2s_sl (a := aa1) (len := a.length) (c := ca2) a Tryd.underlying91 Tryd.underlying5 Tryd.underlying9 (by kernel_rfl) rfl ha381) ?_)
                refine sq (o_pv (.slice ab4 b.length cb5) (by kernel_rfl) (by kernel_rfl) ?_)
                have hb383 := (Sl.step hb346 s356)
                have hl382 := Sl.len hb383
                refine sq (o_pv (.string (strOfNums b)) (by kernel_rfl) (x_b2s_sl (a := ab4) (len := b.length) (c := cb5) b Tryd.underlying91 Tryd.underlying5 Tryd.underlying9 (by kernel_rfl) rfl hb383) ?_)
                refine sq (o_pv (.bool (!decide ((strOfNums a : ByteArray) = strOfNums b))) (by kernel_rfl) (x_strne (by kernel_rfl) (by kernel_rfl)) ?_)
                refine sq (o_pv (.bool (decide (((decide ((r351.length : Int) = (1 : Int))) : Bool) = (!decide ((strOfNums a : ByteArray) = strOfNums b))))) (by kernel_rfl) (x_booleq (a := (decide ((r351.length : Int) = (1 : Int)))) (b := (!decide ((strOfNums a : ByteArray) = strOfNums b))) Tryd.underlying4 (by kernel_rfl) (by kernel_rfl)) ?_)
                refine sq (o_pv (.bool (decide (((decide ((r351.length : Int) = (1 : Int))) : Bool) = (!decide ((strOfNums a : ByteArray) = strOfNums b))))) rfl (by kernel_rfl) ?_)
                refine sq (o_pv (.bool (decide (((decide ((r351.length : Int) = (1 : Int))) : Bool) = (!decide ((strOfNums a : ByteArray) = strOfNums b))))) rfl (by kernel_rfl) ?_)
                refine nil_ ?_
                refine then_normal (hJ375 _ _ _ ⟨[(8, (.bool (decide (((r223 + r353) = (0 : Int)) ∧ (((decide ((r351.length : Int) = (1 : Int))) : Bool) = (!decide ((strOfNums a : ByteArray) = strOfNums b)))))))], fit_mk (fun _ _ => rfl) (by kernel_rfl) (vs_cons (Eq.trans (b := (.bool (decide (((decide ((r351.length : Int) = (1 : Int))) : Bool) = (!decide ((strOfNums a : ByteArray) = strOfNums b)))))) (by kernel_rfl) (dec_d ((and_iff_right h379).trans Iff.rfl)).symm) vs_nil), rfl, rfl⟩)
              ·
                replace hp := hp.2 h379
                refine sq (o_pv (.bool false) rfl (x_df (p := (r223 + r353) = (0 : Int)) (by kernel_rfl) h379) ?_)
                refine sq (o_pv (.bool false) rfl (by kernel_rfl) ?_)
                refine sq (o_not (by kernel_rfl) ?_)
                refine sq (o_not (by kernel_rfl) ?_)
                refine sq (o_not (by kernel_rfl) ?_)
                refine sq (o_not (by kernel_rfl) ?_)
                refine sq (o_not (by kernel_rfl) ?_)
                refine sq (o_not (by kernel_rfl) ?_)
                refine sq (o_not (by kernel_rfl) ?_)
                refine sq (o_not (by kernel_rfl) ?_)
                refine sq (o_not (by kernel_rfl) ?_)
                refine sq (o_pv (.bool false) rfl (by kernel_rfl) ?_)
                refine sq (o_pv (.bool false) rfl (by kernel_rfl) ?_)
                refine nil_ ?_
                refine then_normal (hJ375 _ _ _ ⟨[(8, (.bool (decide (((r223 + r353) = (0 : Int)) ∧ (((decide ((r351.length : Int) = (1 : Int))) : Bool) = (!decide ((strOfNums a : ByteArray) = strOfNums b)))))))], fit_mk (fun _ _ => rfl) (by kernel_rfl) (vs_cons (Eq.trans (b := (.bool false)) (by kernel_rfl) (dec_f (iff_false_intro (fun h => h379 h.1))).symm) vs_nil), rfl, rfl⟩)
            ·
              rintro _ w376 g377 ⟨rfl, hw⟩
              subst hw
              have hp := hq
              refine then_normal (K367 _ _ _ _ ?_)
              refine wp_ret ?_
              have E384 := (Evo.thenW E342 (Step.evo s356) m349.wr)
              refine end_ret hQ (.bool (decide (((r223 + r353) = (0 : Int)) ∧ (((decide ((r351.length : Int) = (1 : Int))) : Bool) = (!decide ((strOfNums a : ByteArray) = strOfNums b)))))) (by kernel_rfl) ?_
              exact ⟨(decide (((r223 + r353) = (0 : Int)) ∧ (((decide ((r351.length : Int) = (1 : Int))) : Bool) = (!decide ((strOfNums a : ByteArray) = strOfNums b))))), hp, E384, rfl⟩

end Go.Proofs.YtjejeipdndddpaaDoor
