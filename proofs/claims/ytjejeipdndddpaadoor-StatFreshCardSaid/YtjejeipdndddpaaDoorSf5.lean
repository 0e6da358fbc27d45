/- Walks of functions: what each asks and computes, as a plain predicate, and the contract from it. -/
import Derived.Test.YtjejeipdndddpaaDoorChecked
import Derived.Test.YtjejeipdndddpaaDoorSf4
namespace Go.Proofs.YtjejeipdndddpaaDoor
open Go


def rectolaw18_StatFresh_p (e : S_index_Entry) (s : S_simfs_Stat) (written : Int) (Q : Bool → Prop) : Prop :=
  ((e.Path.size ≤ maxLen) → ((inR .i64 e.Stage) → ((inR .i64 e.Mode) → ((e.Data.size ≤ maxLen) → ((inR .i64 e.Time) → ((inR .i64 e.Size) → ((inR .i64 s.Size) → ((inR .i64 s.Time) → ((inR .i64 s.Inode) → ((inR .i64 s.Mode) → ((inR .i64 written) → (rectolaw18_known_p  (fun (r29 : Bool) => ((((!r29) = true) → Q false) ∧ (((!r29) = false) → (stat_Fresh_p e s written (fun (r39 : Bool) => (stat_Note_p e s (fun (r46 : S_index_Entry) => ((r46.Path.size ≤ maxLen) → ((inR .i64 r46.Stage) → ((inR .i64 r46.Mode) → ((r46.Data.size ≤ maxLen) → ((inR .i64 r46.Time) → ((inR .i64 r46.Size) → (stat_Smudge_p ([e]) written (fun (r98 : (List S_index_Entry)) => ((r98.length ≤ 9223372036854775807) → (((¬ ((r98.length : Int) = (1 : Int))) → Q false) ∧ (((r98.length : Int) = (1 : Int)) → (∃ k154 : Int → Int → Prop, (∀ (f149 : Int) (f151 : Int), k154 f149 f151 → (inR .i64 f149) → (inR .i64 f151) → (∃ k346 : Bool → Prop, (∀ (s345 : Bool), k346 s345 → Q s345) ∧ (((e.Stage = (0 : Int)) → (((e.Time = s.Time) → (((e.Size = s.Size) → (((e.Mode = s.Mode) → ((((r39 : Bool) = (decide (e.Time < written))) → (((((r46.Path : ByteArray) = e.Path) ∧ ((r46.Stage = e.Stage) ∧ ((r46.Mode = e.Mode) ∧ (((r46.Data : ByteArray) = e.Data) ∧ ((r46.Time = s.Time) ∧ ((r46.Size = s.Size) ∧ True)))))) → ((inL r98 (0 : Int)) ∧ ((((lget r98 (0 : Int)).Path).size ≤ maxLen) → ((inR .i64 ((lget r98 (0 : Int)).Stage)) → ((inR .i64 ((lget r98 (0 : Int)).Mode)) → ((((lget r98 (0 : Int)).Data).size ≤ maxLen) → ((inR .i64 ((lget r98 (0 : Int)).Time)) → ((inR .i64 ((lget r98 (0 : Int)).Size)) → (k346 (decide ((((lget r98 (0 : Int)).Path : ByteArray) = e.Path) ∧ (((lget r98 (0 : Int)).Stage = e.Stage) ∧ (((lget r98 (0 : Int)).Mode = e.Mode) ∧ ((((lget r98 (0 : Int)).Data : ByteArray) = e.Data) ∧ (((lget r98 (0 : Int)).Time = f149) ∧ (((lget r98 (0 : Int)).Size = f151) ∧ True)))))))))))))))) ∧ ((¬ (((r46.Path : ByteArray) = e.Path) ∧ ((r46.Stage = e.Stage) ∧ ((r46.Mode = e.Mode) ∧ (((r46.Data : ByteArray) = e.Data) ∧ ((r46.Time = s.Time) ∧ ((r46.Size = s.Size) ∧ True))))))) → (k346 false)))) ∧ ((¬ ((r39 : Bool) = (decide (e.Time < written)))) → (k346 false)))) ∧ ((¬ (e.Mode = s.Mode)) → ((((r39 : Bool) = false) → (((((r46.Path : ByteArray) = e.Path) ∧ ((r46.Stage = e.Stage) ∧ ((r46.Mode = e.Mode) ∧ (((r46.Data : ByteArray) = e.Data) ∧ ((r46.Time = s.Time) ∧ ((r46.Size = s.Size) ∧ True)))))) → ((inL r98 (0 : Int)) ∧ ((((lget r98 (0 : Int)).Path).size ≤ maxLen) → ((inR .i64 ((lget r98 (0 : Int)).Stage)) → ((inR .i64 ((lget r98 (0 : Int)).Mode)) → ((((lget r98 (0 : Int)).Data).size ≤ maxLen) → ((inR .i64 ((lget r98 (0 : Int)).Time)) → ((inR .i64 ((lget r98 (0 : Int)).Size)) → (k346 (decide ((((lget r98 (0 : Int)).Path : ByteArray) = e.Path) ∧ (((lget r98 (0 : Int)).Stage = e.Stage) ∧ (((lget r98 (0 : Int)).Mode = e.Mode) ∧ ((((lget r98 (0 : Int)).Data : ByteArray) = e.Data) ∧ (((lget r98 (0 : Int)).Time = f149) ∧ (((lget r98 (0 : Int)).Size = f151) ∧ True)))))))))))))))) ∧ ((¬ (((r46.Path : ByteArray) = e.Path) ∧ ((r46.Stage = e.Stage) ∧ ((r46.Mode = e.Mode) ∧ (((r46.Data : ByteArray) = e.Data) ∧ ((r46.Time = s.Time) ∧ ((r46.Size = s.Size) ∧ True))))))) → (k346 false)))) ∧ ((¬ ((r39 : Bool) = false)) → (k346 false)))))) ∧ ((¬ (e.Size = s.Size)) → ((((r39 : Bool) = false) → (((((r46.Path : ByteArray) = e.Path) ∧ ((r46.Stage = e.Stage) ∧ ((r46.Mode = e.Mode) ∧ (((r46.Data : ByteArray) = e.Data) ∧ ((r46.Time = s.Time) ∧ ((r46.Size = s.Size) ∧ True)))))) → ((inL r98 (0 : Int)) ∧ ((((lget r98 (0 : Int)).Path).size ≤ maxLen) → ((inR .i64 ((lget r98 (0 : Int)).Stage)) → ((inR .i64 ((lget r98 (0 : Int)).Mode)) → ((((lget r98 (0 : Int)).Data).size ≤ maxLen) → ((inR .i64 ((lget r98 (0 : Int)).Time)) → ((inR .i64 ((lget r98 (0 : Int)).Size)) → (k346 (decide ((((lget r98 (0 : Int)).Path : ByteArray) = e.Path) ∧ (((lget r98 (0 : Int)).Stage = e.Stage) ∧ (((lget r98 (0 : Int)).Mode = e.Mode) ∧ ((((lget r98 (0 : Int)).Data : ByteArray) = e.Data) ∧ (((lget r98 (0 : Int)).Time = f149) ∧ (((lget r98 (0 : Int)).Size = f151) ∧ True)))))))))))))))) ∧ ((¬ (((r46.Path : ByteArray) = e.Path) ∧ ((r46.Stage = e.Stage) ∧ ((r46.Mode = e.Mode) ∧ (((r46.Data : ByteArray) = e.Data) ∧ ((r46.Time = s.Time) ∧ ((r46.Size = s.Size) ∧ True))))))) → (k346 false)))) ∧ ((¬ ((r39 : Bool) = false)) → (k346 false)))))) ∧ ((¬ (e.Time = s.Time)) → ((((r39 : Bool) = false) → (((((r46.Path : ByteArray) = e.Path) ∧ ((r46.Stage = e.Stage) ∧ ((r46.Mode = e.Mode) ∧ (((r46.Data : ByteArray) = e.Data) ∧ ((r46.Time = s.Time) ∧ ((r46.Size = s.Size) ∧ True)))))) → ((inL r98 (0 : Int)) ∧ ((((lget r98 (0 : Int)).Path).size ≤ maxLen) → ((inR .i64 ((lget r98 (0 : Int)).Stage)) → ((inR .i64 ((lget r98 (0 : Int)).Mode)) → ((((lget r98 (0 : Int)).Data).size ≤ maxLen) → ((inR .i64 ((lget r98 (0 : Int)).Time)) → ((inR .i64 ((lget r98 (0 : Int)).Size)) → (k346 (decide ((((lget r98 (0 : Int)).Path : ByteArray) = e.Path) ∧ (((lget r98 (0 : Int)).Stage = e.Stage) ∧ (((lget r98 (0 : Int)).Mode = e.Mode) ∧ ((((lget r98 (0 : Int)).Data : ByteArray) = e.Data) ∧ (((lget r98 (0 : Int)).Time = f149) ∧ (((lget r98 (0 : Int)).Size = f151) ∧ True)))))))))))))))) ∧ ((¬ (((r46.Path : ByteArray) = e.Path) ∧ ((r46.Stage = e.Stage) ∧ ((r46.Mode = e.Mode) ∧ (((r46.Data : ByteArray) = e.Data) ∧ ((r46.Time = s.Time) ∧ ((r46.Size = s.Size) ∧ True))))))) → (k346 false)))) ∧ ((¬ ((r39 : Bool) = false)) → (k346 false)))))) ∧ ((¬ (e.Stage = (0 : Int))) → ((((r39 : Bool) = false) → (((((r46.Path : ByteArray) = e.Path) ∧ ((r46.Stage = e.Stage) ∧ ((r46.Mode = e.Mode) ∧ (((r46.Data : ByteArray) = e.Data) ∧ ((r46.Time = s.Time) ∧ ((r46.Size = s.Size) ∧ True)))))) → ((inL r98 (0 : Int)) ∧ ((((lget r98 (0 : Int)).Path).size ≤ maxLen) → ((inR .i64 ((lget r98 (0 : Int)).Stage)) → ((inR .i64 ((lget r98 (0 : Int)).Mode)) → ((((lget r98 (0 : Int)).Data).size ≤ maxLen) → ((inR .i64 ((lget r98 (0 : Int)).Time)) → ((inR .i64 ((lget r98 (0 : Int)).Size)) → (k346 (decide ((((lget r98 (0 : Int)).Path : ByteArray) = e.Path) ∧ (((lget r98 (0 : Int)).Stage = e.Stage) ∧ (((lget r98 (0 : Int)).Mode = e.Mode) ∧ ((((lget r98 (0 : Int)).Data : ByteArray) = e.Data) ∧ (((lget r98 (0 : Int)).Time = f149) ∧ (((lget r98 (0 : Int)).Size = f151) ∧ True)))))))))))))))) ∧ ((¬ (((r46.Path : ByteArray) = e.Path) ∧ ((r46.Stage = e.Stage) ∧ ((r46.Mode = e.Mode) ∧ (((r46.Data : ByteArray) = e.Data) ∧ ((r46.Time = s.Time) ∧ ((r46.Size = s.Size) ∧ True))))))) → (k346 false)))) ∧ ((¬ ((r39 : Bool) = false)) → (k346 false))))))) ∧ (((e.Time ≥ written) → (k154 (0 : Int) (0 : Int))) ∧ ((¬ (e.Time ≥ written)) → (k154 e.Time e.Size))))))))))))))))))))))))))))))))))
set_option maxRecDepth 20000 in
set_option maxHeartbeats 4000000 in
theorem rectolaw18_StatFresh_w {X : List Nat} {w : World} {e : S_index_Entry} {s : S_simfs_Stat} {written : Int} {Q : Bool → Prop} (hX0 : Old X w) (zePath1 : e.Path.size ≤ maxLen) (reStage2 : inR .i64 e.Stage) (reMode3 : inR .i64 e.Mode) (zeData4 : e.Data.size ≤ maxLen) (reTime5 : inR .i64 e.Time) (reSize6 : inR .i64 e.Size) (rsSize7 : inR .i64 s.Size) (rsTime8 : inR .i64 s.Time) (rsInode9 : inR .i64 s.Inode) (rsMode10 : inR .i64 s.Mode) (rwritten11 : inR .i64 written) (hp : rectolaw18_StatFresh_p e s written Q) :
    Calls Tryd.prog 8 #[(.agg #[(.string e.Path), (.int .i64 e.Stage), (.int .i64 e.Mode), (.string e.Data), (.int .i64 e.Time), (.int .i64 e.Size)]), (.agg #[(.int .i64 s.Size), (.int .i64 s.Time), (.int .i64 s.Inode), (.int .i64 s.Mode)]), (.int .i64 written)] w (Ret fun v w' => ∃ (r0 : Bool), Q r0 ∧ Evo [] w w' ∧ v = (.bool r0)) := by
  have hXo := hX0
  have E0 : Evo [] w w := RB.refl _ _ _
  have hS : Sub X X := Sub.refl _
  unfold rectolaw18_StatFresh_p at hp
  refine enter_ Tryd.func8 rfl 86 [(0, (.agg #[(.string e.Path), (.int .i64 e.Stage), (.int .i64 e.Mode), (.string e.Data), (.int .i64 e.Time), (.int .i64 e.Size)])), (1, (.agg #[(.int .i64 s.Size), (.int .i64 s.Time), (.int .i64 s.Inode), (.int .i64 s.Mode)])), (2, (.int .i64 written))] (by kernel_rfl) (fun Qe hQ => ?_)
  replace hp := hp zePath1
  replace hp := hp reStage2
  replace hp := hp reMode3
  replace hp := hp zeData4
  replace hp := hp reTime5
  replace hp := hp reSize6
  replace hp := hp rsSize7
  replace hp := hp rsTime8
  replace hp := hp rsInode9
  replace hp := hp rsMode10
  replace hp := hp rwritten11
  refine seq_ (fun _ K12 => ?_)
  refine reg_ ?_
  refine sq (o_newX [(.string e.Path), (.int .i64 e.Stage), (.int .i64 e.Mode), (.string e.Data), (.int .i64 e.Time), (.int .i64 e.Size)] 82 (X := X) (B := w.heap.size) E0.size rfl (by kernel_rfl) ?_)
  intro b13 w14 X15 s16 k17 n18
  have E25 := (Evo.then0 E0 (Step.evo s16))
  refine sq (o_newX [(.int .i64 s.Size), (.int .i64 s.Time), (.int .i64 s.Inode), (.int .i64 s.Mode)] 84 (X := X15) (B := w.heap.size) E25.size rfl (by kernel_rfl) ?_)
  intro b19 w20 X21 s22 k23 n24
  have p26 := n24 _ (OB.old k17)
  refine sq (o_pv (.bool false) rfl (by kernel_rfl) ?_)
  refine nil_ ?_
  refine then_normal (K12 _ _ _ _ ?_)
  refine seq_ (fun _ K27 => ?_)
  refine seq_ (fun _ K28 => ?_)
  refine reg_ ?_
  refine sq (o_call 41 #[] rfl (x_call Tryd.call41 (by kernel_rfl)) (rectolaw18_known_w (X := [])  (Old.nil _) hp) ?_)
  rintro _ w30 ⟨r29, hp, e31, rfl⟩
  have s32 := Step.of0 X21 e31
  refine sq (o_pv (.bool (!r29)) rfl (by kernel_rfl) ?_)
  refine nil_ ?_
  refine then_normal (K28 _ _ _ _ ?_)
  refine cond_b (!r29) (by kernel_rfl) (fun h33 => ?_) (fun h33 => ?_)
  ·
    replace hp := hp.1 h33
    refine seq_ (fun _ K34 => ?_)
    refine reg_ ?_
    refine sq (o_pv (.bool false) rfl (by kernel_rfl) ?_)
    refine nil_ ?_
    refine then_normal (K34 _ _ _ _ ?_)
    refine wp_ret ?_
    refine then_ret ?_
    have E35 := (Evo.then0 (Evo.then0 E25 (Step.evo s22)) e31)
    refine end_ret hQ (.bool false) (by kernel_rfl) ?_
    exact ⟨false, hp, E35, rfl⟩
  ·
    replace hp := hp.2 h33
    refine wp_skip ?_
    refine then_normal (K27 _ _ _ _ ?_)
    refine seq_ (fun _ K36 => ?_)
    refine reg_ ?_
    have k37 := (OB.step0 (OB.step0 k17 s22) s32)
    refine sq (o_pv (.agg #[(.string e.Path), (.int .i64 e.Stage), (.int .i64 e.Mode), (.string e.Data), (.int .i64 e.Time), (.int .i64 e.Size)]) rfl (x_loadN [(.string e.Path), (.int .i64 e.Stage), (.int .i64 e.Mode), (.string e.Data), (.int .i64 e.Time), (.int .i64 e.Size)] (by kernel_rfl) Tryd.isAgg82 Tryd.sizeOf82 (k37.2.1.cells' 0 rfl)) ?_)
    have k38 := (OB.step0 k23 s32)
    refine sq (o_pv (.agg #[(.int .i64 s.Size), (.int .i64 s.Time), (.int .i64 s.Inode), (.int .i64 s.Mode)]) rfl (x_loadN [(.int .i64 s.Size), (.int .i64 s.Time), (.int .i64 s.Inode), (.int .i64 s.Mode)] (by kernel_rfl) Tryd.isAgg84 Tryd.sizeOf84 (k38.2.1.cells' 0 rfl)) ?_)
    refine sq (o_pv (.int .i64 written) rfl (by kernel_rfl) ?_)
    refine sq (o_call 42 #[(.agg #[(.string e.Path), (.int .i64 e.Stage), (.int .i64 e.Mode), (.string e.Data), (.int .i64 e.Time), (.int .i64 e.Size)]), (.agg #[(.int .i64 s.Size), (.int .i64 s.Time), (.int .i64 s.Inode), (.int .i64 s.Mode)]), (.int .i64 written)] rfl (x_call Tryd.call42 (by kernel_rfl)) (stat_Fresh_w (X := []) (e := e) (s := s) (written := written) (Old.nil _) zePath1 reStage2 reMode3 zeData4 reTime5 reSize6 rsSize7 rsTime8 rsInode9 rsMode10 rwritten11 hp) ?_)
    rintro _ w40 ⟨r39, hp, e41, rfl⟩
    have s42 := Step.of0 X21 e41
    refine sq (o_pv (.bool r39) rfl (by kernel_rfl) ?_)
    refine nil_ ?_
    refine then_normal (K36 _ _ _ _ ?_)
    refine seq_ (fun _ K43 => ?_)
    refine reg_ ?_
    have k44 := (OB.step0 k37 s42)
    refine sq (o_pv (.agg #[(.string e.Path), (.int .i64 e.Stage), (.int .i64 e.Mode), (.string e.Data), (.int .i64 e.Time), (.int .i64 e.Size)]) rfl (x_loadN [(.string e.Path), (.int .i64 e.Stage), (.int .i64 e.Mode), (.string e.Data), (.int .i64 e.Time), (.int .i64 e.Size)] (by kernel_rfl) Tryd.isAgg82 Tryd.sizeOf82 (k44.2.1.cells' 0 rfl)) ?_)
    have k45 := (OB.step0 k38 s42)
    refine sq (o_pv (.agg #[(.int .i64 s.Size), (.int .i64 s.Time), (.int .i64 s.Inode), (.int .i64 s.Mode)]) rfl (x_loadN [(.int .i64 s.Size), (.int .i64 s.Time), (.int .i64 s.Inode), (.int .i64 s.Mode)] (by kernel_rfl) Tryd.isAgg84 Tryd.sizeOf84 (k45.2.1.cells' 0 rfl)) ?_)
    refine sq (o_call 43 #[(.agg #[(.string e.Path), (.int .i64 e.Stage), (.int .i64 e.Mode), (.string e.Data), (.int .i64 e.Time), (.int .i64 e.Size)]), (.agg #[(.int .i64 s.Size), (.int .i64 s.Time), (.int .i64 s.Inode), (.int .i64 s.Mode)])] rfl (x_call Tryd.call43 (by kernel_rfl)) (stat_Note_w (X := []) (e := e) (s := s) (Old.nil _) zePath1 reStage2 reMode3 zeData4 reTime5 reSize6 rsSize7 rsTime8 rsInode9 rsMode10 hp) ?_)
    rintro _ w47 ⟨r46, hp, e48, rfl, zrPath50, rrStage51, rrMode52, zrData53, rrTime54, rrSize55⟩
    have s49 := Step.of0 X21 e48
    replace hp := hp zrPath50
    replace hp := hp rrStage51
    replace hp := hp rrMode52
    replace hp := hp zrData53
    replace hp := hp rrTime54
    replace hp := hp rrSize55
    have k62 := (OB.step0 k44 s49)
    have k63 := (OB.step0 k45 s49)
    have E64 := (Evo.then0 (Evo.then0 (Evo.then0 (Evo.then0 E25 (Step.evo s22)) e31) e41) e48)
    refine sq (o_newX [(.string (ByteArray.mk #[])), (.int .i64 (0 : Int)), (.int .i64 (0 : Int)), (.string (ByteArray.mk #[])), (.int .i64 (0 : Int)), (.int .i64 (0 : Int))] 82 (X := X21) (B := w.heap.size) E64.size rfl (by kernel_rfl) ?_)
    intro b56 w57 X58 s59 k60 n61
    have p65 := n61 _ (OB.old k62)
    have p66 := n61 _ (OB.old k63)
    have k67 := (OB.step0 k62 s59)
    have k68 := (OB.step0 k63 s59)
    have E69 := (Evo.then0 E64 (Step.evo s59))
    refine sq (o_stB (o := 0) (v := (.agg #[(.string r46.Path), (.int .i64 r46.Stage), (.int .i64 r46.Mode), (.string r46.Data), (.int .i64 r46.Time), (.int .i64 r46.Size)])) [(.string r46.Path), (.int .i64 r46.Stage), (.int .i64 r46.Mode), (.string r46.Data), (.int .i64 r46.Time), (.int .i64 r46.Size)] rfl k60 (by kernel_rfl) (by kernel_rfl) Tryd.sizeOf82 rfl rfl rfl ?_)
    intro w70 s71 k72
    refine nil_ ?_
    refine then_normal (K43 _ _ _ _ ?_)
    refine seq_ (fun _ K73 => ?_)
    refine reg_ ?_
    have k74 := (OB.step k67 s71 p65)
    refine sq (o_pv (.agg #[(.string e.Path), (.int .i64 e.Stage), (.int .i64 e.Mode), (.string e.Data), (.int .i64 e.Time), (.int .i64 e.Size)]) rfl (x_loadN [(.string e.Path), (.int .i64 e.Stage), (.int .i64 e.Mode), (.string e.Data), (.int .i64 e.Time), (.int .i64 e.Size)] (by kernel_rfl) Tryd.isAgg82 Tryd.sizeOf82 (k74.2.1.cells' 0 rfl)) ?_)
    have k75 := (OB.step k68 s71 p66)
    have E82 := (Evo.thenW E69 (Step.evo s71) k60.2.2)
    refine sq (o_rowX (R := r_index_Entry) [(.string e.Path), (.int .i64 e.Stage), (.int .i64 e.Mode), (.string e.Data), (.int .i64 e.Time), (.int .i64 e.Size)] [e] 82 1 (X := X58) (B := w.heap.size) E82.size rfl (by kernel_rfl) (Flat.cons (cs := [(.string e.Path), (.int .i64 e.Stage), (.int .i64 e.Mode), (.string e.Data), (.int .i64 e.Time), (.int .i64 e.Size)]) (r_index_Entry_mk zePath1 reStage2 reMode3 zeData4 reTime5 reSize6) Flat.nil) rfl (by decide) ?_)
    intro b76 w77 X78 s79 O80 n81
    have p83 := n81 _ (OB.old k74)
    have p84 := n81 _ (OB.old k75)
    have p85 := n81 _ (OB.old k72)
    refine sq (o_pv (.int .i64 written) rfl (by kernel_rfl) ?_)
    have hS86 := (Sub.trans (Sub.trans (Sub.trans (Sub.trans (Sub.trans (Sub.trans (Sub.trans (Sub.trans hS (Step.up s16)) (Step.up s22)) (Step.up s32)) (Step.up s42)) (Step.up s49)) (Step.up s59)) (Step.up s71)) (Step.up s79))
    have hXo92 := (Old.step (Old.step (Old.step (Old.step (Old.step (Old.step (Old.step (Old.step hXo s16) s22) s32) s42) s49) s59) s71) s79)
    have E93 := (Evo.then0 E82 (Step.evo s79))
    have k94 := (OB.step0 k74 s79)
    have k95 := (OB.step0 k75 s79)
    have k96 := (OB.step0 k72 s79)
    have ax91 := OS.apold O80 hX0
    obtain ⟨X87, u88, r89, hm90⟩ := OS.release O80
    have hXo97 := (Old.less hXo92 u88)
    refine sq (o_call 44 #[(.slice (some ⟨b76, 0, none⟩) ([e]).length 1), (.int .i64 written)] rfl (x_call Tryd.call44 (by rw [← show 1 = ([e]).length from O80.1]; kernel_rfl)) (stat_Smudge_w (X := X87) (l := [e]) (written := written) hXo97 r89 rwritten11 hp) ?_)
    rintro _ w99 ⟨r98, hp, e100, ar102, cr103, rfl, hr104⟩
    have s101 := Step.of0 X87 e100
    replace hp := hp (Sl.len hr104)
    refine sq (o_pv (.slice ar102 r98.length cr103) rfl (by kernel_rfl) ?_)
    refine nil_ ?_
    refine then_normal (K73 _ _ _ _ ?_)
    refine seq_ (fun _ K105 => ?_)
    refine seq_ (fun _ K106 => ?_)
    refine reg_ ?_
    refine sq (o_pv (.slice ar102 r98.length cr103) rfl (by kernel_rfl) ?_)
    refine sq (o_pv (.int .i64 (r98.length : Int)) rfl (by kernel_rfl) ?_)
    refine sq (o_pv (.bool (!decide ((r98.length : Int) = (1 : Int)))) rfl (by kernel_rfl) ?_)
    refine nil_ ?_
    refine then_normal (K106 _ _ _ _ ?_)
    refine cond_nd ((r98.length : Int) = (1 : Int)) (by kernel_rfl) (fun h107 => ?_) (fun h107 => ?_)
    ·
      replace hp := hp.1 h107
      refine seq_ (fun _ K108 => ?_)
      refine reg_ ?_
      refine sq (o_pv (.bool false) rfl (by kernel_rfl) ?_)
      refine nil_ ?_
      refine then_normal (K108 _ _ _ _ ?_)
      refine wp_ret ?_
      refine then_ret ?_
      have E109 := (Evo.then0 E93 e100)
      refine end_ret hQ (.bool false) (by kernel_rfl) ?_
      exact ⟨false, hp, E109, rfl⟩
    ·
      replace hp := hp.2 h107
      refine wp_skip ?_
      refine then_normal (K105 _ _ _ _ ?_)
      refine seq_ (fun _ K110 => ?_)
      refine reg_ ?_
      have k111 := (OB.step0 (OB.less k94 (hm90 _ p83 (OB.mem k94))) s101)
      refine sq (o_pv (.agg #[(.string e.Path), (.int .i64 e.Stage), (.int .i64 e.Mode), (.string e.Data), (.int .i64 e.Time), (.int .i64 e.Size)]) rfl (x_loadN [(.string e.Path), (.int .i64 e.Stage), (.int .i64 e.Mode), (.string e.Data), (.int .i64 e.Time), (.int .i64 e.Size)] (by kernel_rfl) Tryd.isAgg82 Tryd.sizeOf82 (k111.2.1.cells' 0 rfl)) ?_)
      have k118 := (OB.step0 (OB.less k95 (hm90 _ p84 (OB.mem k95))) s101)
      have k119 := (OB.step0 (OB.less k96 (hm90 _ p85 (OB.mem k96))) s101)
      have E120 := (Evo.then0 E93 e100)
      refine sq (o_newX [(.string (ByteArray.mk #[])), (.int .i64 (0 : Int)), (.int .i64 (0 : Int)), (.string (ByteArray.mk #[])), (.int .i64 (0 : Int)), (.int .i64 (0 : Int))] 82 (X := X87) (B := w.heap.size) E120.size rfl (by kernel_rfl) ?_)
      intro b112 w113 X114 s115 k116 n117
      have p121 := n117 _ (OB.old k111)
      have p122 := n117 _ (OB.old k118)
      have p123 := n117 _ (OB.old k119)
      have k124 := (OB.step0 k111 s115)
      have k125 := (OB.step0 k118 s115)
      have k126 := (OB.step0 k119 s115)
      have E127 := (Evo.then0 E120 (Step.evo s115))
      refine sq (o_stB (o := 0) (v := (.agg #[(.string e.Path), (.int .i64 e.Stage), (.int .i64 e.Mode), (.string e.Data), (.int .i64 e.Time), (.int .i64 e.Size)])) [(.string e.Path), (.int .i64 e.Stage), (.int .i64 e.Mode), (.string e.Data), (.int .i64 e.Time), (.int .i64 e.Size)] rfl k116 (by kernel_rfl) (by kernel_rfl) Tryd.sizeOf82 rfl rfl rfl ?_)
      intro w128 s129 k130
      refine nil_ ?_
      refine then_normal (K110 _ _ _ _ ?_)
      refine seq_ (fun _ K131 => ?_)
      refine seq_ (fun _ K132 => ?_)
      refine reg_ ?_
      refine sq (o_pv (.pointer (some ⟨b13, 4, none⟩)) rfl (by kernel_rfl) ?_)
      have k133 := (OB.step k124 s129 p121)
      refine sq (o_pv (.int .i64 e.Time) rfl (x_load1 (by kernel_rfl) Tryd.isAgg3 (k133.2.1.cell' 4 rfl)) ?_)
      refine sq (o_pv (.int .i64 written) rfl (by kernel_rfl) ?_)
      refine sq (o_pv (.bool (decide (e.Time ≥ written))) rfl (by kernel_rfl) ?_)
      refine nil_ ?_
      refine then_normal (K132 _ _ _ _ ?_)
      have hXo161 := (Old.step (Old.step (Old.step hXo97 s101) s115) s129)
      have E162 := (Evo.thenW E127 (Step.evo s129) k116.2.2)
      have hS163 := (Sub.trans (Sub.trans (Sub.trans (hm90 _ ax91 hS86) (Step.up s101)) (Step.up s115)) (Step.up s129))
      have k164 := (OB.step k125 s129 p122)
      have k165 := (OB.step k126 s129 p123)
      have r166 := (Sl.step (Sl.step (Sl.step r89 s101) s115) s129)
      have hr167 := (Sl.step (Sl.step hr104 s115) s129)
      obtain ⟨k154, hk155, hp⟩ := hp
      refine ground_ ?_
      refine join_ 25769803776 (fun lq w156 => ∃ (X157 : List Nat) (f149 : Int) (f151 : Int), (lq = []) ∧ (Evo [] w w156) ∧ (Old X157 w156) ∧ (Sub X X157) ∧ (Sl r_index_Entry X157 w156 ar102 cr103 r98) ∧ (OB ([]) w.heap.size X157 w156 b13 [(.string e.Path), (.int .i64 e.Stage), (.int .i64 e.Mode), (.string e.Data), (.int .i64 e.Time), (.int .i64 e.Size)] 82) ∧ (OB ([]) w.heap.size X157 w156 b19 [(.int .i64 s.Size), (.int .i64 s.Time), (.int .i64 s.Inode), (.int .i64 s.Mode)] 84) ∧ (OB ([]) w.heap.size X157 w156 b56 [(.string r46.Path), (.int .i64 r46.Stage), (.int .i64 r46.Mode), (.string r46.Data), (.int .i64 r46.Time), (.int .i64 r46.Size)] 82) ∧ (OB ([]) w.heap.size X157 w156 b112 [(.string e.Path), (.int .i64 e.Stage), (.int .i64 e.Mode), (.string e.Data), (.int .i64 f149), (.int .i64 f151)] 82) ∧ (inR .i64 f149) ∧ (inR .i64 f151) ∧ (k154 f149 f151)) (fun Kj158 hJ159 => ?_) ?_
      ·
        refine cond_d (e.Time ≥ written) (by kernel_rfl) (fun h175 => ?_) (fun h175 => ?_)
        ·
          replace hp := hp.1 h175
          refine seq_ (fun _ K176 => ?_)
          refine reg_ ?_
          refine sq (o_pv (.pointer (some ⟨b112, 4, none⟩)) rfl (by kernel_rfl) ?_)
          refine sq (o_stB (o := 4) (v := (.int .i64 (0 : Int))) [(.string e.Path), (.int .i64 e.Stage), (.int .i64 e.Mode), (.string e.Data), (.int .i64 (0 : Int)), (.int .i64 e.Size)] rfl k130 (by kernel_rfl) (by kernel_rfl) Tryd.sizeOf3 rfl rfl rfl ?_)
          intro w177 s178 k179
          refine nil_ ?_
          refine then_normal (K176 _ _ _ _ ?_)
          refine reg_ ?_
          refine sq (o_pv (.pointer (some ⟨b112, 5, none⟩)) rfl (by kernel_rfl) ?_)
          have k180 := (OB.step k133 s178 p121)
          have k181 := (OB.step k164 s178 p122)
          have k182 := (OB.step k165 s178 p123)
          have E183 := (Evo.thenW E162 (Step.evo s178) k130.2.2)
          refine sq (o_stB (o := 5) (v := (.int .i64 (0 : Int))) [(.string e.Path), (.int .i64 e.Stage), (.int .i64 e.Mode), (.string e.Data), (.int .i64 (0 : Int)), (.int .i64 (0 : Int))] rfl k179 (by kernel_rfl) (by kernel_rfl) Tryd.sizeOf3 rfl rfl rfl ?_)
          intro w184 s185 k186
          refine nil_ ?_
          have E187 := (Evo.thenW E183 (Step.evo s185) k179.2.2)
          have hXo188 := (Old.step (Old.step hXo161 s178) s185)
          have hS189 := (Sub.trans (Sub.trans hS163 (Step.up s178)) (Step.up s185))
          have hr190 := (Sl.step (Sl.step hr167 s178) s185)
          have k191 := (OB.step k180 s185 p121)
          have k192 := (OB.step k181 s185 p122)
          have k193 := (OB.step k182 s185 p123)
          refine then_normal (hJ159 _ _ _ ⟨[], fit_mk (fun _ _ => rfl) (by kernel_rfl) vs_nil, ?_⟩)
          exact ⟨X114, (0 : Int), (0 : Int), rfl, E187, hXo188, hS189, hr190, k191, k192, k193, k186, (by decide : inR .i64 (0 : Int)), (by decide : inR .i64 (0 : Int)), hp⟩
        ·
          replace hp := hp.2 h175
          refine wp_skip ?_
          refine then_normal (hJ159 _ _ _ ⟨[], fit_mk (fun _ _ => rfl) (by kernel_rfl) vs_nil, ?_⟩)
          exact ⟨X114, e.Time, e.Size, rfl, E162, hXo161, hS163, hr167, k133, k164, k165, k130, reTime5, reSize6, hp⟩
      ·
        rintro _ w156 g194 ⟨X157, f149, f151, rfl, E168, hXo169, hS170, hr171, k172, k173, k174, k153, rf150, rf152, hv160⟩
        replace hp := hk155 f149 f151 hv160 rf150 rf152
        refine then_normal (K131 _ _ _ _ ?_)
        refine seq_ (fun _ K195 => ?_)
        refine reg_ ?_
        refine sq (o_pv (.agg #[(.string e.Path), (.int .i64 e.Stage), (.int .i64 e.Mode), (.string e.Data), (.int .i64 e.Time), (.int .i64 e.Size)]) rfl (x_loadN [(.string e.Path), (.int .i64 e.Stage), (.int .i64 e.Mode), (.string e.Data), (.int .i64 e.Time), (.int .i64 e.Size)] (by kernel_rfl) Tryd.isAgg82 Tryd.sizeOf82 (k172.2.1.cells' 0 rfl)) ?_)
        refine sq (o_newX [(.string (ByteArray.mk #[])), (.int .i64 (0 : Int)), (.int .i64 (0 : Int)), (.string (ByteArray.mk #[])), (.int .i64 (0 : Int)), (.int .i64 (0 : Int))] 82 (X := X157) (B := w.heap.size) E168.size rfl (by kernel_rfl) ?_)
        intro b196 w197 X198 s199 k200 n201
        have p202 := n201 _ (OB.old k172)
        have p203 := n201 _ (OB.old k173)
        have p204 := n201 _ (OB.old k174)
        have p205 := n201 _ (OB.old k153)
        have k206 := (OB.step0 k172 s199)
        have k207 := (OB.step0 k173 s199)
        have k208 := (OB.step0 k174 s199)
        have k209 := (OB.step0 k153 s199)
        have E210 := (Evo.then0 E168 (Step.evo s199))
        refine sq (o_stB (o := 0) (v := (.agg #[(.string e.Path), (.int .i64 e.Stage), (.int .i64 e.Mode), (.string e.Data), (.int .i64 e.Time), (.int .i64 e.Size)])) [(.string e.Path), (.int .i64 e.Stage), (.int .i64 e.Mode), (.string e.Data), (.int .i64 e.Time), (.int .i64 e.Size)] rfl k200 (by kernel_rfl) (by kernel_rfl) Tryd.sizeOf82 rfl rfl rfl ?_)
        intro w211 s212 k213
        refine nil_ ?_
        refine then_normal (K195 _ _ _ _ ?_)
        refine seq_ (fun _ K214 => ?_)
        refine reg_ ?_
        refine sq (o_pv (.pointer (some ⟨b19, 1, none⟩)) rfl (by kernel_rfl) ?_)
        have k215 := (OB.step k207 s212 p203)
        refine sq (o_pv (.int .i64 s.Time) rfl (x_load1 (by kernel_rfl) Tryd.isAgg3 (k215.2.1.cell' 1 rfl)) ?_)
        refine sq (o_pv (.pointer (some ⟨b196, 4, none⟩)) rfl (by kernel_rfl) ?_)
        have k216 := (OB.step k206 s212 p202)
        have k217 := (OB.step k208 s212 p204)
        have k218 := (OB.step k209 s212 p205)
        have E219 := (Evo.thenW E210 (Step.evo s212) k200.2.2)
        refine sq (o_stB (o := 4) (v := (.int .i64 s.Time)) [(.string e.Path), (.int .i64 e.Stage), (.int .i64 e.Mode), (.string e.Data), (.int .i64 s.Time), (.int .i64 e.Size)] rfl k213 (by kernel_rfl) (by kernel_rfl) Tryd.sizeOf3 rfl rfl rfl ?_)
        intro w220 s221 k222
        refine nil_ ?_
        refine then_normal (K214 _ _ _ _ ?_)
        refine seq_ (fun _ K223 => ?_)
        refine reg_ ?_
        refine sq (o_pv (.pointer (some ⟨b19, 0, none⟩)) rfl (by kernel_rfl) ?_)
        have k224 := (OB.step k215 s221 p203)
        refine sq (o_pv (.int .i64 s.Size) rfl (x_load1 (by kernel_rfl) Tryd.isAgg3 (k224.2.1.cell' 0 rfl)) ?_)
        refine sq (o_pv (.pointer (some ⟨b196, 5, none⟩)) rfl (by kernel_rfl) ?_)
        have k225 := (OB.step k216 s221 p202)
        have k226 := (OB.step k217 s221 p204)
        have k227 := (OB.step k218 s221 p205)
        have E228 := (Evo.thenW E219 (Step.evo s221) k213.2.2)
        refine sq (o_stB (o := 5) (v := (.int .i64 s.Size)) [(.string e.Path), (.int .i64 e.Stage), (.int .i64 e.Mode), (.string e.Data), (.int .i64 s.Time), (.int .i64 s.Size)] rfl k222 (by kernel_rfl) (by kernel_rfl) Tryd.sizeOf3 rfl rfl rfl ?_)
        intro w229 s230 k231
        refine nil_ ?_
        refine then_normal (K223 _ _ _ _ ?_)
        refine seq_ (fun _ K232 => ?_)
        have E353 := (Evo.thenW E228 (Step.evo s230) k222.2.2)
        have hXo354 := (Old.step (Old.step (Old.step (Old.step hXo169 s199) s212) s221) s230)
        have hS355 := (Sub.trans (Sub.trans (Sub.trans (Sub.trans hS170 (Step.up s199)) (Step.up s212)) (Step.up s221)) (Step.up s230))
        have hr356 := (Sl.step (Sl.step (Sl.step (Sl.step hr171 s199) s212) s221) s230)
        have k357 := (OB.step k225 s230 p202)
        have k358 := (OB.step k224 s230 p203)
        have k359 := (OB.step k226 s230 p204)
        have k360 := (OB.step k227 s230 p205)
        obtain ⟨k346, hk347, hp⟩ := hp
        refine ground_ ?_
        refine join_ 77371252455331869134684224 (fun lq w348 => ∃ (X349 : List Nat) (s345 : Bool), (lq = [(6, (.bool s345))]) ∧ (Evo [] w w348) ∧ (Old X349 w348) ∧ (Sub X X349) ∧ (k346 s345)) (fun Kj350 hJ351 => ?_) ?_
        ·
          refine reg_drawn (RB w229.heap.size []) 44 (by kernel_rfl) (fun w364 hd365 => ?_)
          have e366 := Evo.of_drew hd365
          have z367 : w364.heap.size = w229.heap.size := by rw [hd365]
          clear hd365
          have s369 := Step.of0 X198 e366
          have er368 := RB.refl w229.heap.size [] w364
          have E370 := (Evo.then0 E353 (Step.evo s369))
          have hXo371 := (Old.step hXo354 s369)
          have hS372 := (Sub.trans hS355 (Step.up s369))
          have hr373 := (Sl.step hr356 s369)
          have k374 := (OB.step0 k357 s369)
          have k375 := (OB.step0 k358 s369)
          have k376 := (OB.step0 k359 s369)
          have k377 := (OB.step0 k360 s369)
          have k378 := (OB.step0 k231 s369)
          refine r_take 0 (.bool r39) (RB.pre _ _) rfl (by kernel_rfl) (fun _ _ _ h => hQ.panic _ _ _ _ _ h) (.inl ⟨rfl, fun wq hq => (by kernel_rfl)⟩) ?_
          refine r_take 1 (.pointer (some ⟨b13, 1, none⟩)) (RB.pre _ _) rfl (by kernel_rfl) (fun _ _ _ h => hQ.panic _ _ _ _ _ h) (.inl ⟨rfl, fun wq hq => (by kernel_rfl)⟩) ?_
          refine r_take 2 (.int .i64 e.Stage) (RB.pre _ _) rfl (by kernel_rfl) (fun _ _ _ h => hQ.panic _ _ _ _ _ h) (.inl ⟨rfl, fun wq hq => (x_load1 (by kernel_rfl) Tryd.isAgg3 ((Blk.rb k374.2.1 (RB.trans er368 hq) (Nat.lt_of_lt_of_eq (Blk.lt k374.2.1) z367) (fun h => by cases h)).cell' 1 rfl))⟩) ?_
          by_cases h379 : e.Stage = (0 : Int)
          ·
            replace hp := hp.1 h379
            refine r_take 3 (.bool true) (RB.pre _ _) rfl (by kernel_rfl) (fun _ _ _ h => hQ.panic _ _ _ _ _ h) (.inl ⟨rfl, fun wq hq => (x_dt (p := e.Stage = (0 : Int)) (by kernel_rfl) h379)⟩) ?_
            refine r_take 4 (.bool true) (RB.pre _ _) rfl (by kernel_rfl) (fun _ _ _ h => hQ.panic _ _ _ _ _ h) (.inl ⟨rfl, fun wq hq => (by kernel_rfl)⟩) ?_
            refine r_take 5 (.pointer (some ⟨b13, 4, none⟩)) (RB.pre _ _) rfl (by kernel_rfl) (fun _ _ _ h => hQ.panic _ _ _ _ _ h) (.inl ⟨(by kernel_rfl), fun wq hq => (by kernel_rfl)⟩) ?_
            refine r_take 6 (.int .i64 e.Time) (RB.pre _ _) rfl (by kernel_rfl) (fun _ _ _ h => hQ.panic _ _ _ _ _ h) (.inl ⟨(by kernel_rfl), fun wq hq => (x_load1 (by kernel_rfl) Tryd.isAgg3 ((Blk.rb k374.2.1 (RB.trans er368 hq) (Nat.lt_of_lt_of_eq (Blk.lt k374.2.1) z367) (fun h => by cases h)).cell' 4 rfl))⟩) ?_
            refine r_take 7 (.pointer (some ⟨b19, 1, none⟩)) (RB.pre _ _) rfl (by kernel_rfl) (fun _ _ _ h => hQ.panic _ _ _ _ _ h) (.inl ⟨(by kernel_rfl), fun wq hq => (by kernel_rfl)⟩) ?_
            refine r_take 8 (.int .i64 s.Time) (RB.pre _ _) rfl (by kernel_rfl) (fun _ _ _ h => hQ.panic _ _ _ _ _ h) (.inl ⟨(by kernel_rfl), fun wq hq => (x_load1 (by kernel_rfl) Tryd.isAgg3 ((Blk.rb k375.2.1 (RB.trans er368 hq) (Nat.lt_of_lt_of_eq (Blk.lt k375.2.1) z367) (fun h => by cases h)).cell' 1 rfl))⟩) ?_
            by_cases h380 : e.Time = s.Time
            ·
              replace hp := hp.1 h380
              refine r_take 9 (.bool true) (RB.pre _ _) rfl (by kernel_rfl) (fun _ _ _ h => hQ.panic _ _ _ _ _ h) (.inl ⟨(by kernel_rfl), fun wq hq => (x_dt (p := e.Time = s.Time) (by kernel_rfl) h380)⟩) ?_
              refine r_take 10 (.bool true) (RB.pre _ _) rfl (by kernel_rfl) (fun _ _ _ h => hQ.panic _ _ _ _ _ h) (.inl ⟨rfl, fun wq hq => (by kernel_rfl)⟩) ?_
              refine r_take 11 (.bool true) (RB.pre _ _) rfl (by kernel_rfl) (fun _ _ _ h => hQ.panic _ _ _ _ _ h) (.inl ⟨rfl, fun wq hq => (by kernel_rfl)⟩) ?_
              refine r_take 12 (.pointer (some ⟨b13, 5, none⟩)) (RB.pre _ _) rfl (by kernel_rfl) (fun _ _ _ h => hQ.panic _ _ _ _ _ h) (.inl ⟨(by kernel_rfl), fun wq hq => (by kernel_rfl)⟩) ?_
              refine r_take 13 (.int .i64 e.Size) (RB.pre _ _) rfl (by kernel_rfl) (fun _ _ _ h => hQ.panic _ _ _ _ _ h) (.inl ⟨(by kernel_rfl), fun wq hq => (x_load1 (by kernel_rfl) Tryd.isAgg3 ((Blk.rb k374.2.1 (RB.trans er368 hq) (Nat.lt_of_lt_of_eq (Blk.lt k374.2.1) z367) (fun h => by cases h)).cell' 5 rfl))⟩) ?_
              refine r_take 14 (.pointer (some ⟨b19, 0, none⟩)) (RB.pre _ _) rfl (by kernel_rfl) (fun _ _ _ h => hQ.panic _ _ _ _ _ h) (.inl ⟨(by kernel_rfl), fun wq hq => (by kernel_rfl)⟩) ?_
              refine r_take 15 (.int .i64 s.Size) (RB.pre _ _) rfl (by kernel_rfl) (fun _ _ _ h => hQ.panic _ _ _ _ _ h) (.inl ⟨(by kernel_rfl), fun wq hq => (x_load1 (by kernel_rfl) Tryd.isAgg3 ((Blk.rb k375.2.1 (RB.trans er368 hq) (Nat.lt_of_lt_of_eq (Blk.lt k375.2.1) z367) (fun h => by cases h)).cell' 0 rfl))⟩) ?_
              by_cases h381 : e.Size = s.Size
              ·
                replace hp := hp.1 h381
                refine r_take 16 (.bool true) (RB.pre _ _) rfl (by kernel_rfl) (fun _ _ _ h => hQ.panic _ _ _ _ _ h) (.inl ⟨(by kernel_rfl), fun wq hq => (x_dt (p := e.Size = s.Size) (by kernel_rfl) h381)⟩) ?_
                refine r_take 17 (.bool true) (RB.pre _ _) rfl (by kernel_rfl) (fun _ _ _ h => hQ.panic _ _ _ _ _ h) (.inl ⟨rfl, fun wq hq => (by kernel_rfl)⟩) ?_
                refine r_take 18 (.bool true) (RB.pre _ _) rfl (by kernel_rfl) (fun _ _ _ h => hQ.panic _ _ _ _ _ h) (.inl ⟨rfl, fun wq hq => (by kernel_rfl)⟩) ?_
                refine r_take 19 (.pointer (some ⟨b13, 2, none⟩)) (RB.pre _ _) rfl (by kernel_rfl) (fun _ _ _ h => hQ.panic _ _ _ _ _ h) (.inl ⟨(by kernel_rfl), fun wq hq => (by kernel_rfl)⟩) ?_
                refine r_take 20 (.int .i64 e.Mode) (RB.pre _ _) rfl (by kernel_rfl) (fun _ _ _ h => hQ.panic _ _ _ _ _ h) (.inl ⟨(by kernel_rfl), fun wq hq => (x_load1 (by kernel_rfl) Tryd.isAgg3 ((Blk.rb k374.2.1 (RB.trans er368 hq) (Nat.lt_of_lt_of_eq (Blk.lt k374.2.1) z367) (fun h => by cases h)).cell' 2 rfl))⟩) ?_
                refine r_take 21 (.pointer (some ⟨b19, 3, none⟩)) (RB.pre _ _) rfl (by kernel_rfl) (fun _ _ _ h => hQ.panic _ _ _ _ _ h) (.inl ⟨(by kernel_rfl), fun wq hq => (by kernel_rfl)⟩) ?_
                refine r_take 22 (.int .i64 s.Mode) (RB.pre _ _) rfl (by kernel_rfl) (fun _ _ _ h => hQ.panic _ _ _ _ _ h) (.inl ⟨(by kernel_rfl), fun wq hq => (x_load1 (by kernel_rfl) Tryd.isAgg3 ((Blk.rb k375.2.1 (RB.trans er368 hq) (Nat.lt_of_lt_of_eq (Blk.lt k375.2.1) z367) (fun h => by cases h)).cell' 3 rfl))⟩) ?_
                by_cases h382 : e.Mode = s.Mode
                ·
                  replace hp := hp.1 h382
                  refine r_take 23 (.bool true) (RB.pre _ _) rfl (by kernel_rfl) (fun _ _ _ h => hQ.panic _ _ _ _ _ h) (.inl ⟨(by kernel_rfl), fun wq hq => (x_dt (p := e.Mode = s.Mode) (by kernel_rfl) h382)⟩) ?_
                  refine r_take 24 (.bool true) (RB.pre _ _) rfl (by kernel_rfl) (fun _ _ _ h => hQ.panic _ _ _ _ _ h) (.inl ⟨rfl, fun wq hq => (by kernel_rfl)⟩) ?_
                  refine r_take 25 (.bool true) (RB.pre _ _) rfl (by kernel_rfl) (fun _ _ _ h => hQ.panic _ _ _ _ _ h) (.inl ⟨rfl, fun wq hq => (by kernel_rfl)⟩) ?_
                  refine r_take 26 (.pointer (some ⟨b13, 4, none⟩)) (RB.pre _ _) rfl (by kernel_rfl) (fun _ _ _ h => hQ.panic _ _ _ _ _ h) (.inl ⟨(by kernel_rfl), fun wq hq => (by kernel_rfl)⟩) ?_
                  refine r_take 27 (.int .i64 e.Time) (RB.pre _ _) rfl (by kernel_rfl) (fun _ _ _ h => hQ.panic _ _ _ _ _ h) (.inl ⟨(by kernel_rfl), fun wq hq => (x_load1 (by kernel_rfl) Tryd.isAgg3 ((Blk.rb k374.2.1 (RB.trans er368 hq) (Nat.lt_of_lt_of_eq (Blk.lt k374.2.1) z367) (fun h => by cases h)).cell' 4 rfl))⟩) ?_
                  refine r_take 28 (.int .i64 written) (RB.pre _ _) rfl (by kernel_rfl) (fun _ _ _ h => hQ.panic _ _ _ _ _ h) (.inl ⟨(by kernel_rfl), fun wq hq => (by kernel_rfl)⟩) ?_
                  refine r_take 29 (.bool (decide (e.Time < written))) (RB.pre _ _) rfl (by kernel_rfl) (fun _ _ _ h => hQ.panic _ _ _ _ _ h) (.inl ⟨(by kernel_rfl), fun wq hq => (by kernel_rfl)⟩) ?_
                  refine r_take 30 (.bool (decide (e.Time < written))) (RB.pre _ _) rfl (by kernel_rfl) (fun _ _ _ h => hQ.panic _ _ _ _ _ h) (.inl ⟨rfl, fun wq hq => (by kernel_rfl)⟩) ?_
                  by_cases h383 : (r39 : Bool) = (decide (e.Time < written))
                  ·
                    replace hp := hp.1 h383
                    refine r_take 31 (.bool true) (RB.pre _ _) rfl (by kernel_rfl) (fun _ _ _ h => hQ.panic _ _ _ _ _ h) (.inl ⟨rfl, fun wq hq => (x_dt (p := (r39 : Bool) = (decide (e.Time < written))) (x_booleq (a := r39) (b := (decide (e.Time < written))) Tryd.underlying4 (by kernel_rfl) (by kernel_rfl)) h383)⟩) ?_
                    refine r_take 32 (.bool true) (RB.pre _ _) rfl (by kernel_rfl) (fun _ _ _ h => hQ.panic _ _ _ _ _ h) (.inl ⟨rfl, fun wq hq => (by kernel_rfl)⟩) ?_
                    refine r_take 33 (.agg #[(.string r46.Path), (.int .i64 r46.Stage), (.int .i64 r46.Mode), (.string r46.Data), (.int .i64 r46.Time), (.int .i64 r46.Size)]) (RB.pre _ _) rfl (by kernel_rfl) (fun _ _ _ h => hQ.panic _ _ _ _ _ h) (.inl ⟨(by kernel_rfl), fun wq hq => (x_loadN [(.string r46.Path), (.int .i64 r46.Stage), (.int .i64 r46.Mode), (.string r46.Data), (.int .i64 r46.Time), (.int .i64 r46.Size)] (by kernel_rfl) Tryd.isAgg82 Tryd.sizeOf82 ((Blk.rb k376.2.1 (RB.trans er368 hq) (Nat.lt_of_lt_of_eq (Blk.lt k376.2.1) z367) (fun h => by cases h)).cells' 0 rfl))⟩) ?_
                    refine r_take 34 (.agg #[(.string e.Path), (.int .i64 e.Stage), (.int .i64 e.Mode), (.string e.Data), (.int .i64 s.Time), (.int .i64 s.Size)]) (RB.pre _ _) rfl (by kernel_rfl) (fun _ _ _ h => hQ.panic _ _ _ _ _ h) (.inl ⟨(by kernel_rfl), fun wq hq => (x_loadN [(.string e.Path), (.int .i64 e.Stage), (.int .i64 e.Mode), (.string e.Data), (.int .i64 s.Time), (.int .i64 s.Size)] (by kernel_rfl) Tryd.isAgg82 Tryd.sizeOf82 ((Blk.rb k378.2.1 (RB.trans er368 hq) (Nat.lt_of_lt_of_eq (Blk.lt k378.2.1) z367) (fun h => by cases h)).cells' 0 rfl))⟩) ?_
                    by_cases h384 : ((r46.Path : ByteArray) = e.Path) ∧ ((r46.Stage = e.Stage) ∧ ((r46.Mode = e.Mode) ∧ (((r46.Data : ByteArray) = e.Data) ∧ ((r46.Time = s.Time) ∧ ((r46.Size = s.Size) ∧ True)))))
                    ·
                      replace hp := hp.1 h384
                      refine r_take 35 (.bool true) (RB.pre _ _) rfl (by kernel_rfl) (fun _ _ _ h => hQ.panic _ _ _ _ _ h) (.inl ⟨(by kernel_rfl), fun wq hq => (x_dt (p := ((r46.Path : ByteArray) = e.Path) ∧ ((r46.Stage = e.Stage) ∧ ((r46.Mode = e.Mode) ∧ (((r46.Data : ByteArray) = e.Data) ∧ ((r46.Time = s.Time) ∧ ((r46.Size = s.Size) ∧ True)))))) (x_steq (q := ((r46.Path : ByteArray) = e.Path) ∧ ((r46.Stage = e.Stage) ∧ ((r46.Mode = e.Mode) ∧ (((r46.Data : ByteArray) = e.Data) ∧ ((r46.Time = s.Time) ∧ ((r46.Size = s.Size) ∧ True)))))) (xs := #[(.string r46.Path), (.int .i64 r46.Stage), (.int .i64 r46.Mode), (.string r46.Data), (.int .i64 r46.Time), (.int .i64 r46.Size)]) (ys := #[(.string e.Path), (.int .i64 e.Stage), (.int .i64 e.Mode), (.string e.Data), (.int .i64 s.Time), (.int .i64 s.Size)]) [({ name := "Path", type := 9, offset := 0, embedded := false, tag := "", pkgPath := "", byteOffset := 0 } : Field), ({ name := "Stage", type := 3, offset := 1, embedded := false, tag := "", pkgPath := "", byteOffset := 16 } : Field), ({ name := "Mode", type := 3, offset := 2, embedded := false, tag := "", pkgPath := "", byteOffset := 24 } : Field), ({ name := "Data", type := 9, offset := 3, embedded := false, tag := "", pkgPath := "", byteOffset := 32 } : Field), ({ name := "Time", type := 3, offset := 4, embedded := false, tag := "", pkgPath := "", byteOffset := 48 } : Field), ({ name := "Size", type := 3, offset := 5, embedded := false, tag := "", pkgPath := "", byteOffset := 56 } : Field)] (by kernel_rfl) (by kernel_rfl) (by kernel_rfl) (by kernel_rfl) (by kernel_rfl) (by kernel_rfl) (eqF_str (a := r46.Path) (b := e.Path) (by kernel_rfl) (by kernel_rfl) (by kernel_rfl) Tryd.underlying9 (eqF_int (k := .i64) (a := r46.Stage) (b := e.Stage) (by kernel_rfl) (by kernel_rfl) (by kernel_rfl) Tryd.underlying3 (eqF_int (k := .i64) (a := r46.Mode) (b := e.Mode) (by kernel_rfl) (by kernel_rfl) (by kernel_rfl) Tryd.underlying3 (eqF_str (a := r46.Data) (b := e.Data) (by kernel_rfl) (by kernel_rfl) (by kernel_rfl) Tryd.underlying9 (eqF_int (k := .i64) (a := r46.Time) (b := s.Time) (by kernel_rfl) (by kernel_rfl) (by kernel_rfl) Tryd.underlying3 (eqF_int (k := .i64) (a := r46.Size) (b := s.Size) (by kernel_rfl) (by kernel_rfl) (by kernel_rfl) Tryd.underlying3 eqF_nil))))))) h384)⟩) ?_
                      refine r_take 36 (.bool true) (RB.pre _ _) rfl (by kernel_rfl) (fun _ _ _ h => hQ.panic _ _ _ _ _ h) (.inl ⟨rfl, fun wq hq => (by kernel_rfl)⟩) ?_
                      refine r_take 37 (.bool true) (RB.pre _ _) rfl (by kernel_rfl) (fun _ _ _ h => hQ.panic _ _ _ _ _ h) (.inl ⟨rfl, fun wq hq => (by kernel_rfl)⟩) ?_
                      refine r_take 38 (.slice ar102 r98.length cr103) (RB.pre _ _) rfl (by kernel_rfl) (fun _ _ _ h => hQ.panic _ _ _ _ _ h) (.inl ⟨(by kernel_rfl), fun wq hq => (by kernel_rfl)⟩) ?_
                      obtain ⟨h385, hp⟩ := hp
                      obtain ⟨b386, o387, cs388, ha389, nx390, lt391, ok392, hc393⟩ := Sl.atI hr373 (0 : Int) h385
                      obtain ⟨rfl, zePath394, reStage395, reMode396, zeData397, reTime398, reSize399⟩ := r_index_Entry_open ok392
                      replace hp := hp zePath394
                      replace hp := hp reStage395
                      replace hp := hp reMode396
                      replace hp := hp zeData397
                      replace hp := hp reTime398
                      replace hp := hp reSize399
                      refine r_take 39 (.pointer (some ⟨b386, o387 + (0 : Int).toNat * 6, none⟩)) (RB.pre _ _) rfl (by kernel_rfl) (fun _ _ _ h => hQ.panic _ _ _ _ _ h) (.inl ⟨(by kernel_rfl), fun wq hq => (x_ixA (m := r98.length) (c := cr103) (k := .i64) (i := (0 : Int)) Tryd.underlying87 Tryd.sizeOf82 (by rw [← ha389]; kernel_rfl) (by kernel_rfl) h385)⟩) ?_
                      refine r_take 40 (.agg #[(.string ((lget r98 (0 : Int)).Path)), (.int .i64 ((lget r98 (0 : Int)).Stage)), (.int .i64 ((lget r98 (0 : Int)).Mode)), (.string ((lget r98 (0 : Int)).Data)), (.int .i64 ((lget r98 (0 : Int)).Time)), (.int .i64 ((lget r98 (0 : Int)).Size))]) (RB.pre _ _) rfl (by kernel_rfl) (fun _ _ _ h => hQ.panic _ _ _ _ _ h) (.inl ⟨(by kernel_rfl), fun wq hq => (x_loadN [(.string ((lget r98 (0 : Int)).Path)), (.int .i64 ((lget r98 (0 : Int)).Stage)), (.int .i64 ((lget r98 (0 : Int)).Mode)), (.string ((lget r98 (0 : Int)).Data)), (.int .i64 ((lget r98 (0 : Int)).Time)), (.int .i64 ((lget r98 (0 : Int)).Size))] (by kernel_rfl) Tryd.isAgg82 Tryd.sizeOf82 (CellsAt.rb hc393 (RB.trans er368 hq) (Nat.lt_of_lt_of_eq lt391 z367) (fun h => by cases h)))⟩) ?_
                      refine r_take 41 (.agg #[(.string e.Path), (.int .i64 e.Stage), (.int .i64 e.Mode), (.string e.Data), (.int .i64 f149), (.int .i64 f151)]) (RB.pre _ _) rfl (by kernel_rfl) (fun _ _ _ h => hQ.panic _ _ _ _ _ h) (.inl ⟨(by kernel_rfl), fun wq hq => (x_loadN [(.string e.Path), (.int .i64 e.Stage), (.int .i64 e.Mode), (.string e.Data), (.int .i64 f149), (.int .i64 f151)] (by kernel_rfl) Tryd.isAgg82 Tryd.sizeOf82 ((Blk.rb k377.2.1 (RB.trans er368 hq) (Nat.lt_of_lt_of_eq (Blk.lt k377.2.1) z367) (fun h => by cases h)).cells' 0 rfl))⟩) ?_
                      refine r_take 42 (.bool (decide ((((lget r98 (0 : Int)).Path : ByteArray) = e.Path) ∧ (((lget r98 (0 : Int)).Stage = e.Stage) ∧ (((lget r98 (0 : Int)).Mode = e.Mode) ∧ ((((lget r98 (0 : Int)).Data : ByteArray) = e.Data) ∧ (((lget r98 (0 : Int)).Time = f149) ∧ (((lget r98 (0 : Int)).Size = f151) ∧ True)))))))) (RB.pre _ _) rfl (by kernel_rfl) (fun _ _ _ h => hQ.panic _ _ _ _ _ h) (.inl ⟨(by kernel_rfl), fun wq hq => (x_steq (q := (((lget r98 (0 : Int)).Path : ByteArray) = e.Path) ∧ (((lget r98 (0 : Int)).Stage = e.Stage) ∧ (((lget r98 (0 : Int)).Mode = e.Mode) ∧ ((((lget r98 (0 : Int)).Data : ByteArray) = e.Data) ∧ (((lget r98 (0 : Int)).Time = f149) ∧ (((lget r98 (0 : Int)).Size = f151) ∧ True)))))) (xs := #[(.string ((lget r98 (0 : Int)).Path)), (.int .i64 ((lget r98 (0 : Int)).Stage)), (.int .i64 ((lget r98 (0 : Int)).Mode)), (.string ((lget r98 (0 : Int)).Data)), (.int .i64 ((lget r98 (0 : Int)).Time)), (.int .i64 ((lget r98 (0 : Int)).Size))]) (ys := #[(.string e.Path), (.int .i64 e.Stage), (.int .i64 e.Mode), (.string e.Data), (.int .i64 f149), (.int .i64 f151)]) [({ name := "Path", type := 9, offset := 0, embedded := false, tag := "", pkgPath := "", byteOffset := 0 } : Field), ({ name := "Stage", type := 3, offset := 1, embedded := false, tag := "", pkgPath := "", byteOffset := 16 } : Field), ({ name := "Mode", type := 3, offset := 2, embedded := false, tag := "", pkgPath := "", byteOffset := 24 } : Field), ({ name := "Data", type := 9, offset := 3, embedded := false, tag := "", pkgPath := "", byteOffset := 32 } : Field), ({ name := "Time", type := 3, offset := 4, embedded := false, tag := "", pkgPath := "", byteOffset := 48 } : Field), ({ name := "Size", type := 3, offset := 5, embedded := false, tag := "", pkgPath := "", byteOffset := 56 } : Field)] (by kernel_rfl) (by kernel_rfl) (by kernel_rfl) (by kernel_rfl) (by kernel_rfl) (by kernel_rfl) (eqF_str (a := (lget r98 (0 : Int)).Path) (b := e.Path) (by kernel_rfl) (by kernel_rfl) (by kernel_rfl) Tryd.underlying9 (eqF_int (k := .i64) (a := (lget r98 (0 : Int)).Stage) (b := e.Stage) (by kernel_rfl) (by kernel_rfl) (by kernel_rfl) Tryd.underlying3 (eqF_int (k := .i64) (a := (lget r98 (0 : Int)).Mode) (b := e.Mode) (by kernel_rfl) (by kernel_rfl) (by kernel_rfl) Tryd.underlying3 (eqF_str (a := (lget r98 (0 : Int)).Data) (b := e.Data) (by kernel_rfl) (by kernel_rfl) (by kernel_rfl) Tryd.underlying9 (eqF_int (k := .i64) (a := (lget r98 (0 : Int)).Time) (b := f149) (by kernel_rfl) (by kernel_rfl) (by kernel_rfl) Tryd.underlying3 (eqF_int (k := .i64) (a := (lget r98 (0 : Int)).Size) (b := f151) (by kernel_rfl) (by kernel_rfl) (by kernel_rfl) Tryd.underlying3 eqF_nil)))))))⟩) ?_
                      refine r_take 43 (.bool (decide ((((lget r98 (0 : Int)).Path : ByteArray) = e.Path) ∧ (((lget r98 (0 : Int)).Stage = e.Stage) ∧ (((lget r98 (0 : Int)).Mode = e.Mode) ∧ ((((lget r98 (0 : Int)).Data : ByteArray) = e.Data) ∧ (((lget r98 (0 : Int)).Time = f149) ∧ (((lget r98 (0 : Int)).Size = f151) ∧ True)))))))) (RB.pre _ _) rfl (by kernel_rfl) (fun _ _ _ h => hQ.panic _ _ _ _ _ h) (.inl ⟨rfl, fun wq hq => (by kernel_rfl)⟩) ?_
                      refine r_ready [44] (by kernel_rfl) rfl (all_cons ⟨_, _, _, _, _, _, rfl, ?_⟩ all_nil)
                      refine o_pv (.bool (decide ((((lget r98 (0 : Int)).Path : ByteArray) = e.Path) ∧ (((lget r98 (0 : Int)).Stage = e.Stage) ∧ (((lget r98 (0 : Int)).Mode = e.Mode) ∧ ((((lget r98 (0 : Int)).Data : ByteArray) = e.Data) ∧ (((lget r98 (0 : Int)).Time = f149) ∧ (((lget r98 (0 : Int)).Size = f151) ∧ True)))))))) rfl (by kernel_rfl) ?_
                      refine ⟨fun h => absurd h (by decide), ?_⟩
                      refine r_done (by kernel_rfl) ?_
                      refine then_normal (hJ351 _ _ _ ⟨[(6, (.bool (decide ((((lget r98 (0 : Int)).Path : ByteArray) = e.Path) ∧ (((lget r98 (0 : Int)).Stage = e.Stage) ∧ (((lget r98 (0 : Int)).Mode = e.Mode) ∧ ((((lget r98 (0 : Int)).Data : ByteArray) = e.Data) ∧ (((lget r98 (0 : Int)).Time = f149) ∧ (((lget r98 (0 : Int)).Size = f151) ∧ True)))))))))], fit_mk (fun _ _ => rfl) (by kernel_rfl) (vs_cons (by kernel_rfl) vs_nil), ?_⟩)
                      exact ⟨X198, (decide ((((lget r98 (0 : Int)).Path : ByteArray) = e.Path) ∧ (((lget r98 (0 : Int)).Stage = e.Stage) ∧ (((lget r98 (0 : Int)).Mode = e.Mode) ∧ ((((lget r98 (0 : Int)).Data : ByteArray) = e.Data) ∧ (((lget r98 (0 : Int)).Time = f149) ∧ (((lget r98 (0 : Int)).Size = f151) ∧ True))))))), rfl, E370, hXo371, hS372, hp⟩
                    ·
                      replace hp := hp.2 h384
                      refine r_take 35 (.bool false) (RB.pre _ _) rfl (by kernel_rfl) (fun _ _ _ h => hQ.panic _ _ _ _ _ h) (.inl ⟨(by kernel_rfl), fun wq hq => (x_df (p := ((r46.Path : ByteArray) = e.Path) ∧ ((r46.Stage = e.Stage) ∧ ((r46.Mode = e.Mode) ∧ (((r46.Data : ByteArray) = e.Data) ∧ ((r46.Time = s.Time) ∧ ((r46.Size = s.Size) ∧ True)))))) (x_steq (q := ((r46.Path : ByteArray) = e.Path) ∧ ((r46.Stage = e.Stage) ∧ ((r46.Mode = e.Mode) ∧ (((r46.Data : ByteArray) = e.Data) ∧ ((r46.Time = s.Time) ∧ ((r46.Size = s.Size) ∧ True)))))) (xs := #[(.string r46.Path), (.int .i64 r46.Stage), (.int .i64 r46.Mode), (.string r46.Data), (.int .i64 r46.Time), (.int .i64 r46.Size)]) (ys := #[(.string e.Path), (.int .i64 e.Stage), (.int .i64 e.Mode), (.string e.Data), (.int .i64 s.Time), (.int .i64 s.Size)]) [({ name := "Path", type := 9, offset := 0, embedded := false, tag := "", pkgPath := "", byteOffset := 0 } : Field), ({ name := "Stage", type := 3, offset := 1, embedded := false, tag := "", pkgPath := "", byteOffset := 16 } : Field), ({ name := "Mode", type := 3, offset := 2, embedded := false, tag := "", pkgPath := "", byteOffset := 24 } : Field), ({ name := "Data", type := 9, offset := 3, embedded := false, tag := "", pkgPath := "", byteOffset := 32 } : Field), ({ name := "Time", type := 3, offset := 4, embedded := false, tag := "", pkgPath := "", byteOffset := 48 } : Field), ({ name := "Size", type := 3, offset := 5, embedded := false, tag := "", pkgPath := "", byteOffset := 56 } : Field)] (by kernel_rfl) (by kernel_rfl) (by kernel_rfl) (by kernel_rfl) (by kernel_rfl) (by kernel_rfl) (eqF_str (a := r46.Path) (b := e.Path) (by kernel_rfl) (by kernel_rfl) (by kernel_rfl) Tryd.underlying9 (eqF_int (k := .i64) (a := r46.Stage) (b := e.Stage) (by kernel_rfl) (by kernel_rfl) (by kernel_rfl) Tryd.underlying3 (eqF_int (k := .i64) (a := r46.Mode) (b := e.Mode) (by kernel_rfl) (by kernel_rfl) (by kernel_rfl) Tryd.underlying3 (eqF_str (a := r46.Data) (b := e.Data) (by kernel_rfl) (by kernel_rfl) (by kernel_rfl) Tryd.underlying9 (eqF_int (k := .i64) (a := r46.Time) (b := s.Time) (by kernel_rfl) (by kernel_rfl) (by kernel_rfl) Tryd.underlying3 (eqF_int (k := .i64) (a := r46.Size) (b := s.Size) (by kernel_rfl) (by kernel_rfl) (by kernel_rfl) Tryd.underlying3 eqF_nil))))))) h384)⟩) ?_
                      refine r_take 36 (.bool false) (RB.pre _ _) rfl (by kernel_rfl) (fun _ _ _ h => hQ.panic _ _ _ _ _ h) (.inl ⟨rfl, fun wq hq => (by kernel_rfl)⟩) ?_
                      refine r_take 37 (.bool false) (RB.pre _ _) rfl (by kernel_rfl) (fun _ _ _ h => hQ.panic _ _ _ _ _ h) (.inl ⟨rfl, fun wq hq => (by kernel_rfl)⟩) ?_
                      refine r_take 38 undef (RB.pre _ _) rfl (by kernel_rfl) (fun _ _ _ h => hQ.panic _ _ _ _ _ h) (.inr ⟨by kernel_rfl, rfl⟩) ?_
                      refine r_take 39 undef (RB.pre _ _) rfl (by kernel_rfl) (fun _ _ _ h => hQ.panic _ _ _ _ _ h) (.inr ⟨by kernel_rfl, rfl⟩) ?_
                      refine r_take 40 undef (RB.pre _ _) rfl (by kernel_rfl) (fun _ _ _ h => hQ.panic _ _ _ _ _ h) (.inr ⟨by kernel_rfl, rfl⟩) ?_
                      refine r_take 41 undef (RB.pre _ _) rfl (by kernel_rfl) (fun _ _ _ h => hQ.panic _ _ _ _ _ h) (.inr ⟨by kernel_rfl, rfl⟩) ?_
                      refine r_take 42 undef (RB.pre _ _) rfl (by kernel_rfl) (fun _ _ _ h => hQ.panic _ _ _ _ _ h) (.inr ⟨by kernel_rfl, rfl⟩) ?_
                      refine r_take 43 (.bool false) (RB.pre _ _) rfl (by kernel_rfl) (fun _ _ _ h => hQ.panic _ _ _ _ _ h) (.inl ⟨rfl, fun wq hq => (by kernel_rfl)⟩) ?_
                      refine r_ready [44] (by kernel_rfl) rfl (all_cons ⟨_, _, _, _, _, _, rfl, ?_⟩ all_nil)
                      refine o_pv (.bool false) rfl (by kernel_rfl) ?_
                      refine ⟨fun h => absurd h (by decide), ?_⟩
                      refine r_done (by kernel_rfl) ?_
                      refine then_normal (hJ351 _ _ _ ⟨[(6, (.bool false))], fit_mk (fun _ _ => rfl) (by kernel_rfl) (vs_cons (by kernel_rfl) vs_nil), ?_⟩)
                      exact ⟨X198, false, rfl, E370, hXo371, hS372, hp⟩
                  ·
                    replace hp := hp.2 h383
                    refine r_take 31 (.bool false) (RB.pre _ _) rfl (by kernel_rfl) (fun _ _ _ h => hQ.panic _ _ _ _ _ h) (.inl ⟨rfl, fun wq hq => (x_df (p := (r39 : Bool) = (decide (e.Time < written))) (x_booleq (a := r39) (b := (decide (e.Time < written))) Tryd.underlying4 (by kernel_rfl) (by kernel_rfl)) h383)⟩) ?_
                    refine r_take 32 (.bool false) (RB.pre _ _) rfl (by kernel_rfl) (fun _ _ _ h => hQ.panic _ _ _ _ _ h) (.inl ⟨rfl, fun wq hq => (by kernel_rfl)⟩) ?_
                    refine r_take 33 undef (RB.pre _ _) rfl (by kernel_rfl) (fun _ _ _ h => hQ.panic _ _ _ _ _ h) (.inr ⟨by kernel_rfl, rfl⟩) ?_
                    refine r_take 34 undef (RB.pre _ _) rfl (by kernel_rfl) (fun _ _ _ h => hQ.panic _ _ _ _ _ h) (.inr ⟨by kernel_rfl, rfl⟩) ?_
                    refine r_take 35 undef (RB.pre _ _) rfl (by kernel_rfl) (fun _ _ _ h => hQ.panic _ _ _ _ _ h) (.inr ⟨by kernel_rfl, rfl⟩) ?_
                    refine r_take 36 (.bool false) (RB.pre _ _) rfl (by kernel_rfl) (fun _ _ _ h => hQ.panic _ _ _ _ _ h) (.inl ⟨rfl, fun wq hq => (by kernel_rfl)⟩) ?_
                    refine r_take 37 (.bool false) (RB.pre _ _) rfl (by kernel_rfl) (fun _ _ _ h => hQ.panic _ _ _ _ _ h) (.inl ⟨rfl, fun wq hq => (by kernel_rfl)⟩) ?_
                    refine r_take 38 undef (RB.pre _ _) rfl (by kernel_rfl) (fun _ _ _ h => hQ.panic _ _ _ _ _ h) (.inr ⟨by kernel_rfl, rfl⟩) ?_
                    refine r_take 39 undef (RB.pre _ _) rfl (by kernel_rfl) (fun _ _ _ h => hQ.panic _ _ _ _ _ h) (.inr ⟨by kernel_rfl, rfl⟩) ?_
                    refine r_take 40 undef (RB.pre _ _) rfl (by kernel_rfl) (fun _ _ _ h => hQ.panic _ _ _ _ _ h) (.inr ⟨by kernel_rfl, rfl⟩) ?_
                    refine r_take 41 undef (RB.pre _ _) rfl (by kernel_rfl) (fun _ _ _ h => hQ.panic _ _ _ _ _ h) (.inr ⟨by kernel_rfl, rfl⟩) ?_
                    refine r_take 42 undef (RB.pre _ _) rfl (by kernel_rfl) (fun _ _ _ h => hQ.panic _ _ _ _ _ h) (.inr ⟨by kernel_rfl, rfl⟩) ?_
                    refine r_take 43 (.bool false) (RB.pre _ _) rfl (by kernel_rfl) (fun _ _ _ h => hQ.panic _ _ _ _ _ h) (.inl ⟨rfl, fun wq hq => (by kernel_rfl)⟩) ?_
                    refine r_ready [44] (by kernel_rfl) rfl (all_cons ⟨_, _, _, _, _, _, rfl, ?_⟩ all_nil)
                    refine o_pv (.bool false) rfl (by kernel_rfl) ?_
                    refine ⟨fun h => absurd h (by decide), ?_⟩
                    refine r_done (by kernel_rfl) ?_
                    refine then_normal (hJ351 _ _ _ ⟨[(6, (.bool false))], fit_mk (fun _ _ => rfl) (by kernel_rfl) (vs_cons (by kernel_rfl) vs_nil), ?_⟩)
                    exact ⟨X198, false, rfl, E370, hXo371, hS372, hp⟩
                ·
                  replace hp := hp.2 h382
                  refine r_take 23 (.bool false) (RB.pre _ _) rfl (by kernel_rfl) (fun _ _ _ h => hQ.panic _ _ _ _ _ h) (.inl ⟨(by kernel_rfl), fun wq hq => (x_df (p := e.Mode = s.Mode) (by kernel_rfl) h382)⟩) ?_
                  refine r_take 24 (.bool false) (RB.pre _ _) rfl (by kernel_rfl) (fun _ _ _ h => hQ.panic _ _ _ _ _ h) (.inl ⟨rfl, fun wq hq => (by kernel_rfl)⟩) ?_
                  refine r_take 25 (.bool false) (RB.pre _ _) rfl (by kernel_rfl) (fun _ _ _ h => hQ.panic _ _ _ _ _ h) (.inl ⟨rfl, fun wq hq => (by kernel_rfl)⟩) ?_
                  refine r_take 26 undef (RB.pre _ _) rfl (by kernel_rfl) (fun _ _ _ h => hQ.panic _ _ _ _ _ h) (.inr ⟨by kernel_rfl, rfl⟩) ?_
                  refine r_take 27 undef (RB.pre _ _) rfl (by kernel_rfl) (fun _ _ _ h => hQ.panic _ _ _ _ _ h) (.inr ⟨by kernel_rfl, rfl⟩) ?_
                  refine r_take 28 undef (RB.pre _ _) rfl (by kernel_rfl) (fun _ _ _ h => hQ.panic _ _ _ _ _ h) (.inr ⟨by kernel_rfl, rfl⟩) ?_
                  refine r_take 29 undef (RB.pre _ _) rfl (by kernel_rfl) (fun _ _ _ h => hQ.panic _ _ _ _ _ h) (.inr ⟨by kernel_rfl, rfl⟩) ?_
                  refine r_take 30 (.bool false) (RB.pre _ _) rfl (by kernel_rfl) (fun _ _ _ h => hQ.panic _ _ _ _ _ h) (.inl ⟨rfl, fun wq hq => (by kernel_rfl)⟩) ?_
                  by_cases h400 : (r39 : Bool) = false
                  ·
                    replace hp := hp.1 h400
                    refine r_take 31 (.bool true) (RB.pre _ _) rfl (by kernel_rfl) (fun _ _ _ h => hQ.panic _ _ _ _ _ h) (.inl ⟨rfl, fun wq hq => (x_dt (p := (r39 : Bool) = false) (x_booleq (a := r39) (b := false) Tryd.underlying4 (by kernel_rfl) (by kernel_rfl)) h400)⟩) ?_
                    refine r_take 32 (.bool true) (RB.pre _ _) rfl (by kernel_rfl) (fun _ _ _ h => hQ.panic _ _ _ _ _ h) (.inl ⟨rfl, fun wq hq => (by kernel_rfl)⟩) ?_
                    refine r_take 33 (.agg #[(.string r46.Path), (.int .i64 r46.Stage), (.int .i64 r46.Mode), (.string r46.Data), (.int .i64 r46.Time), (.int .i64 r46.Size)]) (RB.pre _ _) rfl (by kernel_rfl) (fun _ _ _ h => hQ.panic _ _ _ _ _ h) (.inl ⟨(by kernel_rfl), fun wq hq => (x_loadN [(.string r46.Path), (.int .i64 r46.Stage), (.int .i64 r46.Mode), (.string r46.Data), (.int .i64 r46.Time), (.int .i64 r46.Size)] (by kernel_rfl) Tryd.isAgg82 Tryd.sizeOf82 ((Blk.rb k376.2.1 (RB.trans er368 hq) (Nat.lt_of_lt_of_eq (Blk.lt k376.2.1) z367) (fun h => by cases h)).cells' 0 rfl))⟩) ?_
                    refine r_take 34 (.agg #[(.string e.Path), (.int .i64 e.Stage), (.int .i64 e.Mode), (.string e.Data), (.int .i64 s.Time), (.int .i64 s.Size)]) (RB.pre _ _) rfl (by kernel_rfl) (fun _ _ _ h => hQ.panic _ _ _ _ _ h) (.inl ⟨(by kernel_rfl), fun wq hq => (x_loadN [(.string e.Path), (.int .i64 e.Stage), (.int .i64 e.Mode), (.string e.Data), (.int .i64 s.Time), (.int .i64 s.Size)] (by kernel_rfl) Tryd.isAgg82 Tryd.sizeOf82 ((Blk.rb k378.2.1 (RB.trans er368 hq) (Nat.lt_of_lt_of_eq (Blk.lt k378.2.1) z367) (fun h => by cases h)).cells' 0 rfl))⟩) ?_
                    by_cases h401 : ((r46.Path : ByteArray) = e.Path) ∧ ((r46.Stage = e.Stage) ∧ ((r46.Mode = e.Mode) ∧ (((r46.Data : ByteArray) = e.Data) ∧ ((r46.Time = s.Time) ∧ ((r46.Size = s.Size) ∧ True)))))
                    ·
                      replace hp := hp.1 h401
                      refine r_take 35 (.bool true) (RB.pre _ _) rfl (by kernel_rfl) (fun _ _ _ h => hQ.panic _ _ _ _ _ h) (.inl ⟨(by kernel_rfl), fun wq hq => (x_dt (p := ((r46.Path : ByteArray) = e.Path) ∧ ((r46.Stage = e.Stage) ∧ ((r46.Mode = e.Mode) ∧ (((r46.Data : ByteArray) = e.Data) ∧ ((r46.Time = s.Time) ∧ ((r46.Size = s.Size) ∧ True)))))) (x_steq (q := ((r46.Path : ByteArray) = e.Path) ∧ ((r46.Stage = e.Stage) ∧ ((r46.Mode = e.Mode) ∧ (((r46.Data : ByteArray) = e.Data) ∧ ((r46.Time = s.Time) ∧ ((r46.Size = s.Size) ∧ True)))))) (xs := #[(.string r46.Path), (.int .i64 r46.Stage), (.int .i64 r46.Mode), (.string r46.Data), (.int .i64 r46.Time), (.int .i64 r46.Size)]) (ys := #[(.string e.Path), (.int .i64 e.Stage), (.int .i64 e.Mode), (.string e.Data), (.int .i64 s.Time), (.int .i64 s.Size)]) [({ name := "Path", type := 9, offset := 0, embedded := false, tag := "", pkgPath := "", byteOffset := 0 } : Field), ({ name := "Stage", type := 3, offset := 1, embedded := false, tag := "", pkgPath := "", byteOffset := 16 } : Field), ({ name := "Mode", type := 3, offset := 2, embedded := false, tag := "", pkgPath := "", byteOffset := 24 } : Field), ({ name := "Data", type := 9, offset := 3, embedded := false, tag := "", pkgPath := "", byteOffset := 32 } : Field), ({ name := "Time", type := 3, offset := 4, embedded := false, tag := "", pkgPath := "", byteOffset := 48 } : Field), ({ name := "Size", type := 3, offset := 5, embedded := false, tag := "", pkgPath := "", byteOffset := 56 } : Field)] (by kernel_rfl) (by kernel_rfl) (by kernel_rfl) (by kernel_rfl) (by kernel_rfl) (by kernel_rfl) (eqF_str (a := r46.Path) (b := e.Path) (by kernel_rfl) (by kernel_rfl) (by kernel_rfl) Tryd.underlying9 (eqF_int (k := .i64) (a := r46.Stage) (b := e.Stage) (by kernel_rfl) (by kernel_rfl) (by kernel_rfl) Tryd.underlying3 (eqF_int (k := .i64) (a := r46.Mode) (b := e.Mode) (by kernel_rfl) (by kernel_rfl) (by kernel_rfl) Tryd.underlying3 (eqF_str (a := r46.Data) (b := e.Data) (by kernel_rfl) (by kernel_rfl) (by kernel_rfl) Tryd.underlying9 (eqF_int (k := .i64) (a := r46.Time) (b := s.Time) (by kernel_rfl) (by kernel_rfl) (by kernel_rfl) Tryd.underlying3 (eqF_int (k := .i64) (a := r46.Size) (b := s.Size) (by kernel_rfl) (by kernel_rfl) (by kernel_rfl) Tryd.underlying3 eqF_nil))))))) h401)⟩) ?_
                      refine r_take 36 (.bool true) (RB.pre _ _) rfl (by kernel_rfl) (fun _ _ _ h => hQ.panic _ _ _ _ _ h) (.inl ⟨rfl, fun wq hq => (by kernel_rfl)⟩) ?_
                      refine r_take 37 (.bool true) (RB.pre _ _) rfl (by kernel_rfl) (fun _ _ _ h => hQ.panic _ _ _ _ _ h) (.inl ⟨rfl, fun wq hq => (by kernel_rfl)⟩) ?_
                      refine r_take 38 (.slice ar102 r98.length cr103) (RB.pre _ _) rfl (by kernel_rfl) (fun _ _ _ h => hQ.panic _ _ _ _ _ h) (.inl ⟨(by kernel_rfl), fun wq hq => (by kernel_rfl)⟩) ?_
                      obtain ⟨h402, hp⟩ := hp
                      obtain ⟨b403, o404, cs405, ha406, nx407, lt408, ok409, hc410⟩ := Sl.atI hr373 (0 : Int) h402
                      obtain ⟨rfl, zePath411, reStage412, reMode413, zeData414, reTime415, reSize416⟩ := r_index_Entry_open ok409
                      replace hp := hp zePath411
                      replace hp := hp reStage412
                      replace hp := hp reMode413
                      replace hp := hp zeData414
                      replace hp := hp reTime415
                      replace hp := hp reSize416
                      refine r_take 39 (.pointer (some ⟨b403, o404 + (0 : Int).toNat * 6, none⟩)) (RB.pre _ _) rfl (by kernel_rfl) (fun _ _ _ h => hQ.panic _ _ _ _ _ h) (.inl ⟨(by kernel_rfl), fun wq hq => (x_ixA (m := r98.length) (c := cr103) (k := .i64) (i := (0 : Int)) Tryd.underlying87 Tryd.sizeOf82 (by rw [← ha406]; kernel_rfl) (by kernel_rfl) h402)⟩) ?_
                      refine r_take 40 (.agg #[(.string ((lget r98 (0 : Int)).Path)), (.int .i64 ((lget r98 (0 : Int)).Stage)), (.int .i64 ((lget r98 (0 : Int)).Mode)), (.string ((lget r98 (0 : Int)).Data)), (.int .i64 ((lget r98 (0 : Int)).Time)), (.int .i64 ((lget r98 (0 : Int)).Size))]) (RB.pre _ _) rfl (by kernel_rfl) (fun _ _ _ h => hQ.panic _ _ _ _ _ h) (.inl ⟨(by kernel_rfl), fun wq hq => (x_loadN [(.string ((lget r98 (0 : Int)).Path)), (.int .i64 ((lget r98 (0 : Int)).Stage)), (.int .i64 ((lget r98 (0 : Int)).Mode)), (.string ((lget r98 (0 : Int)).Data)), (.int .i64 ((lget r98 (0 : Int)).Time)), (.int .i64 ((lget r98 (0 : Int)).Size))] (by kernel_rfl) Tryd.isAgg82 Tryd.sizeOf82 (CellsAt.rb hc410 (RB.trans er368 hq) (Nat.lt_of_lt_of_eq lt408 z367) (fun h => by cases h)))⟩) ?_
                      refine r_take 41 (.agg #[(.string e.Path), (.int .i64 e.Stage), (.int .i64 e.Mode), (.string e.Data), (.int .i64 f149), (.int .i64 f151)]) (RB.pre _ _) rfl (by kernel_rfl) (fun _ _ _ h => hQ.panic _ _ _ _ _ h) (.inl ⟨(by kernel_rfl), fun wq hq => (x_loadN [(.string e.Path), (.int .i64 e.Stage), (.int .i64 e.Mode), (.string e.Data), (.int .i64 f149), (.int .i64 f151)] (by kernel_rfl) Tryd.isAgg82 Tryd.sizeOf82 ((Blk.rb k377.2.1 (RB.trans er368 hq) (Nat.lt_of_lt_of_eq (Blk.lt k377.2.1) z367) (fun h => by cases h)).cells' 0 rfl))⟩) ?_
                      refine r_take 42 (.bool (decide ((((lget r98 (0 : Int)).Path : ByteArray) = e.Path) ∧ (((lget r98 (0 : Int)).Stage = e.Stage) ∧ (((lget r98 (0 : Int)).Mode = e.Mode) ∧ ((((lget r98 (0 : Int)).Data : ByteArray) = e.Data) ∧ (((lget r98 (0 : Int)).Time = f149) ∧ (((lget r98 (0 : Int)).Size = f151) ∧ True)))))))) (RB.pre _ _) rfl (by kernel_rfl) (fun _ _ _ h => hQ.panic _ _ _ _ _ h) (.inl ⟨(by kernel_rfl), fun wq hq => (x_steq (q := (((lget r98 (0 : Int)).Path : ByteArray) = e.Path) ∧ (((lget r98 (0 : Int)).Stage = e.Stage) ∧ (((lget r98 (0 : Int)).Mode = e.Mode) ∧ ((((lget r98 (0 : Int)).Data : ByteArray) = e.Data) ∧ (((lget r98 (0 : Int)).Time = f149) ∧ (((lget r98 (0 : Int)).Size = f151) ∧ True)))))) (xs := #[(.string ((lget r98 (0 : Int)).Path)), (.int .i64 ((lget r98 (0 : Int)).Stage)), (.int .i64 ((lget r98 (0 : Int)).Mode)), (.string ((lget r98 (0 : Int)).Data)), (.int .i64 ((lget r98 (0 : Int)).Time)), (.int .i64 ((lget r98 (0 : Int)).Size))]) (ys := #[(.string e.Path), (.int .i64 e.Stage), (.int .i64 e.Mode), (.string e.Data), (.int .i64 f149), (.int .i64 f151)]) [({ name := "Path", type := 9, offset := 0, embedded := false, tag := "", pkgPath := "", byteOffset := 0 } : Field), ({ name := "Stage", type := 3, offset := 1, embedded := false, tag := "", pkgPath := "", byteOffset := 16 } : Field), ({ name := "Mode", type := 3, offset := 2, embedded := false, tag := "", pkgPath := "", byteOffset := 24 } : Field), ({ name := "Data", type := 9, offset := 3, embedded := false, tag := "", pkgPath := "", byteOffset := 32 } : Field), ({ name := "Time", type := 3, offset := 4, embedded := false, tag := "", pkgPath := "", byteOffset := 48 } : Field), ({ name := "Size", type := 3, offset := 5, embedded := false, tag := "", pkgPath := "", byteOffset := 56 } : Field)] (by kernel_rfl) (by kernel_rfl) (by kernel_rfl) (by kernel_rfl) (by kernel_rfl) (by kernel_rfl) (eqF_str (a := (lget r98 (0 : Int)).Path) (b := e.Path) (by kernel_rfl) (by kernel_rfl) (by kernel_rfl) Tryd.underlying9 (eqF_int (k := .i64) (a := (lget r98 (0 : Int)).Stage) (b := e.Stage) (by kernel_rfl) (by kernel_rfl) (by kernel_rfl) Tryd.underlying3 (eqF_int (k := .i64) (a := (lget r98 (0 : Int)).Mode) (b := e.Mode) (by kernel_rfl) (by kernel_rfl) (by kernel_rfl) Tryd.underlying3 (eqF_str (a := (lget r98 (0 : Int)).Data) (b := e.Data) (by kernel_rfl) (by kernel_rfl) (by kernel_rfl) Tryd.underlying9 (eqF_int (k := .i64) (a := (lget r98 (0 : Int)).Time) (b := f149) (by kernel_rfl) (by kernel_rfl) (by kernel_rfl) Tryd.underlying3 (eqF_int (k := .i64) (a := (lget r98 (0 : Int)).Size) (b := f151) (by kernel_rfl) (by kernel_rfl) (by kernel_rfl) Tryd.underlying3 eqF_nil)))))))⟩) ?_
                      refine r_take 43 (.bool (decide ((((lget r98 (0 : Int)).Path : ByteArray) = e.Path) ∧ (((lget r98 (0 : Int)).Stage = e.Stage) ∧ (((lget r98 (0 : Int)).Mode = e.Mode) ∧ ((((lget r98 (0 : Int)).Data : ByteArray) = e.Data) ∧ (((lget r98 (0 : Int)).Time = f149) ∧ (((lget r98 (0 : Int)).Size = f151) ∧ True)))))))) (RB.pre _ _) rfl (by kernel_rfl) (fun _ _ _ h => hQ.panic _ _ _ _ _ h) (.inl ⟨rfl, fun wq hq => (by kernel_rfl)⟩) ?_
                      refine r_ready [44] (by kernel_rfl) rfl (all_cons ⟨_, _, _, _, _, _, rfl, ?_⟩ all_nil)
                      refine o_pv (.bool (decide ((((lget r98 (0 : Int)).Path : ByteArray) = e.Path) ∧ (((lget r98 (0 : Int)).Stage = e.Stage) ∧ (((lget r98 (0 : Int)).Mode = e.Mode) ∧ ((((lget r98 (0 : Int)).Data : ByteArray) = e.Data) ∧ (((lget r98 (0 : Int)).Time = f149) ∧ (((lget r98 (0 : Int)).Size = f151) ∧ True)))))))) rfl (by kernel_rfl) ?_
                      refine ⟨fun h => absurd h (by decide), ?_⟩
                      refine r_done (by kernel_rfl) ?_
                      refine then_normal (hJ351 _ _ _ ⟨[(6, (.bool (decide ((((lget r98 (0 : Int)).Path : ByteArray) = e.Path) ∧ (((lget r98 (0 : Int)).Stage = e.Stage) ∧ (((lget r98 (0 : Int)).Mode = e.Mode) ∧ ((((lget r98 (0 : Int)).Data : ByteArray) = e.Data) ∧ (((lget r98 (0 : Int)).Time = f149) ∧ (((lget r98 (0 : Int)).Size = f151) ∧ True)))))))))], fit_mk (fun _ _ => rfl) (by kernel_rfl) (vs_cons (by kernel_rfl) vs_nil), ?_⟩)
                      exact ⟨X198, (decide ((((lget r98 (0 : Int)).Path : ByteArray) = e.Path) ∧ (((lget r98 (0 : Int)).Stage = e.Stage) ∧ (((lget r98 (0 : Int)).Mode = e.Mode) ∧ ((((lget r98 (0 : Int)).Data : ByteArray) = e.Data) ∧ (((lget r98 (0 : Int)).Time = f149) ∧ (((lget r98 (0 : Int)).Size = f151) ∧ True))))))), rfl, E370, hXo371, hS372, hp⟩
                    ·
                      replace hp := hp.2 h401
                      refine r_take 35 (.bool false) (RB.pre _ _) rfl (by kernel_rfl) (fun _ _ _ h => hQ.panic _ _ _ _ _ h) (.inl ⟨(by kernel_rfl), fun wq hq => (x_df (p := ((r46.Path : ByteArray) = e.Path) ∧ ((r46.Stage = e.Stage) ∧ ((r46.Mode = e.Mode) ∧ (((r46.Data : ByteArray) = e.Data) ∧ ((r46.Time = s.Time) ∧ ((r46.Size = s.Size) ∧ True)))))) (x_steq (q := ((r46.Path : ByteArray) = e.Path) ∧ ((r46.Stage = e.Stage) ∧ ((r46.Mode = e.Mode) ∧ (((r46.Data : ByteArray) = e.Data) ∧ ((r46.Time = s.Time) ∧ ((r46.Size = s.Size) ∧ True)))))) (xs := #[(.string r46.Path), (.int .i64 r46.Stage), (.int .i64 r46.Mode), (.string r46.Data), (.int .i64 r46.Time), (.int .i64 r46.Size)]) (ys := #[(.string e.Path), (.int .i64 e.Stage), (.int .i64 e.Mode), (.string e.Data), (.int .i64 s.Time), (.int .i64 s.Size)]) [({ name := "Path", type := 9, offset := 0, embedded := false, tag := "", pkgPath := "", byteOffset := 0 } : Field), ({ name := "Stage", type := 3, offset := 1, embedded := false, tag := "", pkgPath := "", byteOffset := 16 } : Field), ({ name := "Mode", type := 3, offset := 2, embedded := false, tag := "", pkgPath := "", byteOffset := 24 } : Field), ({ name := "Data", type := 9, offset := 3, embedded := false, tag := "", pkgPath := "", byteOffset := 32 } : Field), ({ name := "Time", type := 3, offset := 4, embedded := false, tag := "", pkgPath := "", byteOffset := 48 } : Field), ({ name := "Size", type := 3, offset := 5, embedded := false, tag := "", pkgPath := "", byteOffset := 56 } : Field)] (by kernel_rfl) (by kernel_rfl) (by kernel_rfl) (by kernel_rfl) (by kernel_rfl) (by kernel_rfl) (eqF_str (a := r46.Path) (b := e.Path) (by kernel_rfl) (by kernel_rfl) (by kernel_rfl) Tryd.underlying9 (eqF_int (k := .i64) (a := r46.Stage) (b := e.Stage) (by kernel_rfl) (by kernel_rfl) (by kernel_rfl) Tryd.underlying3 (eqF_int (k := .i64) (a := r46.Mode) (b := e.Mode) (by kernel_rfl) (by kernel_rfl) (by kernel_rfl) Tryd.underlying3 (eqF_str (a := r46.Data) (b := e.Data) (by kernel_rfl) (by kernel_rfl) (by kernel_rfl) Tryd.underlying9 (eqF_int (k := .i64) (a := r46.Time) (b := s.Time) (by kernel_rfl) (by kernel_rfl) (by kernel_rfl) Tryd.underlying3 (eqF_int (k := .i64) (a := r46.Size) (b := s.Size) (by kernel_rfl) (by kernel_rfl) (by kernel_rfl) Tryd.underlying3 eqF_nil))))))) h401)⟩) ?_
                      refine r_take 36 (.bool false) (RB.pre _ _) rfl (by kernel_rfl) (fun _ _ _ h => hQ.panic _ _ _ _ _ h) (.inl ⟨rfl, fun wq hq => (by kernel_rfl)⟩) ?_
                      refine r_take 37 (.bool false) (RB.pre _ _) rfl (by kernel_rfl) (fun _ _ _ h => hQ.panic _ _ _ _ _ h) (.inl ⟨rfl, fun wq hq => (by kernel_rfl)⟩) ?_
                      refine r_take 38 undef (RB.pre _ _) rfl (by kernel_rfl) (fun _ _ _ h => hQ.panic _ _ _ _ _ h) (.inr ⟨by kernel_rfl, rfl⟩) ?_
                      refine r_take 39 undef (RB.pre _ _) rfl (by kernel_rfl) (fun _ _ _ h => hQ.panic _ _ _ _ _ h) (.inr ⟨by kernel_rfl, rfl⟩) ?_
                      refine r_take 40 undef (RB.pre _ _) rfl (by kernel_rfl) (fun _ _ _ h => hQ.panic _ _ _ _ _ h) (.inr ⟨by kernel_rfl, rfl⟩) ?_
                      refine r_take 41 undef (RB.pre _ _) rfl (by kernel_rfl) (fun _ _ _ h => hQ.panic _ _ _ _ _ h) (.inr ⟨by kernel_rfl, rfl⟩) ?_
                      refine r_take 42 undef (RB.pre _ _) rfl (by kernel_rfl) (fun _ _ _ h => hQ.panic _ _ _ _ _ h) (.inr ⟨by kernel_rfl, rfl⟩) ?_
                      refine r_take 43 (.bool false) (RB.pre _ _) rfl (by kernel_rfl) (fun _ _ _ h => hQ.panic _ _ _ _ _ h) (.inl ⟨rfl, fun wq hq => (by kernel_rfl)⟩) ?_
                      refine r_ready [44] (by kernel_rfl) rfl (all_cons ⟨_, _, _, _, _, _, rfl, ?_⟩ all_nil)
                      refine o_pv (.bool false) rfl (by kernel_rfl) ?_
                      refine ⟨fun h => absurd h (by decide), ?_⟩
                      refine r_done (by kernel_rfl) ?_
                      refine then_normal (hJ351 _ _ _ ⟨[(6, (.bool false))], fit_mk (fun _ _ => rfl) (by kernel_rfl) (vs_cons (by kernel_rfl) vs_nil), ?_⟩)
                      exact ⟨X198, false, rfl, E370, hXo371, hS372, hp⟩
                  ·
                    replace hp := hp.2 h400
                    refine r_take 31 (.bool false) (RB.pre _ _) rfl (by kernel_rfl) (fun _ _ _ h => hQ.panic _ _ _ _ _ h) (.inl ⟨rfl, fun wq hq => (x_df (p := (r39 : Bool) = false) (x_booleq (a := r39) (b := false) Tryd.underlying4 (by kernel_rfl) (by kernel_rfl)) h400)⟩) ?_
                    refine r_take 32 (.bool false) (RB.pre _ _) rfl (by kernel_rfl) (fun _ _ _ h => hQ.panic _ _ _ _ _ h) (.inl ⟨rfl, fun wq hq => (by kernel_rfl)⟩) ?_
                    refine r_take 33 undef (RB.pre _ _) rfl (by kernel_rfl) (fun _ _ _ h => hQ.panic _ _ _ _ _ h) (.inr ⟨by kernel_rfl, rfl⟩) ?_
                    refine r_take 34 undef (RB.pre _ _) rfl (by kernel_rfl) (fun _ _ _ h => hQ.panic _ _ _ _ _ h) (.inr ⟨by kernel_rfl, rfl⟩) ?_
                    refine r_take 35 undef (RB.pre _ _) rfl (by kernel_rfl) (fun _ _ _ h => hQ.panic _ _ _ _ _ h) (.inr ⟨by kernel_rfl, rfl⟩) ?_
                    refine r_take 36 (.bool false) (RB.pre _ _) rfl (by kernel_rfl) (fun _ _ _ h => hQ.panic _ _ _ _ _ h) (.inl ⟨rfl, fun wq hq => (by kernel_rfl)⟩) ?_
                    refine r_take 37 (.bool false) (RB.pre _ _) rfl (by kernel_rfl) (fun _ _ _ h => hQ.panic _ _ _ _ _ h) (.inl ⟨rfl, fun wq hq => (by kernel_rfl)⟩) ?_
                    refine r_take 38 undef (RB.pre _ _) rfl (by kernel_rfl) (fun _ _ _ h => hQ.panic _ _ _ _ _ h) (.inr ⟨by kernel_rfl, rfl⟩) ?_
                    refine r_take 39 undef (RB.pre _ _) rfl (by kernel_rfl) (fun _ _ _ h => hQ.panic _ _ _ _ _ h) (.inr ⟨by kernel_rfl, rfl⟩) ?_
                    refine r_take 40 undef (RB.pre _ _) rfl (by kernel_rfl) (fun _ _ _ h => hQ.panic _ _ _ _ _ h) (.inr ⟨by kernel_rfl, rfl⟩) ?_
                    refine r_take 41 undef (RB.pre _ _) rfl (by kernel_rfl) (fun _ _ _ h => hQ.panic _ _ _ _ _ h) (.inr ⟨by kernel_rfl, rfl⟩) ?_
                    refine r_take 42 undef (RB.pre _ _) rfl (by kernel_rfl) (fun _ _ _ h => hQ.panic _ _ _ _ _ h) (.inr ⟨by kernel_rfl, rfl⟩) ?_
                    refine r_take 43 (.bool false) (RB.pre _ _) rfl (by kernel_rfl) (fun _ _ _ h => hQ.panic _ _ _ _ _ h) (.inl ⟨rfl, fun wq hq => (by kernel_rfl)⟩) ?_
                    refine r_ready [44] (by kernel_rfl) rfl (all_cons ⟨_, _, _, _, _, _, rfl, ?_⟩ all_nil)
                    refine o_pv (.bool false) rfl (by kernel_rfl) ?_
                    refine ⟨fun h => absurd h (by decide), ?_⟩
                    refine r_done (by kernel_rfl) ?_
                    refine then_normal (hJ351 _ _ _ ⟨[(6, (.bool false))], fit_mk (fun _ _ => rfl) (by kernel_rfl) (vs_cons (by kernel_rfl) vs_nil), ?_⟩)
                    exact ⟨X198, false, rfl, E370, hXo371, hS372, hp⟩
              ·
                replace hp := hp.2 h381
                refine r_take 16 (.bool false) (RB.pre _ _) rfl (by kernel_rfl) (fun _ _ _ h => hQ.panic _ _ _ _ _ h) (.inl ⟨(by kernel_rfl), fun wq hq => (x_df (p := e.Size = s.Size) (by kernel_rfl) h381)⟩) ?_
                refine r_take 17 (.bool false) (RB.pre _ _) rfl (by kernel_rfl) (fun _ _ _ h => hQ.panic _ _ _ _ _ h) (.inl ⟨rfl, fun wq hq => (by kernel_rfl)⟩) ?_
                refine r_take 18 (.bool false) (RB.pre _ _) rfl (by kernel_rfl) (fun _ _ _ h => hQ.panic _ _ _ _ _ h) (.inl ⟨rfl, fun wq hq => (by kernel_rfl)⟩) ?_
                refine r_take 19 undef (RB.pre _ _) rfl (by kernel_rfl) (fun _ _ _ h => hQ.panic _ _ _ _ _ h) (.inr ⟨by kernel_rfl, rfl⟩) ?_
                refine r_take 20 undef (RB.pre _ _) rfl (by kernel_rfl) (fun _ _ _ h => hQ.panic _ _ _ _ _ h) (.inr ⟨by kernel_rfl, rfl⟩) ?_
                refine r_take 21 undef (RB.pre _ _) rfl (by kernel_rfl) (fun _ _ _ h => hQ.panic _ _ _ _ _ h) (.inr ⟨by kernel_rfl, rfl⟩) ?_
                refine r_take 22 undef (RB.pre _ _) rfl (by kernel_rfl) (fun _ _ _ h => hQ.panic _ _ _ _ _ h) (.inr ⟨by kernel_rfl, rfl⟩) ?_
                refine r_take 23 undef (RB.pre _ _) rfl (by kernel_rfl) (fun _ _ _ h => hQ.panic _ _ _ _ _ h) (.inr ⟨by kernel_rfl, rfl⟩) ?_
                refine r_take 24 (.bool false) (RB.pre _ _) rfl (by kernel_rfl) (fun _ _ _ h => hQ.panic _ _ _ _ _ h) (.inl ⟨rfl, fun wq hq => (by kernel_rfl)⟩) ?_
                refine r_take 25 (.bool false) (RB.pre _ _) rfl (by kernel_rfl) (fun _ _ _ h => hQ.panic _ _ _ _ _ h) (.inl ⟨rfl, fun wq hq => (by kernel_rfl)⟩) ?_
                refine r_take 26 undef (RB.pre _ _) rfl (by kernel_rfl) (fun _ _ _ h => hQ.panic _ _ _ _ _ h) (.inr ⟨by kernel_rfl, rfl⟩) ?_
                refine r_take 27 undef (RB.pre _ _) rfl (by kernel_rfl) (fun _ _ _ h => hQ.panic _ _ _ _ _ h) (.inr ⟨by kernel_rfl, rfl⟩) ?_
                refine r_take 28 undef (RB.pre _ _) rfl (by kernel_rfl) (fun _ _ _ h => hQ.panic _ _ _ _ _ h) (.inr ⟨by kernel_rfl, rfl⟩) ?_
                refine r_take 29 undef (RB.pre _ _) rfl (by kernel_rfl) (fun _ _ _ h => hQ.panic _ _ _ _ _ h) (.inr ⟨by kernel_rfl, rfl⟩) ?_
                refine r_take 30 (.bool false) (RB.pre _ _) rfl (by kernel_rfl) (fun _ _ _ h => hQ.panic _ _ _ _ _ h) (.inl ⟨rfl, fun wq hq => (by kernel_rfl)⟩) ?_
                by_cases h417 : (r39 : Bool) = false
                ·
                  replace hp := hp.1 h417
                  refine r_take 31 (.bool true) (RB.pre _ _) rfl (by kernel_rfl) (fun _ _ _ h => hQ.panic _ _ _ _ _ h) (.inl ⟨rfl, fun wq hq => (x_dt (p := (r39 : Bool) = false) (x_booleq (a := r39) (b := false) Tryd.underlying4 (by kernel_rfl) (by kernel_rfl)) h417)⟩) ?_
                  refine r_take 32 (.bool true) (RB.pre _ _) rfl (by kernel_rfl) (fun _ _ _ h => hQ.panic _ _ _ _ _ h) (.inl ⟨rfl, fun wq hq => (by kernel_rfl)⟩) ?_
                  refine r_take 33 (.agg #[(.string r46.Path), (.int .i64 r46.Stage), (.int .i64 r46.Mode), (.string r46.Data), (.int .i64 r46.Time), (.int .i64 r46.Size)]) (RB.pre _ _) rfl (by kernel_rfl) (fun _ _ _ h => hQ.panic _ _ _ _ _ h) (.inl ⟨(by kernel_rfl), fun wq hq => (x_loadN [(.string r46.Path), (.int .i64 r46.Stage), (.int .i64 r46.Mode), (.string r46.Data), (.int .i64 r46.Time), (.int .i64 r46.Size)] (by kernel_rfl) Tryd.isAgg82 Tryd.sizeOf82 ((Blk.rb k376.2.1 (RB.trans er368 hq) (Nat.lt_of_lt_of_eq (Blk.lt k376.2.1) z367) (fun h => by cases h)).cells' 0 rfl))⟩) ?_
                  refine r_take 34 (.agg #[(.string e.Path), (.int .i64 e.Stage), (.int .i64 e.Mode), (.string e.Data), (.int .i64 s.Time), (.int .i64 s.Size)]) (RB.pre _ _) rfl (by kernel_rfl) (fun _ _ _ h => hQ.panic _ _ _ _ _ h) (.inl ⟨(by kernel_rfl), fun wq hq => (x_loadN [(.string e.Path), (.int .i64 e.Stage), (.int .i64 e.Mode), (.string e.Data), (.int .i64 s.Time), (.int .i64 s.Size)] (by kernel_rfl) Tryd.isAgg82 Tryd.sizeOf82 ((Blk.rb k378.2.1 (RB.trans er368 hq) (Nat.lt_of_lt_of_eq (Blk.lt k378.2.1) z367) (fun h => by cases h)).cells' 0 rfl))⟩) ?_
                  by_cases h418 : ((r46.Path : ByteArray) = e.Path) ∧ ((r46.Stage = e.Stage) ∧ ((r46.Mode = e.Mode) ∧ (((r46.Data : ByteArray) = e.Data) ∧ ((r46.Time = s.Time) ∧ ((r46.Size = s.Size) ∧ True)))))
                  ·
                    replace hp := hp.1 h418
                    refine r_take 35 (.bool true) (RB.pre _ _) rfl (by kernel_rfl) (fun _ _ _ h => hQ.panic _ _ _ _ _ h) (.inl ⟨(by kernel_rfl), fun wq hq => (x_dt (p := ((r46.Path : ByteArray) = e.Path) ∧ ((r46.Stage = e.Stage) ∧ ((r46.Mode = e.Mode) ∧ (((r46.Data : ByteArray) = e.Data) ∧ ((r46.Time = s.Time) ∧ ((r46.Size = s.Size) ∧ True)))))) (x_steq (q := ((r46.Path : ByteArray) = e.Path) ∧ ((r46.Stage = e.Stage) ∧ ((r46.Mode = e.Mode) ∧ (((r46.Data : ByteArray) = e.Data) ∧ ((r46.Time = s.Time) ∧ ((r46.Size = s.Size) ∧ True)))))) (xs := #[(.string r46.Path), (.int .i64 r46.Stage), (.int .i64 r46.Mode), (.string r46.Data), (.int .i64 r46.Time), (.int .i64 r46.Size)]) (ys := #[(.string e.Path), (.int .i64 e.Stage), (.int .i64 e.Mode), (.string e.Data), (.int .i64 s.Time), (.int .i64 s.Size)]) [({ name := "Path", type := 9, offset := 0, embedded := false, tag := "", pkgPath := "", byteOffset := 0 } : Field), ({ name := "Stage", type := 3, offset := 1, embedded := false, tag := "", pkgPath := "", byteOffset := 16 } : Field), ({ name := "Mode", type := 3, offset := 2, embedded := false, tag := "", pkgPath := "", byteOffset := 24 } : Field), ({ name := "Data", type := 9, offset := 3, embedded := false, tag := "", pkgPath := "", byteOffset := 32 } : Field), ({ name := "Time", type := 3, offset := 4, embedded := false, tag := "", pkgPath := "", byteOffset := 48 } : Field), ({ name := "Size", type := 3, offset := 5, embedded := false, tag := "", pkgPath := "", byteOffset := 56 } : Field)] (by kernel_rfl) (by kernel_rfl) (by kernel_rfl) (by kernel_rfl) (by kernel_rfl) (by kernel_rfl) (eqF_str (a := r46.Path) (b := e.Path) (by kernel_rfl) (by kernel_rfl) (by kernel_rfl) Tryd.underlying9 (eqF_int (k := .i64) (a := r46.Stage) (b := e.Stage) (by kernel_rfl) (by kernel_rfl) (by kernel_rfl) Tryd.underlying3 (eqF_int (k := .i64) (a := r46.Mode) (b := e.Mode) (by kernel_rfl) (by kernel_rfl) (by kernel_rfl) Tryd.underlying3 (eqF_str (a := r46.Data) (b := e.Data) (by kernel_rfl) (by kernel_rfl) (by kernel_rfl) Tryd.underlying9 (eqF_int (k := .i64) (a := r46.Time) (b := s.Time) (by kernel_rfl) (by kernel_rfl) (by kernel_rfl) Tryd.underlying3 (eqF_int (k := .i64) (a := r46.Size) (b := s.Size) (by kernel_rfl) (by kernel_rfl) (by kernel_rfl) Tryd.underlying3 eqF_nil))))))) h418)⟩) ?_
                    refine r_take 36 (.bool true) (RB.pre _ _) rfl (by kernel_rfl) (fun _ _ _ h => hQ.panic _ _ _ _ _ h) (.inl ⟨rfl, fun wq hq => (by kernel_rfl)⟩) ?_
                    refine r_take 37 (.bool true) (RB.pre _ _) rfl (by kernel_rfl) (fun _ _ _ h => hQ.panic _ _ _ _ _ h) (.inl ⟨rfl, fun wq hq => (by kernel_rfl)⟩) ?_
                    refine r_take 38 (.slice ar102 r98.length cr103) (RB.pre _ _) rfl (by kernel_rfl) (fun _ _ _ h => hQ.panic _ _ _ _ _ h) (.inl ⟨(by kernel_rfl), fun wq hq => (by kernel_rfl)⟩) ?_
                    obtain ⟨h419, hp⟩ := hp
                    obtain ⟨b420, o421, cs422, ha423, nx424, lt425, ok426, hc427⟩ := Sl.atI hr373 (0 : Int) h419
                    obtain ⟨rfl, zePath428, reStage429, reMode430, zeData431, reTime432, reSize433⟩ := r_index_Entry_open ok426
                    replace hp := hp zePath428
                    replace hp := hp reStage429
                    replace hp := hp reMode430
                    replace hp := hp zeData431
                    replace hp := hp reTime432
                    replace hp := hp reSize433
                    refine r_take 39 (.pointer (some ⟨b420, o421 + (0 : Int).toNat * 6, none⟩)) (RB.pre _ _) rfl (by kernel_rfl) (fun _ _ _ h => hQ.panic _ _ _ _ _ h) (.inl ⟨(by kernel_rfl), fun wq hq => (x_ixA (m := r98.length) (c := cr103) (k := .i64) (i := (0 : Int)) Tryd.underlying87 Tryd.sizeOf82 (by rw [← ha423]; kernel_rfl) (by kernel_rfl) h419)⟩) ?_
                    refine r_take 40 (.agg #[(.string ((lget r98 (0 : Int)).Path)), (.int .i64 ((lget r98 (0 : Int)).Stage)), (.int .i64 ((lget r98 (0 : Int)).Mode)), (.string ((lget r98 (0 : Int)).Data)), (.int .i64 ((lget r98 (0 : Int)).Time)), (.int .i64 ((lget r98 (0 : Int)).Size))]) (RB.pre _ _) rfl (by kernel_rfl) (fun _ _ _ h => hQ.panic _ _ _ _ _ h) (.inl ⟨(by kernel_rfl), fun wq hq => (x_loadN [(.string ((lget r98 (0 : Int)).Path)), (.int .i64 ((lget r98 (0 : Int)).Stage)), (.int .i64 ((lget r98 (0 : Int)).Mode)), (.string ((lget r98 (0 : Int)).Data)), (.int .i64 ((lget r98 (0 : Int)).Time)), (.int .i64 ((lget r98 (0 : Int)).Size))] (by kernel_rfl) Tryd.isAgg82 Tryd.sizeOf82 (CellsAt.rb hc427 (RB.trans er368 hq) (Nat.lt_of_lt_of_eq lt425 z367) (fun h => by cases h)))⟩) ?_
                    refine r_take 41 (.agg #[(.string e.Path), (.int .i64 e.Stage), (.int .i64 e.Mode), (.string e.Data), (.int .i64 f149), (.int .i64 f151)]) (RB.pre _ _) rfl (by kernel_rfl) (fun _ _ _ h => hQ.panic _ _ _ _ _ h) (.inl ⟨(by kernel_rfl), fun wq hq => (x_loadN [(.string e.Path), (.int .i64 e.Stage), (.int .i64 e.Mode), (.string e.Data), (.int .i64 f149), (.int .i64 f151)] (by kernel_rfl) Tryd.isAgg82 Tryd.sizeOf82 ((Blk.rb k377.2.1 (RB.trans er368 hq) (Nat.lt_of_lt_of_eq (Blk.lt k377.2.1) z367) (fun h => by cases h)).cells' 0 rfl))⟩) ?_
                    refine r_take 42 (.bool (decide ((((lget r98 (0 : Int)).Path : ByteArray) = e.Path) ∧ (((lget r98 (0 : Int)).Stage = e.Stage) ∧ (((lget r98 (0 : Int)).Mode = e.Mode) ∧ ((((lget r98 (0 : Int)).Data : ByteArray) = e.Data) ∧ (((lget r98 (0 : Int)).Time = f149) ∧ (((lget r98 (0 : Int)).Size = f151) ∧ True)))))))) (RB.pre _ _) rfl (by kernel_rfl) (fun _ _ _ h => hQ.panic _ _ _ _ _ h) (.inl ⟨(by kernel_rfl), fun wq hq => (x_steq (q := (((lget r98 (0 : Int)).Path : ByteArray) = e.Path) ∧ (((lget r98 (0 : Int)).Stage = e.Stage) ∧ (((lget r98 (0 : Int)).Mode = e.Mode) ∧ ((((lget r98 (0 : Int)).Data : ByteArray) = e.Data) ∧ (((lget r98 (0 : Int)).Time = f149) ∧ (((lget r98 (0 : Int)).Size = f151) ∧ True)))))) (xs := #[(.string ((lget r98 (0 : Int)).Path)), (.int .i64 ((lget r98 (0 : Int)).Stage)), (.int .i64 ((lget r98 (0 : Int)).Mode)), (.string ((lget r98 (0 : Int)).Data)), (.int .i64 ((lget r98 (0 : Int)).Time)), (.int .i64 ((lget r98 (0 : Int)).Size))]) (ys := #[(.string e.Path), (.int .i64 e.Stage), (.int .i64 e.Mode), (.string e.Data), (.int .i64 f149), (.int .i64 f151)]) [({ name := "Path", type := 9, offset := 0, embedded := false, tag := "", pkgPath := "", byteOffset := 0 } : Field), ({ name := "Stage", type := 3, offset := 1, embedded := false, tag := "", pkgPath := "", byteOffset := 16 } : Field), ({ name := "Mode", type := 3, offset := 2, embedded := false, tag := "", pkgPath := "", byteOffset := 24 } : Field), ({ name := "Data", type := 9, offset := 3, embedded := false, tag := "", pkgPath := "", byteOffset := 32 } : Field), ({ name := "Time", type := 3, offset := 4, embedded := false, tag := "", pkgPath := "", byteOffset := 48 } : Field), ({ name := "Size", type := 3, offset := 5, embedded := false, tag := "", pkgPath := "", byteOffset := 56 } : Field)] (by kernel_rfl) (by kernel_rfl) (by kernel_rfl) (by kernel_rfl) (by kernel_rfl) (by kernel_rfl) (eqF_str (a := (lget r98 (0 : Int)).Path) (b := e.Path) (by kernel_rfl) (by kernel_rfl) (by kernel_rfl) Tryd.underlying9 (eqF_int (k := .i64) (a := (lget r98 (0 : Int)).Stage) (b := e.Stage) (by kernel_rfl) (by kernel_rfl) (by kernel_rfl) Tryd.underlying3 (eqF_int (k := .i64) (a := (lget r98 (0 : Int)).Mode) (b := e.Mode) (by kernel_rfl) (by kernel_rfl) (by kernel_rfl) Tryd.underlying3 (eqF_str (a := (lget r98 (0 : Int)).Data) (b := e.Data) (by kernel_rfl) (by kernel_rfl) (by kernel_rfl) Tryd.underlying9 (eqF_int (k := .i64) (a := (lget r98 (0 : Int)).Time) (b := f149) (by kernel_rfl) (by kernel_rfl) (by kernel_rfl) Tryd.underlying3 (eqF_int (k := .i64) (a := (lget r98 (0 : Int)).Size) (b := f151) (by kernel_rfl) (by kernel_rfl) (by kernel_rfl) Tryd.underlying3 eqF_nil)))))))⟩) ?_
                    refine r_take 43 (.bool (decide ((((lget r98 (0 : Int)).Path : ByteArray) = e.Path) ∧ (((lget r98 (0 : Int)).Stage = e.Stage) ∧ (((lget r98 (0 : Int)).Mode = e.Mode) ∧ ((((lget r98 (0 : Int)).Data : ByteArray) = e.Data) ∧ (((lget r98 (0 : Int)).Time = f149) ∧ (((lget r98 (0 : Int)).Size = f151) ∧ True)))))))) (RB.pre _ _) rfl (by kernel_rfl) (fun _ _ _ h => hQ.panic _ _ _ _ _ h) (.inl ⟨rfl, fun wq hq => (by kernel_rfl)⟩) ?_
                    refine r_ready [44] (by kernel_rfl) rfl (all_cons ⟨_, _, _, _, _, _, rfl, ?_⟩ all_nil)
                    refine o_pv (.bool (decide ((((lget r98 (0 : Int)).Path : ByteArray) = e.Path) ∧ (((lget r98 (0 : Int)).Stage = e.Stage) ∧ (((lget r98 (0 : Int)).Mode = e.Mode) ∧ ((((lget r98 (0 : Int)).Data : ByteArray) = e.Data) ∧ (((lget r98 (0 : Int)).Time = f149) ∧ (((lget r98 (0 : Int)).Size = f151) ∧ True)))))))) rfl (by kernel_rfl) ?_
                    refine ⟨fun h => absurd h (by decide), ?_⟩
                    refine r_done (by kernel_rfl) ?_
                    refine then_normal (hJ351 _ _ _ ⟨[(6, (.bool (decide ((((lget r98 (0 : Int)).Path : ByteArray) = e.Path) ∧ (((lget r98 (0 : Int)).Stage = e.Stage) ∧ (((lget r98 (0 : Int)).Mode = e.Mode) ∧ ((((lget r98 (0 : Int)).Data : ByteArray) = e.Data) ∧ (((lget r98 (0 : Int)).Time = f149) ∧ (((lget r98 (0 : Int)).Size = f151) ∧ True)))))))))], fit_mk (fun _ _ => rfl) (by kernel_rfl) (vs_cons (by kernel_rfl) vs_nil), ?_⟩)
                    exact ⟨X198, (decide ((((lget r98 (0 : Int)).Path : ByteArray) = e.Path) ∧ (((lget r98 (0 : Int)).Stage = e.Stage) ∧ (((lget r98 (0 : Int)).Mode = e.Mode) ∧ ((((lget r98 (0 : Int)).Data : ByteArray) = e.Data) ∧ (((lget r98 (0 : Int)).Time = f149) ∧ (((lget r98 (0 : Int)).Size = f151) ∧ True))))))), rfl, E370, hXo371, hS372, hp⟩
                  ·
                    replace hp := hp.2 h418
                    refine r_take 35 (.bool false) (RB.pre _ _) rfl (by kernel_rfl) (fun _ _ _ h => hQ.panic _ _ _ _ _ h) (.inl ⟨(by kernel_rfl), fun wq hq => (x_df (p := ((r46.Path : ByteArray) = e.Path) ∧ ((r46.Stage = e.Stage) ∧ ((r46.Mode = e.Mode) ∧ (((r46.Data : ByteArray) = e.Data) ∧ ((r46.Time = s.Time) ∧ ((r46.Size = s.Size) ∧ True)))))) (x_steq (q := ((r46.Path : ByteArray) = e.Path) ∧ ((r46.Stage = e.Stage) ∧ ((r46.Mode = e.Mode) ∧ (((r46.Data : ByteArray) = e.Data) ∧ ((r46.Time = s.Time) ∧ ((r46.Size = s.Size) ∧ True)))))) (xs := #[(.string r46.Path), (.int .i64 r46.Stage), (.int .i64 r46.Mode), (.string r46.Data), (.int .i64 r46.Time), (.int .i64 r46.Size)]) (ys := #[(.string e.Path), (.int .i64 e.Stage), (.int .i64 e.Mode), (.string e.Data), (.int .i64 s.Time), (.int .i64 s.Size)]) [({ name := "Path", type := 9, offset := 0, embedded := false, tag := "", pkgPath := "", byteOffset := 0 } : Field), ({ name := "Stage", type := 3, offset := 1, embedded := false, tag := "", pkgPath := "", byteOffset := 16 } : Field), ({ name := "Mode", type := 3, offset := 2, embedded := false, tag := "", pkgPath := "", byteOffset := 24 } : Field), ({ name := "Data", type := 9, offset := 3, embedded := false, tag := "", pkgPath := "", byteOffset := 32 } : Field), ({ name := "Time", type := 3, offset := 4, embedded := false, tag := "", pkgPath := "", byteOffset := 48 } : Field), ({ name := "Size", type := 3, offset := 5, embedded := false, tag := "", pkgPath := "", byteOffset := 56 } : Field)] (by kernel_rfl) (by kernel_rfl) (by kernel_rfl) (by kernel_rfl) (by kernel_rfl) (by kernel_rfl) (eqF_str (a := r46.Path) (b := e.Path) (by kernel_rfl) (by kernel_rfl) (by kernel_rfl) Tryd.underlying9 (eqF_int (k := .i64) (a := r46.Stage) (b := e.Stage) (by kernel_rfl) (by kernel_rfl) (by kernel_rfl) Tryd.underlying3 (eqF_int (k := .i64) (a := r46.Mode) (b := e.Mode) (by kernel_rfl) (by kernel_rfl) (by kernel_rfl) Tryd.underlying3 (eqF_str (a := r46.Data) (b := e.Data) (by kernel_rfl) (by kernel_rfl) (by kernel_rfl) Tryd.underlying9 (eqF_int (k := .i64) (a := r46.Time) (b := s.Time) (by kernel_rfl) (by kernel_rfl) (by kernel_rfl) Tryd.underlying3 (eqF_int (k := .i64) (a := r46.Size) (b := s.Size) (by kernel_rfl) (by kernel_rfl) (by kernel_rfl) Tryd.underlying3 eqF_nil))))))) h418)⟩) ?_
                    refine r_take 36 (.bool false) (RB.pre _ _) rfl (by kernel_rfl) (fun _ _ _ h => hQ.panic _ _ _ _ _ h) (.inl ⟨rfl, fun wq hq => (by kernel_rfl)⟩) ?_
                    refine r_take 37 (.bool false) (RB.pre _ _) rfl (by kernel_rfl) (fun _ _ _ h => hQ.panic _ _ _ _ _ h) (.inl ⟨rfl, fun wq hq => (by kernel_rfl)⟩) ?_
                    refine r_take 38 undef (RB.pre _ _) rfl (by kernel_rfl) (fun _ _ _ h => hQ.panic _ _ _ _ _ h) (.inr ⟨by kernel_rfl, rfl⟩) ?_
                    refine r_take 39 undef (RB.pre _ _) rfl (by kernel_rfl) (fun _ _ _ h => hQ.panic _ _ _ _ _ h) (.inr ⟨by kernel_rfl, rfl⟩) ?_
                    refine r_take 40 undef (RB.pre _ _) rfl (by kernel_rfl) (fun _ _ _ h => hQ.panic _ _ _ _ _ h) (.inr ⟨by kernel_rfl, rfl⟩) ?_
                    refine r_take 41 undef (RB.pre _ _) rfl (by kernel_rfl) (fun _ _ _ h => hQ.panic _ _ _ _ _ h) (.inr ⟨by kernel_rfl, rfl⟩) ?_
                    refine r_take 42 undef (RB.pre _ _) rfl (by kernel_rfl) (fun _ _ _ h => hQ.panic _ _ _ _ _ h) (.inr ⟨by kernel_rfl, rfl⟩) ?_
                    refine r_take 43 (.bool false) (RB.pre _ _) rfl (by kernel_rfl) (fun _ _ _ h => hQ.panic _ _ _ _ _ h) (.inl ⟨rfl, fun wq hq => (by kernel_rfl)⟩) ?_
                    refine r_ready [44] (by kernel_rfl) rfl (all_cons ⟨_, _, _, _, _, _, rfl, ?_⟩ all_nil)
                    refine o_pv (.bool false) rfl (by kernel_rfl) ?_
                    refine ⟨fun h => absurd h (by decide), ?_⟩
                    refine r_done (by kernel_rfl) ?_
                    refine then_normal (hJ351 _ _ _ ⟨[(6, (.bool false))], fit_mk (fun _ _ => rfl) (by kernel_rfl) (vs_cons (by kernel_rfl) vs_nil), ?_⟩)
                    exact ⟨X198, false, rfl, E370, hXo371, hS372, hp⟩
                ·
                  replace hp := hp.2 h417
                  refine r_take 31 (.bool false) (RB.pre _ _) rfl (by kernel_rfl) (fun _ _ _ h => hQ.panic _ _ _ _ _ h) (.inl ⟨rfl, fun wq hq => (x_df (p := (r39 : Bool) = false) (x_booleq (a := r39) (b := false) Tryd.underlying4 (by kernel_rfl) (by kernel_rfl)) h417)⟩) ?_
                  refine r_take 32 (.bool false) (RB.pre _ _) rfl (by kernel_rfl) (fun _ _ _ h => hQ.panic _ _ _ _ _ h) (.inl ⟨rfl, fun wq hq => (by kernel_rfl)⟩) ?_
                  refine r_take 33 undef (RB.pre _ _) rfl (by kernel_rfl) (fun _ _ _ h => hQ.panic _ _ _ _ _ h) (.inr ⟨by kernel_rfl, rfl⟩) ?_
                  refine r_take 34 undef (RB.pre _ _) rfl (by kernel_rfl) (fun _ _ _ h => hQ.panic _ _ _ _ _ h) (.inr ⟨by kernel_rfl, rfl⟩) ?_
                  refine r_take 35 undef (RB.pre _ _) rfl (by kernel_rfl) (fun _ _ _ h => hQ.panic _ _ _ _ _ h) (.inr ⟨by kernel_rfl, rfl⟩) ?_
                  refine r_take 36 (.bool false) (RB.pre _ _) rfl (by kernel_rfl) (fun _ _ _ h => hQ.panic _ _ _ _ _ h) (.inl ⟨rfl, fun wq hq => (by kernel_rfl)⟩) ?_
                  refine r_take 37 (.bool false) (RB.pre _ _) rfl (by kernel_rfl) (fun _ _ _ h => hQ.panic _ _ _ _ _ h) (.inl ⟨rfl, fun wq hq => (by kernel_rfl)⟩) ?_
                  refine r_take 38 undef (RB.pre _ _) rfl (by kernel_rfl) (fun _ _ _ h => hQ.panic _ _ _ _ _ h) (.inr ⟨by kernel_rfl, rfl⟩) ?_
                  refine r_take 39 undef (RB.pre _ _) rfl (by kernel_rfl) (fun _ _ _ h => hQ.panic _ _ _ _ _ h) (.inr ⟨by kernel_rfl, rfl⟩) ?_
                  refine r_take 40 undef (RB.pre _ _) rfl (by kernel_rfl) (fun _ _ _ h => hQ.panic _ _ _ _ _ h) (.inr ⟨by kernel_rfl, rfl⟩) ?_
                  refine r_take 41 undef (RB.pre _ _) rfl (by kernel_rfl) (fun _ _ _ h => hQ.panic _ _ _ _ _ h) (.inr ⟨by kernel_rfl, rfl⟩) ?_
                  refine r_take 42 undef (RB.pre _ _) rfl (by kernel_rfl) (fun _ _ _ h => hQ.panic _ _ _ _ _ h) (.inr ⟨by kernel_rfl, rfl⟩) ?_
                  refine r_take 43 (.bool false) (RB.pre _ _) rfl (by kernel_rfl) (fun _ _ _ h => hQ.panic _ _ _ _ _ h) (.inl ⟨rfl, fun wq hq => (by kernel_rfl)⟩) ?_
                  refine r_ready [44] (by kernel_rfl) rfl (all_cons ⟨_, _, _, _, _, _, rfl, ?_⟩ all_nil)
                  refine o_pv (.bool false) rfl (by kernel_rfl) ?_
                  refine ⟨fun h => absurd h (by decide), ?_⟩
                  refine r_done (by kernel_rfl) ?_
                  refine then_normal (hJ351 _ _ _ ⟨[(6, (.bool false))], fit_mk (fun _ _ => rfl) (by kernel_rfl) (vs_cons (by kernel_rfl) vs_nil), ?_⟩)
                  exact ⟨X198, false, rfl, E370, hXo371, hS372, hp⟩
            ·
              replace hp := hp.2 h380
              refine r_take 9 (.bool false) (RB.pre _ _) rfl (by kernel_rfl) (fun _ _ _ h => hQ.panic _ _ _ _ _ h) (.inl ⟨(by kernel_rfl), fun wq hq => (x_df (p := e.Time = s.Time) (by kernel_rfl) h380)⟩) ?_
              refine r_take 10 (.bool false) (RB.pre _ _) rfl (by kernel_rfl) (fun _ _ _ h => hQ.panic _ _ _ _ _ h) (.inl ⟨rfl, fun wq hq => (by kernel_rfl)⟩) ?_
              refine r_take 11 (.bool false) (RB.pre _ _) rfl (by kernel_rfl) (fun _ _ _ h => hQ.panic _ _ _ _ _ h) (.inl ⟨rfl, fun wq hq => (by kernel_rfl)⟩) ?_
              refine r_take 12 undef (RB.pre _ _) rfl (by kernel_rfl) (fun _ _ _ h => hQ.panic _ _ _ _ _ h) (.inr ⟨by kernel_rfl, rfl⟩) ?_
              refine r_take 13 undef (RB.pre _ _) rfl (by kernel_rfl) (fun _ _ _ h => hQ.panic _ _ _ _ _ h) (.inr ⟨by kernel_rfl, rfl⟩) ?_
              refine r_take 14 undef (RB.pre _ _) rfl (by kernel_rfl) (fun _ _ _ h => hQ.panic _ _ _ _ _ h) (.inr ⟨by kernel_rfl, rfl⟩) ?_
              refine r_take 15 undef (RB.pre _ _) rfl (by kernel_rfl) (fun _ _ _ h => hQ.panic _ _ _ _ _ h) (.inr ⟨by kernel_rfl, rfl⟩) ?_
              refine r_take 16 undef (RB.pre _ _) rfl (by kernel_rfl) (fun _ _ _ h => hQ.panic _ _ _ _ _ h) (.inr ⟨by kernel_rfl, rfl⟩) ?_
              refine r_take 17 (.bool false) (RB.pre _ _) rfl (by kernel_rfl) (fun _ _ _ h => hQ.panic _ _ _ _ _ h) (.inl ⟨rfl, fun wq hq => (by kernel_rfl)⟩) ?_
              refine r_take 18 (.bool false) (RB.pre _ _) rfl (by kernel_rfl) (fun _ _ _ h => hQ.panic _ _ _ _ _ h) (.inl ⟨rfl, fun wq hq => (by kernel_rfl)⟩) ?_
              refine r_take 19 undef (RB.pre _ _) rfl (by kernel_rfl) (fun _ _ _ h => hQ.panic _ _ _ _ _ h) (.inr ⟨by kernel_rfl, rfl⟩) ?_
              refine r_take 20 undef (RB.pre _ _) rfl (by kernel_rfl) (fun _ _ _ h => hQ.panic _ _ _ _ _ h) (.inr ⟨by kernel_rfl, rfl⟩) ?_
              refine r_take 21 undef (RB.pre _ _) rfl (by kernel_rfl) (fun _ _ _ h => hQ.panic _ _ _ _ _ h) (.inr ⟨by kernel_rfl, rfl⟩) ?_
              refine r_take 22 undef (RB.pre _ _) rfl (by kernel_rfl) (fun _ _ _ h => hQ.panic _ _ _ _ _ h) (.inr ⟨by kernel_rfl, rfl⟩) ?_
              refine r_take 23 undef (RB.pre _ _) rfl (by kernel_rfl) (fun _ _ _ h => hQ.panic _ _ _ _ _ h) (.inr ⟨by kernel_rfl, rfl⟩) ?_
              refine r_take 24 (.bool false) (RB.pre _ _) rfl (by kernel_rfl) (fun _ _ _ h => hQ.panic _ _ _ _ _ h) (.inl ⟨rfl, fun wq hq => (by kernel_rfl)⟩) ?_
              refine r_take 25 (.bool false) (RB.pre _ _) rfl (by kernel_rfl) (fun _ _ _ h => hQ.panic _ _ _ _ _ h) (.inl ⟨rfl, fun wq hq => (by kernel_rfl)⟩) ?_
              refine r_take 26 undef (RB.pre _ _) rfl (by kernel_rfl) (fun _ _ _ h => hQ.panic _ _ _ _ _ h) (.inr ⟨by kernel_rfl, rfl⟩) ?_
              refine r_take 27 undef (RB.pre _ _) rfl (by kernel_rfl) (fun _ _ _ h => hQ.panic _ _ _ _ _ h) (.inr ⟨by kernel_rfl, rfl⟩) ?_
              refine r_take 28 undef (RB.pre _ _) rfl (by kernel_rfl) (fun _ _ _ h => hQ.panic _ _ _ _ _ h) (.inr ⟨by kernel_rfl, rfl⟩) ?_
              refine r_take 29 undef (RB.pre _ _) rfl (by kernel_rfl) (fun _ _ _ h => hQ.panic _ _ _ _ _ h) (.inr ⟨by kernel_rfl, rfl⟩) ?_
              refine r_take 30 (.bool false) (RB.pre _ _) rfl (by kernel_rfl) (fun _ _ _ h => hQ.panic _ _ _ _ _ h) (.inl ⟨rfl, fun wq hq => (by kernel_rfl)⟩) ?_
              by_cases h434 : (r39 : Bool) = false
              ·
                replace hp := hp.1 h434
                refine r_take 31 (.bool true) (RB.pre _ _) rfl (by kernel_rfl) (fun _ _ _ h => hQ.panic _ _ _ _ _ h) (.inl ⟨rfl, fun wq hq => (x_dt (p := (r39 : Bool) = false) (x_booleq (a := r39) (b := false) Tryd.underlying4 (by kernel_rfl) (by kernel_rfl)) h434)⟩) ?_
                refine r_take 32 (.bool true) (RB.pre _ _) rfl (by kernel_rfl) (fun _ _ _ h => hQ.panic _ _ _ _ _ h) (.inl ⟨rfl, fun wq hq => (by kernel_rfl)⟩) ?_
                refine r_take 33 (.agg #[(.string r46.Path), (.int .i64 r46.Stage), (.int .i64 r46.Mode), (.string r46.Data), (.int .i64 r46.Time), (.int .i64 r46.Size)]) (RB.pre _ _) rfl (by kernel_rfl) (fun _ _ _ h => hQ.panic _ _ _ _ _ h) (.inl ⟨(by kernel_rfl), fun wq hq => (x_loadN [(.string r46.Path), (.int .i64 r46.Stage), (.int .i64 r46.Mode), (.string r46.Data), (.int .i64 r46.Time), (.int .i64 r46.Size)] (by kernel_rfl) Tryd.isAgg82 Tryd.sizeOf82 ((Blk.rb k376.2.1 (RB.trans er368 hq) (Nat.lt_of_lt_of_eq (Blk.lt k376.2.1) z367) (fun h => by cases h)).cells' 0 rfl))⟩) ?_
                refine r_take 34 (.agg #[(.string e.Path), (.int .i64 e.Stage), (.int .i64 e.Mode), (.string e.Data), (.int .i64 s.Time), (.int .i64 s.Size)]) (RB.pre _ _) rfl (by kernel_rfl) (fun _ _ _ h => hQ.panic _ _ _ _ _ h) (.inl ⟨(by kernel_rfl), fun wq hq => (x_loadN [(.string e.Path), (.int .i64 e.Stage), (.int .i64 e.Mode), (.string e.Data), (.int .i64 s.Time), (.int .i64 s.Size)] (by kernel_rfl) Tryd.isAgg82 Tryd.sizeOf82 ((Blk.rb k378.2.1 (RB.trans er368 hq) (Nat.lt_of_lt_of_eq (Blk.lt k378.2.1) z367) (fun h => by cases h)).cells' 0 rfl))⟩) ?_
                by_cases h435 : ((r46.Path : ByteArray) = e.Path) ∧ ((r46.Stage = e.Stage) ∧ ((r46.Mode = e.Mode) ∧ (((r46.Data : ByteArray) = e.Data) ∧ ((r46.Time = s.Time) ∧ ((r46.Size = s.Size) ∧ True)))))
                ·
                  replace hp := hp.1 h435
                  refine r_take 35 (.bool true) (RB.pre _ _) rfl (by kernel_rfl) (fun _ _ _ h => hQ.panic _ _ _ _ _ h) (.inl ⟨(by kernel_rfl), fun wq hq => (x_dt (p := ((r46.Path : ByteArray) = e.Path) ∧ ((r46.Stage = e.Stage) ∧ ((r46.Mode = e.Mode) ∧ (((r46.Data : ByteArray) = e.Data) ∧ ((r46.Time = s.Time) ∧ ((r46.Size = s.Size) ∧ True)))))) (x_steq (q := ((r46.Path : ByteArray) = e.Path) ∧ ((r46.Stage = e.Stage) ∧ ((r46.Mode = e.Mode) ∧ (((r46.Data : ByteArray) = e.Data) ∧ ((r46.Time = s.Time) ∧ ((r46.Size = s.Size) ∧ True)))))) (xs := #[(.string r46.Path), (.int .i64 r46.Stage), (.int .i64 r46.Mode), (.string r46.Data), (.int .i64 r46.Time), (.int .i64 r46.Size)]) (ys := #[(.string e.Path), (.int .i64 e.Stage), (.int .i64 e.Mode), (.string e.Data), (.int .i64 s.Time), (.int .i64 s.Size)]) [({ name := "Path", type := 9, offset := 0, embedded := false, tag := "", pkgPath := "", byteOffset := 0 } : Field), ({ name := "Stage", type := 3, offset := 1, embedded := false, tag := "", pkgPath := "", byteOffset := 16 } : Field), ({ name := "Mode", type := 3, offset := 2, embedded := false, tag := "", pkgPath := "", byteOffset := 24 } : Field), ({ name := "Data", type := 9, offset := 3, embedded := false, tag := "", pkgPath := "", byteOffset := 32 } : Field), ({ name := "Time", type := 3, offset := 4, embedded := false, tag := "", pkgPath := "", byteOffset := 48 } : Field), ({ name := "Size", type := 3, offset := 5, embedded := false, tag := "", pkgPath := "", byteOffset := 56 } : Field)] (by kernel_rfl) (by kernel_rfl) (by kernel_rfl) (by kernel_rfl) (by kernel_rfl) (by kernel_rfl) (eqF_str (a := r46.Path) (b := e.Path) (by kernel_rfl) (by kernel_rfl) (by kernel_rfl) Tryd.underlying9 (eqF_int (k := .i64) (a := r46.Stage) (b := e.Stage) (by kernel_rfl) (by kernel_rfl) (by kernel_rfl) Tryd.underlying3 (eqF_int (k := .i64) (a := r46.Mode) (b := e.Mode) (by kernel_rfl) (by kernel_rfl) (by kernel_rfl) Tryd.underlying3 (eqF_str (a := r46.Data) (b := e.Data) (by kernel_rfl) (by kernel_rfl) (by kernel_rfl) Tryd.underlying9 (eqF_int (k := .i64) (a := r46.Time) (b := s.Time) (by kernel_rfl) (by kernel_rfl) (by kernel_rfl) Tryd.underlying3 (eqF_int (k := .i64) (a := r46.Size) (b := s.Size) (by kernel_rfl) (by kernel_rfl) (by kernel_rfl) Tryd.underlying3 eqF_nil))))))) h435)⟩) ?_
                  refine r_take 36 (.bool true) (RB.pre _ _) rfl (by kernel_rfl) (fun _ _ _ h => hQ.panic _ _ _ _ _ h) (.inl ⟨rfl, fun wq hq => (by kernel_rfl)⟩) ?_
                  refine r_take 37 (.bool true) (RB.pre _ _) rfl (by kernel_rfl) (fun _ _ _ h => hQ.panic _ _ _ _ _ h) (.inl ⟨rfl, fun wq hq => (by kernel_rfl)⟩) ?_
                  refine r_take 38 (.slice ar102 r98.length cr103) (RB.pre _ _) rfl (by kernel_rfl) (fun _ _ _ h => hQ.panic _ _ _ _ _ h) (.inl ⟨(by kernel_rfl), fun wq hq => (by kernel_rfl)⟩) ?_
                  obtain ⟨h436, hp⟩ := hp
                  obtain ⟨b437, o438, cs439, ha440, nx441, lt442, ok443, hc444⟩ := Sl.atI hr373 (0 : Int) h436
                  obtain ⟨rfl, zePath445, reStage446, reMode447, zeData448, reTime449, reSize450⟩ := r_index_Entry_open ok443
                  replace hp := hp zePath445
                  replace hp := hp reStage446
                  replace hp := hp reMode447
                  replace hp := hp zeData448
                  replace hp := hp reTime449
                  replace hp := hp reSize450
                  refine r_take 39 (.pointer (some ⟨b437, o438 + (0 : Int).toNat * 6, none⟩)) (RB.pre _ _) rfl (by kernel_rfl) (fun _ _ _ h => hQ.panic _ _ _ _ _ h) (.inl ⟨(by kernel_rfl), fun wq hq => (x_ixA (m := r98.length) (c := cr103) (k := .i64) (i := (0 : Int)) Tryd.underlying87 Tryd.sizeOf82 (by rw [← ha440]; kernel_rfl) (by kernel_rfl) h436)⟩) ?_
                  refine r_take 40 (.agg #[(.string ((lget r98 (0 : Int)).Path)), (.int .i64 ((lget r98 (0 : Int)).Stage)), (.int .i64 ((lget r98 (0 : Int)).Mode)), (.string ((lget r98 (0 : Int)).Data)), (.int .i64 ((lget r98 (0 : Int)).Time)), (.int .i64 ((lget r98 (0 : Int)).Size))]) (RB.pre _ _) rfl (by kernel_rfl) (fun _ _ _ h => hQ.panic _ _ _ _ _ h) (.inl ⟨(by kernel_rfl), fun wq hq => (x_loadN [(.string ((lget r98 (0 : Int)).Path)), (.int .i64 ((lget r98 (0 : Int)).Stage)), (.int .i64 ((lget r98 (0 : Int)).Mode)), (.string ((lget r98 (0 : Int)).Data)), (.int .i64 ((lget r98 (0 : Int)).Time)), (.int .i64 ((lget r98 (0 : Int)).Size))] (by kernel_rfl) Tryd.isAgg82 Tryd.sizeOf82 (CellsAt.rb hc444 (RB.trans er368 hq) (Nat.lt_of_lt_of_eq lt442 z367) (fun h => by cases h)))⟩) ?_
                  refine r_take 41 (.agg #[(.string e.Path), (.int .i64 e.Stage), (.int .i64 e.Mode), (.string e.Data), (.int .i64 f149), (.int .i64 f151)]) (RB.pre _ _) rfl (by kernel_rfl) (fun _ _ _ h => hQ.panic _ _ _ _ _ h) (.inl ⟨(by kernel_rfl), fun wq hq => (x_loadN [(.string e.Path), (.int .i64 e.Stage), (.int .i64 e.Mode), (.string e.Data), (.int .i64 f149), (.int .i64 f151)] (by kernel_rfl) Tryd.isAgg82 Tryd.sizeOf82 ((Blk.rb k377.2.1 (RB.trans er368 hq) (Nat.lt_of_lt_of_eq (Blk.lt k377.2.1) z367) (fun h => by cases h)).cells' 0 rfl))⟩) ?_
                  refine r_take 42 (.bool (decide ((((lget r98 (0 : Int)).Path : ByteArray) = e.Path) ∧ (((lget r98 (0 : Int)).Stage = e.Stage) ∧ (((lget r98 (0 : Int)).Mode = e.Mode) ∧ ((((lget r98 (0 : Int)).Data : ByteArray) = e.Data) ∧ (((lget r98 (0 : Int)).Time = f149) ∧ (((lget r98 (0 : Int)).Size = f151) ∧ True)))))))) (RB.pre _ _) rfl (by kernel_rfl) (fun _ _ _ h => hQ.panic _ _ _ _ _ h) (.inl ⟨(by kernel_rfl), fun wq hq => (x_steq (q := (((lget r98 (0 : Int)).Path : ByteArray) = e.Path) ∧ (((lget r98 (0 : Int)).Stage = e.Stage) ∧ (((lget r98 (0 : Int)).Mode = e.Mode) ∧ ((((lget r98 (0 : Int)).Data : ByteArray) = e.Data) ∧ (((lget r98 (0 : Int)).Time = f149) ∧ (((lget r98 (0 : Int)).Size = f151) ∧ True)))))) (xs := #[(.string ((lget r98 (0 : Int)).Path)), (.int .i64 ((lget r98 (0 : Int)).Stage)), (.int .i64 ((lget r98 (0 : Int)).Mode)), (.string ((lget r98 (0 : Int)).Data)), (.int .i64 ((lget r98 (0 : Int)).Time)), (.int .i64 ((lget r98 (0 : Int)).Size))]) (ys := #[(.string e.Path), (.int .i64 e.Stage), (.int .i64 e.Mode), (.string e.Data), (.int .i64 f149), (.int .i64 f151)]) [({ name := "Path", type := 9, offset := 0, embedded := false, tag := "", pkgPath := "", byteOffset := 0 } : Field), ({ name := "Stage", type := 3, offset := 1, embedded := false, tag := "", pkgPath := "", byteOffset := 16 } : Field), ({ name := "Mode", type := 3, offset := 2, embedded := false, tag := "", pkgPath := "", byteOffset := 24 } : Field), ({ name := "Data", type := 9, offset := 3, embedded := false, tag := "", pkgPath := "", byteOffset := 32 } : Field), ({ name := "Time", type := 3, offset := 4, embedded := false, tag := "", pkgPath := "", byteOffset := 48 } : Field), ({ name := "Size", type := 3, offset := 5, embedded := false, tag := "", pkgPath := "", byteOffset := 56 } : Field)] (by kernel_rfl) (by kernel_rfl) (by kernel_rfl) (by kernel_rfl) (by kernel_rfl) (by kernel_rfl) (eqF_str (a := (lget r98 (0 : Int)).Path) (b := e.Path) (by kernel_rfl) (by kernel_rfl) (by kernel_rfl) Tryd.underlying9 (eqF_int (k := .i64) (a := (lget r98 (0 : Int)).Stage) (b := e.Stage) (by kernel_rfl) (by kernel_rfl) (by kernel_rfl) Tryd.underlying3 (eqF_int (k := .i64) (a := (lget r98 (0 : Int)).Mode) (b := e.Mode) (by kernel_rfl) (by kernel_rfl) (by kernel_rfl) Tryd.underlying3 (eqF_str (a := (lget r98 (0 : Int)).Data) (b := e.Data) (by kernel_rfl) (by kernel_rfl) (by kernel_rfl) Tryd.underlying9 (eqF_int (k := .i64) (a := (lget r98 (0 : Int)).Time) (b := f149) (by kernel_rfl) (by kernel_rfl) (by kernel_rfl) Tryd.underlying3 (eqF_int (k := .i64) (a := (lget r98 (0 : Int)).Size) (b := f151) (by kernel_rfl) (by kernel_rfl) (by kernel_rfl) Tryd.underlying3 eqF_nil)))))))⟩) ?_
                  refine r_take 43 (.bool (decide ((((lget r98 (0 : Int)).Path : ByteArray) = e.Path) ∧ (((lget r98 (0 : Int)).Stage = e.Stage) ∧ (((lget r98 (0 : Int)).Mode = e.Mode) ∧ ((((lget r98 (0 : Int)).Data : ByteArray) = e.Data) ∧ (((lget r98 (0 : Int)).Time = f149) ∧ (((lget r98 (0 : Int)).Size = f151) ∧ True)))))))) (RB.pre _ _) rfl (by kernel_rfl) (fun _ _ _ h => hQ.panic _ _ _ _ _ h) (.inl ⟨rfl, fun wq hq => (by kernel_rfl)⟩) ?_
                  refine r_ready [44] (by kernel_rfl) rfl (all_cons ⟨_, _, _, _, _, _, rfl, ?_⟩ all_nil)
                  refine o_pv (.bool (decide ((((lget r98 (0 : Int)).Path : ByteArray) = e.Path) ∧ (((lget r98 (0 : Int)).Stage = e.Stage) ∧ (((lget r98 (0 : Int)).Mode = e.Mode) ∧ ((((lget r98 (0 : Int)).Data : ByteArray) = e.Data) ∧ (((lget r98 (0 : Int)).Time = f149) ∧ (((lget r98 (0 : Int)).Size = f151) ∧ True)))))))) rfl (by kernel_rfl) ?_
                  refine ⟨fun h => absurd h (by decide), ?_⟩
                  refine r_done (by kernel_rfl) ?_
                  refine then_normal (hJ351 _ _ _ ⟨[(6, (.bool (decide ((((lget r98 (0 : Int)).Path : ByteArray) = e.Path) ∧ (((lget r98 (0 : Int)).Stage = e.Stage) ∧ (((lget r98 (0 : Int)).Mode = e.Mode) ∧ ((((lget r98 (0 : Int)).Data : ByteArray) = e.Data) ∧ (((lget r98 (0 : Int)).Time = f149) ∧ (((lget r98 (0 : Int)).Size = f151) ∧ True)))))))))], fit_mk (fun _ _ => rfl) (by kernel_rfl) (vs_cons (by kernel_rfl) vs_nil), ?_⟩)
                  exact ⟨X198, (decide ((((lget r98 (0 : Int)).Path : ByteArray) = e.Path) ∧ (((lget r98 (0 : Int)).Stage = e.Stage) ∧ (((lget r98 (0 : Int)).Mode = e.Mode) ∧ ((((lget r98 (0 : Int)).Data : ByteArray) = e.Data) ∧ (((lget r98 (0 : Int)).Time = f149) ∧ (((lget r98 (0 : Int)).Size = f151) ∧ True))))))), rfl, E370, hXo371, hS372, hp⟩
                ·
                  replace hp := hp.2 h435
                  refine r_take 35 (.bool false) (RB.pre _ _) rfl (by kernel_rfl) (fun _ _ _ h => hQ.panic _ _ _ _ _ h) (.inl ⟨(by kernel_rfl), fun wq hq => (x_df (p := ((r46.Path : ByteArray) = e.Path) ∧ ((r46.Stage = e.Stage) ∧ ((r46.Mode = e.Mode) ∧ (((r46.Data : ByteArray) = e.Data) ∧ ((r46.Time = s.Time) ∧ ((r46.Size = s.Size) ∧ True)))))) (x_steq (q := ((r46.Path : ByteArray) = e.Path) ∧ ((r46.Stage = e.Stage) ∧ ((r46.Mode = e.Mode) ∧ (((r46.Data : ByteArray) = e.Data) ∧ ((r46.Time = s.Time) ∧ ((r46.Size = s.Size) ∧ True)))))) (xs := #[(.string r46.Path), (.int .i64 r46.Stage), (.int .i64 r46.Mode), (.string r46.Data), (.int .i64 r46.Time), (.int .i64 r46.Size)]) (ys := #[(.string e.Path), (.int .i64 e.Stage), (.int .i64 e.Mode), (.string e.Data), (.int .i64 s.Time), (.int .i64 s.Size)]) [({ name := "Path", type := 9, offset := 0, embedded := false, tag := "", pkgPath := "", byteOffset := 0 } : Field), ({ name := "Stage", type := 3, offset := 1, embedded := false, tag := "", pkgPath := "", byteOffset := 16 } : Field), ({ name := "Mode", type := 3, offset := 2, embedded := false, tag := "", pkgPath := "", byteOffset := 24 } : Field), ({ name := "Data", type := 9, offset := 3, embedded := false, tag := "", pkgPath := "", byteOffset := 32 } : Field), ({ name := "Time", type := 3, offset := 4, embedded := false, tag := "", pkgPath := "", byteOffset := 48 } : Field), ({ name := "Size", type := 3, offset := 5, embedded := false, tag := "", pkgPath := "", byteOffset := 56 } : Field)] (by kernel_rfl) (by kernel_rfl) (by kernel_rfl) (by kernel_rfl) (by kernel_rfl) (by kernel_rfl) (eqF_str (a := r46.Path) (b := e.Path) (by kernel_rfl) (by kernel_rfl) (by kernel_rfl) Tryd.underlying9 (eqF_int (k := .i64) (a := r46.Stage) (b := e.Stage) (by kernel_rfl) (by kernel_rfl) (by kernel_rfl) Tryd.underlying3 (eqF_int (k := .i64) (a := r46.Mode) (b := e.Mode) (by kernel_rfl) (by kernel_rfl) (by kernel_rfl) Tryd.underlying3 (eqF_str (a := r46.Data) (b := e.Data) (by kernel_rfl) (by kernel_rfl) (by kernel_rfl) Tryd.underlying9 (eqF_int (k := .i64) (a := r46.Time) (b := s.Time) (by kernel_rfl) (by kernel_rfl) (by kernel_rfl) Tryd.underlying3 (eqF_int (k := .i64) (a := r46.Size) (b := s.Size) (by kernel_rfl) (by kernel_rfl) (by kernel_rfl) Tryd.underlying3 eqF_nil))))))) h435)⟩) ?_
                  refine r_take 36 (.bool false) (RB.pre _ _) rfl (by kernel_rfl) (fun _ _ _ h => hQ.panic _ _ _ _ _ h) (.inl ⟨rfl, fun wq hq => (by kernel_rfl)⟩) ?_
                  refine r_take 37 (.bool false) (RB.pre _ _) rfl (by kernel_rfl) (fun _ _ _ h => hQ.panic _ _ _ _ _ h) (.inl ⟨rfl, fun wq hq => (by kernel_rfl)⟩) ?_
                  refine r_take 38 undef (RB.pre _ _) rfl (by kernel_rfl) (fun _ _ _ h => hQ.panic _ _ _ _ _ h) (.inr ⟨by kernel_rfl, rfl⟩) ?_
                  refine r_take 39 undef (RB.pre _ _) rfl (by kernel_rfl) (fun _ _ _ h => hQ.panic _ _ _ _ _ h) (.inr ⟨by kernel_rfl, rfl⟩) ?_
                  refine r_take 40 undef (RB.pre _ _) rfl (by kernel_rfl) (fun _ _ _ h => hQ.panic _ _ _ _ _ h) (.inr ⟨by kernel_rfl, rfl⟩) ?_
                  refine r_take 41 undef (RB.pre _ _) rfl (by kernel_rfl) (fun _ _ _ h => hQ.panic _ _ _ _ _ h) (.inr ⟨by kernel_rfl, rfl⟩) ?_
                  refine r_take 42 undef (RB.pre _ _) rfl (by kernel_rfl) (fun _ _ _ h => hQ.panic _ _ _ _ _ h) (.inr ⟨by kernel_rfl, rfl⟩) ?_
                  refine r_take 43 (.bool false) (RB.pre _ _) rfl (by kernel_rfl) (fun _ _ _ h => hQ.panic _ _ _ _ _ h) (.inl ⟨rfl, fun wq hq => (by kernel_rfl)⟩) ?_
                  refine r_ready [44] (by kernel_rfl) rfl (all_cons ⟨_, _, _, _, _, _, rfl, ?_⟩ all_nil)
                  refine o_pv (.bool false) rfl (by kernel_rfl) ?_
                  refine ⟨fun h => absurd h (by decide), ?_⟩
                  refine r_done (by kernel_rfl) ?_
                  refine then_normal (hJ351 _ _ _ ⟨[(6, (.bool false))], fit_mk (fun _ _ => rfl) (by kernel_rfl) (vs_cons (by kernel_rfl) vs_nil), ?_⟩)
                  exact ⟨X198, false, rfl, E370, hXo371, hS372, hp⟩
              ·
                replace hp := hp.2 h434
                refine r_take 31 (.bool false) (RB.pre _ _) rfl (by kernel_rfl) (fun _ _ _ h => hQ.panic _ _ _ _ _ h) (.inl ⟨rfl, fun wq hq => (x_df (p := (r39 : Bool) = false) (x_booleq (a := r39) (b := false) Tryd.underlying4 (by kernel_rfl) (by kernel_rfl)) h434)⟩) ?_
                refine r_take 32 (.bool false) (RB.pre _ _) rfl (by kernel_rfl) (fun _ _ _ h => hQ.panic _ _ _ _ _ h) (.inl ⟨rfl, fun wq hq => (by kernel_rfl)⟩) ?_
                refine r_take 33 undef (RB.pre _ _) rfl (by kernel_rfl) (fun _ _ _ h => hQ.panic _ _ _ _ _ h) (.inr ⟨by kernel_rfl, rfl⟩) ?_
                refine r_take 34 undef (RB.pre _ _) rfl (by kernel_rfl) (fun _ _ _ h => hQ.panic _ _ _ _ _ h) (.inr ⟨by kernel_rfl, rfl⟩) ?_
                refine r_take 35 undef (RB.pre _ _) rfl (by kernel_rfl) (fun _ _ _ h => hQ.panic _ _ _ _ _ h) (.inr ⟨by kernel_rfl, rfl⟩) ?_
                refine r_take 36 (.bool false) (RB.pre _ _) rfl (by kernel_rfl) (fun _ _ _ h => hQ.panic _ _ _ _ _ h) (.inl ⟨rfl, fun wq hq => (by kernel_rfl)⟩) ?_
                refine r_take 37 (.bool false) (RB.pre _ _) rfl (by kernel_rfl) (fun _ _ _ h => hQ.panic _ _ _ _ _ h) (.inl ⟨rfl, fun wq hq => (by kernel_rfl)⟩) ?_
                refine r_take 38 undef (RB.pre _ _) rfl (by kernel_rfl) (fun _ _ _ h => hQ.panic _ _ _ _ _ h) (.inr ⟨by kernel_rfl, rfl⟩) ?_
                refine r_take 39 undef (RB.pre _ _) rfl (by kernel_rfl) (fun _ _ _ h => hQ.panic _ _ _ _ _ h) (.inr ⟨by kernel_rfl, rfl⟩) ?_
                refine r_take 40 undef (RB.pre _ _) rfl (by kernel_rfl) (fun _ _ _ h => hQ.panic _ _ _ _ _ h) (.inr ⟨by kernel_rfl, rfl⟩) ?_
                refine r_take 41 undef (RB.pre _ _) rfl (by kernel_rfl) (fun _ _ _ h => hQ.panic _ _ _ _ _ h) (.inr ⟨by kernel_rfl, rfl⟩) ?_
                refine r_take 42 undef (RB.pre _ _) rfl (by kernel_rfl) (fun _ _ _ h => hQ.panic _ _ _ _ _ h) (.inr ⟨by kernel_rfl, rfl⟩) ?_
                refine r_take 43 (.bool false) (RB.pre _ _) rfl (by kernel_rfl) (fun _ _ _ h => hQ.panic _ _ _ _ _ h) (.inl ⟨rfl, fun wq hq => (by kernel_rfl)⟩) ?_
                refine r_ready [44] (by kernel_rfl) rfl (all_cons ⟨_, _, _, _, _, _, rfl, ?_⟩ all_nil)
                refine o_pv (.bool false) rfl (by kernel_rfl) ?_
                refine ⟨fun h => absurd h (by decide), ?_⟩
                refine r_done (by kernel_rfl) ?_
                refine then_normal (hJ351 _ _ _ ⟨[(6, (.bool false))], fit_mk (fun _ _ => rfl) (by kernel_rfl) (vs_cons (by kernel_rfl) vs_nil), ?_⟩)
                exact ⟨X198, false, rfl, E370, hXo371, hS372, hp⟩
          ·
            replace hp := hp.2 h379
            refine r_take 3 (.bool false) (RB.pre _ _) rfl (by kernel_rfl) (fun _ _ _ h => hQ.panic _ _ _ _ _ h) (.inl ⟨rfl, fun wq hq => (x_df (p := e.Stage = (0 : Int)) (by kernel_rfl) h379)⟩) ?_
            refine r_take 4 (.bool false) (RB.pre _ _) rfl (by kernel_rfl) (fun _ _ _ h => hQ.panic _ _ _ _ _ h) (.inl ⟨rfl, fun wq hq => (by kernel_rfl)⟩) ?_
            refine r_take 5 undef (RB.pre _ _) rfl (by kernel_rfl) (fun _ _ _ h => hQ.panic _ _ _ _ _ h) (.inr ⟨by kernel_rfl, rfl⟩) ?_
            refine r_take 6 undef (RB.pre _ _) rfl (by kernel_rfl) (fun _ _ _ h => hQ.panic _ _ _ _ _ h) (.inr ⟨by kernel_rfl, rfl⟩) ?_
            refine r_take 7 undef (RB.pre _ _) rfl (by kernel_rfl) (fun _ _ _ h => hQ.panic _ _ _ _ _ h) (.inr ⟨by kernel_rfl, rfl⟩) ?_
            refine r_take 8 undef (RB.pre _ _) rfl (by kernel_rfl) (fun _ _ _ h => hQ.panic _ _ _ _ _ h) (.inr ⟨by kernel_rfl, rfl⟩) ?_
            refine r_take 9 undef (RB.pre _ _) rfl (by kernel_rfl) (fun _ _ _ h => hQ.panic _ _ _ _ _ h) (.inr ⟨by kernel_rfl, rfl⟩) ?_
            refine r_take 10 (.bool false) (RB.pre _ _) rfl (by kernel_rfl) (fun _ _ _ h => hQ.panic _ _ _ _ _ h) (.inl ⟨rfl, fun wq hq => (by kernel_rfl)⟩) ?_
            refine r_take 11 (.bool false) (RB.pre _ _) rfl (by kernel_rfl) (fun _ _ _ h => hQ.panic _ _ _ _ _ h) (.inl ⟨rfl, fun wq hq => (by kernel_rfl)⟩) ?_
            refine r_take 12 undef (RB.pre _ _) rfl (by kernel_rfl) (fun _ _ _ h => hQ.panic _ _ _ _ _ h) (.inr ⟨by kernel_rfl, rfl⟩) ?_
            refine r_take 13 undef (RB.pre _ _) rfl (by kernel_rfl) (fun _ _ _ h => hQ.panic _ _ _ _ _ h) (.inr ⟨by kernel_rfl, rfl⟩) ?_
            refine r_take 14 undef (RB.pre _ _) rfl (by kernel_rfl) (fun _ _ _ h => hQ.panic _ _ _ _ _ h) (.inr ⟨by kernel_rfl, rfl⟩) ?_
            refine r_take 15 undef (RB.pre _ _) rfl (by kernel_rfl) (fun _ _ _ h => hQ.panic _ _ _ _ _ h) (.inr ⟨by kernel_rfl, rfl⟩) ?_
            refine r_take 16 undef (RB.pre _ _) rfl (by kernel_rfl) (fun _ _ _ h => hQ.panic _ _ _ _ _ h) (.inr ⟨by kernel_rfl, rfl⟩) ?_
            refine r_take 17 (.bool false) (RB.pre _ _) rfl (by kernel_rfl) (fun _ _ _ h => hQ.panic _ _ _ _ _ h) (.inl ⟨rfl, fun wq hq => (by kernel_rfl)⟩) ?_
            refine r_take 18 (.bool false) (RB.pre _ _) rfl (by kernel_rfl) (fun _ _ _ h => hQ.panic _ _ _ _ _ h) (.inl ⟨rfl, fun wq hq => (by kernel_rfl)⟩) ?_
            refine r_take 19 undef (RB.pre _ _) rfl (by kernel_rfl) (fun _ _ _ h => hQ.panic _ _ _ _ _ h) (.inr ⟨by kernel_rfl, rfl⟩) ?_
            refine r_take 20 undef (RB.pre _ _) rfl (by kernel_rfl) (fun _ _ _ h => hQ.panic _ _ _ _ _ h) (.inr ⟨by kernel_rfl, rfl⟩) ?_
            refine r_take 21 undef (RB.pre _ _) rfl (by kernel_rfl) (fun _ _ _ h => hQ.panic _ _ _ _ _ h) (.inr ⟨by kernel_rfl, rfl⟩) ?_
            refine r_take 22 undef (RB.pre _ _) rfl (by kernel_rfl) (fun _ _ _ h => hQ.panic _ _ _ _ _ h) (.inr ⟨by kernel_rfl, rfl⟩) ?_
            refine r_take 23 undef (RB.pre _ _) rfl (by kernel_rfl) (fun _ _ _ h => hQ.panic _ _ _ _ _ h) (.inr ⟨by kernel_rfl, rfl⟩) ?_
            refine r_take 24 (.bool false) (RB.pre _ _) rfl (by kernel_rfl) (fun _ _ _ h => hQ.panic _ _ _ _ _ h) (.inl ⟨rfl, fun wq hq => (by kernel_rfl)⟩) ?_
            refine r_take 25 (.bool false) (RB.pre _ _) rfl (by kernel_rfl) (fun _ _ _ h => hQ.panic _ _ _ _ _ h) (.inl ⟨rfl, fun wq hq => (by kernel_rfl)⟩) ?_
            refine r_take 26 undef (RB.pre _ _) rfl (by kernel_rfl) (fun _ _ _ h => hQ.panic _ _ _ _ _ h) (.inr ⟨by kernel_rfl, rfl⟩) ?_
            refine r_take 27 undef (RB.pre _ _) rfl (by kernel_rfl) (fun _ _ _ h => hQ.panic _ _ _ _ _ h) (.inr ⟨by kernel_rfl, rfl⟩) ?_
            refine r_take 28 undef (RB.pre _ _) rfl (by kernel_rfl) (fun _ _ _ h => hQ.panic _ _ _ _ _ h) (.inr ⟨by kernel_rfl, rfl⟩) ?_
            refine r_take 29 undef (RB.pre _ _) rfl (by kernel_rfl) (fun _ _ _ h => hQ.panic _ _ _ _ _ h) (.inr ⟨by kernel_rfl, rfl⟩) ?_
            refine r_take 30 (.bool false) (RB.pre _ _) rfl (by kernel_rfl) (fun _ _ _ h => hQ.panic _ _ _ _ _ h) (.inl ⟨rfl, fun wq hq => (by kernel_rfl)⟩) ?_
            by_cases h451 : (r39 : Bool) = false
            ·
              replace hp := hp.1 h451
              refine r_take 31 (.bool true) (RB.pre _ _) rfl (by kernel_rfl) (fun _ _ _ h => hQ.panic _ _ _ _ _ h) (.inl ⟨rfl, fun wq hq => (x_dt (p := (r39 : Bool) = false) (x_booleq (a := r39) (b := false) Tryd.underlying4 (by kernel_rfl) (by kernel_rfl)) h451)⟩) ?_
              refine r_take 32 (.bool true) (RB.pre _ _) rfl (by kernel_rfl) (fun _ _ _ h => hQ.panic _ _ _ _ _ h) (.inl ⟨rfl, fun wq hq => (by kernel_rfl)⟩) ?_
              refine r_take 33 (.agg #[(.string r46.Path), (.int .i64 r46.Stage), (.int .i64 r46.Mode), (.string r46.Data), (.int .i64 r46.Time), (.int .i64 r46.Size)]) (RB.pre _ _) rfl (by kernel_rfl) (fun _ _ _ h => hQ.panic _ _ _ _ _ h) (.inl ⟨(by kernel_rfl), fun wq hq => (x_loadN [(.string r46.Path), (.int .i64 r46.Stage), (.int .i64 r46.Mode), (.string r46.Data), (.int .i64 r46.Time), (.int .i64 r46.Size)] (by kernel_rfl) Tryd.isAgg82 Tryd.sizeOf82 ((Blk.rb k376.2.1 (RB.trans er368 hq) (Nat.lt_of_lt_of_eq (Blk.lt k376.2.1) z367) (fun h => by cases h)).cells' 0 rfl))⟩) ?_
              refine r_take 34 (.agg #[(.string e.Path), (.int .i64 e.Stage), (.int .i64 e.Mode), (.string e.Data), (.int .i64 s.Time), (.int .i64 s.Size)]) (RB.pre _ _) rfl (by kernel_rfl) (fun _ _ _ h => hQ.panic _ _ _ _ _ h) (.inl ⟨(by kernel_rfl), fun wq hq => (x_loadN [(.string e.Path), (.int .i64 e.Stage), (.int .i64 e.Mode), (.string e.Data), (.int .i64 s.Time), (.int .i64 s.Size)] (by kernel_rfl) Tryd.isAgg82 Tryd.sizeOf82 ((Blk.rb k378.2.1 (RB.trans er368 hq) (Nat.lt_of_lt_of_eq (Blk.lt k378.2.1) z367) (fun h => by cases h)).cells' 0 rfl))⟩) ?_
              by_cases h452 : ((r46.Path : ByteArray) = e.Path) ∧ ((r46.Stage = e.Stage) ∧ ((r46.Mode = e.Mode) ∧ (((r46.Data : ByteArray) = e.Data) ∧ ((r46.Time = s.Time) ∧ ((r46.Size = s.Size) ∧ True)))))
              ·
                replace hp := hp.1 h452
                refine r_take 35 (.bool true) (RB.pre _ _) rfl (by kernel_rfl) (fun _ _ _ h => hQ.panic _ _ _ _ _ h) (.inl ⟨(by kernel_rfl), fun wq hq => (x_dt (p := ((r46.Path : ByteArray) = e.Path) ∧ ((r46.Stage = e.Stage) ∧ ((r46.Mode = e.Mode) ∧ (((r46.Data : ByteArray) = e.Data) ∧ ((r46.Time = s.Time) ∧ ((r46.Size = s.Size) ∧ True)))))) (x_steq (q := ((r46.Path : ByteArray) = e.Path) ∧ ((r46.Stage = e.Stage) ∧ ((r46.Mode = e.Mode) ∧ (((r46.Data : ByteArray) = e.Data) ∧ ((r46.Time = s.Time) ∧ ((r46.Size = s.Size) ∧ True)))))) (xs := #[(.string r46.Path), (.int .i64 r46.Stage), (.int .i64 r46.Mode), (.string r46.Data), (.int .i64 r46.Time), (.int .i64 r46.Size)]) (ys := #[(.string e.Path), (.int .i64 e.Stage), (.int .i64 e.Mode), (.string e.Data), (.int .i64 s.Time), (.int .i64 s.Size)]) [({ name := "Path", type := 9, offset := 0, embedded := false, tag := "", pkgPath := "", byteOffset := 0 } : Field), ({ name := "Stage", type := 3, offset := 1, embedded := false, tag := "", pkgPath := "", byteOffset := 16 } : Field), ({ name := "Mode", type := 3, offset := 2, embedded := false, tag := "", pkgPath := "", byteOffset := 24 } : Field), ({ name := "Data", type := 9, offset := 3, embedded := false, tag := "", pkgPath := "", byteOffset := 32 } : Field), ({ name := "Time", type := 3, offset := 4, embedded := false, tag := "", pkgPath := "", byteOffset := 48 } : Field), ({ name := "Size", type := 3, offset := 5, embedded := false, tag := "", pkgPath := "", byteOffset := 56 } : Field)] (by kernel_rfl) (by kernel_rfl) (by kernel_rfl) (by kernel_rfl) (by kernel_rfl) (by kernel_rfl) (eqF_str (a := r46.Path) (b := e.Path) (by kernel_rfl) (by kernel_rfl) (by kernel_rfl) Tryd.underlying9 (eqF_int (k := .i64) (a := r46.Stage) (b := e.Stage) (by kernel_rfl) (by kernel_rfl) (by kernel_rfl) Tryd.underlying3 (eqF_int (k := .i64) (a := r46.Mode) (b := e.Mode) (by kernel_rfl) (by kernel_rfl) (by kernel_rfl) Tryd.underlying3 (eqF_str (a := r46.Data) (b := e.Data) (by kernel_rfl) (by kernel_rfl) (by kernel_rfl) Tryd.underlying9 (eqF_int (k := .i64) (a := r46.Time) (b := s.Time) (by kernel_rfl) (by kernel_rfl) (by kernel_rfl) Tryd.underlying3 (eqF_int (k := .i64) (a := r46.Size) (b := s.Size) (by kernel_rfl) (by kernel_rfl) (by kernel_rfl) Tryd.underlying3 eqF_nil))))))) h452)⟩) ?_
                refine r_take 36 (.bool true) (RB.pre _ _) rfl (by kernel_rfl) (fun _ _ _ h => hQ.panic _ _ _ _ _ h) (.inl ⟨rfl, fun wq hq => (by kernel_rfl)⟩) ?_
                refine r_take 37 (.bool true) (RB.pre _ _) rfl (by kernel_rfl) (fun _ _ _ h => hQ.panic _ _ _ _ _ h) (.inl ⟨rfl, fun wq hq => (by kernel_rfl)⟩) ?_
                refine r_take 38 (.slice ar102 r98.length cr103) (RB.pre _ _) rfl (by kernel_rfl) (fun _ _ _ h => hQ.panic _ _ _ _ _ h) (.inl ⟨(by kernel_rfl), fun wq hq => (by kernel_rfl)⟩) ?_
                obtain ⟨h453, hp⟩ := hp
                obtain ⟨b454, o455, cs456, ha457, nx458, lt459, ok460, hc461⟩ := Sl.atI hr373 (0 : Int) h453
                obtain ⟨rfl, zePath462, reStage463, reMode464, zeData465, reTime466, reSize467⟩ := r_index_Entry_open ok460
                replace hp := hp zePath462
                replace hp := hp reStage463
                replace hp := hp reMode464
                replace hp := hp zeData465
                replace hp := hp reTime466
                replace hp := hp reSize467
                refine r_take 39 (.pointer (some ⟨b454, o455 + (0 : Int).toNat * 6, none⟩)) (RB.pre _ _) rfl (by kernel_rfl) (fun _ _ _ h => hQ.panic _ _ _ _ _ h) (.inl ⟨(by kernel_rfl), fun wq hq => (x_ixA (m := r98.length) (c := cr103) (k := .i64) (i := (0 : Int)) Tryd.underlying87 Tryd.sizeOf82 (by rw [← ha457]; kernel_rfl) (by kernel_rfl) h453)⟩) ?_
                refine r_take 40 (.agg #[(.string ((lget r98 (0 : Int)).Path)), (.int .i64 ((lget r98 (0 : Int)).Stage)), (.int .i64 ((lget r98 (0 : Int)).Mode)), (.string ((lget r98 (0 : Int)).Data)), (.int .i64 ((lget r98 (0 : Int)).Time)), (.int .i64 ((lget r98 (0 : Int)).Size))]) (RB.pre _ _) rfl (by kernel_rfl) (fun _ _ _ h => hQ.panic _ _ _ _ _ h) (.inl ⟨(by kernel_rfl), fun wq hq => (x_loadN [(.string ((lget r98 (0 : Int)).Path)), (.int .i64 ((lget r98 (0 : Int)).Stage)), (.int .i64 ((lget r98 (0 : Int)).Mode)), (.string ((lget r98 (0 : Int)).Data)), (.int .i64 ((lget r98 (0 : Int)).Time)), (.int .i64 ((lget r98 (0 : Int)).Size))] (by kernel_rfl) Tryd.isAgg82 Tryd.sizeOf82 (CellsAt.rb hc461 (RB.trans er368 hq) (Nat.lt_of_lt_of_eq lt459 z367) (fun h => by cases h)))⟩) ?_
                refine r_take 41 (.agg #[(.string e.Path), (.int .i64 e.Stage), (.int .i64 e.Mode), (.string e.Data), (.int .i64 f149), (.int .i64 f151)]) (RB.pre _ _) rfl (by kernel_rfl) (fun _ _ _ h => hQ.panic _ _ _ _ _ h) (.inl ⟨(by kernel_rfl), fun wq hq => (x_loadN [(.string e.Path), (.int .i64 e.Stage), (.int .i64 e.Mode), (.string e.Data), (.int .i64 f149), (.int .i64 f151)] (by kernel_rfl) Tryd.isAgg82 Tryd.sizeOf82 ((Blk.rb k377.2.1 (RB.trans er368 hq) (Nat.lt_of_lt_of_eq (Blk.lt k377.2.1) z367) (fun h => by cases h)).cells' 0 rfl))⟩) ?_
                refine r_take 42 (.bool (decide ((((lget r98 (0 : Int)).Path : ByteArray) = e.Path) ∧ (((lget r98 (0 : Int)).Stage = e.Stage) ∧ (((lget r98 (0 : Int)).Mode = e.Mode) ∧ ((((lget r98 (0 : Int)).Data : ByteArray) = e.Data) ∧ (((lget r98 (0 : Int)).Time = f149) ∧ (((lget r98 (0 : Int)).Size = f151) ∧ True)))))))) (RB.pre _ _) rfl (by kernel_rfl) (fun _ _ _ h => hQ.panic _ _ _ _ _ h) (.inl ⟨(by kernel_rfl), fun wq hq => (x_steq (q := (((lget r98 (0 : Int)).Path : ByteArray) = e.Path) ∧ (((lget r98 (0 : Int)).Stage = e.Stage) ∧ (((lget r98 (0 : Int)).Mode = e.Mode) ∧ ((((lget r98 (0 : Int)).Data : ByteArray) = e.Data) ∧ (((lget r98 (0 : Int)).Time = f149) ∧ (((lget r98 (0 : Int)).Size = f151) ∧ True)))))) (xs := #[(.string ((lget r98 (0 : Int)).Path)), (.int .i64 ((lget r98 (0 : Int)).Stage)), (.int .i64 ((lget r98 (0 : Int)).Mode)), (.string ((lget r98 (0 : Int)).Data)), (.int .i64 ((lget r98 (0 : Int)).Time)), (.int .i64 ((lget r98 (0 : Int)).Size))]) (ys := #[(.string e.Path), (.int .i64 e.Stage), (.int .i64 e.Mode), (.string e.Data), (.int .i64 f149), (.int .i64 f151)]) [({ name := "Path", type := 9, offset := 0, embedded := false, tag := "", pkgPath := "", byteOffset := 0 } : Field), ({ name := "Stage", type := 3, offset := 1, embedded := false, tag := "", pkgPath := "", byteOffset := 16 } : Field), ({ name := "Mode", type := 3, offset := 2, embedded := false, tag := "", pkgPath := "", byteOffset := 24 } : Field), ({ name := "Data", type := 9, offset := 3, embedded := false, tag := "", pkgPath := "", byteOffset := 32 } : Field), ({ name := "Time", type := 3, offset := 4, embedded := false, tag := "", pkgPath := "", byteOffset := 48 } : Field), ({ name := "Size", type := 3, offset := 5, embedded := false, tag := "", pkgPath := "", byteOffset := 56 } : Field)] (by kernel_rfl) (by kernel_rfl) (by kernel_rfl) (by kernel_rfl) (by kernel_rfl) (by kernel_rfl) (eqF_str (a := (lget r98 (0 : Int)).Path) (b := e.Path) (by kernel_rfl) (by kernel_rfl) (by kernel_rfl) Tryd.underlying9 (eqF_int (k := .i64) (a := (lget r98 (0 : Int)).Stage) (b := e.Stage) (by kernel_rfl) (by kernel_rfl) (by kernel_rfl) Tryd.underlying3 (eqF_int (k := .i64) (a := (lget r98 (0 : Int)).Mode) (b := e.Mode) (by kernel_rfl) (by kernel_rfl) (by kernel_rfl) Tryd.underlying3 (eqF_str (a := (lget r98 (0 : Int)).Data) (b := e.Data) (by kernel_rfl) (by kernel_rfl) (by kernel_rfl) Tryd.underlying9 (eqF_int (k := .i64) (a := (lget r98 (0 : Int)).Time) (b := f149) (by kernel_rfl) (by kernel_rfl) (by kernel_rfl) Tryd.underlying3 (eqF_int (k := .i64) (a := (lget r98 (0 : Int)).Size) (b := f151) (by kernel_rfl) (by kernel_rfl) (by kernel_rfl) Tryd.underlying3 eqF_nil)))))))⟩) ?_
                refine r_take 43 (.bool (decide ((((lget r98 (0 : Int)).Path : ByteArray) = e.Path) ∧ (((lget r98 (0 : Int)).Stage = e.Stage) ∧ (((lget r98 (0 : Int)).Mode = e.Mode) ∧ ((((lget r98 (0 : Int)).Data : ByteArray) = e.Data) ∧ (((lget r98 (0 : Int)).Time = f149) ∧ (((lget r98 (0 : Int)).Size = f151) ∧ True)))))))) (RB.pre _ _) rfl (by kernel_rfl) (fun _ _ _ h => hQ.panic _ _ _ _ _ h) (.inl ⟨rfl, fun wq hq => (by kernel_rfl)⟩) ?_
                refine r_ready [44] (by kernel_rfl) rfl (all_cons ⟨_, _, _, _, _, _, rfl, ?_⟩ all_nil)
                refine o_pv (.bool (decide ((((lget r98 (0 : Int)).Path : ByteArray) = e.Path) ∧ (((lget r98 (0 : Int)).Stage = e.Stage) ∧ (((lget r98 (0 : Int)).Mode = e.Mode) ∧ ((((lget r98 (0 : Int)).Data : ByteArray) = e.Data) ∧ (((lget r98 (0 : Int)).Time = f149) ∧ (((lget r98 (0 : Int)).Size = f151) ∧ True)))))))) rfl (by kernel_rfl) ?_
                refine ⟨fun h => absurd h (by decide), ?_⟩
                refine r_done (by kernel_rfl) ?_
                refine then_normal (hJ351 _ _ _ ⟨[(6, (.bool (decide ((((lget r98 (0 : Int)).Path : ByteArray) = e.Path) ∧ (((lget r98 (0 : Int)).Stage = e.Stage) ∧ (((lget r98 (0 : Int)).Mode = e.Mode) ∧ ((((lget r98 (0 : Int)).Data : ByteArray) = e.Data) ∧ (((lget r98 (0 : Int)).Time = f149) ∧ (((lget r98 (0 : Int)).Size = f151) ∧ True)))))))))], fit_mk (fun _ _ => rfl) (by kernel_rfl) (vs_cons (by kernel_rfl) vs_nil), ?_⟩)
                exact ⟨X198, (decide ((((lget r98 (0 : Int)).Path : ByteArray) = e.Path) ∧ (((lget r98 (0 : Int)).Stage = e.Stage) ∧ (((lget r98 (0 : Int)).Mode = e.Mode) ∧ ((((lget r98 (0 : Int)).Data : ByteArray) = e.Data) ∧ (((lget r98 (0 : Int)).Time = f149) ∧ (((lget r98 (0 : Int)).Size = f151) ∧ True))))))), rfl, E370, hXo371, hS372, hp⟩
              ·
                replace hp := hp.2 h452
                refine r_take 35 (.bool false) (RB.pre _ _) rfl (by kernel_rfl) (fun _ _ _ h => hQ.panic _ _ _ _ _ h) (.inl ⟨(by kernel_rfl), fun wq hq => (x_df (p := ((r46.Path : ByteArray) = e.Path) ∧ ((r46.Stage = e.Stage) ∧ ((r46.Mode = e.Mode) ∧ (((r46.Data : ByteArray) = e.Data) ∧ ((r46.Time = s.Time) ∧ ((r46.Size = s.Size) ∧ True)))))) (x_steq (q := ((r46.Path : ByteArray) = e.Path) ∧ ((r46.Stage = e.Stage) ∧ ((r46.Mode = e.Mode) ∧ (((r46.Data : ByteArray) = e.Data) ∧ ((r46.Time = s.Time) ∧ ((r46.Size = s.Size) ∧ True)))))) (xs := #[(.string r46.Path), (.int .i64 r46.Stage), (.int .i64 r46.Mode), (.string r46.Data), (.int .i64 r46.Time), (.int .i64 r46.Size)]) (ys := #[(.string e.Path), (.int .i64 e.Stage), (.int .i64 e.Mode), (.string e.Data), (.int .i64 s.Time), (.int .i64 s.Size)]) [({ name := "Path", type := 9, offset := 0, embedded := false, tag := "", pkgPath := "", byteOffset := 0 } : Field), ({ name := "Stage", type := 3, offset := 1, embedded := false, tag := "", pkgPath := "", byteOffset := 16 } : Field), ({ name := "Mode", type := 3, offset := 2, embedded := false, tag := "", pkgPath := "", byteOffset := 24 } : Field), ({ name := "Data", type := 9, offset := 3, embedded := false, tag := "", pkgPath := "", byteOffset := 32 } : Field), ({ name := "Time", type := 3, offset := 4, embedded := false, tag := "", pkgPath := "", byteOffset := 48 } : Field), ({ name := "Size", type := 3, offset := 5, embedded := false, tag := "", pkgPath := "", byteOffset := 56 } : Field)] (by kernel_rfl) (by kernel_rfl) (by kernel_rfl) (by kernel_rfl) (by kernel_rfl) (by kernel_rfl) (eqF_str (a := r46.Path) (b := e.Path) (by kernel_rfl) (by kernel_rfl) (by kernel_rfl) Tryd.underlying9 (eqF_int (k := .i64) (a := r46.Stage) (b := e.Stage) (by kernel_rfl) (by kernel_rfl) (by kernel_rfl) Tryd.underlying3 (eqF_int (k := .i64) (a := r46.Mode) (b := e.Mode) (by kernel_rfl) (by kernel_rfl) (by kernel_rfl) Tryd.underlying3 (eqF_str (a := r46.Data) (b := e.Data) (by kernel_rfl) (by kernel_rfl) (by kernel_rfl) Tryd.underlying9 (eqF_int (k := .i64) (a := r46.Time) (b := s.Time) (by kernel_rfl) (by kernel_rfl) (by kernel_rfl) Tryd.underlying3 (eqF_int (k := .i64) (a := r46.Size) (b := s.Size) (by kernel_rfl) (by kernel_rfl) (by kernel_rfl) Tryd.underlying3 eqF_nil))))))) h452)⟩) ?_
                refine r_take 36 (.bool false) (RB.pre _ _) rfl (by kernel_rfl) (fun _ _ _ h => hQ.panic _ _ _ _ _ h) (.inl ⟨rfl, fun wq hq => (by kernel_rfl)⟩) ?_
                refine r_take 37 (.bool false) (RB.pre _ _) rfl (by kernel_rfl) (fun _ _ _ h => hQ.panic _ _ _ _ _ h) (.inl ⟨rfl, fun wq hq => (by kernel_rfl)⟩) ?_
                refine r_take 38 undef (RB.pre _ _) rfl (by kernel_rfl) (fun _ _ _ h => hQ.panic _ _ _ _ _ h) (.inr ⟨by kernel_rfl, rfl⟩) ?_
                refine r_take 39 undef (RB.pre _ _) rfl (by kernel_rfl) (fun _ _ _ h => hQ.panic _ _ _ _ _ h) (.inr ⟨by kernel_rfl, rfl⟩) ?_
                refine r_take 40 undef (RB.pre _ _) rfl (by kernel_rfl) (fun _ _ _ h => hQ.panic _ _ _ _ _ h) (.inr ⟨by kernel_rfl, rfl⟩) ?_
                refine r_take 41 undef (RB.pre _ _) rfl (by kernel_rfl) (fun _ _ _ h => hQ.panic _ _ _ _ _ h) (.inr ⟨by kernel_rfl, rfl⟩) ?_
                refine r_take 42 undef (RB.pre _ _) rfl (by kernel_rfl) (fun _ _ _ h => hQ.panic _ _ _ _ _ h) (.inr ⟨by kernel_rfl, rfl⟩) ?_
                refine r_take 43 (.bool false) (RB.pre _ _) rfl (by kernel_rfl) (fun _ _ _ h => hQ.panic _ _ _ _ _ h) (.inl ⟨rfl, fun wq hq => (by kernel_rfl)⟩) ?_
                refine r_ready [44] (by kernel_rfl) rfl (all_cons ⟨_, _, _, _, _, _, rfl, ?_⟩ all_nil)
                refine o_pv (.bool false) rfl (by kernel_rfl) ?_
                refine ⟨fun h => absurd h (by decide), ?_⟩
                refine r_done (by kernel_rfl) ?_
                refine then_normal (hJ351 _ _ _ ⟨[(6, (.bool false))], fit_mk (fun _ _ => rfl) (by kernel_rfl) (vs_cons (by kernel_rfl) vs_nil), ?_⟩)
                exact ⟨X198, false, rfl, E370, hXo371, hS372, hp⟩
            ·
              replace hp := hp.2 h451
              refine r_take 31 (.bool false) (RB.pre _ _) rfl (by kernel_rfl) (fun _ _ _ h => hQ.panic _ _ _ _ _ h) (.inl ⟨rfl, fun wq hq => (x_df (p := (r39 : Bool) = false) (x_booleq (a := r39) (b := false) Tryd.underlying4 (by kernel_rfl) (by kernel_rfl)) h451)⟩) ?_
              refine r_take 32 (.bool false) (RB.pre _ _) rfl (by kernel_rfl) (fun _ _ _ h => hQ.panic _ _ _ _ _ h) (.inl ⟨rfl, fun wq hq => (by kernel_rfl)⟩) ?_
              refine r_take 33 undef (RB.pre _ _) rfl (by kernel_rfl) (fun _ _ _ h => hQ.panic _ _ _ _ _ h) (.inr ⟨by kernel_rfl, rfl⟩) ?_
              refine r_take 34 undef (RB.pre _ _) rfl (by kernel_rfl) (fun _ _ _ h => hQ.panic _ _ _ _ _ h) (.inr ⟨by kernel_rfl, rfl⟩) ?_
              refine r_take 35 undef (RB.pre _ _) rfl (by kernel_rfl) (fun _ _ _ h => hQ.panic _ _ _ _ _ h) (.inr ⟨by kernel_rfl, rfl⟩) ?_
              refine r_take 36 (.bool false) (RB.pre _ _) rfl (by kernel_rfl) (fun _ _ _ h => hQ.panic _ _ _ _ _ h) (.inl ⟨rfl, fun wq hq => (by kernel_rfl)⟩) ?_
              refine r_take 37 (.bool false) (RB.pre _ _) rfl (by kernel_rfl) (fun _ _ _ h => hQ.panic _ _ _ _ _ h) (.inl ⟨rfl, fun wq hq => (by kernel_rfl)⟩) ?_
              refine r_take 38 undef (RB.pre _ _) rfl (by kernel_rfl) (fun _ _ _ h => hQ.panic _ _ _ _ _ h) (.inr ⟨by kernel_rfl, rfl⟩) ?_
              refine r_take 39 undef (RB.pre _ _) rfl (by kernel_rfl) (fun _ _ _ h => hQ.panic _ _ _ _ _ h) (.inr ⟨by kernel_rfl, rfl⟩) ?_
              refine r_take 40 undef (RB.pre _ _) rfl (by kernel_rfl) (fun _ _ _ h => hQ.panic _ _ _ _ _ h) (.inr ⟨by kernel_rfl, rfl⟩) ?_
              refine r_take 41 undef (RB.pre _ _) rfl (by kernel_rfl) (fun _ _ _ h => hQ.panic _ _ _ _ _ h) (.inr ⟨by kernel_rfl, rfl⟩) ?_
              refine r_take 42 undef (RB.pre _ _) rfl (by kernel_rfl) (fun _ _ _ h => hQ.panic _ _ _ _ _ h) (.inr ⟨by kernel_rfl, rfl⟩) ?_
              refine r_take 43 (.bool false) (RB.pre _ _) rfl (by kernel_rfl) (fun _ _ _ h => hQ.panic _ _ _ _ _ h) (.inl ⟨rfl, fun wq hq => (by kernel_rfl)⟩) ?_
              refine r_ready [44] (by kernel_rfl) rfl (all_cons ⟨_, _, _, _, _, _, rfl, ?_⟩ all_nil)
              refine o_pv (.bool false) rfl (by kernel_rfl) ?_
              refine ⟨fun h => absurd h (by decide), ?_⟩
              refine r_done (by kernel_rfl) ?_
              refine then_normal (hJ351 _ _ _ ⟨[(6, (.bool false))], fit_mk (fun _ _ => rfl) (by kernel_rfl) (vs_cons (by kernel_rfl) vs_nil), ?_⟩)
              exact ⟨X198, false, rfl, E370, hXo371, hS372, hp⟩
        ·
          rintro _ w348 g468 ⟨X349, s345, rfl, E361, hXo362, hS363, hv352⟩
          replace hp := hk347 s345 hv352
          refine then_normal (K232 _ _ _ _ ?_)
          refine wp_ret ?_
          refine end_ret hQ (.bool s345) (by kernel_rfl) ?_
          exact ⟨s345, hp, E361, rfl⟩

end Go.Proofs.YtjejeipdndddpaaDoor
