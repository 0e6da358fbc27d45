/- Walks of functions: what each asks and computes, as a plain predicate, and the contract from it. -/
import Derived.Test.YtjejeipdndddpaaChecked
import Derived.Test.YtjejeipdndddpaaSh3
namespace Go.Proofs.Ytjejeipdndddpaa
open Go


def rectoref2_Sum_p (b : (List Int)) (Q : (List Int) → Prop) : Prop :=
  ((b.length ≤ 9223372036854775807) → (∀ l25 : List Int, l25 = ([1779033703, 3144134277, 1013904242, 2773480762, 1359893119, 2600822924, 528734635, 1541459225] : List Int) → (rectoref2_table_p  (fun (r28 : (List Int)) => ((okArr .u32 64 r28) → ((b.length * 1 ≤ 140737488355328) ∧ (((b.length + ([(128 : Int)]).length) * 1 ≤ 140737488355328) ∧ (∃ (I189 : (List Int) → Prop) (m190 : (List Int) → Nat), (I189 (b ++ ([(128 : Int)]))) ∧ ∀ (m148 : (List Int)), (I189 m148) → (m148.length ≤ 9223372036854775807) → ((0 ≤ (m148.length : Int)) ∧ (((¬ (((m148.length : Int) % (64 : Int)) = (56 : Int))) → (((m148.length + ([(0 : Int)]).length) * 1 ≤ 140737488355328) ∧ ((I189 (m148 ++ ([(0 : Int)]))) ∧ m190 (m148 ++ ([(0 : Int)])) < m190 m148))) ∧ ((((m148.length : Int) % (64 : Int)) = (56 : Int)) → (∃ (I350 : (List Int) → Int → Prop) (m351 : (List Int) → Int → Nat), (I350 m148 (7 : Int)) ∧ ∀ (m301 : (List Int)) (i306 : Int), (I350 m301 i306) → (m301.length ≤ 9223372036854775807) → (inR .i64 i306) → (((i306 ≥ (0 : Int)) → ((inR .i64 ((8 : Int) * i306)) ∧ (∀ y374 : Int, y374 = (ishr .u64 (((iwrap .u64 (b.length : Int)) * (8 : Int)) % 18446744073709551616) (iwrap .u64 ((8 : Int) * i306))) → (((m301.length + ([iwrap .u8 y374]).length) * 1 ≤ 140737488355328) ∧ ((inR .i64 (i306 - (1 : Int))) ∧ ((I350 (m301 ++ ([iwrap .u8 y374])) (i306 - (1 : Int))) ∧ m351 (m301 ++ ([iwrap .u8 y374])) (i306 - (1 : Int)) < m351 m301 i306)))))) ∧ ((¬ (i306 ≥ (0 : Int))) → (∃ (I3005 : Int → (List Int) → Prop) (m3006 : Int → (List Int) → Nat), (I3005 (0 : Int) l25) ∧ ∀ (at_1706 : Int) (f1708 : (List Int)), (I3005 at_1706 f1708) → (inR .i64 at_1706) → (okArr .u32 8 f1708) → (((at_1706 < (m301.length : Int)) → (∃ (I3220 : Int → (List Int) → Prop) (m3221 : Int → (List Int) → Nat), (I3220 (0 : Int) (List.replicate 64 (0 : Int))) ∧ ∀ (i3129 : Int) (f3131 : (List Int)), (I3220 i3129 f3131) → (inR .i64 i3129) → (okArr .u32 64 f3131) → (((i3129 < (16 : Int)) → ((inR .i64 ((4 : Int) * i3129)) ∧ ((inR .i64 (at_1706 + ((4 : Int) * i3129))) ∧ ((inL m301 (at_1706 + ((4 : Int) * i3129))) ∧ ((inR .u8 (lget m301 (at_1706 + ((4 : Int) * i3129)))) → ((inR .i64 ((at_1706 + ((4 : Int) * i3129)) + (1 : Int))) ∧ ((inL m301 ((at_1706 + ((4 : Int) * i3129)) + (1 : Int))) ∧ ((inR .u8 (lget m301 ((at_1706 + ((4 : Int) * i3129)) + (1 : Int)))) → (∀ y3292 : Int, y3292 = (ishl .u32 (lget m301 ((at_1706 + ((4 : Int) * i3129)) + (1 : Int))) (16 : Int)) → (∀ y3294 : Int, y3294 = (ior .u32 (ishl .u32 (lget m301 (at_1706 + ((4 : Int) * i3129))) (24 : Int)) y3292) → ((inR .i64 ((at_1706 + ((4 : Int) * i3129)) + (2 : Int))) ∧ ((inL m301 ((at_1706 + ((4 : Int) * i3129)) + (2 : Int))) ∧ ((inR .u8 (lget m301 ((at_1706 + ((4 : Int) * i3129)) + (2 : Int)))) → (∀ y3308 : Int, y3308 = (ishl .u32 (lget m301 ((at_1706 + ((4 : Int) * i3129)) + (2 : Int))) (8 : Int)) → ((inR .i64 ((at_1706 + ((4 : Int) * i3129)) + (3 : Int))) ∧ ((inL m301 ((at_1706 + ((4 : Int) * i3129)) + (3 : Int))) ∧ ((inR .u8 (lget m301 ((at_1706 + ((4 : Int) * i3129)) + (3 : Int)))) → (∀ y3322 : Int, y3322 = (ior .u32 (ior .u32 y3294 y3308) (lget m301 ((at_1706 + ((4 : Int) * i3129)) + (3 : Int)))) → ((0 ≤ i3129 ∧ i3129 < 64) ∧ ((inR .i64 (i3129 + (1 : Int))) ∧ ((I3220 (i3129 + (1 : Int)) (lset f3131 i3129 y3322)) ∧ m3221 (i3129 + (1 : Int)) (lset f3131 i3129 y3322) < m3221 i3129 f3131))))))))))))))))))))) ∧ ((¬ (i3129 < (16 : Int))) → (∃ (I3585 : Int → (List Int) → Prop) (m3586 : Int → (List Int) → Nat), (I3585 (16 : Int) f3131) ∧ ∀ (i3460 : Int) (f3462 : (List Int)), (I3585 i3460 f3462) → (inR .i64 i3460) → (okArr .u32 64 f3462) → (((i3460 < (64 : Int)) → ((inR .i64 (i3460 - (15 : Int))) ∧ ((0 ≤ (i3460 - (15 : Int)) ∧ (i3460 - (15 : Int)) < 64) ∧ ((inR .i64 (i3460 - (15 : Int))) ∧ ((0 ≤ (i3460 - (15 : Int)) ∧ (i3460 - (15 : Int)) < 64) ∧ ((inR .i64 (i3460 - (15 : Int))) ∧ ((0 ≤ (i3460 - (15 : Int)) ∧ (i3460 - (15 : Int)) < 64) ∧ (rectoref2_turn_p (lget f3462 (i3460 - (15 : Int))) (7 : Int) (fun (r3631 : Int) => ((inR .u32 r3631) → (rectoref2_turn_p (lget f3462 (i3460 - (15 : Int))) (18 : Int) (fun (r3637 : Int) => ((inR .u32 r3637) → (∀ y3643 : Int, y3643 = (ixor .u32 (ixor .u32 r3631 r3637) (ishr .u32 (lget f3462 (i3460 - (15 : Int))) (3 : Int))) → ((inR .i64 (i3460 - (2 : Int))) ∧ ((0 ≤ (i3460 - (2 : Int)) ∧ (i3460 - (2 : Int)) < 64) ∧ ((inR .i64 (i3460 - (2 : Int))) ∧ ((0 ≤ (i3460 - (2 : Int)) ∧ (i3460 - (2 : Int)) < 64) ∧ ((inR .i64 (i3460 - (2 : Int))) ∧ ((0 ≤ (i3460 - (2 : Int)) ∧ (i3460 - (2 : Int)) < 64) ∧ (rectoref2_turn_p (lget f3462 (i3460 - (2 : Int))) (17 : Int) (fun (r3674 : Int) => ((inR .u32 r3674) → (rectoref2_turn_p (lget f3462 (i3460 - (2 : Int))) (19 : Int) (fun (r3680 : Int) => ((inR .u32 r3680) → (∀ y3686 : Int, y3686 = (ixor .u32 (ixor .u32 r3674 r3680) (ishr .u32 (lget f3462 (i3460 - (2 : Int))) (10 : Int))) → ((inR .i64 (i3460 - (16 : Int))) ∧ ((0 ≤ (i3460 - (16 : Int)) ∧ (i3460 - (16 : Int)) < 64) ∧ ((inR .i64 (i3460 - (7 : Int))) ∧ ((0 ≤ (i3460 - (7 : Int)) ∧ (i3460 - (7 : Int)) < 64) ∧ (∀ y3714 : Int, y3714 = (((((lget f3462 (i3460 - (16 : Int))) + y3643) % 4294967296) + (lget f3462 (i3460 - (7 : Int)))) % 4294967296) → ((0 ≤ i3460 ∧ i3460 < 64) ∧ ((inR .i64 (i3460 + (1 : Int))) ∧ ((I3585 (i3460 + (1 : Int)) (lset f3462 i3460 ((y3714 + y3686) % 4294967296))) ∧ m3586 (i3460 + (1 : Int)) (lset f3462 i3460 ((y3714 + y3686) % 4294967296)) < m3586 i3460 f3462))))))))))))))))))))))))))))))))))) ∧ ((¬ (i3460 < (64 : Int))) → (∃ (I4020 : Int → (List Int) → Prop) (m4021 : Int → (List Int) → Nat), (I4020 (0 : Int) f1708) ∧ ∀ (i3884 : Int) (f3886 : (List Int)), (I4020 i3884 f3886) → (inR .i64 i3884) → (okArr .u32 8 f3886) → (((i3884 < (64 : Int)) → (rectoref2_turn_p (lget f3886 (4 : Int)) (6 : Int) (fun (r4071 : Int) => ((inR .u32 r4071) → (rectoref2_turn_p (lget f3886 (4 : Int)) (11 : Int) (fun (r4077 : Int) => ((inR .u32 r4077) → (rectoref2_turn_p (lget f3886 (4 : Int)) (25 : Int) (fun (r4083 : Int) => ((inR .u32 r4083) → (∀ y4091 : Int, y4091 = (ixor .u32 (iand .u32 (lget f3886 (4 : Int)) (lget f3886 (5 : Int))) (iand .u32 (inot .u32 (lget f3886 (4 : Int))) (lget f3886 (6 : Int)))) → (∀ y4117 : Int, y4117 = (((lget f3886 (7 : Int)) + (ixor .u32 (ixor .u32 r4071 r4077) r4083)) % 4294967296) → ((0 ≤ i3884 ∧ i3884 < 64) ∧ ((0 ≤ i3884 ∧ i3884 < 64) ∧ (∀ y4121 : Int, y4121 = ((((((y4117 + y4091) % 4294967296) + (lget r28 i3884)) % 4294967296) + (lget f3462 i3884)) % 4294967296) → (rectoref2_turn_p (lget f3886 (0 : Int)) (2 : Int) (fun (r4139 : Int) => ((inR .u32 r4139) → (rectoref2_turn_p (lget f3886 (0 : Int)) (13 : Int) (fun (r4145 : Int) => ((inR .u32 r4145) → (rectoref2_turn_p (lget f3886 (0 : Int)) (22 : Int) (fun (r4151 : Int) => ((inR .u32 r4151) → (∀ y4159 : Int, y4159 = (ixor .u32 (iand .u32 (lget f3886 (0 : Int)) (lget f3886 (1 : Int))) (iand .u32 (lget f3886 (0 : Int)) (lget f3886 (2 : Int)))) → (∀ y4161 : Int, y4161 = (ixor .u32 y4159 (iand .u32 (lget f3886 (1 : Int)) (lget f3886 (2 : Int)))) → (∀ y4163 : Int, y4163 = ((((y4121 + (ixor .u32 (ixor .u32 r4139 r4145) r4151)) % 4294967296) + y4161) % 4294967296) → (∀ l4174 : List Int, l4174 = ([y4163, lget f3886 (0 : Int), lget f3886 (1 : Int), lget f3886 (2 : Int), ((lget f3886 (3 : Int)) + y4121) % 4294967296, lget f3886 (4 : Int), lget f3886 (5 : Int), lget f3886 (6 : Int)] : List Int) → ((inR .i64 (i3884 + (1 : Int))) ∧ ((I4020 (i3884 + (1 : Int)) l4174) ∧ m4021 (i3884 + (1 : Int)) l4174 < m4021 i3884 f3886)))))))))))))))))))))))))))))) ∧ ((¬ (i3884 < (64 : Int))) → (∃ (I4257 : Int → (List Int) → Prop) (m4258 : Int → (List Int) → Nat), (I4257 (0 : Int) f1708) ∧ ∀ (i4220 : Int) (f4222 : (List Int)), (I4257 i4220 f4222) → (inR .i64 i4220) → (okArr .u32 8 f4222) → (((i4220 < (8 : Int)) → ((0 ≤ i4220 ∧ i4220 < 8) ∧ ((0 ≤ i4220 ∧ i4220 < 8) ∧ ((0 ≤ i4220 ∧ i4220 < 8) ∧ (∀ l4302 : List Int, l4302 = (lset f4222 i4220 (((lget f4222 i4220) + (lget f3886 i4220)) % 4294967296)) → ((inR .i64 (i4220 + (1 : Int))) ∧ ((I4257 (i4220 + (1 : Int)) l4302) ∧ m4258 (i4220 + (1 : Int)) l4302 < m4258 i4220 f4222))))))) ∧ ((¬ (i4220 < (8 : Int))) → ((inR .i64 (at_1706 + (64 : Int))) ∧ ((I3005 (at_1706 + (64 : Int)) f4222) ∧ m3006 (at_1706 + (64 : Int)) f4222 < m3006 at_1706 f1708))))))))))))))) ∧ ((¬ (at_1706 < (m301.length : Int))) → (∃ (I4375 : Int → (List Int) → Prop) (m4376 : Int → (List Int) → Nat), (I4375 (0 : Int) (List.replicate 32 (0 : Int))) ∧ ∀ (i4349 : Int) (f4351 : (List Int)), (I4375 i4349 f4351) → (inR .i64 i4349) → (okArr .u8 32 f4351) → (((i4349 < (32 : Int)) → ((0 ≤ i4349) ∧ ((0 ≤ (i4349 / (4 : Int)) ∧ (i4349 / (4 : Int)) < 8) ∧ ((0 ≤ i4349) ∧ ((inR .i64 ((8 : Int) * (i4349 % (4 : Int)))) ∧ ((inR .i64 ((24 : Int) - ((8 : Int) * (i4349 % (4 : Int))))) ∧ (∀ y4406 : Int, y4406 = (ishr .u32 (lget f1708 (i4349 / (4 : Int))) (iwrap .u64 ((24 : Int) - ((8 : Int) * (i4349 % (4 : Int)))))) → ((0 ≤ i4349 ∧ i4349 < 32) ∧ ((inR .i64 (i4349 + (1 : Int))) ∧ ((I4375 (i4349 + (1 : Int)) (lset f4351 i4349 (iwrap .u8 y4406))) ∧ m4376 (i4349 + (1 : Int)) (lset f4351 i4349 (iwrap .u8 y4406)) < m4376 i4349 f4351)))))))))) ∧ ((¬ (i4349 < (32 : Int))) → Q f4351))))))))))))))))))))
set_option maxRecDepth 20000 in
set_option maxHeartbeats 4000000 in
theorem rectoref2_Sum_w {X : List Nat} {w : World} {b : (List Int)} {ab1 : Option Addr} {cb2 : Nat} {Q : (List Int) → Prop} (hX0 : Old X w) (hb3 : Sl (rInt .u8) X w ab1 cb2 b) (hp : rectoref2_Sum_p b Q) :
    Calls Try.prog 11 #[(.slice ab1 b.length cb2)] w (Ret fun v w' => ∃ (r0 : (List Int)), Q r0 ∧ Evo [] w w' ∧ v = (.agg (r0.map (Value.int .u8)).toArray) ∧ okArr .u8 32 r0) := by
  have hXo := hX0
  have E0 : Evo [] w w := RB.refl _ _ _
  have hS : Sub X X := Sub.refl _
  unfold rectoref2_Sum_p at hp
  refine enter_ Try.func11 rfl 277 [(0, (.slice ab1 b.length cb2))] (by kernel_rfl) (fun Qe hQ => ?_)
  replace hp := hp (Sl.len hb3)
  refine seq_ (fun _ K4 => ?_)
  refine reg_ ?_
  refine sq (o_newX ((List.replicate 32 (0 : Int)).map (Value.int .u8)) 32 (X := X) (B := w.heap.size) E0.size rfl (by kernel_rfl) ?_)
  intro b5 w6 X7 s8 k9 n10
  refine nil_ ?_
  refine then_normal (K4 _ _ _ _ ?_)
  refine seq_ (fun _ K11 => ?_)
  refine reg_ ?_
  refine sq (o_pv (.agg (([1779033703, 3144134277, 1013904242, 2773480762, 1359893119, 2600822924, 528734635, 1541459225] : List Int).map (Value.int .u32)).toArray) rfl (by kernel_rfl) ?_)
  have E18 := (Evo.then0 E0 (Step.evo s8))
  refine sq (o_newX ((List.replicate 8 (0 : Int)).map (Value.int .u32)) 51 (X := X7) (B := w.heap.size) E18.size rfl (by kernel_rfl) ?_)
  intro b12 w13 X14 s15 k16 n17
  have p19 := n17 _ (OB.old k9)
  have k20 := (OB.step0 k9 s15)
  have E21 := (Evo.then0 E18 (Step.evo s15))
  refine sq (o_stW (k := .u32) (e := (List.replicate 8 (0 : Int))) (e' := ([1779033703, 3144134277, 1013904242, 2773480762, 1359893119, 2600822924, 528734635, 1541459225] : List Int)) rfl k16 (by kernel_rfl) (by kernel_rfl) Try.sizeOf51 (okArr_rep _ _) (okArr_lit (by decide)) ?_)
  intro w22 s23 k24
  obtain ⟨l25, ql25⟩ : ∃ y, y = ([1779033703, 3144134277, 1013904242, 2773480762, 1359893119, 2600822924, 528734635, 1541459225] : List Int) := ⟨_, rfl⟩
  replace hp := hp l25 ql25
  rw [← ql25] at k24
  have ok26 : okArr .u32 8 l25 := by rw [ql25]; exact (okArr_lit (by decide))
  refine nil_ ?_
  refine then_normal (K11 _ _ _ _ ?_)
  refine seq_ (fun _ K27 => ?_)
  refine reg_ ?_
  refine sq (o_call 28 #[] rfl (x_call Try.call28 (by kernel_rfl)) (rectoref2_table_w (X := [])  (Old.nil _) hp) ?_)
  rintro _ w29 ⟨r28, hp, e30, rfl, kr32⟩
  have s31 := Step.of0 X14 e30
  replace hp := hp kr32
  have k39 := (OB.step0 (OB.step k20 s23 p19) s31)
  have k40 := (OB.step0 k24 s31)
  have E41 := (Evo.then0 (Evo.thenW E21 (Step.evo s23) k16.2.2) e30)
  refine sq (o_newX ((List.replicate 64 (0 : Int)).map (Value.int .u32)) 53 (X := X14) (B := w.heap.size) E41.size rfl (by kernel_rfl) ?_)
  intro b33 w34 X35 s36 k37 n38
  have p42 := n38 _ (OB.old k39)
  have p43 := n38 _ (OB.old k40)
  have k44 := (OB.step0 k39 s36)
  have k45 := (OB.step0 k40 s36)
  have E46 := (Evo.then0 E41 (Step.evo s36))
  refine sq (o_stW (k := .u32) (e := (List.replicate 64 (0 : Int))) (e' := r28) rfl k37 (by kernel_rfl) (by kernel_rfl) Try.sizeOf53 (okArr_rep _ _) kr32 ?_)
  intro w47 s48 k49
  refine nil_ ?_
  refine then_normal (K27 _ _ _ _ ?_)
  refine seq_ (fun _ K50 => ?_)
  refine reg_ ?_
  have k51 := (OB.step k44 s48 p42)
  have k52 := (OB.step k45 s48 p43)
  have E59 := (Evo.thenW E46 (Step.evo s48) k37.2.2)
  refine sq (o_rowX (R := (rInt .u8)) [] ([] : List Int) 5 0 (X := X35) (B := w.heap.size) E59.size rfl (by kernel_rfl) Flat.nil rfl (by decide) ?_)
  intro b53 w54 X55 s56 O57 n58
  have p60 := n58 _ (OB.old k51)
  have p61 := n58 _ (OB.old k52)
  have p62 := n58 _ (OB.old k49)
  refine sq (o_pv (.slice ab1 b.length cb2) rfl (by kernel_rfl) ?_)
  obtain ⟨h63, hp⟩ := hp
  have hb64 := (Sl.step (Sl.step (Sl.step (Sl.step (Sl.step (Sl.step (Sl.step hb3 s8) s15) s23) s31) s36) s48) s56)
  have k65 := (OB.step0 k51 s56)
  have k66 := (OB.step0 k52 s56)
  have k67 := (OB.step0 k49 s56)
  have E68 := (Evo.then0 E59 (Step.evo s56))
  refine sq (o_appX (R := (rInt .u8)) (X := X55) (B := w.heap.size) (L := ([] : List Int)) (M := b) rfl elT22 rfl E68.size O57 (Sl.src hb64) rfl (by kernel_rfl) (by kernel_rfl) (by simpa using h63) ?_)
  intro a69 n70 c71 w72 X73 s74 O75 gr76
  rw [List.nil_append] at O75
  have p77 := gr76 _ p60 (OB.old k65)
  have p78 := gr76 _ p61 (OB.old k66)
  have p79 := gr76 _ p62 (OB.old k67)
  have k80 := (OB.step k65 s74 p60)
  have k81 := (OB.step k66 s74 p61)
  have k82 := (OB.step k67 s74 p62)
  have E89 := (Evo.thenW E68 (Step.evo s74) O57.2.2)
  refine sq (o_rowX (R := (rInt .u8)) [(.int .u8 (128 : Int))] [(128 : Int)] 5 1 (X := X73) (B := w.heap.size) E89.size rfl (by kernel_rfl) (Flat.cons (cs := [(.int .u8 (128 : Int))]) (rInt_mk (by decide)) Flat.nil) rfl (by decide) ?_)
  intro b83 w84 X85 s86 O87 n88
  have p90 := n88 _ (OB.old k80)
  have p91 := n88 _ (OB.old k81)
  have p92 := n88 _ (OB.old k82)
  have p93 := n88 _ (OS.old O75)
  obtain ⟨h94, hp⟩ := hp
  have O95 := (OS.step0 O75 s86)
  have k96 := (OB.step0 k80 s86)
  have k97 := (OB.step0 k81 s86)
  have k98 := (OB.step0 k82 s86)
  have E99 := (Evo.then0 E89 (Step.evo s86))
  refine sq (o_appX (R := (rInt .u8)) (X := X85) (B := w.heap.size) (L := b) (M := [(128 : Int)]) rfl elT22 rfl E99.size O95 (OS.src O87) O87.1 (by kernel_rfl) (by kernel_rfl) h94 ?_)
  intro a100 n101 c102 w103 X104 s105 O106 gr107
  have p108 := gr107 _ p77 (OB.old k96)
  have p109 := gr107 _ p78 (OB.old k97)
  have p110 := gr107 _ p79 (OB.old k98)
  refine sq (o_pv (.slice a100 n101 c102) rfl (by kernel_rfl) ?_)
  refine nil_ ?_
  refine then_normal (K50 _ _ _ _ ?_)
  refine seq_ (fun _ K111 => ?_)
  refine wp_block ?_
  have hb199 := (Sl.step (Sl.step (Sl.step hb64 s74) s86) s105)
  have hXo200 := (Old.step (Old.step (Old.step (Old.step (Old.step (Old.step (Old.step (Old.step (Old.step (Old.step hXo s8) s15) s23) s31) s36) s48) s56) s74) s86) s105)
  have E201 := (Evo.thenW E99 (Step.evo s105) O95.2.2)
  have hS202 := (Sub.trans (Sub.trans (Sub.trans (Sub.trans (Sub.trans (Sub.trans (Sub.trans (Sub.trans (Sub.trans (Sub.trans hS (Step.up s8)) (Step.up s15)) (Step.up s23)) (Step.up s31)) (Step.up s36)) (Step.up s48)) (Step.up s56)) (Step.up s74)) (Step.up s86)) (Step.up s105))
  have k203 := (OB.step k96 s105 p77)
  have k204 := (OB.step k97 s105 p78)
  have k205 := (OB.step k98 s105 p79)
  obtain ⟨I189, m190, hI191, hp⟩ := hp
  refine loop_ 545460846624 (fun kq lq w193 => ∃ (X194 : List Nat) (m148 : (List Int)) (a149 : Option Addr) (n150 : Nat) (c151 : Nat), (lq = [(5, (.slice a149 n150 c151))]) ∧ (kq = m190 m148) ∧ (Evo [] w w193) ∧ (Old X194 w193) ∧ (Sub X X194) ∧ (Sl (rInt .u8) X194 w193 ab1 cb2 b) ∧ (OB ([]) w.heap.size X194 w193 b5 ((List.replicate 32 (0 : Int)).map (Value.int .u8)) 32) ∧ (OB ([]) w.heap.size X194 w193 b12 (l25.map (Value.int .u32)) 51) ∧ (OB ([]) w.heap.size X194 w193 b33 (r28.map (Value.int .u32)) 53) ∧ (OS (rInt .u8) ([]) w.heap.size X194 w193 5 a149 n150 c151 m148) ∧ (Ap ([b5]) (blkL a149)) ∧ (Ap ([b12]) (blkL a149)) ∧ (Ap ([b33]) (blkL a149)) ∧ (I189 m148)) (m190 (b ++ ([(128 : Int)]))) [(5, (.slice a100 n101 c102))] (vs_cons (by kernel_rfl) vs_nil) ⟨X104, (b ++ ([(128 : Int)])), a100, n101, c102, rfl, rfl, E201, hXo200, hS202, hb199, k203, k204, k205, O106, p108, p109, p110, hI191⟩ ?_
  rintro _ _ w193 g196 ⟨X194, m148, a149, n150, c151, rfl, rfl, E206, hXo207, hS208, hb209, k210, k211, k212, O152, p213, p214, p215, hI192⟩ Kl197 hA198
  replace hp := hp m148 hI192 (OS.len O152)
  refine seq_ (fun _ K216 => ?_)
  refine seq_ (fun _ K217 => ?_)
  refine reg_ ?_
  refine sq (o_pv (.slice a149 n150 c151) rfl (by kernel_rfl) ?_)
  refine sq (o_pv (.int .i64 (m148.length : Int)) rfl (by rw [← show n150 = m148.length from O152.1]; kernel_rfl) ?_)
  obtain ⟨h218, hp⟩ := hp
  refine sq (o_pv (.int .i64 ((m148.length : Int) % (64 : Int))) rfl (x_rem2 (k := .i64) (a := (m148.length : Int)) (b := (64 : Int)) ((m148.length : Int) % (64 : Int)) (by kernel_rfl) (by kernel_rfl) h218 (by decide) rfl (wrap_inR (inR_rem h218 (by decide) (inR_len (OS.len O152)) (by decide)))) ?_)
  refine sq (o_pv (.bool (!decide (((m148.length : Int) % (64 : Int)) = (56 : Int)))) rfl (by kernel_rfl) ?_)
  refine nil_ ?_
  refine then_normal (K217 _ _ _ _ ?_)
  refine cond_nd (((m148.length : Int) % (64 : Int)) = (56 : Int)) (by kernel_rfl) (fun h219 => ?_) (fun h219 => ?_)
  ·
    replace hp := hp.1 h219
    refine wp_skip ?_
    refine then_normal (K216 _ _ _ _ ?_)
    refine wp_block ?_
    refine reg_ ?_
    refine sq (o_pv (.slice a149 n150 c151) rfl (by kernel_rfl) ?_)
    refine sq (o_rowX (R := (rInt .u8)) [(.int .u8 (0 : Int))] [(0 : Int)] 5 1 (X := X194) (B := w.heap.size) E206.size rfl (by kernel_rfl) (Flat.cons (cs := [(.int .u8 (0 : Int))]) (rInt_mk (by decide)) Flat.nil) rfl (by decide) ?_)
    intro b220 w221 X222 s223 O224 n225
    have p226 := n225 _ (OB.old k210)
    have p227 := n225 _ (OB.old k211)
    have p228 := n225 _ (OB.old k212)
    have p229 := n225 _ (OS.old O152)
    obtain ⟨h230, hp⟩ := hp
    have O231 := (OS.step0 O152 s223)
    have k232 := (OB.step0 k210 s223)
    have k233 := (OB.step0 k211 s223)
    have k234 := (OB.step0 k212 s223)
    have E235 := (Evo.then0 E206 (Step.evo s223))
    refine sq (o_appX (R := (rInt .u8)) (X := X222) (B := w.heap.size) (L := m148) (M := [(0 : Int)]) rfl elT22 rfl E235.size O231 (OS.src O224) O224.1 (by kernel_rfl) (by kernel_rfl) h230 ?_)
    intro a236 n237 c238 w239 X240 s241 O242 gr243
    have p244 := gr243 _ p213 (OB.old k232)
    have p245 := gr243 _ p214 (OB.old k233)
    have p246 := gr243 _ p215 (OB.old k234)
    refine sq (o_pv (.slice a236 n237 c238) rfl (by kernel_rfl) ?_)
    refine nil_ ?_
    refine blk_normal ?_
    have E247 := (Evo.thenW E235 (Step.evo s241) O231.2.2)
    have hXo248 := (Old.step (Old.step hXo207 s223) s241)
    have hS249 := (Sub.trans (Sub.trans hS208 (Step.up s223)) (Step.up s241))
    have hb250 := (Sl.step (Sl.step hb209 s223) s241)
    have k251 := (OB.step k232 s241 p213)
    have k252 := (OB.step k233 s241 p214)
    have k253 := (OB.step k234 s241 p215)
    refine then_normal (hA198 _ _ _ ⟨_, [(5, (.slice a236 n237 c238))], hp.2, fit_mk (AgB.mix _ _ _) (by kernel_rfl) (vs_cons (by kernel_rfl) vs_nil), ?_⟩)
    exact ⟨X240, (m148 ++ ([(0 : Int)])), a236, n237, c238, rfl, rfl, E247, hXo248, hS249, hb250, k251, k252, k253, O242, p244, p245, p246, hp.1⟩
  ·
    replace hp := hp.2 h219
    refine wp_exit ?_
    refine then_exit ?_
    refine then_exit ?_
    refine blk_exit ?_
    refine then_normal (K111 _ _ _ _ ?_)
    refine seq_ (fun _ K254 => ?_)
    refine reg_ ?_
    refine sq (o_pv (.slice ab1 b.length cb2) rfl (by kernel_rfl) ?_)
    refine sq (o_pv (.int .i64 (b.length : Int)) rfl (by kernel_rfl) ?_)
    refine sq (o_pv (.int .u64 (iwrap .u64 (b.length : Int))) rfl (x_convw (k := .i64) Try.underlying3 Try.underlying49 (by kernel_rfl)) ?_)
    refine sq (o_pv (.int .u64 (((iwrap .u64 (b.length : Int)) * (8 : Int)) % 18446744073709551616)) rfl (x_mul2 (k := .u64) (a := iwrap .u64 (b.length : Int)) (b := (8 : Int)) (((iwrap .u64 (b.length : Int)) * (8 : Int)) % 18446744073709551616) (by kernel_rfl) (by kernel_rfl) (wrap_u64_mod _)) ?_)
    refine sq (o_pv (.int .u64 (((iwrap .u64 (b.length : Int)) * (8 : Int)) % 18446744073709551616)) rfl (by kernel_rfl) ?_)
    refine nil_ ?_
    refine then_normal (K254 _ _ _ _ ?_)
    refine seq_ (fun _ K255 => ?_)
    refine seq_ (fun _ K256 => ?_)
    refine reg_ ?_
    refine sq (o_pv (.int .i64 (7 : Int)) rfl (by kernel_rfl) ?_)
    refine nil_ ?_
    refine then_normal (K256 _ _ _ _ ?_)
    refine wp_block ?_
    obtain ⟨I350, m351, hI352, hp⟩ := hp
    refine loop_ 72048797944905888 (fun kq lq w354 => ∃ (X355 : List Nat) (m301 : (List Int)) (i306 : Int) (a302 : Option Addr) (n303 : Nat) (c304 : Nat), (lq = [(5, (.slice a302 n303 c304)), (7, (.int .i64 i306))]) ∧ (kq = m351 m301 i306) ∧ (Evo [] w w354) ∧ (Old X355 w354) ∧ (Sub X X355) ∧ (OB ([]) w.heap.size X355 w354 b5 ((List.replicate 32 (0 : Int)).map (Value.int .u8)) 32) ∧ (OB ([]) w.heap.size X355 w354 b12 (l25.map (Value.int .u32)) 51) ∧ (OB ([]) w.heap.size X355 w354 b33 (r28.map (Value.int .u32)) 53) ∧ (OS (rInt .u8) ([]) w.heap.size X355 w354 5 a302 n303 c304 m301) ∧ (Ap ([b5]) (blkL a302)) ∧ (Ap ([b12]) (blkL a302)) ∧ (Ap ([b33]) (blkL a302)) ∧ (inR .i64 i306) ∧ (I350 m301 i306)) (m351 m148 (7 : Int)) [(5, (.slice a149 n150 c151)), (7, (.int .i64 (7 : Int)))] (vs_cons (by kernel_rfl) (vs_cons (by kernel_rfl) vs_nil)) ⟨X194, m148, (7 : Int), a149, n150, c151, rfl, rfl, E206, hXo207, hS208, k210, k211, k212, O152, p213, p214, p215, (by decide), hI352⟩ ?_
    rintro _ _ w354 g357 ⟨X355, m301, i306, a302, n303, c304, rfl, rfl, E360, hXo361, hS362, k363, k364, k365, O305, p366, p367, p368, ri307, hI353⟩ Kl358 hA359
    replace hp := hp m301 i306 hI353 (OS.len O305) ri307
    refine seq_ (fun _ K369 => ?_)
    refine seq_ (fun _ K370 => ?_)
    refine reg_ ?_
    refine sq (o_pv (.int .i64 i306) rfl (by kernel_rfl) ?_)
    refine sq (o_pv (.bool (decide (i306 ≥ (0 : Int)))) rfl (by kernel_rfl) ?_)
    refine nil_ ?_
    refine then_normal (K370 _ _ _ _ ?_)
    refine cond_d (i306 ≥ (0 : Int)) (by kernel_rfl) (fun h371 => ?_) (fun h371 => ?_)
    ·
      replace hp := hp.1 h371
      refine wp_skip ?_
      refine then_normal (K369 _ _ _ _ ?_)
      refine seq_ (fun _ K372 => ?_)
      refine wp_block ?_
      refine reg_ ?_
      refine sq (o_pv (.slice a302 n303 c304) rfl (by kernel_rfl) ?_)
      refine sq (o_pv (.int .u64 (((iwrap .u64 (b.length : Int)) * (8 : Int)) % 18446744073709551616)) rfl (by kernel_rfl) ?_)
      refine sq (o_pv (.int .i64 i306) rfl (by kernel_rfl) ?_)
      obtain ⟨h373, hp⟩ := hp
      refine sq (o_pv (.int .i64 ((8 : Int) * i306)) rfl (x_mul2 (k := .i64) (a := (8 : Int)) (b := i306) ((8 : Int) * i306) (by kernel_rfl) (by kernel_rfl) (wrap_inR h373)) ?_)
      refine sq (o_pv (.int .u64 (iwrap .u64 ((8 : Int) * i306))) rfl (x_convw (k := .i64) Try.underlying3 Try.underlying56 (by kernel_rfl)) ?_)
      obtain ⟨y374, qy374⟩ : ∃ y, y = (ishr .u64 (((iwrap .u64 (b.length : Int)) * (8 : Int)) % 18446744073709551616) (iwrap .u64 ((8 : Int) * i306))) := ⟨_, rfl⟩
      replace hp := hp y374 qy374
      have r375 : inR .u64 y374 := by rw [qy374]; exact (inR_ishr _ (inR_u64_mod _))
      refine sq (o_pv (.int .u64 y374) rfl (by rw [qy374]; exact (x_shr (k := .u64) (k' := .u64) (a := ((iwrap .u64 (b.length : Int)) * (8 : Int)) % 18446744073709551616) (b := iwrap .u64 ((8 : Int) * i306)) (by kernel_rfl) (by kernel_rfl) (inR_nn (inR_iwrap _ _)))) ?_)
      refine sq (o_pv (.int .u8 (iwrap .u8 y374)) rfl (x_convw (k := .u64) Try.underlying49 Try.underlying5 (by kernel_rfl)) ?_)
      refine sq (o_rowX (R := (rInt .u8)) [(.int .u8 (iwrap .u8 y374))] [iwrap .u8 y374] 5 1 (X := X355) (B := w.heap.size) E360.size rfl (by kernel_rfl) (Flat.cons (cs := [(.int .u8 (iwrap .u8 y374))]) (rInt_mk (inR_iwrap _ _)) Flat.nil) rfl (by decide) ?_)
      intro b376 w377 X378 s379 O380 n381
      have p382 := n381 _ (OB.old k363)
      have p383 := n381 _ (OB.old k364)
      have p384 := n381 _ (OB.old k365)
      have p385 := n381 _ (OS.old O305)
      obtain ⟨h386, hp⟩ := hp
      have O387 := (OS.step0 O305 s379)
      have k388 := (OB.step0 k363 s379)
      have k389 := (OB.step0 k364 s379)
      have k390 := (OB.step0 k365 s379)
      have E391 := (Evo.then0 E360 (Step.evo s379))
      refine sq (o_appX (R := (rInt .u8)) (X := X378) (B := w.heap.size) (L := m301) (M := [iwrap .u8 y374]) rfl elT22 rfl E391.size O387 (OS.src O380) O380.1 (by kernel_rfl) (by kernel_rfl) h386 ?_)
      intro a392 n393 c394 w395 X396 s397 O398 gr399
      have p400 := gr399 _ p366 (OB.old k388)
      have p401 := gr399 _ p367 (OB.old k389)
      have p402 := gr399 _ p368 (OB.old k390)
      refine sq (o_pv (.slice a392 n393 c394) rfl (by kernel_rfl) ?_)
      refine nil_ ?_
      refine blk_normal ?_
      refine then_normal (K372 _ _ _ _ ?_)
      refine reg_ ?_
      refine sq (o_pv (.int .i64 i306) rfl (by kernel_rfl) ?_)
      obtain ⟨h403, hp⟩ := hp
      refine sq (o_pv (.int .i64 (i306 - (1 : Int))) rfl (x_sub2 (k := .i64) (a := i306) (b := (1 : Int)) (i306 - (1 : Int)) (by kernel_rfl) (by kernel_rfl) (wrap_inR h403)) ?_)
      refine sq (o_pv (.int .i64 (i306 - (1 : Int))) rfl (by kernel_rfl) ?_)
      refine nil_ ?_
      have E404 := (Evo.thenW E391 (Step.evo s397) O387.2.2)
      have hXo405 := (Old.step (Old.step hXo361 s379) s397)
      have hS406 := (Sub.trans (Sub.trans hS362 (Step.up s379)) (Step.up s397))
      have k407 := (OB.step k388 s397 p366)
      have k408 := (OB.step k389 s397 p367)
      have k409 := (OB.step k390 s397 p368)
      refine then_normal (hA359 _ _ _ ⟨_, [(5, (.slice a392 n393 c394)), (7, (.int .i64 (i306 - (1 : Int))))], hp.2, fit_mk (AgB.mix _ _ _) (by kernel_rfl) (vs_cons (by kernel_rfl) (vs_cons (by kernel_rfl) vs_nil)), ?_⟩)
      exact ⟨X396, (m301 ++ ([iwrap .u8 y374])), (i306 - (1 : Int)), a392, n393, c394, rfl, rfl, E404, hXo405, hS406, k407, k408, k409, O398, p400, p401, p402, h403, hp.1⟩
    ·
      replace hp := hp.2 h371
      refine wp_exit ?_
      refine then_exit ?_
      refine then_exit ?_
      refine blk_exit ?_
      refine then_normal (K255 _ _ _ _ ?_)
      refine seq_ (fun _ K410 => ?_)
      refine seq_ (fun _ K411 => ?_)
      refine reg_ ?_
      refine sq (o_pv (.int .i64 (0 : Int)) rfl (by kernel_rfl) ?_)
      refine nil_ ?_
      refine then_normal (K411 _ _ _ _ ?_)
      refine wp_block ?_
      obtain ⟨I3005, m3006, hI3007, hp⟩ := hp
      refine loop_ 926336713898529563388567880069503262826159877325124512315660600005711007579904 (fun kq lq w3009 => ∃ (X3010 : List Nat) (at_1706 : Int) (f1708 : (List Int)), (lq = [(8, (.int .i64 at_1706))]) ∧ (kq = m3006 at_1706 f1708) ∧ (Evo [] w w3009) ∧ (Old X3010 w3009) ∧ (Sub X X3010) ∧ (OS (rInt .u8) ([]) w.heap.size X3010 w3009 5 a302 n303 c304 m301) ∧ (OB ([]) w.heap.size X3010 w3009 b5 ((List.replicate 32 (0 : Int)).map (Value.int .u8)) 32) ∧ (OB ([]) w.heap.size X3010 w3009 b33 (r28.map (Value.int .u32)) 53) ∧ (OB ([]) w.heap.size X3010 w3009 b12 (f1708.map (Value.int .u32)) 51) ∧ (Ap (blkL a302) ([b5])) ∧ (Ap (blkL a302) ([b33])) ∧ (Ap (blkL a302) ([b12])) ∧ (inR .i64 at_1706) ∧ (okArr .u32 8 f1708) ∧ (I3005 at_1706 f1708)) (m3006 (0 : Int) l25) [(8, (.int .i64 (0 : Int)))] (vs_cons (by kernel_rfl) vs_nil) ⟨X355, (0 : Int), l25, rfl, rfl, E360, hXo361, hS362, O305, k363, k365, k364, (Ap.symm p366), (Ap.symm p368), (Ap.symm p367), (by decide), ok26, hI3007⟩ ?_
      rintro _ _ w3009 g3012 ⟨X3010, at_1706, f1708, rfl, rfl, E3015, hXo3016, hS3017, O3018, k3019, k3020, k1710, p3021, p3022, p3023, rat_1707, kf1709, hI3008⟩ Kl3013 hA3014
      replace hp := hp at_1706 f1708 hI3008 rat_1707 kf1709
      refine seq_ (fun _ K3024 => ?_)
      refine seq_ (fun _ K3025 => ?_)
      refine reg_ ?_
      refine sq (o_pv (.int .i64 at_1706) rfl (by kernel_rfl) ?_)
      refine sq (o_pv (.slice a302 n303 c304) rfl (by kernel_rfl) ?_)
      refine sq (o_pv (.int .i64 (m301.length : Int)) rfl (by rw [← show n303 = m301.length from O3018.1]; kernel_rfl) ?_)
      refine sq (o_pv (.bool (decide (at_1706 < (m301.length : Int)))) rfl (by kernel_rfl) ?_)
      refine nil_ ?_
      refine then_normal (K3025 _ _ _ _ ?_)
      refine cond_d (at_1706 < (m301.length : Int)) (by kernel_rfl) (fun h3026 => ?_) (fun h3026 => ?_)
      ·
        replace hp := hp.1 h3026
        refine wp_skip ?_
        refine then_normal (K3024 _ _ _ _ ?_)
        refine seq_ (fun _ K3027 => ?_)
        refine wp_block ?_
        refine seq_ (fun _ K3028 => ?_)
        refine reg_ ?_
        refine sq (o_newX ((List.replicate 64 (0 : Int)).map (Value.int .u32)) 53 (X := X3010) (B := w.heap.size) E3015.size rfl (by kernel_rfl) ?_)
        intro b3029 w3030 X3031 s3032 k3033 n3034
        have p3035 := n3034 _ (OS.old O3018)
        have p3036 := n3034 _ (OB.old k3019)
        have p3037 := n3034 _ (OB.old k3020)
        have p3038 := n3034 _ (OB.old k1710)
        refine nil_ ?_
        refine then_normal (K3028 _ _ _ _ ?_)
        refine seq_ (fun _ K3039 => ?_)
        refine seq_ (fun _ K3040 => ?_)
        refine reg_ ?_
        refine sq (o_pv (.int .i64 (0 : Int)) rfl (by kernel_rfl) ?_)
        refine nil_ ?_
        refine then_normal (K3040 _ _ _ _ ?_)
        refine wp_block ?_
        have E3230 := (Evo.then0 E3015 (Step.evo s3032))
        have hXo3231 := (Old.step hXo3016 s3032)
        have hS3232 := (Sub.trans hS3017 (Step.up s3032))
        have O3233 := (OS.step0 O3018 s3032)
        have k3234 := (OB.step0 k3019 s3032)
        have k3235 := (OB.step0 k3020 s3032)
        have k3236 := (OB.step0 k1710 s3032)
        obtain ⟨I3220, m3221, hI3222, hp⟩ := hp
        refine loop_ 2535301200451847116974979025920 (fun kq lq w3224 => ∃ (X3225 : List Nat) (i3129 : Int) (f3131 : (List Int)), (lq = [(10, (.int .i64 i3129))]) ∧ (kq = m3221 i3129 f3131) ∧ (Evo [] w w3224) ∧ (Old X3225 w3224) ∧ (Sub X X3225) ∧ (OS (rInt .u8) ([]) w.heap.size X3225 w3224 5 a302 n303 c304 m301) ∧ (OB ([]) w.heap.size X3225 w3224 b5 ((List.replicate 32 (0 : Int)).map (Value.int .u8)) 32) ∧ (OB ([]) w.heap.size X3225 w3224 b12 (f1708.map (Value.int .u32)) 51) ∧ (OB ([]) w.heap.size X3225 w3224 b33 (r28.map (Value.int .u32)) 53) ∧ (OB ([]) w.heap.size X3225 w3224 b3029 (f3131.map (Value.int .u32)) 53) ∧ (Ap (blkL a302) ([b5])) ∧ (Ap (blkL a302) ([b12])) ∧ (Ap (blkL a302) ([b33])) ∧ (Ap (blkL a302) ([b3029])) ∧ (inR .i64 i3129) ∧ (okArr .u32 64 f3131) ∧ (I3220 i3129 f3131)) (m3221 (0 : Int) (List.replicate 64 (0 : Int))) [(10, (.int .i64 (0 : Int)))] (vs_cons (by kernel_rfl) vs_nil) ⟨X3031, (0 : Int), (List.replicate 64 (0 : Int)), rfl, rfl, E3230, hXo3231, hS3232, O3233, k3234, k3236, k3235, k3033, p3021, p3023, p3022, p3035, (by decide), (okArr_rep _ _), hI3222⟩ ?_
        rintro _ _ w3224 g3227 ⟨X3225, i3129, f3131, rfl, rfl, E3237, hXo3238, hS3239, O3240, k3241, k3242, k3243, k3133, p3244, p3245, p3246, p3247, ri3130, kf3132, hI3223⟩ Kl3228 hA3229
        replace hp := hp i3129 f3131 hI3223 ri3130 kf3132
        refine seq_ (fun _ K3248 => ?_)
        refine seq_ (fun _ K3249 => ?_)
        refine reg_ ?_
        refine sq (o_pv (.int .i64 i3129) rfl (by kernel_rfl) ?_)
        refine sq (o_pv (.bool (decide (i3129 < (16 : Int)))) rfl (by kernel_rfl) ?_)
        refine nil_ ?_
        refine then_normal (K3249 _ _ _ _ ?_)
        refine cond_d (i3129 < (16 : Int)) (by kernel_rfl) (fun h3250 => ?_) (fun h3250 => ?_)
        ·
          replace hp := hp.1 h3250
          refine wp_skip ?_
          refine then_normal (K3248 _ _ _ _ ?_)
          refine seq_ (fun _ K3251 => ?_)
          refine wp_block ?_
          refine seq_ (fun _ K3252 => ?_)
          refine reg_ ?_
          refine sq (o_pv (.int .i64 at_1706) rfl (by kernel_rfl) ?_)
          refine sq (o_pv (.int .i64 i3129) rfl (by kernel_rfl) ?_)
          obtain ⟨h3253, hp⟩ := hp
          refine sq (o_pv (.int .i64 ((4 : Int) * i3129)) rfl (x_mul2 (k := .i64) (a := (4 : Int)) (b := i3129) ((4 : Int) * i3129) (by kernel_rfl) (by kernel_rfl) (wrap_inR h3253)) ?_)
          obtain ⟨h3254, hp⟩ := hp
          refine sq (o_pv (.int .i64 (at_1706 + ((4 : Int) * i3129))) rfl (x_add2 (k := .i64) (a := at_1706) (b := (4 : Int) * i3129) (at_1706 + ((4 : Int) * i3129)) (by kernel_rfl) (by kernel_rfl) (wrap_inR h3254)) ?_)
          refine sq (o_pv (.int .i64 (at_1706 + ((4 : Int) * i3129))) rfl (by kernel_rfl) ?_)
          refine nil_ ?_
          refine then_normal (K3252 _ _ _ _ ?_)
          refine reg_drawn (RB w3224.heap.size []) 31 (by kernel_rfl) (fun w3255 hd3256 => ?_)
          have e3257 := Evo.of_drew hd3256
          have z3258 : w3255.heap.size = w3224.heap.size := by rw [hd3256]
          clear hd3256
          have s3260 := Step.of0 X3225 e3257
          have er3259 := RB.refl w3224.heap.size [] w3255
          have E3261 := (Evo.then0 E3237 (Step.evo s3260))
          have hXo3262 := (Old.step hXo3238 s3260)
          have hS3263 := (Sub.trans hS3239 (Step.up s3260))
          have O3264 := (OS.step0 O3240 s3260)
          have k3265 := (OB.step0 k3241 s3260)
          have k3266 := (OB.step0 k3242 s3260)
          have k3267 := (OB.step0 k3243 s3260)
          have k3268 := (OB.step0 k3133 s3260)
          refine r_take 0 (.int .i64 i3129) (RB.pre _ _) rfl (by kernel_rfl) (fun _ _ _ h => hQ.panic _ _ _ _ _ h) (.inl ⟨rfl, fun wq hq => (by kernel_rfl)⟩) ?_
          refine r_take 1 (.slice a302 n303 c304) (RB.pre _ _) rfl (by kernel_rfl) (fun _ _ _ h => hQ.panic _ _ _ _ _ h) (.inl ⟨rfl, fun wq hq => (by kernel_rfl)⟩) ?_
          refine r_take 2 (.int .i64 (at_1706 + ((4 : Int) * i3129))) (RB.pre _ _) rfl (by kernel_rfl) (fun _ _ _ h => hQ.panic _ _ _ _ _ h) (.inl ⟨rfl, fun wq hq => (by kernel_rfl)⟩) ?_
          obtain ⟨h3269, hp⟩ := hp
          obtain ⟨b3270, o3271, cs3272, ha3273, nx3274, lt3275, ok3276, hc3277⟩ := Sl.atI (OS.rd O3264) (at_1706 + ((4 : Int) * i3129)) h3269
          obtain ⟨rfl, re3278⟩ := ok3276
          replace hp := hp re3278
          refine r_take 3 (.pointer (some ⟨b3270, o3271 + (at_1706 + ((4 : Int) * i3129)).toNat * 1, none⟩)) (RB.pre _ _) rfl (by kernel_rfl) (fun _ _ _ h => hQ.panic _ _ _ _ _ h) (.inl ⟨rfl, fun wq hq => (x_ixA (m := n303) (c := c304) (k := .i64) (i := at_1706 + ((4 : Int) * i3129)) Try.underlying22 Try.sizeOf5 (by rw [← ha3273]; kernel_rfl) (by kernel_rfl) ⟨h3269.1, by rw [O3264.1]; exact h3269.2⟩)⟩) ?_
          refine r_take 4 (.int .u8 (lget m301 (at_1706 + ((4 : Int) * i3129)))) (RB.pre _ _) rfl (by kernel_rfl) (fun _ _ _ h => hQ.panic _ _ _ _ _ h) (.inl ⟨rfl, fun wq hq => (x_load1 (by kernel_rfl) Try.isAgg5 ((CellsAt.rb hc3277 (RB.trans er3259 hq) (Nat.lt_of_lt_of_eq lt3275 z3258) (fun h => by cases h)) 0 _ rfl))⟩) ?_
          have r3279 : inR .u32 (lget m301 (at_1706 + ((4 : Int) * i3129))) := inR_up (by decide) (by decide) re3278
          refine r_take 5 (.int .u32 (lget m301 (at_1706 + ((4 : Int) * i3129)))) (RB.pre _ _) rfl (by kernel_rfl) (fun _ _ _ h => hQ.panic _ _ _ _ _ h) (.inl ⟨rfl, fun wq hq => (x_conv (k := .u8) Try.underlying5 Try.underlying50 (by kernel_rfl) (wrap_inR r3279))⟩) ?_
          refine r_take 6 (.int .u32 (ishl .u32 (lget m301 (at_1706 + ((4 : Int) * i3129))) (24 : Int))) (RB.pre _ _) rfl (by kernel_rfl) (fun _ _ _ h => hQ.panic _ _ _ _ _ h) (.inl ⟨rfl, fun wq hq => (x_shl (k := .u32) (k' := .u64) (a := lget m301 (at_1706 + ((4 : Int) * i3129))) (b := (24 : Int)) (by kernel_rfl) (by kernel_rfl) (by decide))⟩) ?_
          refine r_take 7 (.slice a302 n303 c304) (RB.pre _ _) rfl (by kernel_rfl) (fun _ _ _ h => hQ.panic _ _ _ _ _ h) (.inl ⟨rfl, fun wq hq => (by kernel_rfl)⟩) ?_
          refine r_take 8 (.int .i64 (at_1706 + ((4 : Int) * i3129))) (RB.pre _ _) rfl (by kernel_rfl) (fun _ _ _ h => hQ.panic _ _ _ _ _ h) (.inl ⟨rfl, fun wq hq => (by kernel_rfl)⟩) ?_
          obtain ⟨h3280, hp⟩ := hp
          refine r_take 9 (.int .i64 ((at_1706 + ((4 : Int) * i3129)) + (1 : Int))) (RB.pre _ _) rfl (by kernel_rfl) (fun _ _ _ h => hQ.panic _ _ _ _ _ h) (.inl ⟨rfl, fun wq hq => (x_add2 (k := .i64) (a := at_1706 + ((4 : Int) * i3129)) (b := (1 : Int)) ((at_1706 + ((4 : Int) * i3129)) + (1 : Int)) (by kernel_rfl) (by kernel_rfl) (wrap_inR h3280))⟩) ?_
          obtain ⟨h3281, hp⟩ := hp
          obtain ⟨b3282, o3283, cs3284, ha3285, nx3286, lt3287, ok3288, hc3289⟩ := Sl.atI (OS.rd O3264) ((at_1706 + ((4 : Int) * i3129)) + (1 : Int)) h3281
          obtain ⟨rfl, re3290⟩ := ok3288
          replace hp := hp re3290
          refine r_take 10 (.pointer (some ⟨b3282, o3283 + ((at_1706 + ((4 : Int) * i3129)) + (1 : Int)).toNat * 1, none⟩)) (RB.pre _ _) rfl (by kernel_rfl) (fun _ _ _ h => hQ.panic _ _ _ _ _ h) (.inl ⟨rfl, fun wq hq => (x_ixA (m := n303) (c := c304) (k := .i64) (i := (at_1706 + ((4 : Int) * i3129)) + (1 : Int)) Try.underlying22 Try.sizeOf5 (by rw [← ha3285]; kernel_rfl) (by kernel_rfl) ⟨h3281.1, by rw [O3264.1]; exact h3281.2⟩)⟩) ?_
          refine r_take 11 (.int .u8 (lget m301 ((at_1706 + ((4 : Int) * i3129)) + (1 : Int)))) (RB.pre _ _) rfl (by kernel_rfl) (fun _ _ _ h => hQ.panic _ _ _ _ _ h) (.inl ⟨rfl, fun wq hq => (x_load1 (by kernel_rfl) Try.isAgg5 ((CellsAt.rb hc3289 (RB.trans er3259 hq) (Nat.lt_of_lt_of_eq lt3287 z3258) (fun h => by cases h)) 0 _ rfl))⟩) ?_
          have r3291 : inR .u32 (lget m301 ((at_1706 + ((4 : Int) * i3129)) + (1 : Int))) := inR_up (by decide) (by decide) re3290
          refine r_take 12 (.int .u32 (lget m301 ((at_1706 + ((4 : Int) * i3129)) + (1 : Int)))) (RB.pre _ _) rfl (by kernel_rfl) (fun _ _ _ h => hQ.panic _ _ _ _ _ h) (.inl ⟨rfl, fun wq hq => (x_conv (k := .u8) Try.underlying5 Try.underlying50 (by kernel_rfl) (wrap_inR r3291))⟩) ?_
          obtain ⟨y3292, qy3292⟩ : ∃ y, y = (ishl .u32 (lget m301 ((at_1706 + ((4 : Int) * i3129)) + (1 : Int))) (16 : Int)) := ⟨_, rfl⟩
          replace hp := hp y3292 qy3292
          have r3293 : inR .u32 y3292 := by rw [qy3292]; exact (inR_ishl _ _ _)
          refine r_take 13 (.int .u32 y3292) (RB.pre _ _) rfl (by kernel_rfl) (fun _ _ _ h => hQ.panic _ _ _ _ _ h) (.inl ⟨rfl, fun wq hq => (by rw [qy3292]; exact (x_shl (k := .u32) (k' := .u64) (a := lget m301 ((at_1706 + ((4 : Int) * i3129)) + (1 : Int))) (b := (16 : Int)) (by kernel_rfl) (by kernel_rfl) (by decide)))⟩) ?_
          obtain ⟨y3294, qy3294⟩ : ∃ y, y = (ior .u32 (ishl .u32 (lget m301 (at_1706 + ((4 : Int) * i3129))) (24 : Int)) y3292) := ⟨_, rfl⟩
          replace hp := hp y3294 qy3294
          have r3295 : inR .u32 y3294 := by rw [qy3294]; exact (inR_ior _ _ _)
          refine r_take 14 (.int .u32 y3294) (RB.pre _ _) rfl (by kernel_rfl) (fun _ _ _ h => hQ.panic _ _ _ _ _ h) (.inl ⟨rfl, fun wq hq => (by rw [qy3294]; exact (x_or (k := .u32) (a := ishl .u32 (lget m301 (at_1706 + ((4 : Int) * i3129))) (24 : Int)) (b := y3292) (by kernel_rfl) (by kernel_rfl)))⟩) ?_
          refine r_take 15 (.slice a302 n303 c304) (RB.pre _ _) rfl (by kernel_rfl) (fun _ _ _ h => hQ.panic _ _ _ _ _ h) (.inl ⟨rfl, fun wq hq => (by kernel_rfl)⟩) ?_
          refine r_take 16 (.int .i64 (at_1706 + ((4 : Int) * i3129))) (RB.pre _ _) rfl (by kernel_rfl) (fun _ _ _ h => hQ.panic _ _ _ _ _ h) (.inl ⟨rfl, fun wq hq => (by kernel_rfl)⟩) ?_
          obtain ⟨h3296, hp⟩ := hp
          refine r_take 17 (.int .i64 ((at_1706 + ((4 : Int) * i3129)) + (2 : Int))) (RB.pre _ _) rfl (by kernel_rfl) (fun _ _ _ h => hQ.panic _ _ _ _ _ h) (.inl ⟨rfl, fun wq hq => (x_add2 (k := .i64) (a := at_1706 + ((4 : Int) * i3129)) (b := (2 : Int)) ((at_1706 + ((4 : Int) * i3129)) + (2 : Int)) (by kernel_rfl) (by kernel_rfl) (wrap_inR h3296))⟩) ?_
          obtain ⟨h3297, hp⟩ := hp
          obtain ⟨b3298, o3299, cs3300, ha3301, nx3302, lt3303, ok3304, hc3305⟩ := Sl.atI (OS.rd O3264) ((at_1706 + ((4 : Int) * i3129)) + (2 : Int)) h3297
          obtain ⟨rfl, re3306⟩ := ok3304
          replace hp := hp re3306
          refine r_take 18 (.pointer (some ⟨b3298, o3299 + ((at_1706 + ((4 : Int) * i3129)) + (2 : Int)).toNat * 1, none⟩)) (RB.pre _ _) rfl (by kernel_rfl) (fun _ _ _ h => hQ.panic _ _ _ _ _ h) (.inl ⟨rfl, fun wq hq => (x_ixA (m := n303) (c := c304) (k := .i64) (i := (at_1706 + ((4 : Int) * i3129)) + (2 : Int)) Try.underlying22 Try.sizeOf5 (by rw [← ha3301]; kernel_rfl) (by kernel_rfl) ⟨h3297.1, by rw [O3264.1]; exact h3297.2⟩)⟩) ?_
          refine r_take 19 (.int .u8 (lget m301 ((at_1706 + ((4 : Int) * i3129)) + (2 : Int)))) (RB.pre _ _) rfl (by kernel_rfl) (fun _ _ _ h => hQ.panic _ _ _ _ _ h) (.inl ⟨rfl, fun wq hq => (x_load1 (by kernel_rfl) Try.isAgg5 ((CellsAt.rb hc3305 (RB.trans er3259 hq) (Nat.lt_of_lt_of_eq lt3303 z3258) (fun h => by cases h)) 0 _ rfl))⟩) ?_
          have r3307 : inR .u32 (lget m301 ((at_1706 + ((4 : Int) * i3129)) + (2 : Int))) := inR_up (by decide) (by decide) re3306
          refine r_take 20 (.int .u32 (lget m301 ((at_1706 + ((4 : Int) * i3129)) + (2 : Int)))) (RB.pre _ _) rfl (by kernel_rfl) (fun _ _ _ h => hQ.panic _ _ _ _ _ h) (.inl ⟨rfl, fun wq hq => (x_conv (k := .u8) Try.underlying5 Try.underlying50 (by kernel_rfl) (wrap_inR r3307))⟩) ?_
          obtain ⟨y3308, qy3308⟩ : ∃ y, y = (ishl .u32 (lget m301 ((at_1706 + ((4 : Int) * i3129)) + (2 : Int))) (8 : Int)) := ⟨_, rfl⟩
          replace hp := hp y3308 qy3308
          have r3309 : inR .u32 y3308 := by rw [qy3308]; exact (inR_ishl _ _ _)
          refine r_take 21 (.int .u32 y3308) (RB.pre _ _) rfl (by kernel_rfl) (fun _ _ _ h => hQ.panic _ _ _ _ _ h) (.inl ⟨rfl, fun wq hq => (by rw [qy3308]; exact (x_shl (k := .u32) (k' := .u64) (a := lget m301 ((at_1706 + ((4 : Int) * i3129)) + (2 : Int))) (b := (8 : Int)) (by kernel_rfl) (by kernel_rfl) (by decide)))⟩) ?_
          refine r_take 22 (.int .u32 (ior .u32 y3294 y3308)) (RB.pre _ _) rfl (by kernel_rfl) (fun _ _ _ h => hQ.panic _ _ _ _ _ h) (.inl ⟨rfl, fun wq hq => (x_or (k := .u32) (a := y3294) (b := y3308) (by kernel_rfl) (by kernel_rfl))⟩) ?_
          refine r_take 23 (.slice a302 n303 c304) (RB.pre _ _) rfl (by kernel_rfl) (fun _ _ _ h => hQ.panic _ _ _ _ _ h) (.inl ⟨rfl, fun wq hq => (by kernel_rfl)⟩) ?_
          refine r_take 24 (.int .i64 (at_1706 + ((4 : Int) * i3129))) (RB.pre _ _) rfl (by kernel_rfl) (fun _ _ _ h => hQ.panic _ _ _ _ _ h) (.inl ⟨rfl, fun wq hq => (by kernel_rfl)⟩) ?_
          obtain ⟨h3310, hp⟩ := hp
          refine r_take 25 (.int .i64 ((at_1706 + ((4 : Int) * i3129)) + (3 : Int))) (RB.pre _ _) rfl (by kernel_rfl) (fun _ _ _ h => hQ.panic _ _ _ _ _ h) (.inl ⟨rfl, fun wq hq => (x_add2 (k := .i64) (a := at_1706 + ((4 : Int) * i3129)) (b := (3 : Int)) ((at_1706 + ((4 : Int) * i3129)) + (3 : Int)) (by kernel_rfl) (by kernel_rfl) (wrap_inR h3310))⟩) ?_
          obtain ⟨h3311, hp⟩ := hp
          obtain ⟨b3312, o3313, cs3314, ha3315, nx3316, lt3317, ok3318, hc3319⟩ := Sl.atI (OS.rd O3264) ((at_1706 + ((4 : Int) * i3129)) + (3 : Int)) h3311
          obtain ⟨rfl, re3320⟩ := ok3318
          replace hp := hp re3320
          refine r_take 26 (.pointer (some ⟨b3312, o3313 + ((at_1706 + ((4 : Int) * i3129)) + (3 : Int)).toNat * 1, none⟩)) (RB.pre _ _) rfl (by kernel_rfl) (fun _ _ _ h => hQ.panic _ _ _ _ _ h) (.inl ⟨rfl, fun wq hq => (x_ixA (m := n303) (c := c304) (k := .i64) (i := (at_1706 + ((4 : Int) * i3129)) + (3 : Int)) Try.underlying22 Try.sizeOf5 (by rw [← ha3315]; kernel_rfl) (by kernel_rfl) ⟨h3311.1, by rw [O3264.1]; exact h3311.2⟩)⟩) ?_
          refine r_take 27 (.int .u8 (lget m301 ((at_1706 + ((4 : Int) * i3129)) + (3 : Int)))) (RB.pre _ _) rfl (by kernel_rfl) (fun _ _ _ h => hQ.panic _ _ _ _ _ h) (.inl ⟨rfl, fun wq hq => (x_load1 (by kernel_rfl) Try.isAgg5 ((CellsAt.rb hc3319 (RB.trans er3259 hq) (Nat.lt_of_lt_of_eq lt3317 z3258) (fun h => by cases h)) 0 _ rfl))⟩) ?_
          have r3321 : inR .u32 (lget m301 ((at_1706 + ((4 : Int) * i3129)) + (3 : Int))) := inR_up (by decide) (by decide) re3320
          refine r_take 28 (.int .u32 (lget m301 ((at_1706 + ((4 : Int) * i3129)) + (3 : Int)))) (RB.pre _ _) rfl (by kernel_rfl) (fun _ _ _ h => hQ.panic _ _ _ _ _ h) (.inl ⟨rfl, fun wq hq => (x_conv (k := .u8) Try.underlying5 Try.underlying50 (by kernel_rfl) (wrap_inR r3321))⟩) ?_
          obtain ⟨y3322, qy3322⟩ : ∃ y, y = (ior .u32 (ior .u32 y3294 y3308) (lget m301 ((at_1706 + ((4 : Int) * i3129)) + (3 : Int)))) := ⟨_, rfl⟩
          replace hp := hp y3322 qy3322
          have r3323 : inR .u32 y3322 := by rw [qy3322]; exact (inR_ior _ _ _)
          refine r_take 29 (.int .u32 y3322) (RB.pre _ _) rfl (by kernel_rfl) (fun _ _ _ h => hQ.panic _ _ _ _ _ h) (.inl ⟨rfl, fun wq hq => (by rw [qy3322]; exact (x_or (k := .u32) (a := ior .u32 y3294 y3308) (b := lget m301 ((at_1706 + ((4 : Int) * i3129)) + (3 : Int))) (by kernel_rfl) (by kernel_rfl)))⟩) ?_
          obtain ⟨h3324, hp⟩ := hp
          refine r_take 30 (.pointer (some ⟨b3029, i3129.toNat, none⟩)) (RB.pre _ _) rfl (by kernel_rfl) (fun _ _ _ h => hQ.panic _ _ _ _ _ h) (.inl ⟨rfl, fun wq hq => (x_ixR (k := .i64) (i := i3129) Try.underlying53 Try.sizeOf50 (by kernel_rfl) (by kernel_rfl) h3324)⟩) ?_
          refine r_ready [31] (by kernel_rfl) rfl (all_cons ⟨_, _, _, _, _, _, rfl, ?_⟩ all_nil)
          refine o_stA (k := .u32) (i := i3129) (v := y3322) (e := f3131) rfl k3268 (by kernel_rfl) (by kernel_rfl) Try.sizeOf50 kf3132 h3324 ?_
          intro w3325 s3326 k3327
          refine ⟨fun h => absurd h (by decide), ?_⟩
          refine r_done (by kernel_rfl) ?_
          refine blk_normal ?_
          refine then_normal (K3251 _ _ _ _ ?_)
          refine reg_ ?_
          refine sq (o_pv (.int .i64 i3129) rfl (by kernel_rfl) ?_)
          obtain ⟨h3328, hp⟩ := hp
          refine sq (o_pv (.int .i64 (i3129 + (1 : Int))) rfl (x_add2 (k := .i64) (a := i3129) (b := (1 : Int)) (i3129 + (1 : Int)) (by kernel_rfl) (by kernel_rfl) (wrap_inR h3328)) ?_)
          refine sq (o_pv (.int .i64 (i3129 + (1 : Int))) rfl (by kernel_rfl) ?_)
          refine nil_ ?_
          have E3329 := (Evo.thenW E3261 (Step.evo s3326) k3268.2.2)
          have hXo3330 := (Old.step hXo3262 s3326)
          have hS3331 := (Sub.trans hS3263 (Step.up s3326))
          have O3332 := (OS.step O3264 s3326 p3247)
          have k3333 := (OB.step k3265 s3326 p3036)
          have k3334 := (OB.step k3266 s3326 p3038)
          have k3335 := (OB.step k3267 s3326 p3037)
          refine then_normal (hA3229 _ _ _ ⟨_, [(10, (.int .i64 (i3129 + (1 : Int))))], hp.2, fit_mk (AgB.mix _ _ _) (by kernel_rfl) (vs_cons (by kernel_rfl) vs_nil), ?_⟩)
          exact ⟨X3225, (i3129 + (1 : Int)), (lset f3131 i3129 y3322), rfl, rfl, E3329, hXo3330, hS3331, O3332, k3333, k3334, k3335, k3327, p3244, p3245, p3246, p3247, h3328, (okArr_set kf3132 r3323), hp.1⟩
        ·
          replace hp := hp.2 h3250
          refine wp_exit ?_
          refine then_exit ?_
          refine then_exit ?_
          refine blk_exit ?_
          refine then_normal (K3039 _ _ _ _ ?_)
          refine seq_ (fun _ K3336 => ?_)
          refine seq_ (fun _ K3337 => ?_)
          refine reg_ ?_
          refine sq (o_pv (.int .i64 (16 : Int)) rfl (by kernel_rfl) ?_)
          refine nil_ ?_
          refine then_normal (K3337 _ _ _ _ ?_)
          refine wp_block ?_
          obtain ⟨I3585, m3586, hI3587, hp⟩ := hp
          refine loop_ 22835963083295355561631375054733119188717563904 (fun kq lq w3589 => ∃ (X3590 : List Nat) (i3460 : Int) (f3462 : (List Int)), (lq = [(12, (.int .i64 i3460))]) ∧ (kq = m3586 i3460 f3462) ∧ (Evo [] w w3589) ∧ (Old X3590 w3589) ∧ (Sub X X3590) ∧ (OS (rInt .u8) ([]) w.heap.size X3590 w3589 5 a302 n303 c304 m301) ∧ (OB ([]) w.heap.size X3590 w3589 b5 ((List.replicate 32 (0 : Int)).map (Value.int .u8)) 32) ∧ (OB ([]) w.heap.size X3590 w3589 b12 (f1708.map (Value.int .u32)) 51) ∧ (OB ([]) w.heap.size X3590 w3589 b33 (r28.map (Value.int .u32)) 53) ∧ (OB ([]) w.heap.size X3590 w3589 b3029 (f3462.map (Value.int .u32)) 53) ∧ (Ap (blkL a302) ([b5])) ∧ (Ap (blkL a302) ([b12])) ∧ (Ap (blkL a302) ([b33])) ∧ (Ap (blkL a302) ([b3029])) ∧ (inR .i64 i3460) ∧ (okArr .u32 64 f3462) ∧ (I3585 i3460 f3462)) (m3586 (16 : Int) f3131) [(12, (.int .i64 (16 : Int)))] (vs_cons (by kernel_rfl) vs_nil) ⟨X3225, (16 : Int), f3131, rfl, rfl, E3237, hXo3238, hS3239, O3240, k3241, k3242, k3243, k3133, p3244, p3245, p3246, p3247, (by decide), kf3132, hI3587⟩ ?_
          rintro _ _ w3589 g3592 ⟨X3590, i3460, f3462, rfl, rfl, E3595, hXo3596, hS3597, O3598, k3599, k3600, k3601, k3464, p3602, p3603, p3604, p3605, ri3461, kf3463, hI3588⟩ Kl3593 hA3594
          replace hp := hp i3460 f3462 hI3588 ri3461 kf3463
          refine seq_ (fun _ K3606 => ?_)
          refine seq_ (fun _ K3607 => ?_)
          refine reg_ ?_
          refine sq (o_pv (.int .i64 i3460) rfl (by kernel_rfl) ?_)
          refine sq (o_pv (.bool (decide (i3460 < (64 : Int)))) rfl (by kernel_rfl) ?_)
          refine nil_ ?_
          refine then_normal (K3607 _ _ _ _ ?_)
          refine cond_d (i3460 < (64 : Int)) (by kernel_rfl) (fun h3608 => ?_) (fun h3608 => ?_)
          ·
            replace hp := hp.1 h3608
            refine wp_skip ?_
            refine then_normal (K3606 _ _ _ _ ?_)
            refine seq_ (fun _ K3609 => ?_)
            refine wp_block ?_
            refine seq_ (fun _ K3610 => ?_)
            refine reg_drawn (RB w3589.heap.size []) 17 (by kernel_rfl) (fun w3611 hd3612 => ?_)
            have e3613 := Evo.of_drew hd3612
            have z3614 : w3611.heap.size = w3589.heap.size := by rw [hd3612]
            clear hd3612
            have s3616 := Step.of0 X3590 e3613
            have er3615 := RB.refl w3589.heap.size [] w3611
            have E3617 := (Evo.then0 E3595 (Step.evo s3616))
            have hXo3618 := (Old.step hXo3596 s3616)
            have hS3619 := (Sub.trans hS3597 (Step.up s3616))
            have O3620 := (OS.step0 O3598 s3616)
            have k3621 := (OB.step0 k3599 s3616)
            have k3622 := (OB.step0 k3600 s3616)
            have k3623 := (OB.step0 k3601 s3616)
            have k3624 := (OB.step0 k3464 s3616)
            refine r_take 0 (.int .i64 i3460) (RB.pre _ _) rfl (by kernel_rfl) (fun _ _ _ h => hQ.panic _ _ _ _ _ h) (.inl ⟨rfl, fun wq hq => (by kernel_rfl)⟩) ?_
            obtain ⟨h3625, hp⟩ := hp
            refine r_take 1 (.int .i64 (i3460 - (15 : Int))) (RB.pre _ _) rfl (by kernel_rfl) (fun _ _ _ h => hQ.panic _ _ _ _ _ h) (.inl ⟨rfl, fun wq hq => (x_sub2 (k := .i64) (a := i3460) (b := (15 : Int)) (i3460 - (15 : Int)) (by kernel_rfl) (by kernel_rfl) (wrap_inR h3625))⟩) ?_
            obtain ⟨h3626, hp⟩ := hp
            refine r_take 2 (.pointer (some ⟨b3029, (i3460 - (15 : Int)).toNat, none⟩)) (RB.pre _ _) rfl (by kernel_rfl) (fun _ _ _ h => hQ.panic _ _ _ _ _ h) (.inl ⟨rfl, fun wq hq => (x_ixR (k := .i64) (i := i3460 - (15 : Int)) Try.underlying53 Try.sizeOf50 (by kernel_rfl) (by kernel_rfl) h3626)⟩) ?_
            refine r_take 3 (.int .u32 (lget f3462 (i3460 - (15 : Int)))) (RB.pre _ _) rfl (by kernel_rfl) (fun _ _ _ h => hQ.panic _ _ _ _ _ h) (.inl ⟨rfl, fun wq hq => (x_load1 (by kernel_rfl) Try.isAgg50 (Blk.acell (Blk.rb k3624.2.1 (RB.trans er3615 hq) (Nat.lt_of_lt_of_eq (Blk.lt k3624.2.1) z3614) (fun h => by cases h)) kf3463 h3626))⟩) ?_
            refine r_take 5 (.int .i64 i3460) (RB.pre _ _) rfl (by kernel_rfl) (fun _ _ _ h => hQ.panic _ _ _ _ _ h) (.inl ⟨rfl, fun wq hq => (by kernel_rfl)⟩) ?_
            obtain ⟨h3627, hp⟩ := hp
            refine r_take 6 (.int .i64 (i3460 - (15 : Int))) (RB.pre _ _) rfl (by kernel_rfl) (fun _ _ _ h => hQ.panic _ _ _ _ _ h) (.inl ⟨rfl, fun wq hq => (x_sub2 (k := .i64) (a := i3460) (b := (15 : Int)) (i3460 - (15 : Int)) (by kernel_rfl) (by kernel_rfl) (wrap_inR h3627))⟩) ?_
            obtain ⟨h3628, hp⟩ := hp
            refine r_take 7 (.pointer (some ⟨b3029, (i3460 - (15 : Int)).toNat, none⟩)) (RB.pre _ _) rfl (by kernel_rfl) (fun _ _ _ h => hQ.panic _ _ _ _ _ h) (.inl ⟨rfl, fun wq hq => (x_ixR (k := .i64) (i := i3460 - (15 : Int)) Try.underlying53 Try.sizeOf50 (by kernel_rfl) (by kernel_rfl) h3628)⟩) ?_
            refine r_take 8 (.int .u32 (lget f3462 (i3460 - (15 : Int)))) (RB.pre _ _) rfl (by kernel_rfl) (fun _ _ _ h => hQ.panic _ _ _ _ _ h) (.inl ⟨rfl, fun wq hq => (x_load1 (by kernel_rfl) Try.isAgg50 (Blk.acell (Blk.rb k3624.2.1 (RB.trans er3615 hq) (Nat.lt_of_lt_of_eq (Blk.lt k3624.2.1) z3614) (fun h => by cases h)) kf3463 h3628))⟩) ?_
            refine r_take 11 (.int .i64 i3460) (RB.pre _ _) rfl (by kernel_rfl) (fun _ _ _ h => hQ.panic _ _ _ _ _ h) (.inl ⟨rfl, fun wq hq => (by kernel_rfl)⟩) ?_
            obtain ⟨h3629, hp⟩ := hp
            refine r_take 12 (.int .i64 (i3460 - (15 : Int))) (RB.pre _ _) rfl (by kernel_rfl) (fun _ _ _ h => hQ.panic _ _ _ _ _ h) (.inl ⟨rfl, fun wq hq => (x_sub2 (k := .i64) (a := i3460) (b := (15 : Int)) (i3460 - (15 : Int)) (by kernel_rfl) (by kernel_rfl) (wrap_inR h3629))⟩) ?_
            obtain ⟨h3630, hp⟩ := hp
            refine r_take 13 (.pointer (some ⟨b3029, (i3460 - (15 : Int)).toNat, none⟩)) (RB.pre _ _) rfl (by kernel_rfl) (fun _ _ _ h => hQ.panic _ _ _ _ _ h) (.inl ⟨rfl, fun wq hq => (x_ixR (k := .i64) (i := i3460 - (15 : Int)) Try.underlying53 Try.sizeOf50 (by kernel_rfl) (by kernel_rfl) h3630)⟩) ?_
            refine r_take 14 (.int .u32 (lget f3462 (i3460 - (15 : Int)))) (RB.pre _ _) rfl (by kernel_rfl) (fun _ _ _ h => hQ.panic _ _ _ _ _ h) (.inl ⟨rfl, fun wq hq => (x_load1 (by kernel_rfl) Try.isAgg50 (Blk.acell (Blk.rb k3624.2.1 (RB.trans er3615 hq) (Nat.lt_of_lt_of_eq (Blk.lt k3624.2.1) z3614) (fun h => by cases h)) kf3463 h3630))⟩) ?_
            refine r_take 15 (.int .u32 (ishr .u32 (lget f3462 (i3460 - (15 : Int))) (3 : Int))) (RB.pre _ _) rfl (by kernel_rfl) (fun _ _ _ h => hQ.panic _ _ _ _ _ h) (.inl ⟨rfl, fun wq hq => (x_shr (k := .u32) (k' := .u64) (a := lget f3462 (i3460 - (15 : Int))) (b := (3 : Int)) (by kernel_rfl) (by kernel_rfl) (by decide))⟩) ?_
            refine r_ready [4] (by kernel_rfl) rfl (all_cons ⟨_, _, _, _, _, _, rfl, ?_⟩ all_nil)
            refine o_call 29 #[(.int .u32 (lget f3462 (i3460 - (15 : Int)))), (.int .i64 (7 : Int))] rfl (x_call Try.call29 (by kernel_rfl)) (rectoref2_turn_w (X := []) (x := lget f3462 (i3460 - (15 : Int))) (n_ := (7 : Int)) (Old.nil _) (okArr_get kf3463 h3626) (by decide) hp) ?_
            rintro _ w3632 ⟨r3631, hp, e3633, rfl, rr3635⟩
            have rm := RB.mono (F' := []) e3633 (Nat.le_trans (Nat.le_of_eq z3614.symm) (RB.size er3615)) (fun _ h => by cases h)
            have er3636 := RB.trans er3615 rm
            refine ⟨fun _ => rm, ?_⟩
            have s3634 := Step.of0 X3590 e3633
            replace hp := hp rr3635
            refine r_ready [9] (by kernel_rfl) rfl (all_cons ⟨_, _, _, _, _, _, rfl, ?_⟩ all_nil)
            refine o_call 29 #[(.int .u32 (lget f3462 (i3460 - (15 : Int)))), (.int .i64 (18 : Int))] rfl (x_call Try.call29 (by kernel_rfl)) (rectoref2_turn_w (X := []) (x := lget f3462 (i3460 - (15 : Int))) (n_ := (18 : Int)) (Old.nil _) (okArr_get kf3463 h3628) (by decide) hp) ?_
            rintro _ w3638 ⟨r3637, hp, e3639, rfl, rr3641⟩
            have rm := RB.mono (F' := []) e3639 (Nat.le_trans (Nat.le_of_eq z3614.symm) (RB.size er3636)) (fun _ h => by cases h)
            have er3642 := RB.trans er3636 rm
            refine ⟨fun _ => rm, ?_⟩
            have s3640 := Step.of0 X3590 e3639
            replace hp := hp rr3641
            refine r_take 10 (.int .u32 (ixor .u32 r3631 r3637)) (RB.pre _ _) rfl (by kernel_rfl) (fun _ _ _ h => hQ.panic _ _ _ _ _ h) (.inl ⟨rfl, fun wq hq => (x_xor (k := .u32) (a := r3631) (b := r3637) (by kernel_rfl) (by kernel_rfl))⟩) ?_
            obtain ⟨y3643, qy3643⟩ : ∃ y, y = (ixor .u32 (ixor .u32 r3631 r3637) (ishr .u32 (lget f3462 (i3460 - (15 : Int))) (3 : Int))) := ⟨_, rfl⟩
            replace hp := hp y3643 qy3643
            have r3644 : inR .u32 y3643 := by rw [qy3643]; exact (inR_ixor _ _ _)
            refine r_take 16 (.int .u32 y3643) (RB.pre _ _) rfl (by kernel_rfl) (fun _ _ _ h => hQ.panic _ _ _ _ _ h) (.inl ⟨rfl, fun wq hq => (by rw [qy3643]; exact (x_xor (k := .u32) (a := ixor .u32 r3631 r3637) (b := ishr .u32 (lget f3462 (i3460 - (15 : Int))) (3 : Int)) (by kernel_rfl) (by kernel_rfl)))⟩) ?_
            refine r_ready [17] (by kernel_rfl) rfl (all_cons ⟨_, _, _, _, _, _, rfl, ?_⟩ all_nil)
            refine o_pv (.int .u32 y3643) rfl (by kernel_rfl) ?_
            refine ⟨fun h => absurd h (by decide), ?_⟩
            refine r_done (by kernel_rfl) ?_
            refine then_normal (K3610 _ _ _ _ ?_)
            refine seq_ (fun _ K3645 => ?_)
            have E3646 := (Evo.then0 (Evo.then0 E3617 e3633) e3639)
            have hXo3647 := (Old.step (Old.step hXo3618 s3634) s3640)
            have hS3648 := (Sub.trans (Sub.trans hS3619 (Step.up s3634)) (Step.up s3640))
            have O3649 := (OS.step0 (OS.step0 O3620 s3634) s3640)
            have k3650 := (OB.step0 (OB.step0 k3621 s3634) s3640)
            have k3651 := (OB.step0 (OB.step0 k3622 s3634) s3640)
            have k3652 := (OB.step0 (OB.step0 k3623 s3634) s3640)
            have k3653 := (OB.step0 (OB.step0 k3624 s3634) s3640)
            refine reg_drawn (RB w3638.heap.size []) 17 (by kernel_rfl) (fun w3654 hd3655 => ?_)
            have e3656 := Evo.of_drew hd3655
            have z3657 : w3654.heap.size = w3638.heap.size := by rw [hd3655]
            clear hd3655
            have s3659 := Step.of0 X3590 e3656
            have er3658 := RB.refl w3638.heap.size [] w3654
            have E3660 := (Evo.then0 E3646 (Step.evo s3659))
            have hXo3661 := (Old.step hXo3647 s3659)
            have hS3662 := (Sub.trans hS3648 (Step.up s3659))
            have O3663 := (OS.step0 O3649 s3659)
            have k3664 := (OB.step0 k3650 s3659)
            have k3665 := (OB.step0 k3651 s3659)
            have k3666 := (OB.step0 k3652 s3659)
            have k3667 := (OB.step0 k3653 s3659)
            refine r_take 0 (.int .i64 i3460) (RB.pre _ _) rfl (by kernel_rfl) (fun _ _ _ h => hQ.panic _ _ _ _ _ h) (.inl ⟨rfl, fun wq hq => (by kernel_rfl)⟩) ?_
            obtain ⟨h3668, hp⟩ := hp
            refine r_take 1 (.int .i64 (i3460 - (2 : Int))) (RB.pre _ _) rfl (by kernel_rfl) (fun _ _ _ h => hQ.panic _ _ _ _ _ h) (.inl ⟨rfl, fun wq hq => (x_sub2 (k := .i64) (a := i3460) (b := (2 : Int)) (i3460 - (2 : Int)) (by kernel_rfl) (by kernel_rfl) (wrap_inR h3668))⟩) ?_
            obtain ⟨h3669, hp⟩ := hp
            refine r_take 2 (.pointer (some ⟨b3029, (i3460 - (2 : Int)).toNat, none⟩)) (RB.pre _ _) rfl (by kernel_rfl) (fun _ _ _ h => hQ.panic _ _ _ _ _ h) (.inl ⟨rfl, fun wq hq => (x_ixR (k := .i64) (i := i3460 - (2 : Int)) Try.underlying53 Try.sizeOf50 (by kernel_rfl) (by kernel_rfl) h3669)⟩) ?_
            refine r_take 3 (.int .u32 (lget f3462 (i3460 - (2 : Int)))) (RB.pre _ _) rfl (by kernel_rfl) (fun _ _ _ h => hQ.panic _ _ _ _ _ h) (.inl ⟨rfl, fun wq hq => (x_load1 (by kernel_rfl) Try.isAgg50 (Blk.acell (Blk.rb k3667.2.1 (RB.trans er3658 hq) (Nat.lt_of_lt_of_eq (Blk.lt k3667.2.1) z3657) (fun h => by cases h)) kf3463 h3669))⟩) ?_
            refine r_take 5 (.int .i64 i3460) (RB.pre _ _) rfl (by kernel_rfl) (fun _ _ _ h => hQ.panic _ _ _ _ _ h) (.inl ⟨rfl, fun wq hq => (by kernel_rfl)⟩) ?_
            obtain ⟨h3670, hp⟩ := hp
            refine r_take 6 (.int .i64 (i3460 - (2 : Int))) (RB.pre _ _) rfl (by kernel_rfl) (fun _ _ _ h => hQ.panic _ _ _ _ _ h) (.inl ⟨rfl, fun wq hq => (x_sub2 (k := .i64) (a := i3460) (b := (2 : Int)) (i3460 - (2 : Int)) (by kernel_rfl) (by kernel_rfl) (wrap_inR h3670))⟩) ?_
            obtain ⟨h3671, hp⟩ := hp
            refine r_take 7 (.pointer (some ⟨b3029, (i3460 - (2 : Int)).toNat, none⟩)) (RB.pre _ _) rfl (by kernel_rfl) (fun _ _ _ h => hQ.panic _ _ _ _ _ h) (.inl ⟨rfl, fun wq hq => (x_ixR (k := .i64) (i := i3460 - (2 : Int)) Try.underlying53 Try.sizeOf50 (by kernel_rfl) (by kernel_rfl) h3671)⟩) ?_
            refine r_take 8 (.int .u32 (lget f3462 (i3460 - (2 : Int)))) (RB.pre _ _) rfl (by kernel_rfl) (fun _ _ _ h => hQ.panic _ _ _ _ _ h) (.inl ⟨rfl, fun wq hq => (x_load1 (by kernel_rfl) Try.isAgg50 (Blk.acell (Blk.rb k3667.2.1 (RB.trans er3658 hq) (Nat.lt_of_lt_of_eq (Blk.lt k3667.2.1) z3657) (fun h => by cases h)) kf3463 h3671))⟩) ?_
            refine r_take 11 (.int .i64 i3460) (RB.pre _ _) rfl (by kernel_rfl) (fun _ _ _ h => hQ.panic _ _ _ _ _ h) (.inl ⟨rfl, fun wq hq => (by kernel_rfl)⟩) ?_
            obtain ⟨h3672, hp⟩ := hp
            refine r_take 12 (.int .i64 (i3460 - (2 : Int))) (RB.pre _ _) rfl (by kernel_rfl) (fun _ _ _ h => hQ.panic _ _ _ _ _ h) (.inl ⟨rfl, fun wq hq => (x_sub2 (k := .i64) (a := i3460) (b := (2 : Int)) (i3460 - (2 : Int)) (by kernel_rfl) (by kernel_rfl) (wrap_inR h3672))⟩) ?_
            obtain ⟨h3673, hp⟩ := hp
            refine r_take 13 (.pointer (some ⟨b3029, (i3460 - (2 : Int)).toNat, none⟩)) (RB.pre _ _) rfl (by kernel_rfl) (fun _ _ _ h => hQ.panic _ _ _ _ _ h) (.inl ⟨rfl, fun wq hq => (x_ixR (k := .i64) (i := i3460 - (2 : Int)) Try.underlying53 Try.sizeOf50 (by kernel_rfl) (by kernel_rfl) h3673)⟩) ?_
            refine r_take 14 (.int .u32 (lget f3462 (i3460 - (2 : Int)))) (RB.pre _ _) rfl (by kernel_rfl) (fun _ _ _ h => hQ.panic _ _ _ _ _ h) (.inl ⟨rfl, fun wq hq => (x_load1 (by kernel_rfl) Try.isAgg50 (Blk.acell (Blk.rb k3667.2.1 (RB.trans er3658 hq) (Nat.lt_of_lt_of_eq (Blk.lt k3667.2.1) z3657) (fun h => by cases h)) kf3463 h3673))⟩) ?_
            refine r_take 15 (.int .u32 (ishr .u32 (lget f3462 (i3460 - (2 : Int))) (10 : Int))) (RB.pre _ _) rfl (by kernel_rfl) (fun _ _ _ h => hQ.panic _ _ _ _ _ h) (.inl ⟨rfl, fun wq hq => (x_shr (k := .u32) (k' := .u64) (a := lget f3462 (i3460 - (2 : Int))) (b := (10 : Int)) (by kernel_rfl) (by kernel_rfl) (by decide))⟩) ?_
            refine r_ready [4] (by kernel_rfl) rfl (all_cons ⟨_, _, _, _, _, _, rfl, ?_⟩ all_nil)
            refine o_call 29 #[(.int .u32 (lget f3462 (i3460 - (2 : Int)))), (.int .i64 (17 : Int))] rfl (x_call Try.call29 (by kernel_rfl)) (rectoref2_turn_w (X := []) (x := lget f3462 (i3460 - (2 : Int))) (n_ := (17 : Int)) (Old.nil _) (okArr_get kf3463 h3669) (by decide) hp) ?_
            rintro _ w3675 ⟨r3674, hp, e3676, rfl, rr3678⟩
            have rm := RB.mono (F' := []) e3676 (Nat.le_trans (Nat.le_of_eq z3657.symm) (RB.size er3658)) (fun _ h => by cases h)
            have er3679 := RB.trans er3658 rm
            refine ⟨fun _ => rm, ?_⟩
            have s3677 := Step.of0 X3590 e3676
            replace hp := hp rr3678
            refine r_ready [9] (by kernel_rfl) rfl (all_cons ⟨_, _, _, _, _, _, rfl, ?_⟩ all_nil)
            refine o_call 29 #[(.int .u32 (lget f3462 (i3460 - (2 : Int)))), (.int .i64 (19 : Int))] rfl (x_call Try.call29 (by kernel_rfl)) (rectoref2_turn_w (X := []) (x := lget f3462 (i3460 - (2 : Int))) (n_ := (19 : Int)) (Old.nil _) (okArr_get kf3463 h3671) (by decide) hp) ?_
            rintro _ w3681 ⟨r3680, hp, e3682, rfl, rr3684⟩
            have rm := RB.mono (F' := []) e3682 (Nat.le_trans (Nat.le_of_eq z3657.symm) (RB.size er3679)) (fun _ h => by cases h)
            have er3685 := RB.trans er3679 rm
            refine ⟨fun _ => rm, ?_⟩
            have s3683 := Step.of0 X3590 e3682
            replace hp := hp rr3684
            refine r_take 10 (.int .u32 (ixor .u32 r3674 r3680)) (RB.pre _ _) rfl (by kernel_rfl) (fun _ _ _ h => hQ.panic _ _ _ _ _ h) (.inl ⟨rfl, fun wq hq => (x_xor (k := .u32) (a := r3674) (b := r3680) (by kernel_rfl) (by kernel_rfl))⟩) ?_
            obtain ⟨y3686, qy3686⟩ : ∃ y, y = (ixor .u32 (ixor .u32 r3674 r3680) (ishr .u32 (lget f3462 (i3460 - (2 : Int))) (10 : Int))) := ⟨_, rfl⟩
            replace hp := hp y3686 qy3686
            have r3687 : inR .u32 y3686 := by rw [qy3686]; exact (inR_ixor _ _ _)
            refine r_take 16 (.int .u32 y3686) (RB.pre _ _) rfl (by kernel_rfl) (fun _ _ _ h => hQ.panic _ _ _ _ _ h) (.inl ⟨rfl, fun wq hq => (by rw [qy3686]; exact (x_xor (k := .u32) (a := ixor .u32 r3674 r3680) (b := ishr .u32 (lget f3462 (i3460 - (2 : Int))) (10 : Int)) (by kernel_rfl) (by kernel_rfl)))⟩) ?_
            refine r_ready [17] (by kernel_rfl) rfl (all_cons ⟨_, _, _, _, _, _, rfl, ?_⟩ all_nil)
            refine o_pv (.int .u32 y3686) rfl (by kernel_rfl) ?_
            refine ⟨fun h => absurd h (by decide), ?_⟩
            refine r_done (by kernel_rfl) ?_
            refine then_normal (K3645 _ _ _ _ ?_)
            have E3688 := (Evo.then0 (Evo.then0 E3660 e3676) e3682)
            have hXo3689 := (Old.step (Old.step hXo3661 s3677) s3683)
            have hS3690 := (Sub.trans (Sub.trans hS3662 (Step.up s3677)) (Step.up s3683))
            have O3691 := (OS.step0 (OS.step0 O3663 s3677) s3683)
            have k3692 := (OB.step0 (OB.step0 k3664 s3677) s3683)
            have k3693 := (OB.step0 (OB.step0 k3665 s3677) s3683)
            have k3694 := (OB.step0 (OB.step0 k3666 s3677) s3683)
            have k3695 := (OB.step0 (OB.step0 k3667 s3677) s3683)
            refine reg_drawn (RB w3681.heap.size []) 15 (by kernel_rfl) (fun w3696 hd3697 => ?_)
            have e3698 := Evo.of_drew hd3697
            have z3699 : w3696.heap.size = w3681.heap.size := by rw [hd3697]
            clear hd3697
            have s3701 := Step.of0 X3590 e3698
            have er3700 := RB.refl w3681.heap.size [] w3696
            have E3702 := (Evo.then0 E3688 (Step.evo s3701))
            have hXo3703 := (Old.step hXo3689 s3701)
            have hS3704 := (Sub.trans hS3690 (Step.up s3701))
            have O3705 := (OS.step0 O3691 s3701)
            have k3706 := (OB.step0 k3692 s3701)
            have k3707 := (OB.step0 k3693 s3701)
            have k3708 := (OB.step0 k3694 s3701)
            have k3709 := (OB.step0 k3695 s3701)
            refine r_take 0 (.int .i64 i3460) (RB.pre _ _) rfl (by kernel_rfl) (fun _ _ _ h => hQ.panic _ _ _ _ _ h) (.inl ⟨rfl, fun wq hq => (by kernel_rfl)⟩) ?_
            refine r_take 1 (.int .i64 i3460) (RB.pre _ _) rfl (by kernel_rfl) (fun _ _ _ h => hQ.panic _ _ _ _ _ h) (.inl ⟨rfl, fun wq hq => (by kernel_rfl)⟩) ?_
            obtain ⟨h3710, hp⟩ := hp
            refine r_take 2 (.int .i64 (i3460 - (16 : Int))) (RB.pre _ _) rfl (by kernel_rfl) (fun _ _ _ h => hQ.panic _ _ _ _ _ h) (.inl ⟨rfl, fun wq hq => (x_sub2 (k := .i64) (a := i3460) (b := (16 : Int)) (i3460 - (16 : Int)) (by kernel_rfl) (by kernel_rfl) (wrap_inR h3710))⟩) ?_
            obtain ⟨h3711, hp⟩ := hp
            refine r_take 3 (.pointer (some ⟨b3029, (i3460 - (16 : Int)).toNat, none⟩)) (RB.pre _ _) rfl (by kernel_rfl) (fun _ _ _ h => hQ.panic _ _ _ _ _ h) (.inl ⟨rfl, fun wq hq => (x_ixR (k := .i64) (i := i3460 - (16 : Int)) Try.underlying53 Try.sizeOf50 (by kernel_rfl) (by kernel_rfl) h3711)⟩) ?_
            refine r_take 4 (.int .u32 (lget f3462 (i3460 - (16 : Int)))) (RB.pre _ _) rfl (by kernel_rfl) (fun _ _ _ h => hQ.panic _ _ _ _ _ h) (.inl ⟨rfl, fun wq hq => (x_load1 (by kernel_rfl) Try.isAgg50 (Blk.acell (Blk.rb k3709.2.1 (RB.trans er3700 hq) (Nat.lt_of_lt_of_eq (Blk.lt k3709.2.1) z3699) (fun h => by cases h)) kf3463 h3711))⟩) ?_
            refine r_take 5 (.int .u32 y3643) (RB.pre _ _) rfl (by kernel_rfl) (fun _ _ _ h => hQ.panic _ _ _ _ _ h) (.inl ⟨rfl, fun wq hq => (by kernel_rfl)⟩) ?_
            refine r_take 6 (.int .u32 (((lget f3462 (i3460 - (16 : Int))) + y3643) % 4294967296)) (RB.pre _ _) rfl (by kernel_rfl) (fun _ _ _ h => hQ.panic _ _ _ _ _ h) (.inl ⟨rfl, fun wq hq => (x_add2 (k := .u32) (a := lget f3462 (i3460 - (16 : Int))) (b := y3643) (((lget f3462 (i3460 - (16 : Int))) + y3643) % 4294967296) (by kernel_rfl) (by kernel_rfl) (wrap_u32_mod _))⟩) ?_
            refine r_take 7 (.int .i64 i3460) (RB.pre _ _) rfl (by kernel_rfl) (fun _ _ _ h => hQ.panic _ _ _ _ _ h) (.inl ⟨rfl, fun wq hq => (by kernel_rfl)⟩) ?_
            obtain ⟨h3712, hp⟩ := hp
            refine r_take 8 (.int .i64 (i3460 - (7 : Int))) (RB.pre _ _) rfl (by kernel_rfl) (fun _ _ _ h => hQ.panic _ _ _ _ _ h) (.inl ⟨rfl, fun wq hq => (x_sub2 (k := .i64) (a := i3460) (b := (7 : Int)) (i3460 - (7 : Int)) (by kernel_rfl) (by kernel_rfl) (wrap_inR h3712))⟩) ?_
            obtain ⟨h3713, hp⟩ := hp
            refine r_take 9 (.pointer (some ⟨b3029, (i3460 - (7 : Int)).toNat, none⟩)) (RB.pre _ _) rfl (by kernel_rfl) (fun _ _ _ h => hQ.panic _ _ _ _ _ h) (.inl ⟨rfl, fun wq hq => (x_ixR (k := .i64) (i := i3460 - (7 : Int)) Try.underlying53 Try.sizeOf50 (by kernel_rfl) (by kernel_rfl) h3713)⟩) ?_
            refine r_take 10 (.int .u32 (lget f3462 (i3460 - (7 : Int)))) (RB.pre _ _) rfl (by kernel_rfl) (fun _ _ _ h => hQ.panic _ _ _ _ _ h) (.inl ⟨rfl, fun wq hq => (x_load1 (by kernel_rfl) Try.isAgg50 (Blk.acell (Blk.rb k3709.2.1 (RB.trans er3700 hq) (Nat.lt_of_lt_of_eq (Blk.lt k3709.2.1) z3699) (fun h => by cases h)) kf3463 h3713))⟩) ?_
            obtain ⟨y3714, qy3714⟩ : ∃ y, y = (((((lget f3462 (i3460 - (16 : Int))) + y3643) % 4294967296) + (lget f3462 (i3460 - (7 : Int)))) % 4294967296) := ⟨_, rfl⟩
            replace hp := hp y3714 qy3714
            have r3715 : inR .u32 y3714 := by rw [qy3714]; exact (inR_u32_mod _)
            refine r_take 11 (.int .u32 y3714) (RB.pre _ _) rfl (by kernel_rfl) (fun _ _ _ h => hQ.panic _ _ _ _ _ h) (.inl ⟨rfl, fun wq hq => (by rw [qy3714]; exact (x_add2 (k := .u32) (a := ((lget f3462 (i3460 - (16 : Int))) + y3643) % 4294967296) (b := lget f3462 (i3460 - (7 : Int))) (((((lget f3462 (i3460 - (16 : Int))) + y3643) % 4294967296) + (lget f3462 (i3460 - (7 : Int)))) % 4294967296) (by kernel_rfl) (by kernel_rfl) (wrap_u32_mod _)))⟩) ?_
            refine r_take 12 (.int .u32 y3686) (RB.pre _ _) rfl (by kernel_rfl) (fun _ _ _ h => hQ.panic _ _ _ _ _ h) (.inl ⟨rfl, fun wq hq => (by kernel_rfl)⟩) ?_
            refine r_take 13 (.int .u32 ((y3714 + y3686) % 4294967296)) (RB.pre _ _) rfl (by kernel_rfl) (fun _ _ _ h => hQ.panic _ _ _ _ _ h) (.inl ⟨rfl, fun wq hq => (x_add2 (k := .u32) (a := y3714) (b := y3686) ((y3714 + y3686) % 4294967296) (by kernel_rfl) (by kernel_rfl) (wrap_u32_mod _))⟩) ?_
            obtain ⟨h3716, hp⟩ := hp
            refine r_take 14 (.pointer (some ⟨b3029, i3460.toNat, none⟩)) (RB.pre _ _) rfl (by kernel_rfl) (fun _ _ _ h => hQ.panic _ _ _ _ _ h) (.inl ⟨rfl, fun wq hq => (x_ixR (k := .i64) (i := i3460) Try.underlying53 Try.sizeOf50 (by kernel_rfl) (by kernel_rfl) h3716)⟩) ?_
            refine r_ready [15] (by kernel_rfl) rfl (all_cons ⟨_, _, _, _, _, _, rfl, ?_⟩ all_nil)
            refine o_stA (k := .u32) (i := i3460) (v := (y3714 + y3686) % 4294967296) (e := f3462) rfl k3709 (by kernel_rfl) (by kernel_rfl) Try.sizeOf50 kf3463 h3716 ?_
            intro w3717 s3718 k3719
            refine ⟨fun h => absurd h (by decide), ?_⟩
            refine r_done (by kernel_rfl) ?_
            refine blk_normal ?_
            refine then_normal (K3609 _ _ _ _ ?_)
            refine reg_ ?_
            refine sq (o_pv (.int .i64 i3460) rfl (by kernel_rfl) ?_)
            obtain ⟨h3720, hp⟩ := hp
            refine sq (o_pv (.int .i64 (i3460 + (1 : Int))) rfl (x_add2 (k := .i64) (a := i3460) (b := (1 : Int)) (i3460 + (1 : Int)) (by kernel_rfl) (by kernel_rfl) (wrap_inR h3720)) ?_)
            refine sq (o_pv (.int .i64 (i3460 + (1 : Int))) rfl (by kernel_rfl) ?_)
            refine nil_ ?_
            have E3721 := (Evo.thenW E3702 (Step.evo s3718) k3709.2.2)
            have hXo3722 := (Old.step hXo3703 s3718)
            have hS3723 := (Sub.trans hS3704 (Step.up s3718))
            have O3724 := (OS.step O3705 s3718 p3605)
            have k3725 := (OB.step k3706 s3718 p3036)
            have k3726 := (OB.step k3707 s3718 p3038)
            have k3727 := (OB.step k3708 s3718 p3037)
            refine then_normal (hA3594 _ _ _ ⟨_, [(12, (.int .i64 (i3460 + (1 : Int))))], hp.2, fit_mk (AgB.mix _ _ _) (by kernel_rfl) (vs_cons (by kernel_rfl) vs_nil), ?_⟩)
            exact ⟨X3590, (i3460 + (1 : Int)), (lset f3462 i3460 ((y3714 + y3686) % 4294967296)), rfl, rfl, E3721, hXo3722, hS3723, O3724, k3725, k3726, k3727, k3719, p3602, p3603, p3604, p3605, h3720, (okArr_set kf3463 (inR_u32_mod _)), hp.1⟩
          ·
            replace hp := hp.2 h3608
            refine wp_exit ?_
            refine then_exit ?_
            refine then_exit ?_
            refine blk_exit ?_
            refine then_normal (K3336 _ _ _ _ ?_)
            refine seq_ (fun _ K3728 => ?_)
            refine reg_ ?_
            refine sq (o_pv (.agg (f1708.map (Value.int .u32)).toArray) rfl (x_loadA f1708 (by kernel_rfl) Try.isAgg51 Try.sizeOf51 kf1709 (Blk.awhole k3600.2.1)) ?_)
            refine sq (o_newX ((List.replicate 8 (0 : Int)).map (Value.int .u32)) 51 (X := X3590) (B := w.heap.size) E3595.size rfl (by kernel_rfl) ?_)
            intro b3729 w3730 X3731 s3732 k3733 n3734
            have p3735 := n3734 _ (OS.old O3598)
            have p3736 := n3734 _ (OB.old k3599)
            have p3737 := n3734 _ (OB.old k3600)
            have p3738 := n3734 _ (OB.old k3601)
            have p3739 := n3734 _ (OB.old k3464)
            have O3740 := (OS.step0 O3598 s3732)
            have k3741 := (OB.step0 k3599 s3732)
            have k3742 := (OB.step0 k3600 s3732)
            have k3743 := (OB.step0 k3601 s3732)
            have k3744 := (OB.step0 k3464 s3732)
            have E3745 := (Evo.then0 E3595 (Step.evo s3732))
            refine sq (o_stW (k := .u32) (e := (List.replicate 8 (0 : Int))) (e' := f1708) rfl k3733 (by kernel_rfl) (by kernel_rfl) Try.sizeOf51 (okArr_rep _ _) kf1709 ?_)
            intro w3746 s3747 k3748
            refine nil_ ?_
            refine then_normal (K3728 _ _ _ _ ?_)
            refine seq_ (fun _ K3749 => ?_)
            refine seq_ (fun _ K3750 => ?_)
            refine reg_ ?_
            refine sq (o_pv (.int .i64 (0 : Int)) rfl (by kernel_rfl) ?_)
            refine nil_ ?_
            refine then_normal (K3750 _ _ _ _ ?_)
            refine wp_block ?_
            have E4030 := (Evo.thenW E3745 (Step.evo s3747) k3733.2.2)
            have hXo4031 := (Old.step (Old.step hXo3596 s3732) s3747)
            have hS4032 := (Sub.trans (Sub.trans hS3597 (Step.up s3732)) (Step.up s3747))
            have O4033 := (OS.step O3740 s3747 p3735)
            have k4034 := (OB.step k3741 s3747 p3736)
            have k4035 := (OB.step k3742 s3747 p3737)
            have k4036 := (OB.step k3743 s3747 p3738)
            have k4037 := (OB.step k3744 s3747 p3739)
            obtain ⟨I4020, m4021, hI4022, hp⟩ := hp
            refine loop_ 113078212145816597093331040001874858846368253206174462297398952518483902464 (fun kq lq w4024 => ∃ (X4025 : List Nat) (i3884 : Int) (f3886 : (List Int)), (lq = [(16, (.int .i64 i3884))]) ∧ (kq = m4021 i3884 f3886) ∧ (Evo [] w w4024) ∧ (Old X4025 w4024) ∧ (Sub X X4025) ∧ (OS (rInt .u8) ([]) w.heap.size X4025 w4024 5 a302 n303 c304 m301) ∧ (OB ([]) w.heap.size X4025 w4024 b5 ((List.replicate 32 (0 : Int)).map (Value.int .u8)) 32) ∧ (OB ([]) w.heap.size X4025 w4024 b12 (f1708.map (Value.int .u32)) 51) ∧ (OB ([]) w.heap.size X4025 w4024 b33 (r28.map (Value.int .u32)) 53) ∧ (OB ([]) w.heap.size X4025 w4024 b3029 (f3462.map (Value.int .u32)) 53) ∧ (OB ([]) w.heap.size X4025 w4024 b3729 (f3886.map (Value.int .u32)) 51) ∧ (Ap (blkL a302) ([b5])) ∧ (Ap (blkL a302) ([b12])) ∧ (Ap (blkL a302) ([b33])) ∧ (Ap (blkL a302) ([b3029])) ∧ (Ap (blkL a302) ([b3729])) ∧ (inR .i64 i3884) ∧ (okArr .u32 8 f3886) ∧ (I4020 i3884 f3886)) (m4021 (0 : Int) f1708) [(16, (.int .i64 (0 : Int)))] (vs_cons (by kernel_rfl) vs_nil) ⟨X3731, (0 : Int), f1708, rfl, rfl, E4030, hXo4031, hS4032, O4033, k4034, k4035, k4036, k4037, k3748, p3602, p3603, p3604, p3605, p3735, (by decide), kf1709, hI4022⟩ ?_
            rintro _ _ w4024 g4027 ⟨X4025, i3884, f3886, rfl, rfl, E4038, hXo4039, hS4040, O4041, k4042, k4043, k4044, k4045, k3888, p4046, p4047, p4048, p4049, p4050, ri3885, kf3887, hI4023⟩ Kl4028 hA4029
            replace hp := hp i3884 f3886 hI4023 ri3885 kf3887
            refine seq_ (fun _ K4051 => ?_)
            refine seq_ (fun _ K4052 => ?_)
            refine reg_ ?_
            refine sq (o_pv (.int .i64 i3884) rfl (by kernel_rfl) ?_)
            refine sq (o_pv (.bool (decide (i3884 < (64 : Int)))) rfl (by kernel_rfl) ?_)
            refine nil_ ?_
            refine then_normal (K4052 _ _ _ _ ?_)
            refine cond_d (i3884 < (64 : Int)) (by kernel_rfl) (fun h4053 => ?_) (fun h4053 => ?_)
            ·
              replace hp := hp.1 h4053
              refine wp_skip ?_
              refine then_normal (K4051 _ _ _ _ ?_)
              refine seq_ (fun _ K4054 => ?_)
              refine wp_block ?_
              refine seq_ (fun _ K4055 => ?_)
              refine reg_drawn (RB w4024.heap.size []) 11 (by kernel_rfl) (fun w4056 hd4057 => ?_)
              have e4058 := Evo.of_drew hd4057
              have z4059 : w4056.heap.size = w4024.heap.size := by rw [hd4057]
              clear hd4057
              have s4061 := Step.of0 X4025 e4058
              have er4060 := RB.refl w4024.heap.size [] w4056
              have E4062 := (Evo.then0 E4038 (Step.evo s4061))
              have hXo4063 := (Old.step hXo4039 s4061)
              have hS4064 := (Sub.trans hS4040 (Step.up s4061))
              have O4065 := (OS.step0 O4041 s4061)
              have k4066 := (OB.step0 k4042 s4061)
              have k4067 := (OB.step0 k4043 s4061)
              have k4068 := (OB.step0 k4044 s4061)
              have k4069 := (OB.step0 k4045 s4061)
              have k4070 := (OB.step0 k3888 s4061)
              refine r_take 0 (.pointer (some ⟨b3729, (4 : Int).toNat, none⟩)) (RB.pre _ _) rfl (by kernel_rfl) (fun _ _ _ h => hQ.panic _ _ _ _ _ h) (.inl ⟨rfl, fun wq hq => (x_ixR (k := .i64) (i := (4 : Int)) Try.underlying51 Try.sizeOf50 (by kernel_rfl) (by kernel_rfl) (by decide))⟩) ?_
              refine r_take 1 (.int .u32 (lget f3886 (4 : Int))) (RB.pre _ _) rfl (by kernel_rfl) (fun _ _ _ h => hQ.panic _ _ _ _ _ h) (.inl ⟨rfl, fun wq hq => (x_load1 (by kernel_rfl) Try.isAgg50 (Blk.acell (Blk.rb k4070.2.1 (RB.trans er4060 hq) (Nat.lt_of_lt_of_eq (Blk.lt k4070.2.1) z4059) (fun h => by cases h)) kf3887 (by decide)))⟩) ?_
              refine r_take 3 (.pointer (some ⟨b3729, (4 : Int).toNat, none⟩)) (RB.pre _ _) rfl (by kernel_rfl) (fun _ _ _ h => hQ.panic _ _ _ _ _ h) (.inl ⟨rfl, fun wq hq => (x_ixR (k := .i64) (i := (4 : Int)) Try.underlying51 Try.sizeOf50 (by kernel_rfl) (by kernel_rfl) (by decide))⟩) ?_
              refine r_take 4 (.int .u32 (lget f3886 (4 : Int))) (RB.pre _ _) rfl (by kernel_rfl) (fun _ _ _ h => hQ.panic _ _ _ _ _ h) (.inl ⟨rfl, fun wq hq => (x_load1 (by kernel_rfl) Try.isAgg50 (Blk.acell (Blk.rb k4070.2.1 (RB.trans er4060 hq) (Nat.lt_of_lt_of_eq (Blk.lt k4070.2.1) z4059) (fun h => by cases h)) kf3887 (by decide)))⟩) ?_
              refine r_take 7 (.pointer (some ⟨b3729, (4 : Int).toNat, none⟩)) (RB.pre _ _) rfl (by kernel_rfl) (fun _ _ _ h => hQ.panic _ _ _ _ _ h) (.inl ⟨rfl, fun wq hq => (x_ixR (k := .i64) (i := (4 : Int)) Try.underlying51 Try.sizeOf50 (by kernel_rfl) (by kernel_rfl) (by decide))⟩) ?_
              refine r_take 8 (.int .u32 (lget f3886 (4 : Int))) (RB.pre _ _) rfl (by kernel_rfl) (fun _ _ _ h => hQ.panic _ _ _ _ _ h) (.inl ⟨rfl, fun wq hq => (x_load1 (by kernel_rfl) Try.isAgg50 (Blk.acell (Blk.rb k4070.2.1 (RB.trans er4060 hq) (Nat.lt_of_lt_of_eq (Blk.lt k4070.2.1) z4059) (fun h => by cases h)) kf3887 (by decide)))⟩) ?_
              refine r_ready [2] (by kernel_rfl) rfl (all_cons ⟨_, _, _, _, _, _, rfl, ?_⟩ all_nil)
              refine o_call 29 #[(.int .u32 (lget f3886 (4 : Int))), (.int .i64 (6 : Int))] rfl (x_call Try.call29 (by kernel_rfl)) (rectoref2_turn_w (X := []) (x := lget f3886 (4 : Int)) (n_ := (6 : Int)) (Old.nil _) (okArr_get kf3887 (by decide)) (by decide) hp) ?_
              rintro _ w4072 ⟨r4071, hp, e4073, rfl, rr4075⟩
              have rm := RB.mono (F' := []) e4073 (Nat.le_trans (Nat.le_of_eq z4059.symm) (RB.size er4060)) (fun _ h => by cases h)
              have er4076 := RB.trans er4060 rm
              refine ⟨fun _ => rm, ?_⟩
              have s4074 := Step.of0 X4025 e4073
              replace hp := hp rr4075
              refine r_ready [5] (by kernel_rfl) rfl (all_cons ⟨_, _, _, _, _, _, rfl, ?_⟩ all_nil)
              refine o_call 29 #[(.int .u32 (lget f3886 (4 : Int))), (.int .i64 (11 : Int))] rfl (x_call Try.call29 (by kernel_rfl)) (rectoref2_turn_w (X := []) (x := lget f3886 (4 : Int)) (n_ := (11 : Int)) (Old.nil _) (okArr_get kf3887 (by decide)) (by decide) hp) ?_
              rintro _ w4078 ⟨r4077, hp, e4079, rfl, rr4081⟩
              have rm := RB.mono (F' := []) e4079 (Nat.le_trans (Nat.le_of_eq z4059.symm) (RB.size er4076)) (fun _ h => by cases h)
              have er4082 := RB.trans er4076 rm
              refine ⟨fun _ => rm, ?_⟩
              have s4080 := Step.of0 X4025 e4079
              replace hp := hp rr4081
              refine r_take 6 (.int .u32 (ixor .u32 r4071 r4077)) (RB.pre _ _) rfl (by kernel_rfl) (fun _ _ _ h => hQ.panic _ _ _ _ _ h) (.inl ⟨rfl, fun wq hq => (x_xor (k := .u32) (a := r4071) (b := r4077) (by kernel_rfl) (by kernel_rfl))⟩) ?_
              refine r_ready [9] (by kernel_rfl) rfl (all_cons ⟨_, _, _, _, _, _, rfl, ?_⟩ all_nil)
              refine o_call 29 #[(.int .u32 (lget f3886 (4 : Int))), (.int .i64 (25 : Int))] rfl (x_call Try.call29 (by kernel_rfl)) (rectoref2_turn_w (X := []) (x := lget f3886 (4 : Int)) (n_ := (25 : Int)) (Old.nil _) (okArr_get kf3887 (by decide)) (by decide) hp) ?_
              rintro _ w4084 ⟨r4083, hp, e4085, rfl, rr4087⟩
              have rm := RB.mono (F' := []) e4085 (Nat.le_trans (Nat.le_of_eq z4059.symm) (RB.size er4082)) (fun _ h => by cases h)
              have er4088 := RB.trans er4082 rm
              refine ⟨fun _ => rm, ?_⟩
              have s4086 := Step.of0 X4025 e4085
              replace hp := hp rr4087
              refine r_take 10 (.int .u32 (ixor .u32 (ixor .u32 r4071 r4077) r4083)) (RB.pre _ _) rfl (by kernel_rfl) (fun _ _ _ h => hQ.panic _ _ _ _ _ h) (.inl ⟨rfl, fun wq hq => (x_xor (k := .u32) (a := ixor .u32 r4071 r4077) (b := r4083) (by kernel_rfl) (by kernel_rfl))⟩) ?_
              refine r_ready [11] (by kernel_rfl) rfl (all_cons ⟨_, _, _, _, _, _, rfl, ?_⟩ all_nil)
              refine o_pv (.int .u32 (ixor .u32 (ixor .u32 r4071 r4077) r4083)) rfl (by kernel_rfl) ?_
              refine ⟨fun h => absurd h (by decide), ?_⟩
              refine r_done (by kernel_rfl) ?_
              refine then_normal (K4055 _ _ _ _ ?_)
              refine seq_ (fun _ K4089 => ?_)
              refine reg_ ?_
              refine sq (o_pv (.pointer (some ⟨b3729, (4 : Int).toNat, none⟩)) rfl (x_ixR (k := .i64) (i := (4 : Int)) Try.underlying51 Try.sizeOf50 (by kernel_rfl) (by kernel_rfl) (by decide)) ?_)
              have k4090 := (OB.step0 (OB.step0 (OB.step0 k4070 s4074) s4080) s4086)
              refine sq (o_pv (.int .u32 (lget f3886 (4 : Int))) rfl (x_load1 (by kernel_rfl) Try.isAgg50 (Blk.acell k4090.2.1 kf3887 (by decide))) ?_)
              refine sq (o_pv (.pointer (some ⟨b3729, (5 : Int).toNat, none⟩)) rfl (x_ixR (k := .i64) (i := (5 : Int)) Try.underlying51 Try.sizeOf50 (by kernel_rfl) (by kernel_rfl) (by decide)) ?_)
              refine sq (o_pv (.int .u32 (lget f3886 (5 : Int))) rfl (x_load1 (by kernel_rfl) Try.isAgg50 (Blk.acell k4090.2.1 kf3887 (by decide))) ?_)
              refine sq (o_pv (.int .u32 (iand .u32 (lget f3886 (4 : Int)) (lget f3886 (5 : Int)))) rfl (x_and (k := .u32) (a := lget f3886 (4 : Int)) (b := lget f3886 (5 : Int)) (by kernel_rfl) (by kernel_rfl)) ?_)
              refine sq (o_pv (.pointer (some ⟨b3729, (4 : Int).toNat, none⟩)) rfl (x_ixR (k := .i64) (i := (4 : Int)) Try.underlying51 Try.sizeOf50 (by kernel_rfl) (by kernel_rfl) (by decide)) ?_)
              refine sq (o_pv (.int .u32 (lget f3886 (4 : Int))) rfl (x_load1 (by kernel_rfl) Try.isAgg50 (Blk.acell k4090.2.1 kf3887 (by decide))) ?_)
              refine sq (o_pv (.int .u32 (inot .u32 (lget f3886 (4 : Int)))) rfl (x_bnot (k := .u32) (a := lget f3886 (4 : Int)) (by kernel_rfl)) ?_)
              refine sq (o_pv (.pointer (some ⟨b3729, (6 : Int).toNat, none⟩)) rfl (x_ixR (k := .i64) (i := (6 : Int)) Try.underlying51 Try.sizeOf50 (by kernel_rfl) (by kernel_rfl) (by decide)) ?_)
              refine sq (o_pv (.int .u32 (lget f3886 (6 : Int))) rfl (x_load1 (by kernel_rfl) Try.isAgg50 (Blk.acell k4090.2.1 kf3887 (by decide))) ?_)
              refine sq (o_pv (.int .u32 (iand .u32 (inot .u32 (lget f3886 (4 : Int))) (lget f3886 (6 : Int)))) rfl (x_and (k := .u32) (a := inot .u32 (lget f3886 (4 : Int))) (b := lget f3886 (6 : Int)) (by kernel_rfl) (by kernel_rfl)) ?_)
              obtain ⟨y4091, qy4091⟩ : ∃ y, y = (ixor .u32 (iand .u32 (lget f3886 (4 : Int)) (lget f3886 (5 : Int))) (iand .u32 (inot .u32 (lget f3886 (4 : Int))) (lget f3886 (6 : Int)))) := ⟨_, rfl⟩
              replace hp := hp y4091 qy4091
              have r4092 : inR .u32 y4091 := by rw [qy4091]; exact (inR_ixor _ _ _)
              refine sq (o_pv (.int .u32 y4091) rfl (by rw [qy4091]; exact (x_xor (k := .u32) (a := iand .u32 (lget f3886 (4 : Int)) (lget f3886 (5 : Int))) (b := iand .u32 (inot .u32 (lget f3886 (4 : Int))) (lget f3886 (6 : Int))) (by kernel_rfl) (by kernel_rfl))) ?_)
              refine sq (o_pv (.int .u32 y4091) rfl (by kernel_rfl) ?_)
              refine nil_ ?_
              refine then_normal (K4089 _ _ _ _ ?_)
              refine seq_ (fun _ K4093 => ?_)
              have E4094 := (Evo.then0 (Evo.then0 (Evo.then0 E4062 e4073) e4079) e4085)
              have hXo4095 := (Old.step (Old.step (Old.step hXo4063 s4074) s4080) s4086)
              have hS4096 := (Sub.trans (Sub.trans (Sub.trans hS4064 (Step.up s4074)) (Step.up s4080)) (Step.up s4086))
              have O4097 := (OS.step0 (OS.step0 (OS.step0 O4065 s4074) s4080) s4086)
              have k4098 := (OB.step0 (OB.step0 (OB.step0 k4066 s4074) s4080) s4086)
              have k4099 := (OB.step0 (OB.step0 (OB.step0 k4067 s4074) s4080) s4086)
              have k4100 := (OB.step0 (OB.step0 (OB.step0 k4068 s4074) s4080) s4086)
              have k4101 := (OB.step0 (OB.step0 (OB.step0 k4069 s4074) s4080) s4086)
              refine reg_drawn (RB w4084.heap.size []) 14 (by kernel_rfl) (fun w4102 hd4103 => ?_)
              have e4104 := Evo.of_drew hd4103
              have z4105 : w4102.heap.size = w4084.heap.size := by rw [hd4103]
              clear hd4103
              have s4107 := Step.of0 X4025 e4104
              have er4106 := RB.refl w4084.heap.size [] w4102
              have E4108 := (Evo.then0 E4094 (Step.evo s4107))
              have hXo4109 := (Old.step hXo4095 s4107)
              have hS4110 := (Sub.trans hS4096 (Step.up s4107))
              have O4111 := (OS.step0 O4097 s4107)
              have k4112 := (OB.step0 k4098 s4107)
              have k4113 := (OB.step0 k4099 s4107)
              have k4114 := (OB.step0 k4100 s4107)
              have k4115 := (OB.step0 k4101 s4107)
              have k4116 := (OB.step0 k4090 s4107)
              refine r_take 0 (.pointer (some ⟨b3729, (7 : Int).toNat, none⟩)) (RB.pre _ _) rfl (by kernel_rfl) (fun _ _ _ h => hQ.panic _ _ _ _ _ h) (.inl ⟨rfl, fun wq hq => (x_ixR (k := .i64) (i := (7 : Int)) Try.underlying51 Try.sizeOf50 (by kernel_rfl) (by kernel_rfl) (by decide))⟩) ?_
              refine r_take 1 (.int .u32 (lget f3886 (7 : Int))) (RB.pre _ _) rfl (by kernel_rfl) (fun _ _ _ h => hQ.panic _ _ _ _ _ h) (.inl ⟨rfl, fun wq hq => (x_load1 (by kernel_rfl) Try.isAgg50 (Blk.acell (Blk.rb k4116.2.1 (RB.trans er4106 hq) (Nat.lt_of_lt_of_eq (Blk.lt k4116.2.1) z4105) (fun h => by cases h)) kf3887 (by decide)))⟩) ?_
              refine r_take 2 (.int .u32 (ixor .u32 (ixor .u32 r4071 r4077) r4083)) (RB.pre _ _) rfl (by kernel_rfl) (fun _ _ _ h => hQ.panic _ _ _ _ _ h) (.inl ⟨rfl, fun wq hq => (by kernel_rfl)⟩) ?_
              obtain ⟨y4117, qy4117⟩ : ∃ y, y = (((lget f3886 (7 : Int)) + (ixor .u32 (ixor .u32 r4071 r4077) r4083)) % 4294967296) := ⟨_, rfl⟩
              replace hp := hp y4117 qy4117
              have r4118 : inR .u32 y4117 := by rw [qy4117]; exact (inR_u32_mod _)
              refine r_take 3 (.int .u32 y4117) (RB.pre _ _) rfl (by kernel_rfl) (fun _ _ _ h => hQ.panic _ _ _ _ _ h) (.inl ⟨rfl, fun wq hq => (by rw [qy4117]; exact (x_add2 (k := .u32) (a := lget f3886 (7 : Int)) (b := ixor .u32 (ixor .u32 r4071 r4077) r4083) (((lget f3886 (7 : Int)) + (ixor .u32 (ixor .u32 r4071 r4077) r4083)) % 4294967296) (by kernel_rfl) (by kernel_rfl) (wrap_u32_mod _)))⟩) ?_
              refine r_take 4 (.int .u32 y4091) (RB.pre _ _) rfl (by kernel_rfl) (fun _ _ _ h => hQ.panic _ _ _ _ _ h) (.inl ⟨rfl, fun wq hq => (by kernel_rfl)⟩) ?_
              refine r_take 5 (.int .u32 ((y4117 + y4091) % 4294967296)) (RB.pre _ _) rfl (by kernel_rfl) (fun _ _ _ h => hQ.panic _ _ _ _ _ h) (.inl ⟨rfl, fun wq hq => (x_add2 (k := .u32) (a := y4117) (b := y4091) ((y4117 + y4091) % 4294967296) (by kernel_rfl) (by kernel_rfl) (wrap_u32_mod _))⟩) ?_
              refine r_take 6 (.int .i64 i3884) (RB.pre _ _) rfl (by kernel_rfl) (fun _ _ _ h => hQ.panic _ _ _ _ _ h) (.inl ⟨rfl, fun wq hq => (by kernel_rfl)⟩) ?_
              obtain ⟨h4119, hp⟩ := hp
              refine r_take 7 (.pointer (some ⟨b33, i3884.toNat, none⟩)) (RB.pre _ _) rfl (by kernel_rfl) (fun _ _ _ h => hQ.panic _ _ _ _ _ h) (.inl ⟨rfl, fun wq hq => (x_ixR (k := .i64) (i := i3884) Try.underlying53 Try.sizeOf50 (by kernel_rfl) (by kernel_rfl) h4119)⟩) ?_
              refine r_take 8 (.int .u32 (lget r28 i3884)) (RB.pre _ _) rfl (by kernel_rfl) (fun _ _ _ h => hQ.panic _ _ _ _ _ h) (.inl ⟨rfl, fun wq hq => (x_load1 (by kernel_rfl) Try.isAgg50 (Blk.acell (Blk.rb k4114.2.1 (RB.trans er4106 hq) (Nat.lt_of_lt_of_eq (Blk.lt k4114.2.1) z4105) (fun h => by cases h)) kr32 h4119))⟩) ?_
              refine r_take 9 (.int .u32 ((((y4117 + y4091) % 4294967296) + (lget r28 i3884)) % 4294967296)) (RB.pre _ _) rfl (by kernel_rfl) (fun _ _ _ h => hQ.panic _ _ _ _ _ h) (.inl ⟨rfl, fun wq hq => (x_add2 (k := .u32) (a := (y4117 + y4091) % 4294967296) (b := lget r28 i3884) ((((y4117 + y4091) % 4294967296) + (lget r28 i3884)) % 4294967296) (by kernel_rfl) (by kernel_rfl) (wrap_u32_mod _))⟩) ?_
              refine r_take 10 (.int .i64 i3884) (RB.pre _ _) rfl (by kernel_rfl) (fun _ _ _ h => hQ.panic _ _ _ _ _ h) (.inl ⟨rfl, fun wq hq => (by kernel_rfl)⟩) ?_
              obtain ⟨h4120, hp⟩ := hp
              refine r_take 11 (.pointer (some ⟨b3029, i3884.toNat, none⟩)) (RB.pre _ _) rfl (by kernel_rfl) (fun _ _ _ h => hQ.panic _ _ _ _ _ h) (.inl ⟨rfl, fun wq hq => (x_ixR (k := .i64) (i := i3884) Try.underlying53 Try.sizeOf50 (by kernel_rfl) (by kernel_rfl) h4120)⟩) ?_
              refine r_take 12 (.int .u32 (lget f3462 i3884)) (RB.pre _ _) rfl (by kernel_rfl) (fun _ _ _ h => hQ.panic _ _ _ _ _ h) (.inl ⟨rfl, fun wq hq => (x_load1 (by kernel_rfl) Try.isAgg50 (Blk.acell (Blk.rb k4115.2.1 (RB.trans er4106 hq) (Nat.lt_of_lt_of_eq (Blk.lt k4115.2.1) z4105) (fun h => by cases h)) kf3463 h4120))⟩) ?_
              obtain ⟨y4121, qy4121⟩ : ∃ y, y = ((((((y4117 + y4091) % 4294967296) + (lget r28 i3884)) % 4294967296) + (lget f3462 i3884)) % 4294967296) := ⟨_, rfl⟩
              replace hp := hp y4121 qy4121
              have r4122 : inR .u32 y4121 := by rw [qy4121]; exact (inR_u32_mod _)
              refine r_take 13 (.int .u32 y4121) (RB.pre _ _) rfl (by kernel_rfl) (fun _ _ _ h => hQ.panic _ _ _ _ _ h) (.inl ⟨rfl, fun wq hq => (by rw [qy4121]; exact (x_add2 (k := .u32) (a := (((y4117 + y4091) % 4294967296) + (lget r28 i3884)) % 4294967296) (b := lget f3462 i3884) ((((((y4117 + y4091) % 4294967296) + (lget r28 i3884)) % 4294967296) + (lget f3462 i3884)) % 4294967296) (by kernel_rfl) (by kernel_rfl) (wrap_u32_mod _)))⟩) ?_
              refine r_ready [14] (by kernel_rfl) rfl (all_cons ⟨_, _, _, _, _, _, rfl, ?_⟩ all_nil)
              refine o_pv (.int .u32 y4121) rfl (by kernel_rfl) ?_
              refine ⟨fun h => absurd h (by decide), ?_⟩
              refine r_done (by kernel_rfl) ?_
              refine then_normal (K4093 _ _ _ _ ?_)
              refine seq_ (fun _ K4123 => ?_)
              refine reg_drawn (RB w4102.heap.size []) 11 (by kernel_rfl) (fun w4124 hd4125 => ?_)
              have e4126 := Evo.of_drew hd4125
              have z4127 : w4124.heap.size = w4102.heap.size := by rw [hd4125]
              clear hd4125
              have s4129 := Step.of0 X4025 e4126
              have er4128 := RB.refl w4102.heap.size [] w4124
              have E4130 := (Evo.then0 E4108 (Step.evo s4129))
              have hXo4131 := (Old.step hXo4109 s4129)
              have hS4132 := (Sub.trans hS4110 (Step.up s4129))
              have O4133 := (OS.step0 O4111 s4129)
              have k4134 := (OB.step0 k4112 s4129)
              have k4135 := (OB.step0 k4113 s4129)
              have k4136 := (OB.step0 k4114 s4129)
              have k4137 := (OB.step0 k4115 s4129)
              have k4138 := (OB.step0 k4116 s4129)
              refine r_take 0 (.pointer (some ⟨b3729, (0 : Int).toNat, none⟩)) (RB.pre _ _) rfl (by kernel_rfl) (fun _ _ _ h => hQ.panic _ _ _ _ _ h) (.inl ⟨rfl, fun wq hq => (x_ixR (k := .i64) (i := (0 : Int)) Try.underlying51 Try.sizeOf50 (by kernel_rfl) (by kernel_rfl) (by decide))⟩) ?_
              refine r_take 1 (.int .u32 (lget f3886 (0 : Int))) (RB.pre _ _) rfl (by kernel_rfl) (fun _ _ _ h => hQ.panic _ _ _ _ _ h) (.inl ⟨rfl, fun wq hq => (x_load1 (by kernel_rfl) Try.isAgg50 (Blk.acell (Blk.rb k4138.2.1 (RB.trans er4128 hq) (Nat.lt_of_lt_of_eq (Blk.lt k4138.2.1) z4127) (fun h => by cases h)) kf3887 (by decide)))⟩) ?_
              refine r_take 3 (.pointer (some ⟨b3729, (0 : Int).toNat, none⟩)) (RB.pre _ _) rfl (by kernel_rfl) (fun _ _ _ h => hQ.panic _ _ _ _ _ h) (.inl ⟨rfl, fun wq hq => (x_ixR (k := .i64) (i := (0 : Int)) Try.underlying51 Try.sizeOf50 (by kernel_rfl) (by kernel_rfl) (by decide))⟩) ?_
              refine r_take 4 (.int .u32 (lget f3886 (0 : Int))) (RB.pre _ _) rfl (by kernel_rfl) (fun _ _ _ h => hQ.panic _ _ _ _ _ h) (.inl ⟨rfl, fun wq hq => (x_load1 (by kernel_rfl) Try.isAgg50 (Blk.acell (Blk.rb k4138.2.1 (RB.trans er4128 hq) (Nat.lt_of_lt_of_eq (Blk.lt k4138.2.1) z4127) (fun h => by cases h)) kf3887 (by decide)))⟩) ?_
              refine r_take 7 (.pointer (some ⟨b3729, (0 : Int).toNat, none⟩)) (RB.pre _ _) rfl (by kernel_rfl) (fun _ _ _ h => hQ.panic _ _ _ _ _ h) (.inl ⟨rfl, fun wq hq => (x_ixR (k := .i64) (i := (0 : Int)) Try.underlying51 Try.sizeOf50 (by kernel_rfl) (by kernel_rfl) (by decide))⟩) ?_
              refine r_take 8 (.int .u32 (lget f3886 (0 : Int))) (RB.pre _ _) rfl (by kernel_rfl) (fun _ _ _ h => hQ.panic _ _ _ _ _ h) (.inl ⟨rfl, fun wq hq => (x_load1 (by kernel_rfl) Try.isAgg50 (Blk.acell (Blk.rb k4138.2.1 (RB.trans er4128 hq) (Nat.lt_of_lt_of_eq (Blk.lt k4138.2.1) z4127) (fun h => by cases h)) kf3887 (by decide)))⟩) ?_
              refine r_ready [2] (by kernel_rfl) rfl (all_cons ⟨_, _, _, _, _, _, rfl, ?_⟩ all_nil)
              refine o_call 29 #[(.int .u32 (lget f3886 (0 : Int))), (.int .i64 (2 : Int))] rfl (x_call Try.call29 (by kernel_rfl)) (rectoref2_turn_w (X := []) (x := lget f3886 (0 : Int)) (n_ := (2 : Int)) (Old.nil _) (okArr_get kf3887 (by decide)) (by decide) hp) ?_
              rintro _ w4140 ⟨r4139, hp, e4141, rfl, rr4143⟩
              have rm := RB.mono (F' := []) e4141 (Nat.le_trans (Nat.le_of_eq z4127.symm) (RB.size er4128)) (fun _ h => by cases h)
              have er4144 := RB.trans er4128 rm
              refine ⟨fun _ => rm, ?_⟩
              have s4142 := Step.of0 X4025 e4141
              replace hp := hp rr4143
              refine r_ready [5] (by kernel_rfl) rfl (all_cons ⟨_, _, _, _, _, _, rfl, ?_⟩ all_nil)
              refine o_call 29 #[(.int .u32 (lget f3886 (0 : Int))), (.int .i64 (13 : Int))] rfl (x_call Try.call29 (by kernel_rfl)) (rectoref2_turn_w (X := []) (x := lget f3886 (0 : Int)) (n_ := (13 : Int)) (Old.nil _) (okArr_get kf3887 (by decide)) (by decide) hp) ?_
              rintro _ w4146 ⟨r4145, hp, e4147, rfl, rr4149⟩
              have rm := RB.mono (F' := []) e4147 (Nat.le_trans (Nat.le_of_eq z4127.symm) (RB.size er4144)) (fun _ h => by cases h)
              have er4150 := RB.trans er4144 rm
              refine ⟨fun _ => rm, ?_⟩
              have s4148 := Step.of0 X4025 e4147
              replace hp := hp rr4149
              refine r_take 6 (.int .u32 (ixor .u32 r4139 r4145)) (RB.pre _ _) rfl (by kernel_rfl) (fun _ _ _ h => hQ.panic _ _ _ _ _ h) (.inl ⟨rfl, fun wq hq => (x_xor (k := .u32) (a := r4139) (b := r4145) (by kernel_rfl) (by kernel_rfl))⟩) ?_
              refine r_ready [9] (by kernel_rfl) rfl (all_cons ⟨_, _, _, _, _, _, rfl, ?_⟩ all_nil)
              refine o_call 29 #[(.int .u32 (lget f3886 (0 : Int))), (.int .i64 (22 : Int))] rfl (x_call Try.call29 (by kernel_rfl)) (rectoref2_turn_w (X := []) (x := lget f3886 (0 : Int)) (n_ := (22 : Int)) (Old.nil _) (okArr_get kf3887 (by decide)) (by decide) hp) ?_
              rintro _ w4152 ⟨r4151, hp, e4153, rfl, rr4155⟩
              have rm := RB.mono (F' := []) e4153 (Nat.le_trans (Nat.le_of_eq z4127.symm) (RB.size er4150)) (fun _ h => by cases h)
              have er4156 := RB.trans er4150 rm
              refine ⟨fun _ => rm, ?_⟩
              have s4154 := Step.of0 X4025 e4153
              replace hp := hp rr4155
              refine r_take 10 (.int .u32 (ixor .u32 (ixor .u32 r4139 r4145) r4151)) (RB.pre _ _) rfl (by kernel_rfl) (fun _ _ _ h => hQ.panic _ _ _ _ _ h) (.inl ⟨rfl, fun wq hq => (x_xor (k := .u32) (a := ixor .u32 r4139 r4145) (b := r4151) (by kernel_rfl) (by kernel_rfl))⟩) ?_
              refine r_ready [11] (by kernel_rfl) rfl (all_cons ⟨_, _, _, _, _, _, rfl, ?_⟩ all_nil)
              refine o_pv (.int .u32 (ixor .u32 (ixor .u32 r4139 r4145) r4151)) rfl (by kernel_rfl) ?_
              refine ⟨fun h => absurd h (by decide), ?_⟩
              refine r_done (by kernel_rfl) ?_
              refine then_normal (K4123 _ _ _ _ ?_)
              refine seq_ (fun _ K4157 => ?_)
              refine reg_ ?_
              refine sq (o_pv (.pointer (some ⟨b3729, (0 : Int).toNat, none⟩)) rfl (x_ixR (k := .i64) (i := (0 : Int)) Try.underlying51 Try.sizeOf50 (by kernel_rfl) (by kernel_rfl) (by decide)) ?_)
              have k4158 := (OB.step0 (OB.step0 (OB.step0 k4138 s4142) s4148) s4154)
              refine sq (o_pv (.int .u32 (lget f3886 (0 : Int))) rfl (x_load1 (by kernel_rfl) Try.isAgg50 (Blk.acell k4158.2.1 kf3887 (by decide))) ?_)
              refine sq (o_pv (.pointer (some ⟨b3729, (1 : Int).toNat, none⟩)) rfl (x_ixR (k := .i64) (i := (1 : Int)) Try.underlying51 Try.sizeOf50 (by kernel_rfl) (by kernel_rfl) (by decide)) ?_)
              refine sq (o_pv (.int .u32 (lget f3886 (1 : Int))) rfl (x_load1 (by kernel_rfl) Try.isAgg50 (Blk.acell k4158.2.1 kf3887 (by decide))) ?_)
              refine sq (o_pv (.int .u32 (iand .u32 (lget f3886 (0 : Int)) (lget f3886 (1 : Int)))) rfl (x_and (k := .u32) (a := lget f3886 (0 : Int)) (b := lget f3886 (1 : Int)) (by kernel_rfl) (by kernel_rfl)) ?_)
              refine sq (o_pv (.pointer (some ⟨b3729, (0 : Int).toNat, none⟩)) rfl (x_ixR (k := .i64) (i := (0 : Int)) Try.underlying51 Try.sizeOf50 (by kernel_rfl) (by kernel_rfl) (by decide)) ?_)
              refine sq (o_pv (.int .u32 (lget f3886 (0 : Int))) rfl (x_load1 (by kernel_rfl) Try.isAgg50 (Blk.acell k4158.2.1 kf3887 (by decide))) ?_)
              refine sq (o_pv (.pointer (some ⟨b3729, (2 : Int).toNat, none⟩)) rfl (x_ixR (k := .i64) (i := (2 : Int)) Try.underlying51 Try.sizeOf50 (by kernel_rfl) (by kernel_rfl) (by decide)) ?_)
              refine sq (o_pv (.int .u32 (lget f3886 (2 : Int))) rfl (x_load1 (by kernel_rfl) Try.isAgg50 (Blk.acell k4158.2.1 kf3887 (by decide))) ?_)
              refine sq (o_pv (.int .u32 (iand .u32 (lget f3886 (0 : Int)) (lget f3886 (2 : Int)))) rfl (x_and (k := .u32) (a := lget f3886 (0 : Int)) (b := lget f3886 (2 : Int)) (by kernel_rfl) (by kernel_rfl)) ?_)
              obtain ⟨y4159, qy4159⟩ : ∃ y, y = (ixor .u32 (iand .u32 (lget f3886 (0 : Int)) (lget f3886 (1 : Int))) (iand .u32 (lget f3886 (0 : Int)) (lget f3886 (2 : Int)))) := ⟨_, rfl⟩
              replace hp := hp y4159 qy4159
              have r4160 : inR .u32 y4159 := by rw [qy4159]; exact (inR_ixor _ _ _)
              refine sq (o_pv (.int .u32 y4159) rfl (by rw [qy4159]; exact (x_xor (k := .u32) (a := iand .u32 (lget f3886 (0 : Int)) (lget f3886 (1 : Int))) (b := iand .u32 (lget f3886 (0 : Int)) (lget f3886 (2 : Int))) (by kernel_rfl) (by kernel_rfl))) ?_)
              refine sq (o_pv (.pointer (some ⟨b3729, (1 : Int).toNat, none⟩)) rfl (x_ixR (k := .i64) (i := (1 : Int)) Try.underlying51 Try.sizeOf50 (by kernel_rfl) (by kernel_rfl) (by decide)) ?_)
              refine sq (o_pv (.int .u32 (lget f3886 (1 : Int))) rfl (x_load1 (by kernel_rfl) Try.isAgg50 (Blk.acell k4158.2.1 kf3887 (by decide))) ?_)
              refine sq (o_pv (.pointer (some ⟨b3729, (2 : Int).toNat, none⟩)) rfl (x_ixR (k := .i64) (i := (2 : Int)) Try.underlying51 Try.sizeOf50 (by kernel_rfl) (by kernel_rfl) (by decide)) ?_)
              refine sq (o_pv (.int .u32 (lget f3886 (2 : Int))) rfl (x_load1 (by kernel_rfl) Try.isAgg50 (Blk.acell k4158.2.1 kf3887 (by decide))) ?_)
              refine sq (o_pv (.int .u32 (iand .u32 (lget f3886 (1 : Int)) (lget f3886 (2 : Int)))) rfl (x_and (k := .u32) (a := lget f3886 (1 : Int)) (b := lget f3886 (2 : Int)) (by kernel_rfl) (by kernel_rfl)) ?_)
              obtain ⟨y4161, qy4161⟩ : ∃ y, y = (ixor .u32 y4159 (iand .u32 (lget f3886 (1 : Int)) (lget f3886 (2 : Int)))) := ⟨_, rfl⟩
              replace hp := hp y4161 qy4161
              have r4162 : inR .u32 y4161 := by rw [qy4161]; exact (inR_ixor _ _ _)
              refine sq (o_pv (.int .u32 y4161) rfl (by rw [qy4161]; exact (x_xor (k := .u32) (a := y4159) (b := iand .u32 (lget f3886 (1 : Int)) (lget f3886 (2 : Int))) (by kernel_rfl) (by kernel_rfl))) ?_)
              refine sq (o_pv (.int .u32 y4161) rfl (by kernel_rfl) ?_)
              refine nil_ ?_
              refine then_normal (K4157 _ _ _ _ ?_)
              refine reg_ ?_
              refine sq (o_pv (.int .u32 y4121) rfl (by kernel_rfl) ?_)
              refine sq (o_pv (.int .u32 (ixor .u32 (ixor .u32 r4139 r4145) r4151)) rfl (by kernel_rfl) ?_)
              refine sq (o_pv (.int .u32 ((y4121 + (ixor .u32 (ixor .u32 r4139 r4145) r4151)) % 4294967296)) rfl (x_add2 (k := .u32) (a := y4121) (b := ixor .u32 (ixor .u32 r4139 r4145) r4151) ((y4121 + (ixor .u32 (ixor .u32 r4139 r4145) r4151)) % 4294967296) (by kernel_rfl) (by kernel_rfl) (wrap_u32_mod _)) ?_)
              refine sq (o_pv (.int .u32 y4161) rfl (by kernel_rfl) ?_)
              obtain ⟨y4163, qy4163⟩ : ∃ y, y = ((((y4121 + (ixor .u32 (ixor .u32 r4139 r4145) r4151)) % 4294967296) + y4161) % 4294967296) := ⟨_, rfl⟩
              replace hp := hp y4163 qy4163
              have r4164 : inR .u32 y4163 := by rw [qy4163]; exact (inR_u32_mod _)
              refine sq (o_pv (.int .u32 y4163) rfl (by rw [qy4163]; exact (x_add2 (k := .u32) (a := (y4121 + (ixor .u32 (ixor .u32 r4139 r4145) r4151)) % 4294967296) (b := y4161) ((((y4121 + (ixor .u32 (ixor .u32 r4139 r4145) r4151)) % 4294967296) + y4161) % 4294967296) (by kernel_rfl) (by kernel_rfl) (wrap_u32_mod _))) ?_)
              refine sq (o_pv (.pointer (some ⟨b3729, (0 : Int).toNat, none⟩)) rfl (x_ixR (k := .i64) (i := (0 : Int)) Try.underlying51 Try.sizeOf50 (by kernel_rfl) (by kernel_rfl) (by decide)) ?_)
              refine sq (o_pv (.int .u32 (lget f3886 (0 : Int))) rfl (x_load1 (by kernel_rfl) Try.isAgg50 (Blk.acell k4158.2.1 kf3887 (by decide))) ?_)
              refine sq (o_pv (.pointer (some ⟨b3729, (1 : Int).toNat, none⟩)) rfl (x_ixR (k := .i64) (i := (1 : Int)) Try.underlying51 Try.sizeOf50 (by kernel_rfl) (by kernel_rfl) (by decide)) ?_)
              refine sq (o_pv (.int .u32 (lget f3886 (1 : Int))) rfl (x_load1 (by kernel_rfl) Try.isAgg50 (Blk.acell k4158.2.1 kf3887 (by decide))) ?_)
              refine sq (o_pv (.pointer (some ⟨b3729, (2 : Int).toNat, none⟩)) rfl (x_ixR (k := .i64) (i := (2 : Int)) Try.underlying51 Try.sizeOf50 (by kernel_rfl) (by kernel_rfl) (by decide)) ?_)
              refine sq (o_pv (.int .u32 (lget f3886 (2 : Int))) rfl (x_load1 (by kernel_rfl) Try.isAgg50 (Blk.acell k4158.2.1 kf3887 (by decide))) ?_)
              refine sq (o_pv (.pointer (some ⟨b3729, (3 : Int).toNat, none⟩)) rfl (x_ixR (k := .i64) (i := (3 : Int)) Try.underlying51 Try.sizeOf50 (by kernel_rfl) (by kernel_rfl) (by decide)) ?_)
              refine sq (o_pv (.int .u32 (lget f3886 (3 : Int))) rfl (x_load1 (by kernel_rfl) Try.isAgg50 (Blk.acell k4158.2.1 kf3887 (by decide))) ?_)
              refine sq (o_pv (.int .u32 y4121) rfl (by kernel_rfl) ?_)
              refine sq (o_pv (.int .u32 (((lget f3886 (3 : Int)) + y4121) % 4294967296)) rfl (x_add2 (k := .u32) (a := lget f3886 (3 : Int)) (b := y4121) (((lget f3886 (3 : Int)) + y4121) % 4294967296) (by kernel_rfl) (by kernel_rfl) (wrap_u32_mod _)) ?_)
              refine sq (o_pv (.pointer (some ⟨b3729, (4 : Int).toNat, none⟩)) rfl (x_ixR (k := .i64) (i := (4 : Int)) Try.underlying51 Try.sizeOf50 (by kernel_rfl) (by kernel_rfl) (by decide)) ?_)
              refine sq (o_pv (.int .u32 (lget f3886 (4 : Int))) rfl (x_load1 (by kernel_rfl) Try.isAgg50 (Blk.acell k4158.2.1 kf3887 (by decide))) ?_)
              refine sq (o_pv (.pointer (some ⟨b3729, (5 : Int).toNat, none⟩)) rfl (x_ixR (k := .i64) (i := (5 : Int)) Try.underlying51 Try.sizeOf50 (by kernel_rfl) (by kernel_rfl) (by decide)) ?_)
              refine sq (o_pv (.int .u32 (lget f3886 (5 : Int))) rfl (x_load1 (by kernel_rfl) Try.isAgg50 (Blk.acell k4158.2.1 kf3887 (by decide))) ?_)
              refine sq (o_pv (.pointer (some ⟨b3729, (6 : Int).toNat, none⟩)) rfl (x_ixR (k := .i64) (i := (6 : Int)) Try.underlying51 Try.sizeOf50 (by kernel_rfl) (by kernel_rfl) (by decide)) ?_)
              refine sq (o_pv (.int .u32 (lget f3886 (6 : Int))) rfl (x_load1 (by kernel_rfl) Try.isAgg50 (Blk.acell k4158.2.1 kf3887 (by decide))) ?_)
              refine sq (o_pv (.agg (([y4163, lget f3886 (0 : Int), lget f3886 (1 : Int), lget f3886 (2 : Int), ((lget f3886 (3 : Int)) + y4121) % 4294967296, lget f3886 (4 : Int), lget f3886 (5 : Int), lget f3886 (6 : Int)] : List Int).map (Value.int .u32)).toArray) rfl (by kernel_rfl) ?_)
              have O4165 := (OS.step0 (OS.step0 (OS.step0 O4133 s4142) s4148) s4154)
              have k4166 := (OB.step0 (OB.step0 (OB.step0 k4134 s4142) s4148) s4154)
              have k4167 := (OB.step0 (OB.step0 (OB.step0 k4135 s4142) s4148) s4154)
              have k4168 := (OB.step0 (OB.step0 (OB.step0 k4136 s4142) s4148) s4154)
              have k4169 := (OB.step0 (OB.step0 (OB.step0 k4137 s4142) s4148) s4154)
              have E4170 := (Evo.then0 (Evo.then0 (Evo.then0 E4130 e4141) e4147) e4153)
              refine sq (o_stW (k := .u32) (e := f3886) (e' := ([y4163, lget f3886 (0 : Int), lget f3886 (1 : Int), lget f3886 (2 : Int), ((lget f3886 (3 : Int)) + y4121) % 4294967296, lget f3886 (4 : Int), lget f3886 (5 : Int), lget f3886 (6 : Int)] : List Int)) rfl k4158 (by kernel_rfl) (by kernel_rfl) Try.sizeOf51 kf3887 (okArr_cons r4164 (okArr_cons (okArr_get kf3887 (by decide)) (okArr_cons (okArr_get kf3887 (by decide)) (okArr_cons (okArr_get kf3887 (by decide)) (okArr_cons (inR_u32_mod _) (okArr_cons (okArr_get kf3887 (by decide)) (okArr_cons (okArr_get kf3887 (by decide)) (okArr_cons (okArr_get kf3887 (by decide)) (okArr_nil _))))))))) ?_)
              intro w4171 s4172 k4173
              obtain ⟨l4174, ql4174⟩ : ∃ y, y = ([y4163, lget f3886 (0 : Int), lget f3886 (1 : Int), lget f3886 (2 : Int), ((lget f3886 (3 : Int)) + y4121) % 4294967296, lget f3886 (4 : Int), lget f3886 (5 : Int), lget f3886 (6 : Int)] : List Int) := ⟨_, rfl⟩
              replace hp := hp l4174 ql4174
              rw [← ql4174] at k4173
              have ok4175 : okArr .u32 8 l4174 := by rw [ql4174]; exact (okArr_cons r4164 (okArr_cons (okArr_get kf3887 (by decide)) (okArr_cons (okArr_get kf3887 (by decide)) (okArr_cons (okArr_get kf3887 (by decide)) (okArr_cons (inR_u32_mod _) (okArr_cons (okArr_get kf3887 (by decide)) (okArr_cons (okArr_get kf3887 (by decide)) (okArr_cons (okArr_get kf3887 (by decide)) (okArr_nil _)))))))))
              refine nil_ ?_
              refine blk_normal ?_
              refine then_normal (K4054 _ _ _ _ ?_)
              refine reg_ ?_
              refine sq (o_pv (.int .i64 i3884) rfl (by kernel_rfl) ?_)
              obtain ⟨h4176, hp⟩ := hp
              refine sq (o_pv (.int .i64 (i3884 + (1 : Int))) rfl (x_add2 (k := .i64) (a := i3884) (b := (1 : Int)) (i3884 + (1 : Int)) (by kernel_rfl) (by kernel_rfl) (wrap_inR h4176)) ?_)
              refine sq (o_pv (.int .i64 (i3884 + (1 : Int))) rfl (by kernel_rfl) ?_)
              refine nil_ ?_
              have E4177 := (Evo.thenW E4170 (Step.evo s4172) k4158.2.2)
              have hXo4178 := (Old.step (Old.step (Old.step (Old.step hXo4131 s4142) s4148) s4154) s4172)
              have hS4179 := (Sub.trans (Sub.trans (Sub.trans (Sub.trans hS4132 (Step.up s4142)) (Step.up s4148)) (Step.up s4154)) (Step.up s4172))
              have O4180 := (OS.step O4165 s4172 p4050)
              have k4181 := (OB.step k4166 s4172 p3736)
              have k4182 := (OB.step k4167 s4172 p3737)
              have k4183 := (OB.step k4168 s4172 p3738)
              have k4184 := (OB.step k4169 s4172 p3739)
              refine then_normal (hA4029 _ _ _ ⟨_, [(16, (.int .i64 (i3884 + (1 : Int))))], hp.2, fit_mk (AgB.mix _ _ _) (by kernel_rfl) (vs_cons (by kernel_rfl) vs_nil), ?_⟩)
              exact ⟨X4025, (i3884 + (1 : Int)), l4174, rfl, rfl, E4177, hXo4178, hS4179, O4180, k4181, k4182, k4183, k4184, k4173, p4046, p4047, p4048, p4049, p4050, h4176, ok4175, hp.1⟩
            ·
              replace hp := hp.2 h4053
              refine wp_exit ?_
              refine then_exit ?_
              refine then_exit ?_
              refine blk_exit ?_
              refine then_normal (K3749 _ _ _ _ ?_)
              refine seq_ (fun _ K4185 => ?_)
              refine reg_ ?_
              refine sq (o_pv (.int .i64 (0 : Int)) rfl (by kernel_rfl) ?_)
              refine nil_ ?_
              refine then_normal (K4185 _ _ _ _ ?_)
              refine wp_block ?_
              obtain ⟨I4257, m4258, hI4259, hp⟩ := hp
              refine loop_ 926223635686383746791474549029455716041146918355724472702340889266422313648128 (fun kq lq w4261 => ∃ (X4262 : List Nat) (i4220 : Int) (f4222 : (List Int)), (lq = [(22, (.int .i64 i4220))]) ∧ (kq = m4258 i4220 f4222) ∧ (Evo [] w w4261) ∧ (Old X4262 w4261) ∧ (Sub X X4262) ∧ (OS (rInt .u8) ([]) w.heap.size X4262 w4261 5 a302 n303 c304 m301) ∧ (OB ([]) w.heap.size X4262 w4261 b5 ((List.replicate 32 (0 : Int)).map (Value.int .u8)) 32) ∧ (OB ([]) w.heap.size X4262 w4261 b33 (r28.map (Value.int .u32)) 53) ∧ (OB ([]) w.heap.size X4262 w4261 b3729 (f3886.map (Value.int .u32)) 51) ∧ (OB ([]) w.heap.size X4262 w4261 b12 (f4222.map (Value.int .u32)) 51) ∧ (Ap (blkL a302) ([b5])) ∧ (Ap (blkL a302) ([b33])) ∧ (Ap (blkL a302) ([b3729])) ∧ (Ap (blkL a302) ([b12])) ∧ (inR .i64 i4220) ∧ (okArr .u32 8 f4222) ∧ (I4257 i4220 f4222)) (m4258 (0 : Int) f1708) [(22, (.int .i64 (0 : Int)))] (vs_cons (by kernel_rfl) vs_nil) ⟨X4025, (0 : Int), f1708, rfl, rfl, E4038, hXo4039, hS4040, O4041, k4042, k4044, k3888, k4043, p4046, p4048, p4050, p4047, (by decide), kf1709, hI4259⟩ ?_
              rintro _ _ w4261 g4264 ⟨X4262, i4220, f4222, rfl, rfl, E4267, hXo4268, hS4269, O4270, k4271, k4272, k4273, k4224, p4274, p4275, p4276, p4277, ri4221, kf4223, hI4260⟩ Kl4265 hA4266
              replace hp := hp i4220 f4222 hI4260 ri4221 kf4223
              refine seq_ (fun _ K4278 => ?_)
              refine seq_ (fun _ K4279 => ?_)
              refine reg_ ?_
              refine sq (o_pv (.int .i64 i4220) rfl (by kernel_rfl) ?_)
              refine sq (o_pv (.bool (decide (i4220 < (8 : Int)))) rfl (by kernel_rfl) ?_)
              refine nil_ ?_
              refine then_normal (K4279 _ _ _ _ ?_)
              refine cond_d (i4220 < (8 : Int)) (by kernel_rfl) (fun h4280 => ?_) (fun h4280 => ?_)
              ·
                replace hp := hp.1 h4280
                refine wp_skip ?_
                refine then_normal (K4278 _ _ _ _ ?_)
                refine seq_ (fun _ K4281 => ?_)
                refine wp_block ?_
                refine reg_drawn (RB w4261.heap.size []) 9 (by kernel_rfl) (fun w4282 hd4283 => ?_)
                have e4284 := Evo.of_drew hd4283
                have z4285 : w4282.heap.size = w4261.heap.size := by rw [hd4283]
                clear hd4283
                have s4287 := Step.of0 X4262 e4284
                have er4286 := RB.refl w4261.heap.size [] w4282
                have E4288 := (Evo.then0 E4267 (Step.evo s4287))
                have hXo4289 := (Old.step hXo4268 s4287)
                have hS4290 := (Sub.trans hS4269 (Step.up s4287))
                have O4291 := (OS.step0 O4270 s4287)
                have k4292 := (OB.step0 k4271 s4287)
                have k4293 := (OB.step0 k4272 s4287)
                have k4294 := (OB.step0 k4273 s4287)
                have k4295 := (OB.step0 k4224 s4287)
                refine r_take 0 (.int .i64 i4220) (RB.pre _ _) rfl (by kernel_rfl) (fun _ _ _ h => hQ.panic _ _ _ _ _ h) (.inl ⟨rfl, fun wq hq => (by kernel_rfl)⟩) ?_
                refine r_take 1 (.int .i64 i4220) (RB.pre _ _) rfl (by kernel_rfl) (fun _ _ _ h => hQ.panic _ _ _ _ _ h) (.inl ⟨rfl, fun wq hq => (by kernel_rfl)⟩) ?_
                obtain ⟨h4296, hp⟩ := hp
                refine r_take 2 (.pointer (some ⟨b12, i4220.toNat, none⟩)) (RB.pre _ _) rfl (by kernel_rfl) (fun _ _ _ h => hQ.panic _ _ _ _ _ h) (.inl ⟨rfl, fun wq hq => (x_ixR (k := .i64) (i := i4220) Try.underlying51 Try.sizeOf50 (by kernel_rfl) (by kernel_rfl) h4296)⟩) ?_
                refine r_take 3 (.int .u32 (lget f4222 i4220)) (RB.pre _ _) rfl (by kernel_rfl) (fun _ _ _ h => hQ.panic _ _ _ _ _ h) (.inl ⟨rfl, fun wq hq => (x_load1 (by kernel_rfl) Try.isAgg50 (Blk.acell (Blk.rb k4295.2.1 (RB.trans er4286 hq) (Nat.lt_of_lt_of_eq (Blk.lt k4295.2.1) z4285) (fun h => by cases h)) kf4223 h4296))⟩) ?_
                refine r_take 4 (.int .i64 i4220) (RB.pre _ _) rfl (by kernel_rfl) (fun _ _ _ h => hQ.panic _ _ _ _ _ h) (.inl ⟨rfl, fun wq hq => (by kernel_rfl)⟩) ?_
                obtain ⟨h4297, hp⟩ := hp
                refine r_take 5 (.pointer (some ⟨b3729, i4220.toNat, none⟩)) (RB.pre _ _) rfl (by kernel_rfl) (fun _ _ _ h => hQ.panic _ _ _ _ _ h) (.inl ⟨rfl, fun wq hq => (x_ixR (k := .i64) (i := i4220) Try.underlying51 Try.sizeOf50 (by kernel_rfl) (by kernel_rfl) h4297)⟩) ?_
                refine r_take 6 (.int .u32 (lget f3886 i4220)) (RB.pre _ _) rfl (by kernel_rfl) (fun _ _ _ h => hQ.panic _ _ _ _ _ h) (.inl ⟨rfl, fun wq hq => (x_load1 (by kernel_rfl) Try.isAgg50 (Blk.acell (Blk.rb k4294.2.1 (RB.trans er4286 hq) (Nat.lt_of_lt_of_eq (Blk.lt k4294.2.1) z4285) (fun h => by cases h)) kf3887 h4297))⟩) ?_
                refine r_take 7 (.int .u32 (((lget f4222 i4220) + (lget f3886 i4220)) % 4294967296)) (RB.pre _ _) rfl (by kernel_rfl) (fun _ _ _ h => hQ.panic _ _ _ _ _ h) (.inl ⟨rfl, fun wq hq => (x_add2 (k := .u32) (a := lget f4222 i4220) (b := lget f3886 i4220) (((lget f4222 i4220) + (lget f3886 i4220)) % 4294967296) (by kernel_rfl) (by kernel_rfl) (wrap_u32_mod _))⟩) ?_
                obtain ⟨h4298, hp⟩ := hp
                refine r_take 8 (.pointer (some ⟨b12, i4220.toNat, none⟩)) (RB.pre _ _) rfl (by kernel_rfl) (fun _ _ _ h => hQ.panic _ _ _ _ _ h) (.inl ⟨rfl, fun wq hq => (x_ixR (k := .i64) (i := i4220) Try.underlying51 Try.sizeOf50 (by kernel_rfl) (by kernel_rfl) h4298)⟩) ?_
                refine r_ready [9] (by kernel_rfl) rfl (all_cons ⟨_, _, _, _, _, _, rfl, ?_⟩ all_nil)
                refine o_stA (k := .u32) (i := i4220) (v := ((lget f4222 i4220) + (lget f3886 i4220)) % 4294967296) (e := f4222) rfl k4295 (by kernel_rfl) (by kernel_rfl) Try.sizeOf50 kf4223 h4298 ?_
                intro w4299 s4300 k4301
                refine ⟨fun h => absurd h (by decide), ?_⟩
                obtain ⟨l4302, ql4302⟩ : ∃ y, y = (lset f4222 i4220 (((lget f4222 i4220) + (lget f3886 i4220)) % 4294967296)) := ⟨_, rfl⟩
                replace hp := hp l4302 ql4302
                rw [← ql4302] at k4301
                have ok4303 : okArr .u32 8 l4302 := by rw [ql4302]; exact (okArr_set kf4223 (inR_u32_mod _))
                refine r_done (by kernel_rfl) ?_
                refine blk_normal ?_
                refine then_normal (K4281 _ _ _ _ ?_)
                refine reg_ ?_
                refine sq (o_pv (.int .i64 i4220) rfl (by kernel_rfl) ?_)
                obtain ⟨h4304, hp⟩ := hp
                refine sq (o_pv (.int .i64 (i4220 + (1 : Int))) rfl (x_add2 (k := .i64) (a := i4220) (b := (1 : Int)) (i4220 + (1 : Int)) (by kernel_rfl) (by kernel_rfl) (wrap_inR h4304)) ?_)
                refine sq (o_pv (.int .i64 (i4220 + (1 : Int))) rfl (by kernel_rfl) ?_)
                refine nil_ ?_
                have E4305 := (Evo.thenW E4288 (Step.evo s4300) k4295.2.2)
                have hXo4306 := (Old.step hXo4289 s4300)
                have hS4307 := (Sub.trans hS4290 (Step.up s4300))
                have O4308 := (OS.step O4291 s4300 p4277)
                have k4309 := (OB.step k4292 s4300 p19)
                have k4310 := (OB.step k4293 s4300 (Ap.symm p43))
                have k4311 := (OB.step k4294 s4300 (Ap.symm p3737))
                refine then_normal (hA4266 _ _ _ ⟨_, [(22, (.int .i64 (i4220 + (1 : Int))))], hp.2, fit_mk (AgB.mix _ _ _) (by kernel_rfl) (vs_cons (by kernel_rfl) vs_nil), ?_⟩)
                exact ⟨X4262, (i4220 + (1 : Int)), l4302, rfl, rfl, E4305, hXo4306, hS4307, O4308, k4309, k4310, k4311, k4301, p4274, p4275, p4276, p4277, h4304, ok4303, hp.1⟩
              ·
                replace hp := hp.2 h4280
                refine wp_exit ?_
                refine then_exit ?_
                refine then_exit ?_
                refine blk_exit ?_
                refine blk_normal ?_
                refine then_normal (K3027 _ _ _ _ ?_)
                refine reg_ ?_
                refine sq (o_pv (.int .i64 at_1706) rfl (by kernel_rfl) ?_)
                obtain ⟨h4312, hp⟩ := hp
                refine sq (o_pv (.int .i64 (at_1706 + (64 : Int))) rfl (x_add2 (k := .i64) (a := at_1706) (b := (64 : Int)) (at_1706 + (64 : Int)) (by kernel_rfl) (by kernel_rfl) (wrap_inR h4312)) ?_)
                refine sq (o_pv (.int .i64 (at_1706 + (64 : Int))) rfl (by kernel_rfl) ?_)
                refine nil_ ?_
                refine then_normal (hA3014 _ _ _ ⟨_, [(8, (.int .i64 (at_1706 + (64 : Int))))], hp.2, fit_mk (AgB.nest (AgB.nest (AgB.nest (AgB.nest (AgB.mix _ _ _) (by kernel_rfl) (by kernel_rfl)) (by kernel_rfl) (by kernel_rfl)) (by kernel_rfl) (by kernel_rfl)) (by kernel_rfl) (by kernel_rfl)) (by kernel_rfl) (vs_cons (by kernel_rfl) vs_nil), ?_⟩)
                exact ⟨X4262, (at_1706 + (64 : Int)), f4222, rfl, rfl, E4267, hXo4268, hS4269, O4270, k4271, k4272, k4224, p4274, p4275, p4277, h4312, kf4223, hp.1⟩
      ·
        replace hp := hp.2 h3026
        refine wp_exit ?_
        refine then_exit ?_
        refine then_exit ?_
        refine blk_exit ?_
        refine then_normal (K410 _ _ _ _ ?_)
        refine seq_ (fun _ K4313 => ?_)
        refine reg_ ?_
        refine sq (o_newX ((List.replicate 32 (0 : Int)).map (Value.int .u8)) 32 (X := X3010) (B := w.heap.size) E3015.size rfl (by kernel_rfl) ?_)
        intro b4314 w4315 X4316 s4317 k4318 n4319
        have p4320 := n4319 _ (OS.old O3018)
        have p4321 := n4319 _ (OB.old k3019)
        have p4322 := n4319 _ (OB.old k3020)
        have p4323 := n4319 _ (OB.old k1710)
        refine nil_ ?_
        refine then_normal (K4313 _ _ _ _ ?_)
        refine seq_ (fun _ K4324 => ?_)
        refine seq_ (fun _ K4325 => ?_)
        refine reg_ ?_
        refine sq (o_pv (.int .i64 (0 : Int)) rfl (by kernel_rfl) ?_)
        refine nil_ ?_
        refine then_normal (K4325 _ _ _ _ ?_)
        refine wp_block ?_
        have E4385 := (Evo.then0 E3015 (Step.evo s4317))
        have hXo4386 := (Old.step hXo3016 s4317)
        have hS4387 := (Sub.trans hS3017 (Step.up s4317))
        have O4388 := (OS.step0 O3018 s4317)
        have k4389 := (OB.step0 k3019 s4317)
        have k4390 := (OB.step0 k3020 s4317)
        have k4391 := (OB.step0 k1710 s4317)
        obtain ⟨I4375, m4376, hI4377, hp⟩ := hp
        refine loop_ 121415879427394168402902980608589862161887601280881394953725959948009454520305188864 (fun kq lq w4379 => ∃ (X4380 : List Nat) (i4349 : Int) (f4351 : (List Int)), (lq = [(24, (.int .i64 i4349))]) ∧ (kq = m4376 i4349 f4351) ∧ (Evo [] w w4379) ∧ (Old X4380 w4379) ∧ (Sub X X4380) ∧ (OB ([]) w.heap.size X4380 w4379 b5 ((List.replicate 32 (0 : Int)).map (Value.int .u8)) 32) ∧ (OB ([]) w.heap.size X4380 w4379 b12 (f1708.map (Value.int .u32)) 51) ∧ (OB ([]) w.heap.size X4380 w4379 b4314 (f4351.map (Value.int .u8)) 32) ∧ (inR .i64 i4349) ∧ (okArr .u8 32 f4351) ∧ (I4375 i4349 f4351)) (m4376 (0 : Int) (List.replicate 32 (0 : Int))) [(24, (.int .i64 (0 : Int)))] (vs_cons (by kernel_rfl) vs_nil) ⟨X4316, (0 : Int), (List.replicate 32 (0 : Int)), rfl, rfl, E4385, hXo4386, hS4387, k4389, k4391, k4318, (by decide), (okArr_rep _ _), hI4377⟩ ?_
        rintro _ _ w4379 g4382 ⟨X4380, i4349, f4351, rfl, rfl, E4392, hXo4393, hS4394, k4395, k4396, k4353, ri4350, kf4352, hI4378⟩ Kl4383 hA4384
        replace hp := hp i4349 f4351 hI4378 ri4350 kf4352
        refine seq_ (fun _ K4397 => ?_)
        refine seq_ (fun _ K4398 => ?_)
        refine reg_ ?_
        refine sq (o_pv (.int .i64 i4349) rfl (by kernel_rfl) ?_)
        refine sq (o_pv (.bool (decide (i4349 < (32 : Int)))) rfl (by kernel_rfl) ?_)
        refine nil_ ?_
        refine then_normal (K4398 _ _ _ _ ?_)
        refine cond_d (i4349 < (32 : Int)) (by kernel_rfl) (fun h4399 => ?_) (fun h4399 => ?_)
        ·
          replace hp := hp.1 h4399
          refine wp_skip ?_
          refine then_normal (K4397 _ _ _ _ ?_)
          refine seq_ (fun _ K4400 => ?_)
          refine wp_block ?_
          refine reg_ ?_
          refine sq (o_pv (.int .i64 i4349) rfl (by kernel_rfl) ?_)
          refine sq (o_pv (.int .i64 i4349) rfl (by kernel_rfl) ?_)
          obtain ⟨h4401, hp⟩ := hp
          refine sq (o_pv (.int .i64 (i4349 / (4 : Int))) rfl (x_quo2 (k := .i64) (a := i4349) (b := (4 : Int)) (i4349 / (4 : Int)) (by kernel_rfl) (by kernel_rfl) h4401 (by decide) rfl (wrap_inR (inR_quo h4401 (by decide) ri4350 (by decide)))) ?_)
          obtain ⟨h4402, hp⟩ := hp
          refine sq (o_pv (.pointer (some ⟨b12, (i4349 / (4 : Int)).toNat, none⟩)) rfl (x_ixR (k := .i64) (i := i4349 / (4 : Int)) Try.underlying51 Try.sizeOf50 (by kernel_rfl) (by kernel_rfl) h4402) ?_)
          refine sq (o_pv (.int .u32 (lget f1708 (i4349 / (4 : Int)))) rfl (x_load1 (by kernel_rfl) Try.isAgg50 (Blk.acell k4396.2.1 kf1709 h4402)) ?_)
          refine sq (o_pv (.int .i64 i4349) rfl (by kernel_rfl) ?_)
          obtain ⟨h4403, hp⟩ := hp
          refine sq (o_pv (.int .i64 (i4349 % (4 : Int))) rfl (x_rem2 (k := .i64) (a := i4349) (b := (4 : Int)) (i4349 % (4 : Int)) (by kernel_rfl) (by kernel_rfl) h4403 (by decide) rfl (wrap_inR (inR_rem h4403 (by decide) ri4350 (by decide)))) ?_)
          obtain ⟨h4404, hp⟩ := hp
          refine sq (o_pv (.int .i64 ((8 : Int) * (i4349 % (4 : Int)))) rfl (x_mul2 (k := .i64) (a := (8 : Int)) (b := i4349 % (4 : Int)) ((8 : Int) * (i4349 % (4 : Int))) (by kernel_rfl) (by kernel_rfl) (wrap_inR h4404)) ?_)
          obtain ⟨h4405, hp⟩ := hp
          refine sq (o_pv (.int .i64 ((24 : Int) - ((8 : Int) * (i4349 % (4 : Int))))) rfl (x_sub2 (k := .i64) (a := (24 : Int)) (b := (8 : Int) * (i4349 % (4 : Int))) ((24 : Int) - ((8 : Int) * (i4349 % (4 : Int)))) (by kernel_rfl) (by kernel_rfl) (wrap_inR h4405)) ?_)
          refine sq (o_pv (.int .u64 (iwrap .u64 ((24 : Int) - ((8 : Int) * (i4349 % (4 : Int)))))) rfl (x_convw (k := .i64) Try.underlying3 Try.underlying56 (by kernel_rfl)) ?_)
          obtain ⟨y4406, qy4406⟩ : ∃ y, y = (ishr .u32 (lget f1708 (i4349 / (4 : Int))) (iwrap .u64 ((24 : Int) - ((8 : Int) * (i4349 % (4 : Int)))))) := ⟨_, rfl⟩
          replace hp := hp y4406 qy4406
          have r4407 : inR .u32 y4406 := by rw [qy4406]; exact (inR_ishr _ (okArr_get kf1709 h4402))
          refine sq (o_pv (.int .u32 y4406) rfl (by rw [qy4406]; exact (x_shr (k := .u32) (k' := .u64) (a := lget f1708 (i4349 / (4 : Int))) (b := iwrap .u64 ((24 : Int) - ((8 : Int) * (i4349 % (4 : Int))))) (by kernel_rfl) (by kernel_rfl) (inR_nn (inR_iwrap _ _)))) ?_)
          refine sq (o_pv (.int .u8 (iwrap .u8 y4406)) rfl (x_convw (k := .u32) Try.underlying50 Try.underlying5 (by kernel_rfl)) ?_)
          obtain ⟨h4408, hp⟩ := hp
          refine sq (o_pv (.pointer (some ⟨b4314, i4349.toNat, none⟩)) rfl (x_ixR (k := .i64) (i := i4349) Try.underlying32 Try.sizeOf5 (by kernel_rfl) (by kernel_rfl) h4408) ?_)
          refine sq (o_stA (k := .u8) (i := i4349) (v := iwrap .u8 y4406) (e := f4351) rfl k4353 (by kernel_rfl) (by kernel_rfl) Try.sizeOf5 kf4352 h4408 ?_)
          intro w4409 s4410 k4411
          refine nil_ ?_
          refine blk_normal ?_
          refine then_normal (K4400 _ _ _ _ ?_)
          refine reg_ ?_
          refine sq (o_pv (.int .i64 i4349) rfl (by kernel_rfl) ?_)
          obtain ⟨h4412, hp⟩ := hp
          refine sq (o_pv (.int .i64 (i4349 + (1 : Int))) rfl (x_add2 (k := .i64) (a := i4349) (b := (1 : Int)) (i4349 + (1 : Int)) (by kernel_rfl) (by kernel_rfl) (wrap_inR h4412)) ?_)
          refine sq (o_pv (.int .i64 (i4349 + (1 : Int))) rfl (by kernel_rfl) ?_)
          refine nil_ ?_
          have E4413 := (Evo.thenW E4392 (Step.evo s4410) k4353.2.2)
          have hXo4414 := (Old.step hXo4393 s4410)
          have hS4415 := (Sub.trans hS4394 (Step.up s4410))
          have k4416 := (OB.step k4395 s4410 p4321)
          have k4417 := (OB.step k4396 s4410 p4323)
          refine then_normal (hA4384 _ _ _ ⟨_, [(24, (.int .i64 (i4349 + (1 : Int))))], hp.2, fit_mk (AgB.mix _ _ _) (by kernel_rfl) (vs_cons (by kernel_rfl) vs_nil), ?_⟩)
          exact ⟨X4380, (i4349 + (1 : Int)), (lset f4351 i4349 (iwrap .u8 y4406)), rfl, rfl, E4413, hXo4414, hS4415, k4416, k4417, k4411, h4412, (okArr_set kf4352 (inR_iwrap _ _)), hp.1⟩
        ·
          replace hp := hp.2 h4399
          refine wp_exit ?_
          refine then_exit ?_
          refine then_exit ?_
          refine blk_exit ?_
          refine then_normal (K4324 _ _ _ _ ?_)
          refine seq_ (fun _ K4418 => ?_)
          refine reg_ ?_
          refine sq (o_pv (.agg (f4351.map (Value.int .u8)).toArray) rfl (x_loadA f4351 (by kernel_rfl) Try.isAgg32 Try.sizeOf32 kf4352 (Blk.awhole k4353.2.1)) ?_)
          refine sq (o_stW (k := .u8) (e := (List.replicate 32 (0 : Int))) (e' := f4351) rfl k4395 (by kernel_rfl) (by kernel_rfl) Try.sizeOf32 (okArr_rep _ _) kf4352 ?_)
          intro w4419 s4420 k4421
          refine nil_ ?_
          refine then_normal (K4418 _ _ _ _ ?_)
          refine wp_ret ?_
          have E4422 := (Evo.thenW E4392 (Step.evo s4420) k4395.2.2)
          refine end_ret hQ (.agg (f4351.map (Value.int .u8)).toArray) (rs_single Try.results11 (rs_aggA (e := f4351) (by kernel_rfl) Try.isAgg32 Try.sizeOf32 kf4352 k4421.2.1)) ?_
          exact ⟨f4351, hp, E4422, rfl, kf4352⟩

end Go.Proofs.Ytjejeipdndddpaa
