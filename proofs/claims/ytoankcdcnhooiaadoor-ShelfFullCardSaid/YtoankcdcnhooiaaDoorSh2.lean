/- Walks of functions: what each asks and computes, as a plain predicate, and the contract from it. -/
import Derived.Test.YtoankcdcnhooiaaDoorChecked
import Derived.Test.YtoankcdcnhooiaaDoorSh1
namespace Go.Proofs.YtoankcdcnhooiaaDoor
open Go


def shelf_Stack_Text_p (s : (List S_shelf_Shelf)) (Q : ByteArray → Prop) : Prop :=
  ((s.length ≤ 9223372036854775807) → (∃ (I273 : Int → S_strings_Builder → Prop) (m274 : Int → S_strings_Builder → Nat), (I273 (0 : Int) (S_strings_Builder.mk false ([] : List Int))) ∧ (∀ (s144 : Int) (o146 : S_strings_Builder), (I273 s144 o146) → (inR .i64 s144) → (((s144 < (s.length : Int)) → ((inL s s144) ∧ ((inR .i64 ((lget s s144).Base)) → ((((lget s s144).Index).length ≤ 9223372036854775807) → ((((lget s s144).Work).length ≤ 9223372036854775807) → ((((lget s s144).Text).size ≤ maxLen) → (strconv_Itoa_p s144 (fun (r354 : ByteArray) => ((r354.size ≤ maxLen) → (((r354 ++ (ByteArray.mk #[58, 32])).size ≤ maxLen) ∧ ((((r354 ++ (ByteArray.mk #[58, 32])) ++ ((lget s s144).Text)).size ≤ maxLen) ∧ (((((r354 ++ (ByteArray.mk #[58, 32])) ++ ((lget s s144).Text)) ++ (ByteArray.mk #[32, 40])).size ≤ maxLen) ∧ (strconv_Itoa_p ((lget s s144).Base) (fun (r364 : ByteArray) => ((r364.size ≤ maxLen) → ((((((r354 ++ (ByteArray.mk #[58, 32])) ++ ((lget s s144).Text)) ++ (ByteArray.mk #[32, 40])) ++ r364).size ≤ maxLen) ∧ (((((((r354 ++ (ByteArray.mk #[58, 32])) ++ ((lget s s144).Text)) ++ (ByteArray.mk #[32, 40])) ++ r364) ++ (ByteArray.mk #[44, 32])).size ≤ maxLen) ∧ (strconv_Itoa_p (((lget s s144).Index).length : Int) (fun (r373 : ByteArray) => ((r373.size ≤ maxLen) → ((((((((r354 ++ (ByteArray.mk #[58, 32])) ++ ((lget s s144).Text)) ++ (ByteArray.mk #[32, 40])) ++ r364) ++ (ByteArray.mk #[44, 32])) ++ r373).size ≤ maxLen) ∧ (((((((((r354 ++ (ByteArray.mk #[58, 32])) ++ ((lget s s144).Text)) ++ (ByteArray.mk #[32, 40])) ++ r364) ++ (ByteArray.mk #[44, 32])) ++ r373) ++ (ByteArray.mk #[47])).size ≤ maxLen) ∧ (strconv_Itoa_p (((lget s s144).Work).length : Int) (fun (r382 : ByteArray) => ((r382.size ≤ maxLen) → ((((((((((r354 ++ (ByteArray.mk #[58, 32])) ++ ((lget s s144).Text)) ++ (ByteArray.mk #[32, 40])) ++ r364) ++ (ByteArray.mk #[44, 32])) ++ r373) ++ (ByteArray.mk #[47])) ++ r382).size ≤ maxLen) ∧ (((((((((((r354 ++ (ByteArray.mk #[58, 32])) ++ ((lget s s144).Text)) ++ (ByteArray.mk #[32, 40])) ++ r364) ++ (ByteArray.mk #[44, 32])) ++ r373) ++ (ByteArray.mk #[47])) ++ r382) ++ (ByteArray.mk #[41, 10])).size ≤ maxLen) ∧ (strings_Builder_WriteString_p o146 (((((((((r354 ++ (ByteArray.mk #[58, 32])) ++ ((lget s s144).Text)) ++ (ByteArray.mk #[32, 40])) ++ r364) ++ (ByteArray.mk #[44, 32])) ++ r373) ++ (ByteArray.mk #[47])) ++ r382) ++ (ByteArray.mk #[41, 10])) (fun (b399 : S_strings_Builder) (r400 : Int) (r401 : PErr) => ((inR .i64 r400) → ((inR .i64 (s144 + (1 : Int))) ∧ ((I273 (s144 + (1 : Int)) b399) ∧ m274 (s144 + (1 : Int)) b399 < m274 s144 o146)))))))))))))))))))))))))))))))) ∧ ((¬ (s144 < (s.length : Int))) → (strings_Builder_String_p o146 (fun (r421 : ByteArray) => ((r421.size ≤ maxLen) → Q r421))))))))
set_option maxRecDepth 20000 in
set_option maxHeartbeats 4000000 in
theorem shelf_Stack_Text_w {X : List Nat} {w : World} {s : (List S_shelf_Shelf)} {as1 : Option Addr} {cs2 : Nat} {Q : ByteArray → Prop} (hX0 : Old X w) (hs3 : Sl r_shelf_Shelf X w as1 cs2 s) (gv0 : GV X w 0 (Lib.pow10Tab.map (Value.int .u64))) (hp : shelf_Stack_Text_p s Q) :
    Calls Tryd.prog 8 #[(.slice as1 s.length cs2)] w (Ret fun v w' => ∃ (r0 : ByteArray), Q r0 ∧ Evo [] w w' ∧ v = (.string r0) ∧ r0.size ≤ maxLen) := by
  have hXo := hX0
  have E0 : Evo [] w w := RB.refl _ _ _
  have hS : Sub X X := Sub.refl _
  unfold shelf_Stack_Text_p at hp
  refine enter_ Tryd.func8 rfl 40 [(0, (.slice as1 s.length cs2))] (by kernel_rfl) (fun Qe hQ => ?_)
  replace hp := hp (Sl.len hs3)
  refine seq_ (fun _ K4 => ?_)
  refine reg_ ?_
  refine sq (o_pv (.string (ByteArray.mk #[])) rfl (by kernel_rfl) ?_)
  refine nil_ ?_
  refine then_normal (K4 _ _ _ _ ?_)
  refine seq_ (fun _ K5 => ?_)
  refine reg_ ?_
  refine sq (o_newX [(.pointer none), (.slice none 0 0)] 49 (X := X) (B := w.heap.size) E0.size rfl (by kernel_rfl) ?_)
  intro b6 w7 X8 s9 k10 n11
  refine nil_ ?_
  refine then_normal (K5 _ _ _ _ ?_)
  refine seq_ (fun _ K12 => ?_)
  refine seq_ (fun _ K13 => ?_)
  refine reg_ ?_
  refine sq (o_pv (.slice as1 s.length cs2) rfl (by kernel_rfl) ?_)
  refine sq (o_pv (.int .i64 (s.length : Int)) rfl (by kernel_rfl) ?_)
  refine sq (o_pv (.int .i64 (0 : Int)) rfl (by kernel_rfl) ?_)
  refine nil_ ?_
  refine then_normal (K13 _ _ _ _ ?_)
  refine wp_block ?_
  have hs283 := (Sl.step hs3 s9)
  have gv284 := (GV.step gv0 s9)
  have hXo285 := (Old.step hXo s9)
  have E286 := (Evo.then0 E0 (Step.evo s9))
  have hS287 := (Sub.trans hS (Step.up s9))
  obtain ⟨I273, m274, hI275, hp⟩ := hp
  obtain ⟨F293, m294, hs295⟩ := MO.pack (o_strings_Builder_mk (addrq := false) k10 (OS.nil2 _ _ _ _ _) (Ap.nil_r _))
  refine loop_ 549755813680 (fun kq lq w277 => ∃ (X278 : List Nat) (s144 : Int) (o146 : S_strings_Builder) (F147 : List Nat), (lq = [(8, (.int .i64 s144))]) ∧ (kq = m274 s144 o146) ∧ (Evo [] w w277) ∧ (Old X278 w277) ∧ (Sub X X278) ∧ (GV X278 w277 0 (Lib.pow10Tab.map (Value.int .u64))) ∧ (Sl r_shelf_Shelf X278 w277 as1 cs2 s) ∧ (MO (o_strings_Builder b6) 49 ([]) w.heap.size X278 w277 F147 b6 o146) ∧ (inR .i64 s144) ∧ (I273 s144 o146)) (m274 (0 : Int) (S_strings_Builder.mk false ([] : List Int))) [(8, (.int .i64 (0 : Int)))] (vs_cons (by kernel_rfl) vs_nil) ⟨X8, (0 : Int), (S_strings_Builder.mk false ([] : List Int)), F293, rfl, rfl, E286, hXo285, hS287, gv284, hs283, m294, (by decide : inR .i64 (0 : Int)), hI275⟩ ?_
  rintro _ _ w277 g280 ⟨X278, s144, o146, F147, rfl, rfl, E288, hXo289, hS290, gv291, hs292, m148, rs145, hI276⟩ Kl281 hA282
  replace hp := hp s144 o146 hI276 rs145
  refine seq_ (fun _ K296 => ?_)
  refine reg_ ?_
  refine sq (o_pv (.bool (decide (s144 < (s.length : Int)))) rfl (by kernel_rfl) ?_)
  refine nil_ ?_
  refine then_normal (K296 _ _ _ _ ?_)
  refine seq_ (fun _ K297 => ?_)
  refine cond_d (s144 < (s.length : Int)) (by kernel_rfl) (fun h298 => ?_) (fun h298 => ?_)
  ·
    replace hp := hp.1 h298
    refine wp_skip ?_
    refine then_normal (K297 _ _ _ _ ?_)
    refine seq_ (fun _ K299 => ?_)
    refine wp_block ?_
    refine seq_ (fun _ K300 => ?_)
    refine reg_ ?_
    refine sq (o_pv (.int .i64 s144) rfl (by kernel_rfl) ?_)
    obtain ⟨h301, hp⟩ := hp
    obtain ⟨b302, o303, cs304, ha305, nx306, lt307, ok308, hc309⟩ := Sl.atI hs292 s144 h301
    obtain ⟨aeIndex311, ceIndex312, aeWork314, ceWork315, rfl, reBase310, heIndex313, heWork316, zeText317⟩ := r_shelf_Shelf_open ok308
    replace hp := hp reBase310
    replace hp := hp (Sl.len heIndex313)
    replace hp := hp (Sl.len heWork316)
    replace hp := hp zeText317
    refine sq (o_pv (.pointer (some ⟨b302, o303 + s144.toNat * 4, none⟩)) rfl (x_ixA (m := s.length) (c := cs2) (k := .i64) (i := s144) Tryd.underlying24 Tryd.sizeOf31 (by rw [← ha305]; kernel_rfl) (by kernel_rfl) h301) ?_)
    refine sq (o_pv (.agg #[(.int .i64 ((lget s s144).Base)), (.slice aeIndex311 (((lget s s144).Index).length) ceIndex312), (.slice aeWork314 (((lget s s144).Work).length) ceWork315), (.string ((lget s s144).Text))]) rfl (x_loadN [(.int .i64 ((lget s s144).Base)), (.slice aeIndex311 (((lget s s144).Index).length) ceIndex312), (.slice aeWork314 (((lget s s144).Work).length) ceWork315), (.string ((lget s s144).Text))] (by kernel_rfl) Tryd.isAgg31 Tryd.sizeOf31 hc309) ?_)
    refine sq (o_newX [(.int .i64 (0 : Int)), (.slice none 0 0), (.slice none 0 0), (.string (ByteArray.mk #[]))] 31 (X := X278) (B := w.heap.size) E288.size rfl (by kernel_rfl) ?_)
    intro b318 w319 X320 s321 k322 n323
    have p324 := n323 _ (MO.old m148)
    refine sq (o_pv (.int .i64 s144) rfl (by kernel_rfl) ?_)
    have m325 := (MO.step0 m148 s321)
    have E326 := (Evo.then0 E288 (Step.evo s321))
    refine sq (o_stB (o := 0) (v := (.agg #[(.int .i64 ((lget s s144).Base)), (.slice aeIndex311 (((lget s s144).Index).length) ceIndex312), (.slice aeWork314 (((lget s s144).Work).length) ceWork315), (.string ((lget s s144).Text))])) [(.int .i64 ((lget s s144).Base)), (.slice aeIndex311 (((lget s s144).Index).length) ceIndex312), (.slice aeWork314 (((lget s s144).Work).length) ceWork315), (.string ((lget s s144).Text))] rfl k322 (by kernel_rfl) (by kernel_rfl) Tryd.sizeOf31 rfl rfl rfl ?_)
    intro w327 s328 k329
    refine nil_ ?_
    refine then_normal (K300 _ _ _ _ ?_)
    have E330 := (Evo.thenW E326 (Step.evo s328) k322.2.2)
    have hXo331 := (Old.step (Old.step hXo289 s321) s328)
    have hS332 := (Sub.trans (Sub.trans hS290 (Step.up s321)) (Step.up s328))
    have gv333 := (GV.step (GV.step gv291 s321) s328)
    have hs334 := (Sl.step (Sl.step hs292 s321) s328)
    have m335 := (MO.step m325 s328 p324)
    have heIndex336 := (Sl.step (Sl.step heIndex313 s321) s328)
    have heWork337 := (Sl.step (Sl.step heWork316 s321) s328)
    have hFX344 : Sub F147 X320 := (MO.mem m335)
    refine reg_drawn (RB w327.heap.size F147) 25 (by kernel_rfl) (fun w338 hd339 => ?_)
    have e340 := Evo.of_drew hd339
    have z341 : w338.heap.size = w327.heap.size := by rw [hd339]
    clear hd339
    have s343 := Step.of0 X320 e340
    have er342 := RB.refl w327.heap.size F147 w338
    have E345 := (Evo.then0 E330 (Step.evo s343))
    have hXo346 := (Old.step hXo331 s343)
    have hS347 := (Sub.trans hS332 (Step.up s343))
    have gv348 := (GV.step gv333 s343)
    have hs349 := (Sl.step hs334 s343)
    have m350 := (MO.step0 m335 s343)
    have heIndex351 := (Sl.step heIndex336 s343)
    have heWork352 := (Sl.step heWork337 s343)
    have k353 := (OB.step0 k329 s343)
    refine r_take 0 (.int .i64 s144) (RB.pre _ _) rfl (by kernel_rfl) (fun _ _ _ h => hQ.panic _ _ _ _ _ h) (.inl ⟨rfl, fun wq hq => (by kernel_rfl)⟩) ?_
    refine r_take 3 (.pointer (some ⟨b318, 3, none⟩)) (RB.pre _ _) rfl (by kernel_rfl) (fun _ _ _ h => hQ.panic _ _ _ _ _ h) (.inl ⟨rfl, fun wq hq => (by kernel_rfl)⟩) ?_
    refine r_take 4 (.string ((lget s s144).Text)) (RB.pre _ _) rfl (by kernel_rfl) (fun _ _ _ h => hQ.panic _ _ _ _ _ h) (.inl ⟨rfl, fun wq hq => (x_load1 (by kernel_rfl) Tryd.isAgg9 ((OB.step k353 (stepR (RB.trans er342 hq) z341 hFX344) (Ap.symm p324)).2.1.cell' 3 rfl))⟩) ?_
    refine r_take 7 (.pointer (some ⟨b318, 0, none⟩)) (RB.pre _ _) rfl (by kernel_rfl) (fun _ _ _ h => hQ.panic _ _ _ _ _ h) (.inl ⟨rfl, fun wq hq => (by kernel_rfl)⟩) ?_
    refine r_take 8 (.int .i64 ((lget s s144).Base)) (RB.pre _ _) rfl (by kernel_rfl) (fun _ _ _ h => hQ.panic _ _ _ _ _ h) (.inl ⟨rfl, fun wq hq => (x_load1 (by kernel_rfl) Tryd.isAgg3 ((OB.step k353 (stepR (RB.trans er342 hq) z341 hFX344) (Ap.symm p324)).2.1.cell' 0 rfl))⟩) ?_
    refine r_take 12 (.pointer (some ⟨b318, 1, none⟩)) (RB.pre _ _) rfl (by kernel_rfl) (fun _ _ _ h => hQ.panic _ _ _ _ _ h) (.inl ⟨rfl, fun wq hq => (by kernel_rfl)⟩) ?_
    refine r_take 13 (.slice aeIndex311 (((lget s s144).Index).length) ceIndex312) (RB.pre _ _) rfl (by kernel_rfl) (fun _ _ _ h => hQ.panic _ _ _ _ _ h) (.inl ⟨rfl, fun wq hq => (x_load1 (by kernel_rfl) Tryd.isAgg29 ((OB.step k353 (stepR (RB.trans er342 hq) z341 hFX344) (Ap.symm p324)).2.1.cell' 1 rfl))⟩) ?_
    refine r_take 14 (.int .i64 (((lget s s144).Index).length : Int)) (RB.pre _ _) rfl (by kernel_rfl) (fun _ _ _ h => hQ.panic _ _ _ _ _ h) (.inl ⟨rfl, fun wq hq => (by kernel_rfl)⟩) ?_
    refine r_take 18 (.pointer (some ⟨b318, 2, none⟩)) (RB.pre _ _) rfl (by kernel_rfl) (fun _ _ _ h => hQ.panic _ _ _ _ _ h) (.inl ⟨rfl, fun wq hq => (by kernel_rfl)⟩) ?_
    refine r_take 19 (.slice aeWork314 (((lget s s144).Work).length) ceWork315) (RB.pre _ _) rfl (by kernel_rfl) (fun _ _ _ h => hQ.panic _ _ _ _ _ h) (.inl ⟨rfl, fun wq hq => (x_load1 (by kernel_rfl) Tryd.isAgg29 ((OB.step k353 (stepR (RB.trans er342 hq) z341 hFX344) (Ap.symm p324)).2.1.cell' 2 rfl))⟩) ?_
    refine r_take 20 (.int .i64 (((lget s s144).Work).length : Int)) (RB.pre _ _) rfl (by kernel_rfl) (fun _ _ _ h => hQ.panic _ _ _ _ _ h) (.inl ⟨rfl, fun wq hq => (by kernel_rfl)⟩) ?_
    refine r_ready [1] (by kernel_rfl) rfl (all_cons ⟨_, _, _, _, _, _, rfl, ?_⟩ all_nil)
    refine o_call 17 #[(.int .i64 s144)] rfl (x_call Tryd.call17 (by kernel_rfl)) (strconv_Itoa_w (X := []) (i := s144) (Old.nil _) rs145 (GV.less gv348 (Sub.nil _)) hp) ?_
    rintro _ w355 ⟨r354, hp, e356, rfl, zr358⟩
    have rm := RB.mono (F' := F147) e356 (Nat.le_trans (Nat.le_of_eq z341.symm) (RB.size er342)) (fun _ h => by cases h)
    have er359 := RB.trans er342 rm
    refine ⟨fun _ => rm, ?_⟩
    have s357 := Step.of0 X320 e356
    replace hp := hp zr358
    obtain ⟨h360, hp⟩ := hp
    refine r_take 2 (.string (r354 ++ (ByteArray.mk #[58, 32]))) (RB.pre _ _) rfl (by kernel_rfl) (fun _ _ _ h => hQ.panic _ _ _ _ _ h) (.inl ⟨rfl, fun wq hq => (x_cat (by kernel_rfl) (by kernel_rfl) h360)⟩) ?_
    obtain ⟨h361, hp⟩ := hp
    refine r_take 5 (.string ((r354 ++ (ByteArray.mk #[58, 32])) ++ ((lget s s144).Text))) (RB.pre _ _) rfl (by kernel_rfl) (fun _ _ _ h => hQ.panic _ _ _ _ _ h) (.inl ⟨rfl, fun wq hq => (x_cat (by kernel_rfl) (by kernel_rfl) h361)⟩) ?_
    obtain ⟨h362, hp⟩ := hp
    refine r_take 6 (.string (((r354 ++ (ByteArray.mk #[58, 32])) ++ ((lget s s144).Text)) ++ (ByteArray.mk #[32, 40]))) (RB.pre _ _) rfl (by kernel_rfl) (fun _ _ _ h => hQ.panic _ _ _ _ _ h) (.inl ⟨rfl, fun wq hq => (x_cat (by kernel_rfl) (by kernel_rfl) h362)⟩) ?_
    refine r_ready [9] (by kernel_rfl) rfl (all_cons ⟨_, _, _, _, _, _, rfl, ?_⟩ all_nil)
    have gv363 := (GV.step gv348 s357)
    refine o_call 17 #[(.int .i64 ((lget s s144).Base))] rfl (x_call Tryd.call17 (by kernel_rfl)) (strconv_Itoa_w (X := []) (i := (lget s s144).Base) (Old.nil _) reBase310 (GV.less gv363 (Sub.nil _)) hp) ?_
    rintro _ w365 ⟨r364, hp, e366, rfl, zr368⟩
    have rm := RB.mono (F' := F147) e366 (Nat.le_trans (Nat.le_of_eq z341.symm) (RB.size er359)) (fun _ h => by cases h)
    have er369 := RB.trans er359 rm
    refine ⟨fun _ => rm, ?_⟩
    have s367 := Step.of0 X320 e366
    replace hp := hp zr368
    obtain ⟨h370, hp⟩ := hp
    refine r_take 10 (.string ((((r354 ++ (ByteArray.mk #[58, 32])) ++ ((lget s s144).Text)) ++ (ByteArray.mk #[32, 40])) ++ r364)) (RB.pre _ _) rfl (by kernel_rfl) (fun _ _ _ h => hQ.panic _ _ _ _ _ h) (.inl ⟨rfl, fun wq hq => (x_cat (by kernel_rfl) (by kernel_rfl) h370)⟩) ?_
    obtain ⟨h371, hp⟩ := hp
    refine r_take 11 (.string (((((r354 ++ (ByteArray.mk #[58, 32])) ++ ((lget s s144).Text)) ++ (ByteArray.mk #[32, 40])) ++ r364) ++ (ByteArray.mk #[44, 32]))) (RB.pre _ _) rfl (by kernel_rfl) (fun _ _ _ h => hQ.panic _ _ _ _ _ h) (.inl ⟨rfl, fun wq hq => (x_cat (by kernel_rfl) (by kernel_rfl) h371)⟩) ?_
    refine r_ready [15] (by kernel_rfl) rfl (all_cons ⟨_, _, _, _, _, _, rfl, ?_⟩ all_nil)
    have gv372 := (GV.step gv363 s367)
    refine o_call 17 #[(.int .i64 (((lget s s144).Index).length : Int))] rfl (x_call Tryd.call17 (by kernel_rfl)) (strconv_Itoa_w (X := []) (i := (((lget s s144).Index).length : Int)) (Old.nil _) (inR_len (Sl.len heIndex351)) (GV.less gv372 (Sub.nil _)) hp) ?_
    rintro _ w374 ⟨r373, hp, e375, rfl, zr377⟩
    have rm := RB.mono (F' := F147) e375 (Nat.le_trans (Nat.le_of_eq z341.symm) (RB.size er369)) (fun _ h => by cases h)
    have er378 := RB.trans er369 rm
    refine ⟨fun _ => rm, ?_⟩
    have s376 := Step.of0 X320 e375
    replace hp := hp zr377
    obtain ⟨h379, hp⟩ := hp
    refine r_take 16 (.string ((((((r354 ++ (ByteArray.mk #[58, 32])) ++ ((lget s s144).Text)) ++ (ByteArray.mk #[32, 40])) ++ r364) ++ (ByteArray.mk #[44, 32])) ++ r373)) (RB.pre _ _) rfl (by kernel_rfl) (fun _ _ _ h => hQ.panic _ _ _ _ _ h) (.inl ⟨rfl, fun wq hq => (x_cat (by kernel_rfl) (by kernel_rfl) h379)⟩) ?_
    obtain ⟨h380, hp⟩ := hp
    refine r_take 17 (.string (((((((r354 ++ (ByteArray.mk #[58, 32])) ++ ((lget s s144).Text)) ++ (ByteArray.mk #[32, 40])) ++ r364) ++ (ByteArray.mk #[44, 32])) ++ r373) ++ (ByteArray.mk #[47]))) (RB.pre _ _) rfl (by kernel_rfl) (fun _ _ _ h => hQ.panic _ _ _ _ _ h) (.inl ⟨rfl, fun wq hq => (x_cat (by kernel_rfl) (by kernel_rfl) h380)⟩) ?_
    refine r_ready [21] (by kernel_rfl) rfl (all_cons ⟨_, _, _, _, _, _, rfl, ?_⟩ all_nil)
    have gv381 := (GV.step gv372 s376)
    refine o_call 17 #[(.int .i64 (((lget s s144).Work).length : Int))] rfl (x_call Tryd.call17 (by kernel_rfl)) (strconv_Itoa_w (X := []) (i := (((lget s s144).Work).length : Int)) (Old.nil _) (inR_len (Sl.len heWork352)) (GV.less gv381 (Sub.nil _)) hp) ?_
    rintro _ w383 ⟨r382, hp, e384, rfl, zr386⟩
    have rm := RB.mono (F' := F147) e384 (Nat.le_trans (Nat.le_of_eq z341.symm) (RB.size er378)) (fun _ h => by cases h)
    have er387 := RB.trans er378 rm
    refine ⟨fun _ => rm, ?_⟩
    have s385 := Step.of0 X320 e384
    replace hp := hp zr386
    obtain ⟨h388, hp⟩ := hp
    refine r_take 22 (.string ((((((((r354 ++ (ByteArray.mk #[58, 32])) ++ ((lget s s144).Text)) ++ (ByteArray.mk #[32, 40])) ++ r364) ++ (ByteArray.mk #[44, 32])) ++ r373) ++ (ByteArray.mk #[47])) ++ r382)) (RB.pre _ _) rfl (by kernel_rfl) (fun _ _ _ h => hQ.panic _ _ _ _ _ h) (.inl ⟨rfl, fun wq hq => (x_cat (by kernel_rfl) (by kernel_rfl) h388)⟩) ?_
    obtain ⟨h389, hp⟩ := hp
    refine r_take 23 (.string (((((((((r354 ++ (ByteArray.mk #[58, 32])) ++ ((lget s s144).Text)) ++ (ByteArray.mk #[32, 40])) ++ r364) ++ (ByteArray.mk #[44, 32])) ++ r373) ++ (ByteArray.mk #[47])) ++ r382) ++ (ByteArray.mk #[41, 10]))) (RB.pre _ _) rfl (by kernel_rfl) (fun _ _ _ h => hQ.panic _ _ _ _ _ h) (.inl ⟨rfl, fun wq hq => (x_cat (by kernel_rfl) (by kernel_rfl) h389)⟩) ?_
    refine r_ready [24] (by kernel_rfl) rfl (all_cons ⟨_, _, _, _, _, _, rfl, ?_⟩ all_nil)
    have E390 := (Evo.then0 (Evo.then0 (Evo.then0 (Evo.then0 E345 e356) e366) e375) e384)
    have hXo391 := (Old.step (Old.step (Old.step (Old.step hXo346 s357) s367) s376) s385)
    have hS392 := (Sub.trans (Sub.trans (Sub.trans (Sub.trans hS347 (Step.up s357)) (Step.up s367)) (Step.up s376)) (Step.up s385))
    have gv393 := (GV.step gv381 s385)
    have hs394 := (Sl.step (Sl.step (Sl.step (Sl.step hs349 s357) s367) s376) s385)
    have m395 := (MO.step0 (MO.step0 (MO.step0 (MO.step0 m350 s357) s367) s376) s385)
    have heIndex396 := (Sl.step (Sl.step (Sl.step (Sl.step heIndex351 s357) s367) s376) s385)
    have heWork397 := (Sl.step (Sl.step (Sl.step (Sl.step heWork352 s357) s367) s376) s385)
    have k398 := (OB.step0 (OB.step0 (OB.step0 (OB.step0 k353 s357) s367) s376) s385)
    refine o_call 16 #[(.pointer (some ⟨b6, 0, none⟩)), (.string (((((((((r354 ++ (ByteArray.mk #[58, 32])) ++ ((lget s s144).Text)) ++ (ByteArray.mk #[32, 40])) ++ r364) ++ (ByteArray.mk #[44, 32])) ++ r373) ++ (ByteArray.mk #[47])) ++ r382) ++ (ByteArray.mk #[41, 10])))] rfl (x_call Tryd.call16 (by kernel_rfl)) (strings_Builder_WriteString_w (X := X320) (b := o146) (s := ((((((((r354 ++ (ByteArray.mk #[58, 32])) ++ ((lget s s144).Text)) ++ (ByteArray.mk #[32, 40])) ++ r364) ++ (ByteArray.mk #[44, 32])) ++ r373) ++ (ByteArray.mk #[47])) ++ r382) ++ (ByteArray.mk #[41, 10])) hXo391 (MO.re m395 (Wr.self _ _ (Sub.refl _))) h389 hp) ?_
    rintro _ w402 ⟨b399, r400, r401, hp, X403, F405, vr408, s404, rfl, m406, rr407, hr409⟩
    have rm := RB.mono (F' := F147) (Step.evo s404) (Nat.le_trans (Nat.le_of_eq z341.symm) (RB.size er387)) (Wr.self _ _ (Sub.refl _))
    have er410 := RB.trans er387 rm
    refine ⟨fun _ => rm, ?_⟩
    have wn411 : Wr F147 w327.heap.size F405 := Wr.trans m406.wr (Wr.self _ _ (Sub.refl _)) (Nat.le_trans (Nat.le_of_eq z341.symm) (RB.size er387))
    have m412 := MO.re m406 (Wr.trans m406.wr m395.wr E390.size)
    have p413 := Ap.grow m406.wr (Ap.symm p324) (OB.old k398) (Nat.le_refl _)
    replace hp := hp rr407
    refine r_done (by kernel_rfl) ?_
    refine blk_normal ?_
    refine then_normal (K299 _ _ _ _ ?_)
    refine reg_ ?_
    obtain ⟨h414, hp⟩ := hp
    refine sq (o_pv (.int .i64 (s144 + (1 : Int))) rfl (x_add2 (k := .i64) (a := s144) (b := (1 : Int)) (s144 + (1 : Int)) (by kernel_rfl) (by kernel_rfl) (wrap_inR h414)) ?_)
    refine sq (o_pv (.int .i64 (s144 + (1 : Int))) rfl (by kernel_rfl) ?_)
    refine nil_ ?_
    have E415 := (Evo.thenW E390 (Step.evo s404) m395.wr)
    have hXo416 := (Old.step hXo391 s404)
    have hS417 := (Sub.trans hS392 (Step.up s404))
    have gv418 := (GV.step gv393 s404)
    have hs419 := (Sl.step hs394 s404)
    refine then_normal (hA282 _ _ _ ⟨_, [(8, (.int .i64 (s144 + (1 : Int))))], hp.2, fit_mk (AgB.mix _ _ _) (by kernel_rfl) (vs_cons (by kernel_rfl) vs_nil), ?_⟩)
    exact ⟨X403, (s144 + (1 : Int)), b399, F405, rfl, rfl, E415, hXo416, hS417, gv418, hs419, m412, h414, hp.1⟩
  ·
    replace hp := hp.2 h298
    refine wp_exit ?_
    refine then_exit ?_
    refine then_exit ?_
    refine blk_exit ?_
    refine then_normal (K12 _ _ _ _ ?_)
    refine seq_ (fun _ K420 => ?_)
    refine reg_ ?_
    refine sq (o_call 18 #[(.pointer (some ⟨b6, 0, none⟩))] rfl (x_call Tryd.call18 (by kernel_rfl)) (strings_Builder_String_w (X := X278) (b := o146) hXo289 (MO.re m148 (Wr.self _ _ (Sub.refl _))) hp) ?_)
    rintro _ w422 ⟨r421, hp, X423, s424, rfl, zr425⟩
    replace hp := hp zr425
    refine sq (o_pv (.string r421) rfl (by kernel_rfl) ?_)
    refine nil_ ?_
    refine then_normal (K420 _ _ _ _ ?_)
    refine wp_ret ?_
    have E426 := (Evo.thenW E288 (Step.evo s424) m148.wr)
    refine end_ret hQ (.string r421) (by kernel_rfl) ?_
    exact ⟨r421, hp, E426, rfl, zr425⟩

def slices_Equal_files_Row_files_File_p (s1 : (List S_files_File)) (s2 : (List S_files_File)) (Q : Bool → Prop) : Prop :=
  ((s1.length ≤ 9223372036854775807) → ((s2.length ≤ 9223372036854775807) → (((¬ ((s1.length : Int) = (s2.length : Int))) → Q false) ∧ (((s1.length : Int) = (s2.length : Int)) → (∃ (I62 : Int → Prop) (m63 : Int → Nat), (I62 (0 : Int)) ∧ (∀ (s14 : Int), (I62 s14) → (inR .i64 s14) → (((s14 < (s1.length : Int)) → ((inL s1 s14) ∧ ((((lget s1 s14).Path).size ≤ maxLen) → ((inR .i64 ((lget s1 s14).Mode)) → ((((lget s1 s14).Data).size ≤ maxLen) → ((inL s2 s14) ∧ ((((lget s2 s14).Path).size ≤ maxLen) → ((inR .i64 ((lget s2 s14).Mode)) → ((((lget s2 s14).Data).size ≤ maxLen) → (((¬ ((((lget s1 s14).Path : ByteArray) = (lget s2 s14).Path) ∧ (((lget s1 s14).Mode = (lget s2 s14).Mode) ∧ ((((lget s1 s14).Data : ByteArray) = (lget s2 s14).Data) ∧ True)))) → Q false) ∧ (((((lget s1 s14).Path : ByteArray) = (lget s2 s14).Path) ∧ (((lget s1 s14).Mode = (lget s2 s14).Mode) ∧ ((((lget s1 s14).Data : ByteArray) = (lget s2 s14).Data) ∧ True))) → ((inR .i64 (s14 + (1 : Int))) ∧ ((I62 (s14 + (1 : Int))) ∧ m63 (s14 + (1 : Int)) < m63 s14))))))))))))) ∧ ((¬ (s14 < (s1.length : Int))) → Q true))))))))
set_option maxRecDepth 20000 in
set_option maxHeartbeats 4000000 in
theorem slices_Equal_files_Row_files_File_w {X : List Nat} {w : World} {s1 : (List S_files_File)} {s2 : (List S_files_File)} {as1_1 : Option Addr} {cs1_2 : Nat} {as2_4 : Option Addr} {cs2_5 : Nat} {Q : Bool → Prop} (hX0 : Old X w) (hs1_3 : Sl r_files_File X w as1_1 cs1_2 s1) (hs2_6 : Sl r_files_File X w as2_4 cs2_5 s2) (hp : slices_Equal_files_Row_files_File_p s1 s2 Q) :
    Calls Tryd.prog 28 #[(.slice as1_1 s1.length cs1_2), (.slice as2_4 s2.length cs2_5)] w (Ret fun v w' => ∃ (r0 : Bool), Q r0 ∧ Evo [] w w' ∧ v = (.bool r0)) := by
  have hXo := hX0
  have E0 : Evo [] w w := RB.refl _ _ _
  have hS : Sub X X := Sub.refl _
  unfold slices_Equal_files_Row_files_File_p at hp
  refine enter_ Tryd.func28 rfl 26 [(0, (.slice as1_1 s1.length cs1_2)), (1, (.slice as2_4 s2.length cs2_5))] (by kernel_rfl) (fun Qe hQ => ?_)
  replace hp := hp (Sl.len hs1_3)
  replace hp := hp (Sl.len hs2_6)
  refine seq_ (fun _ K7 => ?_)
  refine reg_ ?_
  refine sq (o_pv (.bool false) rfl (by kernel_rfl) ?_)
  refine nil_ ?_
  refine then_normal (K7 _ _ _ _ ?_)
  refine seq_ (fun _ K8 => ?_)
  refine seq_ (fun _ K9 => ?_)
  refine reg_ ?_
  refine sq (o_pv (.slice as1_1 s1.length cs1_2) rfl (by kernel_rfl) ?_)
  refine sq (o_pv (.int .i64 (s1.length : Int)) rfl (by kernel_rfl) ?_)
  refine sq (o_pv (.slice as2_4 s2.length cs2_5) rfl (by kernel_rfl) ?_)
  refine sq (o_pv (.int .i64 (s2.length : Int)) rfl (by kernel_rfl) ?_)
  refine sq (o_pv (.bool (!decide ((s1.length : Int) = (s2.length : Int)))) rfl (by kernel_rfl) ?_)
  refine nil_ ?_
  refine then_normal (K9 _ _ _ _ ?_)
  refine cond_nd ((s1.length : Int) = (s2.length : Int)) (by kernel_rfl) (fun h10 => ?_) (fun h10 => ?_)
  ·
    replace hp := hp.1 h10
    refine seq_ (fun _ K11 => ?_)
    refine reg_ ?_
    refine sq (o_pv (.bool false) rfl (by kernel_rfl) ?_)
    refine nil_ ?_
    refine then_normal (K11 _ _ _ _ ?_)
    refine wp_ret ?_
    refine then_ret ?_
    refine end_ret hQ (.bool false) (by kernel_rfl) ?_
    exact ⟨false, hp, E0, rfl⟩
  ·
    replace hp := hp.2 h10
    refine wp_skip ?_
    refine then_normal (K8 _ _ _ _ ?_)
    refine seq_ (fun _ K12 => ?_)
    refine seq_ (fun _ K13 => ?_)
    refine reg_ ?_
    refine sq (o_pv (.slice as1_1 s1.length cs1_2) rfl (by kernel_rfl) ?_)
    refine sq (o_pv (.int .i64 (s1.length : Int)) rfl (by kernel_rfl) ?_)
    refine sq (o_pv (.int .i64 (0 : Int)) rfl (by kernel_rfl) ?_)
    refine nil_ ?_
    refine then_normal (K13 _ _ _ _ ?_)
    refine wp_block ?_
    obtain ⟨I62, m63, hI64, hp⟩ := hp
    refine loop_ 67100720 (fun kq lq w66 => ∃ (X67 : List Nat) (s14 : Int), (lq = [(13, (.int .i64 s14))]) ∧ (kq = m63 s14) ∧ (Evo [] w w66) ∧ (Old X67 w66) ∧ (Sub X X67) ∧ (Sl r_files_File X67 w66 as1_1 cs1_2 s1) ∧ (Sl r_files_File X67 w66 as2_4 cs2_5 s2) ∧ (inR .i64 s14) ∧ (I62 s14)) (m63 (0 : Int)) [(13, (.int .i64 (0 : Int)))] (vs_cons (by kernel_rfl) vs_nil) ⟨X, (0 : Int), rfl, rfl, E0, hXo, hS, hs1_3, hs2_6, (by decide : inR .i64 (0 : Int)), hI64⟩ ?_
    rintro _ _ w66 g69 ⟨X67, s14, rfl, rfl, E72, hXo73, hS74, hs1_75, hs2_76, rs15, hI65⟩ Kl70 hA71
    replace hp := hp s14 hI65 rs15
    refine seq_ (fun _ K77 => ?_)
    refine reg_ ?_
    refine sq (o_pv (.bool (decide (s14 < (s1.length : Int)))) rfl (by kernel_rfl) ?_)
    refine nil_ ?_
    refine then_normal (K77 _ _ _ _ ?_)
    refine seq_ (fun _ K78 => ?_)
    refine cond_d (s14 < (s1.length : Int)) (by kernel_rfl) (fun h79 => ?_) (fun h79 => ?_)
    ·
      replace hp := hp.1 h79
      refine wp_skip ?_
      refine then_normal (K78 _ _ _ _ ?_)
      refine seq_ (fun _ K80 => ?_)
      refine wp_block ?_
      refine seq_ (fun _ K81 => ?_)
      refine reg_ ?_
      refine sq (o_pv (.int .i64 s14) rfl (by kernel_rfl) ?_)
      refine sq (o_pv (.int .i64 s14) rfl (by kernel_rfl) ?_)
      refine nil_ ?_
      refine then_normal (K81 _ _ _ _ ?_)
      refine seq_ (fun _ K82 => ?_)
      refine reg_drawn (RB w66.heap.size []) 9 (by kernel_rfl) (fun w83 hd84 => ?_)
      have e85 := Evo.of_drew hd84
      have z86 : w83.heap.size = w66.heap.size := by rw [hd84]
      clear hd84
      have s88 := Step.of0 X67 e85
      have er87 := RB.refl w66.heap.size [] w83
      have E89 := (Evo.then0 E72 (Step.evo s88))
      have hXo90 := (Old.step hXo73 s88)
      have hS91 := (Sub.trans hS74 (Step.up s88))
      have hs1_92 := (Sl.step hs1_75 s88)
      have hs2_93 := (Sl.step hs2_76 s88)
      refine r_take 0 (.slice as1_1 s1.length cs1_2) (RB.pre _ _) rfl (by kernel_rfl) (fun _ _ _ h => hQ.panic _ _ _ _ _ h) (.inl ⟨rfl, fun wq hq => (by kernel_rfl)⟩) ?_
      refine r_take 1 (.int .i64 s14) (RB.pre _ _) rfl (by kernel_rfl) (fun _ _ _ h => hQ.panic _ _ _ _ _ h) (.inl ⟨rfl, fun wq hq => (by kernel_rfl)⟩) ?_
      obtain ⟨h94, hp⟩ := hp
      obtain ⟨b95, o96, cs97, ha98, nx99, lt100, ok101, hc102⟩ := Sl.atI hs1_92 s14 h94
      obtain ⟨rfl, zePath103, reMode104, zeData105⟩ := r_files_File_open ok101
      replace hp := hp zePath103
      replace hp := hp reMode104
      replace hp := hp zeData105
      refine r_take 2 (.pointer (some ⟨b95, o96 + s14.toNat * 3, none⟩)) (RB.pre _ _) rfl (by kernel_rfl) (fun _ _ _ h => hQ.panic _ _ _ _ _ h) (.inl ⟨rfl, fun wq hq => (x_ixA (m := s1.length) (c := cs1_2) (k := .i64) (i := s14) Tryd.underlying29 Tryd.sizeOf37 (by rw [← ha98]; kernel_rfl) (by kernel_rfl) h94)⟩) ?_
      refine r_take 3 (.agg #[(.string ((lget s1 s14).Path)), (.int .i64 ((lget s1 s14).Mode)), (.string ((lget s1 s14).Data))]) (RB.pre _ _) rfl (by kernel_rfl) (fun _ _ _ h => hQ.panic _ _ _ _ _ h) (.inl ⟨rfl, fun wq hq => (x_loadN [(.string ((lget s1 s14).Path)), (.int .i64 ((lget s1 s14).Mode)), (.string ((lget s1 s14).Data))] (by kernel_rfl) Tryd.isAgg37 Tryd.sizeOf37 (CellsAt.rb hc102 (RB.trans er87 hq) (Nat.lt_of_lt_of_eq lt100 z86) (fun h => by cases h)))⟩) ?_
      refine r_take 4 (.slice as2_4 s2.length cs2_5) (RB.pre _ _) rfl (by kernel_rfl) (fun _ _ _ h => hQ.panic _ _ _ _ _ h) (.inl ⟨rfl, fun wq hq => (by kernel_rfl)⟩) ?_
      refine r_take 5 (.int .i64 s14) (RB.pre _ _) rfl (by kernel_rfl) (fun _ _ _ h => hQ.panic _ _ _ _ _ h) (.inl ⟨rfl, fun wq hq => (by kernel_rfl)⟩) ?_
      obtain ⟨h106, hp⟩ := hp
      obtain ⟨b107, o108, cs109, ha110, nx111, lt112, ok113, hc114⟩ := Sl.atI hs2_93 s14 h106
      obtain ⟨rfl, zePath115, reMode116, zeData117⟩ := r_files_File_open ok113
      replace hp := hp zePath115
      replace hp := hp reMode116
      replace hp := hp zeData117
      refine r_take 6 (.pointer (some ⟨b107, o108 + s14.toNat * 3, none⟩)) (RB.pre _ _) rfl (by kernel_rfl) (fun _ _ _ h => hQ.panic _ _ _ _ _ h) (.inl ⟨rfl, fun wq hq => (x_ixA (m := s2.length) (c := cs2_5) (k := .i64) (i := s14) Tryd.underlying29 Tryd.sizeOf37 (by rw [← ha110]; kernel_rfl) (by kernel_rfl) h106)⟩) ?_
      refine r_take 7 (.agg #[(.string ((lget s2 s14).Path)), (.int .i64 ((lget s2 s14).Mode)), (.string ((lget s2 s14).Data))]) (RB.pre _ _) rfl (by kernel_rfl) (fun _ _ _ h => hQ.panic _ _ _ _ _ h) (.inl ⟨rfl, fun wq hq => (x_loadN [(.string ((lget s2 s14).Path)), (.int .i64 ((lget s2 s14).Mode)), (.string ((lget s2 s14).Data))] (by kernel_rfl) Tryd.isAgg37 Tryd.sizeOf37 (CellsAt.rb hc114 (RB.trans er87 hq) (Nat.lt_of_lt_of_eq lt112 z86) (fun h => by cases h)))⟩) ?_
      refine r_take 8 (.bool (!decide ((((lget s1 s14).Path : ByteArray) = (lget s2 s14).Path) ∧ (((lget s1 s14).Mode = (lget s2 s14).Mode) ∧ ((((lget s1 s14).Data : ByteArray) = (lget s2 s14).Data) ∧ True))))) (RB.pre _ _) rfl (by kernel_rfl) (fun _ _ _ h => hQ.panic _ _ _ _ _ h) (.inl ⟨rfl, fun wq hq => (x_stne (q := (((lget s1 s14).Path : ByteArray) = (lget s2 s14).Path) ∧ (((lget s1 s14).Mode = (lget s2 s14).Mode) ∧ ((((lget s1 s14).Data : ByteArray) = (lget s2 s14).Data) ∧ True))) (xs := #[(.string ((lget s1 s14).Path)), (.int .i64 ((lget s1 s14).Mode)), (.string ((lget s1 s14).Data))]) (ys := #[(.string ((lget s2 s14).Path)), (.int .i64 ((lget s2 s14).Mode)), (.string ((lget s2 s14).Data))]) [({ name := "Path", type := 9, offset := 0, embedded := false, tag := "", pkgPath := "", byteOffset := 0 } : Field), ({ name := "Mode", type := 3, offset := 1, embedded := false, tag := "", pkgPath := "", byteOffset := 16 } : Field), ({ name := "Data", type := 9, offset := 2, embedded := false, tag := "", pkgPath := "", byteOffset := 24 } : Field)] (by kernel_rfl) (by kernel_rfl) (by kernel_rfl) (by kernel_rfl) (by kernel_rfl) (by kernel_rfl) (eqF_str (a := (lget s1 s14).Path) (b := (lget s2 s14).Path) (by kernel_rfl) (by kernel_rfl) (by kernel_rfl) Tryd.underlying9 (eqF_int (k := .i64) (a := (lget s1 s14).Mode) (b := (lget s2 s14).Mode) (by kernel_rfl) (by kernel_rfl) (by kernel_rfl) Tryd.underlying3 (eqF_str (a := (lget s1 s14).Data) (b := (lget s2 s14).Data) (by kernel_rfl) (by kernel_rfl) (by kernel_rfl) Tryd.underlying9 eqF_nil))))⟩) ?_
      refine r_done (by kernel_rfl) ?_
      refine then_normal (K82 _ _ _ _ ?_)
      refine cond_nd ((((lget s1 s14).Path : ByteArray) = (lget s2 s14).Path) ∧ (((lget s1 s14).Mode = (lget s2 s14).Mode) ∧ ((((lget s1 s14).Data : ByteArray) = (lget s2 s14).Data) ∧ True))) (by kernel_rfl) (fun h118 => ?_) (fun h118 => ?_)
      ·
        replace hp := hp.1 h118
        refine seq_ (fun _ K119 => ?_)
        refine reg_ ?_
        refine sq (o_pv (.bool false) rfl (by kernel_rfl) ?_)
        refine nil_ ?_
        refine then_normal (K119 _ _ _ _ ?_)
        refine wp_ret ?_
        refine blk_ret ?_
        refine then_ret ?_
        refine then_ret ?_
        refine blk_ret ?_
        refine then_ret ?_
        refine end_ret hQ (.bool false) (by kernel_rfl) ?_
        exact ⟨false, hp, E89, rfl⟩
      ·
        replace hp := hp.2 h118
        refine wp_skip ?_
        refine blk_normal ?_
        refine then_normal (K80 _ _ _ _ ?_)
        refine reg_ ?_
        obtain ⟨h120, hp⟩ := hp
        refine sq (o_pv (.int .i64 (s14 + (1 : Int))) rfl (x_add2 (k := .i64) (a := s14) (b := (1 : Int)) (s14 + (1 : Int)) (by kernel_rfl) (by kernel_rfl) (wrap_inR h120)) ?_)
        refine sq (o_pv (.int .i64 (s14 + (1 : Int))) rfl (by kernel_rfl) ?_)
        refine nil_ ?_
        refine then_normal (hA71 _ _ _ ⟨_, [(13, (.int .i64 (s14 + (1 : Int))))], hp.2, fit_mk (AgB.mix _ _ _) (by kernel_rfl) (vs_cons (by kernel_rfl) vs_nil), ?_⟩)
        exact ⟨X67, (s14 + (1 : Int)), rfl, rfl, E89, hXo90, hS91, hs1_92, hs2_93, h120, hp.1⟩
    ·
      replace hp := hp.2 h79
      refine wp_exit ?_
      refine then_exit ?_
      refine then_exit ?_
      refine blk_exit ?_
      refine then_normal (K12 _ _ _ _ ?_)
      refine seq_ (fun _ K121 => ?_)
      refine reg_ ?_
      refine sq (o_pv (.bool true) rfl (by kernel_rfl) ?_)
      refine nil_ ?_
      refine then_normal (K121 _ _ _ _ ?_)
      refine wp_ret ?_
      refine end_ret hQ (.bool true) (by kernel_rfl) ?_
      exact ⟨true, hp, E72, rfl⟩

def files_Row_Same_p (r : (List S_files_File)) (q : (List S_files_File)) (Q : Bool → Prop) : Prop :=
  ((r.length ≤ 9223372036854775807) → ((q.length ≤ 9223372036854775807) → (slices_Equal_files_Row_files_File_p r q (fun (r9 : Bool) => Q r9))))
set_option maxRecDepth 20000 in
set_option maxHeartbeats 4000000 in
theorem files_Row_Same_w {X : List Nat} {w : World} {r : (List S_files_File)} {q : (List S_files_File)} {ar1 : Option Addr} {cr2 : Nat} {aq4 : Option Addr} {cq5 : Nat} {Q : Bool → Prop} (hX0 : Old X w) (hr3 : Sl r_files_File X w ar1 cr2 r) (hq6 : Sl r_files_File X w aq4 cq5 q) (hp : files_Row_Same_p r q Q) :
    Calls Tryd.prog 21 #[(.slice ar1 r.length cr2), (.slice aq4 q.length cq5)] w (Ret fun v w' => ∃ (r0 : Bool), Q r0 ∧ Evo [] w w' ∧ v = (.bool r0)) := by
  have hXo := hX0
  have E0 : Evo [] w w := RB.refl _ _ _
  have hS : Sub X X := Sub.refl _
  unfold files_Row_Same_p at hp
  refine enter_ Tryd.func21 rfl 8 [(0, (.slice ar1 r.length cr2)), (1, (.slice aq4 q.length cq5))] (by kernel_rfl) (fun Qe hQ => ?_)
  replace hp := hp (Sl.len hr3)
  replace hp := hp (Sl.len hq6)
  refine seq_ (fun _ K7 => ?_)
  refine reg_ ?_
  refine sq (o_pv (.bool false) rfl (by kernel_rfl) ?_)
  refine nil_ ?_
  refine then_normal (K7 _ _ _ _ ?_)
  refine seq_ (fun _ K8 => ?_)
  refine reg_ ?_
  refine sq (o_pv (.slice ar1 r.length cr2) rfl (by kernel_rfl) ?_)
  refine sq (o_pv (.slice aq4 q.length cq5) rfl (by kernel_rfl) ?_)
  refine sq (o_call 28 #[(.slice ar1 r.length cr2), (.slice aq4 q.length cq5)] rfl (x_call Tryd.call28 (by kernel_rfl)) (slices_Equal_files_Row_files_File_w (X := []) (s1 := r) (s2 := q) (Old.nil _) (Sl.less hr3 (Sub.nil _)) (Sl.less hq6 (Sub.nil _)) hp) ?_)
  rintro _ w10 ⟨r9, hp, e11, rfl⟩
  have s12 := Step.of0 X e11
  refine sq (o_pv (.bool r9) rfl (by kernel_rfl) ?_)
  refine nil_ ?_
  refine then_normal (K8 _ _ _ _ ?_)
  refine wp_ret ?_
  have E13 := (Evo.then0 E0 e11)
  refine end_ret hQ (.bool r9) (by kernel_rfl) ?_
  exact ⟨r9, hp, E13, rfl⟩

def shelf_Stack_Same_1_p (x : S_shelf_Shelf) (y : S_shelf_Shelf) (Q : Bool → Prop) : Prop :=
  ((inR .i64 x.Base) → ((x.Index.length ≤ 9223372036854775807) → ((x.Work.length ≤ 9223372036854775807) → ((x.Text.size ≤ maxLen) → ((inR .i64 y.Base) → ((y.Index.length ≤ 9223372036854775807) → ((y.Work.length ≤ 9223372036854775807) → ((y.Text.size ≤ maxLen) → (∃ k52 : Bool → Prop, (∀ (s51 : Bool), k52 s51 → Q s51) ∧ (((x.Base = y.Base) → (files_Row_Same_p x.Index y.Index (fun (r71 : Bool) => (((r71 = true) → (files_Row_Same_p x.Work y.Work (fun (r82 : Bool) => (((r82 = true) → (k52 (decide ((x.Text : ByteArray) = y.Text)))) ∧ ((r82 = false) → (k52 false)))))) ∧ ((r71 = false) → (k52 false)))))) ∧ ((¬ (x.Base = y.Base)) → (k52 false))))))))))))
set_option maxRecDepth 20000 in
set_option maxHeartbeats 4000000 in
theorem shelf_Stack_Same_1_w {X : List Nat} {w : World} {x : S_shelf_Shelf} {y : S_shelf_Shelf} {axIndex2 : Option Addr} {cxIndex3 : Nat} {axWork5 : Option Addr} {cxWork6 : Nat} {ayIndex10 : Option Addr} {cyIndex11 : Nat} {ayWork13 : Option Addr} {cyWork14 : Nat} {Q : Bool → Prop} (hX0 : Old X w) (rxBase1 : inR .i64 x.Base) (hxIndex4 : Sl r_files_File X w axIndex2 cxIndex3 x.Index) (hxWork7 : Sl r_files_File X w axWork5 cxWork6 x.Work) (zxText8 : x.Text.size ≤ maxLen) (ryBase9 : inR .i64 y.Base) (hyIndex12 : Sl r_files_File X w ayIndex10 cyIndex11 y.Index) (hyWork15 : Sl r_files_File X w ayWork13 cyWork14 y.Work) (zyText16 : y.Text.size ≤ maxLen) (hp : shelf_Stack_Same_1_p x y Q) :
    Calls Tryd.prog 20 #[(.agg #[(.int .i64 x.Base), (.slice axIndex2 x.Index.length cxIndex3), (.slice axWork5 x.Work.length cxWork6), (.string x.Text)]), (.agg #[(.int .i64 y.Base), (.slice ayIndex10 y.Index.length cyIndex11), (.slice ayWork13 y.Work.length cyWork14), (.string y.Text)])] w (Ret fun v w' => ∃ (r0 : Bool), Q r0 ∧ Evo [] w w' ∧ v = (.bool r0)) := by
  have hXo := hX0
  have E0 : Evo [] w w := RB.refl _ _ _
  have hS : Sub X X := Sub.refl _
  unfold shelf_Stack_Same_1_p at hp
  refine enter_ Tryd.func20 rfl 31 [(0, (.agg #[(.int .i64 x.Base), (.slice axIndex2 x.Index.length cxIndex3), (.slice axWork5 x.Work.length cxWork6), (.string x.Text)])), (1, (.agg #[(.int .i64 y.Base), (.slice ayIndex10 y.Index.length cyIndex11), (.slice ayWork13 y.Work.length cyWork14), (.string y.Text)]))] (by kernel_rfl) (fun Qe hQ => ?_)
  replace hp := hp rxBase1
  replace hp := hp (Sl.len hxIndex4)
  replace hp := hp (Sl.len hxWork7)
  replace hp := hp zxText8
  replace hp := hp ryBase9
  replace hp := hp (Sl.len hyIndex12)
  replace hp := hp (Sl.len hyWork15)
  replace hp := hp zyText16
  refine seq_ (fun _ K17 => ?_)
  refine reg_ ?_
  refine sq (o_newX [(.int .i64 x.Base), (.slice axIndex2 x.Index.length cxIndex3), (.slice axWork5 x.Work.length cxWork6), (.string x.Text)] 31 (X := X) (B := w.heap.size) E0.size rfl (by kernel_rfl) ?_)
  intro b18 w19 X20 s21 k22 n23
  have E30 := (Evo.then0 E0 (Step.evo s21))
  refine sq (o_newX [(.int .i64 y.Base), (.slice ayIndex10 y.Index.length cyIndex11), (.slice ayWork13 y.Work.length cyWork14), (.string y.Text)] 31 (X := X20) (B := w.heap.size) E30.size rfl (by kernel_rfl) ?_)
  intro b24 w25 X26 s27 k28 n29
  have p31 := n29 _ (OB.old k22)
  refine sq (o_pv (.bool false) rfl (by kernel_rfl) ?_)
  refine nil_ ?_
  refine then_normal (K17 _ _ _ _ ?_)
  refine seq_ (fun _ K32 => ?_)
  have hxIndex59 := (Sl.step (Sl.step hxIndex4 s21) s27)
  have hxWork60 := (Sl.step (Sl.step hxWork7 s21) s27)
  have hyIndex61 := (Sl.step (Sl.step hyIndex12 s21) s27)
  have hyWork62 := (Sl.step (Sl.step hyWork15 s21) s27)
  have hXo63 := (Old.step (Old.step hXo s21) s27)
  have E64 := (Evo.then0 E30 (Step.evo s27))
  have hS65 := (Sub.trans (Sub.trans hS (Step.up s21)) (Step.up s27))
  have k66 := (OB.step0 k22 s27)
  obtain ⟨k52, hk53, hp⟩ := hp
  refine ground_ ?_
  refine join_ 2147483632 (fun lq w54 => ∃ (X55 : List Nat) (s51 : Bool), (lq = [(4, (.bool s51))]) ∧ (Evo [] w w54) ∧ (Old X55 w54) ∧ (Sub X X55) ∧ (k52 s51)) (fun Kj56 hJ57 => ?_) ?_
  ·
    refine reg_ ?_
    refine sq (o_pv (.pointer (some ⟨b18, 0, none⟩)) rfl (by kernel_rfl) ?_)
    refine sq (o_pv (.int .i64 x.Base) rfl (x_load1 (by kernel_rfl) Tryd.isAgg3 (k66.2.1.cell' 0 rfl)) ?_)
    refine sq (o_pv (.pointer (some ⟨b24, 0, none⟩)) rfl (by kernel_rfl) ?_)
    refine sq (o_pv (.int .i64 y.Base) rfl (x_load1 (by kernel_rfl) Tryd.isAgg3 (k28.2.1.cell' 0 rfl)) ?_)
    by_cases h70 : x.Base = y.Base
    ·
      replace hp := hp.1 h70
      refine sq (o_pv (.bool true) rfl (x_dt (p := x.Base = y.Base) (by kernel_rfl) h70) ?_)
      refine sq (o_pv (.bool true) rfl (by kernel_rfl) ?_)
      refine sq (o_pv (.pointer (some ⟨b18, 1, none⟩)) (by kernel_rfl) (by kernel_rfl) ?_)
      refine sq (o_pv (.slice axIndex2 x.Index.length cxIndex3) (by kernel_rfl) (x_load1 (by kernel_rfl) Tryd.isAgg29 (k66.2.1.cell' 1 rfl)) ?_)
      refine sq (o_pv (.pointer (some ⟨b24, 1, none⟩)) (by kernel_rfl) (by kernel_rfl) ?_)
      refine sq (o_pv (.slice ayIndex10 y.Index.length cyIndex11) (by kernel_rfl) (x_load1 (by kernel_rfl) Tryd.isAgg29 (k28.2.1.cell' 1 rfl)) ?_)
      refine sq (o_call 21 #[(.slice axIndex2 x.Index.length cxIndex3), (.slice ayIndex10 y.Index.length cyIndex11)] (by kernel_rfl) (x_call Tryd.call21 (by kernel_rfl)) (files_Row_Same_w (X := []) (r := x.Index) (q := y.Index) (Old.nil _) (Sl.less hxIndex59 (Sub.nil _)) (Sl.less hyIndex61 (Sub.nil _)) hp) ?_)
      rintro _ w72 ⟨r71, hp, e73, rfl⟩
      have s74 := Step.of0 X26 e73
      cases r71
      ·
        replace hp := hp.2 rfl
        refine sq (o_pv (.bool false) rfl (by kernel_rfl) ?_)
        refine sq (o_pv (.bool false) rfl (by kernel_rfl) ?_)
        refine sq (o_not (by kernel_rfl) ?_)
        refine sq (o_not (by kernel_rfl) ?_)
        refine sq (o_not (by kernel_rfl) ?_)
        refine sq (o_not (by kernel_rfl) ?_)
        refine sq (o_not (by kernel_rfl) ?_)
        refine sq (o_pv (.bool false) rfl (by kernel_rfl) ?_)
        refine sq (o_pv (.bool false) rfl (by kernel_rfl) ?_)
        refine sq (o_not (by kernel_rfl) ?_)
        refine sq (o_not (by kernel_rfl) ?_)
        refine sq (o_not (by kernel_rfl) ?_)
        refine sq (o_not (by kernel_rfl) ?_)
        refine sq (o_not (by kernel_rfl) ?_)
        refine sq (o_pv (.bool false) rfl (by kernel_rfl) ?_)
        refine sq (o_pv (.bool false) rfl (by kernel_rfl) ?_)
        refine nil_ ?_
        have E75 := (Evo.then0 E64 e73)
        have hXo76 := (Old.step hXo63 s74)
        have hS77 := (Sub.trans hS65 (Step.up s74))
        refine then_normal (hJ57 _ _ _ ⟨[(4, (.bool false))], fit_mk (fun _ _ => rfl) (by kernel_rfl) (vs_cons (by kernel_rfl) vs_nil), ?_⟩)
        exact ⟨X26, false, rfl, E75, hXo76, hS77, hp⟩
      ·
        replace hp := hp.1 rfl
        refine sq (o_pv (.bool true) rfl (by kernel_rfl) ?_)
        refine sq (o_pv (.bool true) rfl (by kernel_rfl) ?_)
        refine sq (o_pv (.pointer (some ⟨b18, 2, none⟩)) (by kernel_rfl) (by kernel_rfl) ?_)
        have k78 := (OB.step0 k66 s74)
        refine sq (o_pv (.slice axWork5 x.Work.length cxWork6) (by kernel_rfl) (x_load1 (by kernel_rfl) Tryd.isAgg29 (k78.2.1.cell' 2 rfl)) ?_)
        refine sq (o_pv (.pointer (some ⟨b24, 2, none⟩)) (by kernel_rfl) (by kernel_rfl) ?_)
        have k79 := (OB.step0 k28 s74)
        refine sq (o_pv (.slice ayWork13 y.Work.length cyWork14) (by kernel_rfl) (x_load1 (by kernel_rfl) Tryd.isAgg29 (k79.2.1.cell' 2 rfl)) ?_)
        have hxWork80 := (Sl.step hxWork60 s74)
        have hyWork81 := (Sl.step hyWork62 s74)
        refine sq (o_call 21 #[(.slice axWork5 x.Work.length cxWork6), (.slice ayWork13 y.Work.length cyWork14)] (by kernel_rfl) (x_call Tryd.call21 (by kernel_rfl)) (files_Row_Same_w (X := []) (r := x.Work) (q := y.Work) (Old.nil _) (Sl.less hxWork80 (Sub.nil _)) (Sl.less hyWork81 (Sub.nil _)) hp) ?_)
        rintro _ w83 ⟨r82, hp, e84, rfl⟩
        have s85 := Step.of0 X26 e84
        cases r82
        ·
          replace hp := hp.2 rfl
          refine sq (o_pv (.bool false) rfl (by kernel_rfl) ?_)
          refine sq (o_pv (.bool false) rfl (by kernel_rfl) ?_)
          refine sq (o_not (by kernel_rfl) ?_)
          refine sq (o_not (by kernel_rfl) ?_)
          refine sq (o_not (by kernel_rfl) ?_)
          refine sq (o_not (by kernel_rfl) ?_)
          refine sq (o_not (by kernel_rfl) ?_)
          refine sq (o_pv (.bool false) rfl (by kernel_rfl) ?_)
          refine sq (o_pv (.bool false) rfl (by kernel_rfl) ?_)
          refine nil_ ?_
          have E86 := (Evo.then0 (Evo.then0 E64 e73) e84)
          have hXo87 := (Old.step (Old.step hXo63 s74) s85)
          have hS88 := (Sub.trans (Sub.trans hS65 (Step.up s74)) (Step.up s85))
          refine then_normal (hJ57 _ _ _ ⟨[(4, (.bool false))], fit_mk (fun _ _ => rfl) (by kernel_rfl) (vs_cons (by kernel_rfl) vs_nil), ?_⟩)
          exact ⟨X26, false, rfl, E86, hXo87, hS88, hp⟩
        ·
          replace hp := hp.1 rfl
          refine sq (o_pv (.bool true) rfl (by kernel_rfl) ?_)
          refine sq (o_pv (.bool true) rfl (by kernel_rfl) ?_)
          refine sq (o_pv (.pointer (some ⟨b18, 3, none⟩)) (by kernel_rfl) (by kernel_rfl) ?_)
          have k89 := (OB.step0 k78 s85)
          refine sq (o_pv (.string x.Text) (by kernel_rfl) (x_load1 (by kernel_rfl) Tryd.isAgg9 (k89.2.1.cell' 3 rfl)) ?_)
          refine sq (o_pv (.pointer (some ⟨b24, 3, none⟩)) (by kernel_rfl) (by kernel_rfl) ?_)
          have k90 := (OB.step0 k79 s85)
          refine sq (o_pv (.string y.Text) (by kernel_rfl) (x_load1 (by kernel_rfl) Tryd.isAgg9 (k90.2.1.cell' 3 rfl)) ?_)
          refine sq (o_pv (.bool (decide ((x.Text : ByteArray) = y.Text))) (by kernel_rfl) (x_streq (by kernel_rfl) (by kernel_rfl)) ?_)
          refine sq (o_pv (.bool (decide ((x.Text : ByteArray) = y.Text))) rfl (by kernel_rfl) ?_)
          refine sq (o_pv (.bool (decide ((x.Text : ByteArray) = y.Text))) rfl (by kernel_rfl) ?_)
          refine nil_ ?_
          have E91 := (Evo.then0 (Evo.then0 E64 e73) e84)
          have hXo92 := (Old.step (Old.step hXo63 s74) s85)
          have hS93 := (Sub.trans (Sub.trans hS65 (Step.up s74)) (Step.up s85))
          refine then_normal (hJ57 _ _ _ ⟨[(4, (.bool (decide ((x.Text : ByteArray) = y.Text))))], fit_mk (fun _ _ => rfl) (by kernel_rfl) (vs_cons (by kernel_rfl) vs_nil), ?_⟩)
          exact ⟨X26, (decide ((x.Text : ByteArray) = y.Text)), rfl, E91, hXo92, hS93, hp⟩
    ·
      replace hp := hp.2 h70
      refine sq (o_pv (.bool false) rfl (x_df (p := x.Base = y.Base) (by kernel_rfl) h70) ?_)
      refine sq (o_pv (.bool false) rfl (by kernel_rfl) ?_)
      refine sq (o_not (by kernel_rfl) ?_)
      refine sq (o_not (by kernel_rfl) ?_)
      refine sq (o_not (by kernel_rfl) ?_)
      refine sq (o_not (by kernel_rfl) ?_)
      refine sq (o_not (by kernel_rfl) ?_)
      refine sq (o_pv (.bool false) rfl (by kernel_rfl) ?_)
      refine sq (o_pv (.bool false) rfl (by kernel_rfl) ?_)
      refine sq (o_not (by kernel_rfl) ?_)
      refine sq (o_not (by kernel_rfl) ?_)
      refine sq (o_not (by kernel_rfl) ?_)
      refine sq (o_not (by kernel_rfl) ?_)
      refine sq (o_not (by kernel_rfl) ?_)
      refine sq (o_pv (.bool false) rfl (by kernel_rfl) ?_)
      refine sq (o_pv (.bool false) rfl (by kernel_rfl) ?_)
      refine sq (o_not (by kernel_rfl) ?_)
      refine sq (o_not (by kernel_rfl) ?_)
      refine sq (o_not (by kernel_rfl) ?_)
      refine sq (o_not (by kernel_rfl) ?_)
      refine sq (o_not (by kernel_rfl) ?_)
      refine sq (o_pv (.bool false) rfl (by kernel_rfl) ?_)
      refine sq (o_pv (.bool false) rfl (by kernel_rfl) ?_)
      refine nil_ ?_
      refine then_normal (hJ57 _ _ _ ⟨[(4, (.bool false))], fit_mk (fun _ _ => rfl) (by kernel_rfl) (vs_cons (by kernel_rfl) vs_nil), ?_⟩)
      exact ⟨X26, false, rfl, E64, hXo63, hS65, hp⟩
  ·
    rintro _ w54 g94 ⟨X55, s51, rfl, E67, hXo68, hS69, hv58⟩
    replace hp := hk53 s51 hv58
    refine then_normal (K32 _ _ _ _ ?_)
    refine wp_ret ?_
    refine end_ret hQ (.bool s51) (by kernel_rfl) ?_
    exact ⟨s51, hp, E67, rfl⟩

def slices_EqualFunc_shelf_Stack_shelf_Stack_shelf_Shelf_shelf_Shelf__shelf_Stack_Same_1_p (s1 : (List S_shelf_Shelf)) (s2 : (List S_shelf_Shelf)) (eq : Unit) (Q : Bool → Prop) : Prop :=
  ((s1.length ≤ 9223372036854775807) → ((s2.length ≤ 9223372036854775807) → (((¬ ((s1.length : Int) = (s2.length : Int))) → Q false) ∧ (((s1.length : Int) = (s2.length : Int)) → (∃ (I95 : Int → Prop) (m96 : Int → Nat), (I95 (0 : Int)) ∧ (∀ (s14 : Int), (I95 s14) → (inR .i64 s14) → (((s14 < (s1.length : Int)) → ((inL s1 s14) ∧ ((inR .i64 ((lget s1 s14).Base)) → ((((lget s1 s14).Index).length ≤ 9223372036854775807) → ((((lget s1 s14).Work).length ≤ 9223372036854775807) → ((((lget s1 s14).Text).size ≤ maxLen) → ((inL s2 s14) ∧ ((inR .i64 ((lget s2 s14).Base)) → ((((lget s2 s14).Index).length ≤ 9223372036854775807) → ((((lget s2 s14).Work).length ≤ 9223372036854775807) → ((((lget s2 s14).Text).size ≤ maxLen) → (shelf_Stack_Same_1_p (lget s1 s14) (lget s2 s14) (fun (r180 : Bool) => ((((!r180) = true) → Q false) ∧ (((!r180) = false) → ((inR .i64 (s14 + (1 : Int))) ∧ ((I95 (s14 + (1 : Int))) ∧ m96 (s14 + (1 : Int)) < m96 s14))))))))))))))))) ∧ ((¬ (s14 < (s1.length : Int))) → Q true))))))))
set_option maxRecDepth 20000 in
set_option maxHeartbeats 4000000 in
theorem slices_EqualFunc_shelf_Stack_shelf_Stack_shelf_Shelf_shelf_Shelf__shelf_Stack_Same_1_w {X : List Nat} {w : World} {s1 : (List S_shelf_Shelf)} {s2 : (List S_shelf_Shelf)} {eq : Unit} {as1_1 : Option Addr} {cs1_2 : Nat} {as2_4 : Option Addr} {cs2_5 : Nat} {Q : Bool → Prop} (hX0 : Old X w) (hs1_3 : Sl r_shelf_Shelf X w as1_1 cs1_2 s1) (hs2_6 : Sl r_shelf_Shelf X w as2_4 cs2_5 s2) (hp : slices_EqualFunc_shelf_Stack_shelf_Stack_shelf_Shelf_shelf_Shelf__shelf_Stack_Same_1_p s1 s2 eq Q) :
    Calls Tryd.prog 19 #[(.slice as1_1 s1.length cs1_2), (.slice as2_4 s2.length cs2_5), (.func (.func 20) #[] #[])] w (Ret fun v w' => ∃ (r0 : Bool), Q r0 ∧ Evo [] w w' ∧ v = (.bool r0)) := by
  have hXo := hX0
  have E0 : Evo [] w w := RB.refl _ _ _
  have hS : Sub X X := Sub.refl _
  unfold slices_EqualFunc_shelf_Stack_shelf_Stack_shelf_Shelf_shelf_Shelf__shelf_Stack_Same_1_p at hp
  refine enter_ Tryd.func19 rfl 32 [(0, (.slice as1_1 s1.length cs1_2)), (1, (.slice as2_4 s2.length cs2_5)), (2, (.func (.func 20) #[] #[]))] (by kernel_rfl) (fun Qe hQ => ?_)
  replace hp := hp (Sl.len hs1_3)
  replace hp := hp (Sl.len hs2_6)
  refine seq_ (fun _ K7 => ?_)
  refine reg_ ?_
  refine sq (o_pv (.bool false) rfl (by kernel_rfl) ?_)
  refine nil_ ?_
  refine then_normal (K7 _ _ _ _ ?_)
  refine seq_ (fun _ K8 => ?_)
  refine seq_ (fun _ K9 => ?_)
  refine reg_ ?_
  refine sq (o_pv (.slice as1_1 s1.length cs1_2) rfl (by kernel_rfl) ?_)
  refine sq (o_pv (.int .i64 (s1.length : Int)) rfl (by kernel_rfl) ?_)
  refine sq (o_pv (.slice as2_4 s2.length cs2_5) rfl (by kernel_rfl) ?_)
  refine sq (o_pv (.int .i64 (s2.length : Int)) rfl (by kernel_rfl) ?_)
  refine sq (o_pv (.bool (!decide ((s1.length : Int) = (s2.length : Int)))) rfl (by kernel_rfl) ?_)
  refine nil_ ?_
  refine then_normal (K9 _ _ _ _ ?_)
  refine cond_nd ((s1.length : Int) = (s2.length : Int)) (by kernel_rfl) (fun h10 => ?_) (fun h10 => ?_)
  ·
    replace hp := hp.1 h10
    refine seq_ (fun _ K11 => ?_)
    refine reg_ ?_
    refine sq (o_pv (.bool false) rfl (by kernel_rfl) ?_)
    refine nil_ ?_
    refine then_normal (K11 _ _ _ _ ?_)
    refine wp_ret ?_
    refine then_ret ?_
    refine end_ret hQ (.bool false) (by kernel_rfl) ?_
    exact ⟨false, hp, E0, rfl⟩
  ·
    replace hp := hp.2 h10
    refine wp_skip ?_
    refine then_normal (K8 _ _ _ _ ?_)
    refine seq_ (fun _ K12 => ?_)
    refine seq_ (fun _ K13 => ?_)
    refine reg_ ?_
    refine sq (o_pv (.slice as1_1 s1.length cs1_2) rfl (by kernel_rfl) ?_)
    refine sq (o_pv (.int .i64 (s1.length : Int)) rfl (by kernel_rfl) ?_)
    refine sq (o_pv (.int .i64 (0 : Int)) rfl (by kernel_rfl) ?_)
    refine nil_ ?_
    refine then_normal (K13 _ _ _ _ ?_)
    refine wp_block ?_
    obtain ⟨I95, m96, hI97, hp⟩ := hp
    refine loop_ 4294837184 (fun kq lq w99 => ∃ (X100 : List Nat) (s14 : Int), (lq = [(17, (.int .i64 s14))]) ∧ (kq = m96 s14) ∧ (Evo [] w w99) ∧ (Old X100 w99) ∧ (Sub X X100) ∧ (Sl r_shelf_Shelf X100 w99 as2_4 cs2_5 s2) ∧ (Sl r_shelf_Shelf X100 w99 as1_1 cs1_2 s1) ∧ (inR .i64 s14) ∧ (I95 s14)) (m96 (0 : Int)) [(17, (.int .i64 (0 : Int)))] (vs_cons (by kernel_rfl) vs_nil) ⟨X, (0 : Int), rfl, rfl, E0, hXo, hS, hs2_6, hs1_3, (by decide : inR .i64 (0 : Int)), hI97⟩ ?_
    rintro _ _ w99 g102 ⟨X100, s14, rfl, rfl, E105, hXo106, hS107, hs2_108, hs1_109, rs15, hI98⟩ Kl103 hA104
    replace hp := hp s14 hI98 rs15
    refine seq_ (fun _ K110 => ?_)
    refine reg_ ?_
    refine sq (o_pv (.bool (decide (s14 < (s1.length : Int)))) rfl (by kernel_rfl) ?_)
    refine nil_ ?_
    refine then_normal (K110 _ _ _ _ ?_)
    refine seq_ (fun _ K111 => ?_)
    refine cond_d (s14 < (s1.length : Int)) (by kernel_rfl) (fun h112 => ?_) (fun h112 => ?_)
    ·
      replace hp := hp.1 h112
      refine wp_skip ?_
      refine then_normal (K111 _ _ _ _ ?_)
      refine seq_ (fun _ K113 => ?_)
      refine wp_block ?_
      refine seq_ (fun _ K114 => ?_)
      refine reg_ ?_
      refine sq (o_pv (.int .i64 s14) rfl (by kernel_rfl) ?_)
      obtain ⟨h115, hp⟩ := hp
      obtain ⟨b116, o117, cs118, ha119, nx120, lt121, ok122, hc123⟩ := Sl.atI hs1_109 s14 h115
      obtain ⟨aeIndex125, ceIndex126, aeWork128, ceWork129, rfl, reBase124, heIndex127, heWork130, zeText131⟩ := r_shelf_Shelf_open ok122
      replace hp := hp reBase124
      replace hp := hp (Sl.len heIndex127)
      replace hp := hp (Sl.len heWork130)
      replace hp := hp zeText131
      refine sq (o_pv (.pointer (some ⟨b116, o117 + s14.toNat * 4, none⟩)) rfl (x_ixA (m := s1.length) (c := cs1_2) (k := .i64) (i := s14) Tryd.underlying24 Tryd.sizeOf31 (by rw [← ha119]; kernel_rfl) (by kernel_rfl) h115) ?_)
      refine sq (o_pv (.agg #[(.int .i64 ((lget s1 s14).Base)), (.slice aeIndex125 (((lget s1 s14).Index).length) ceIndex126), (.slice aeWork128 (((lget s1 s14).Work).length) ceWork129), (.string ((lget s1 s14).Text))]) rfl (x_loadN [(.int .i64 ((lget s1 s14).Base)), (.slice aeIndex125 (((lget s1 s14).Index).length) ceIndex126), (.slice aeWork128 (((lget s1 s14).Work).length) ceWork129), (.string ((lget s1 s14).Text))] (by kernel_rfl) Tryd.isAgg31 Tryd.sizeOf31 hc123) ?_)
      refine sq (o_newX [(.int .i64 (0 : Int)), (.slice none 0 0), (.slice none 0 0), (.string (ByteArray.mk #[]))] 31 (X := X100) (B := w.heap.size) E105.size rfl (by kernel_rfl) ?_)
      intro b132 w133 X134 s135 k136 n137
      refine sq (o_pv (.int .i64 s14) rfl (by kernel_rfl) ?_)
      have E138 := (Evo.then0 E105 (Step.evo s135))
      refine sq (o_stB (o := 0) (v := (.agg #[(.int .i64 ((lget s1 s14).Base)), (.slice aeIndex125 (((lget s1 s14).Index).length) ceIndex126), (.slice aeWork128 (((lget s1 s14).Work).length) ceWork129), (.string ((lget s1 s14).Text))])) [(.int .i64 ((lget s1 s14).Base)), (.slice aeIndex125 (((lget s1 s14).Index).length) ceIndex126), (.slice aeWork128 (((lget s1 s14).Work).length) ceWork129), (.string ((lget s1 s14).Text))] rfl k136 (by kernel_rfl) (by kernel_rfl) Tryd.sizeOf31 rfl rfl rfl ?_)
      intro w139 s140 k141
      refine nil_ ?_
      refine then_normal (K114 _ _ _ _ ?_)
      refine seq_ (fun _ K142 => ?_)
      refine reg_ ?_
      refine sq (o_pv (.slice as2_4 s2.length cs2_5) rfl (by kernel_rfl) ?_)
      refine sq (o_pv (.int .i64 s14) rfl (by kernel_rfl) ?_)
      obtain ⟨h143, hp⟩ := hp
      have hs2_144 := (Sl.step (Sl.step hs2_108 s135) s140)
      obtain ⟨b145, o146, cs147, ha148, nx149, lt150, ok151, hc152⟩ := Sl.atI hs2_144 s14 h143
      obtain ⟨aeIndex154, ceIndex155, aeWork157, ceWork158, rfl, reBase153, heIndex156, heWork159, zeText160⟩ := r_shelf_Shelf_open ok151
      replace hp := hp reBase153
      replace hp := hp (Sl.len heIndex156)
      replace hp := hp (Sl.len heWork159)
      replace hp := hp zeText160
      refine sq (o_pv (.pointer (some ⟨b145, o146 + s14.toNat * 4, none⟩)) rfl (x_ixA (m := s2.length) (c := cs2_5) (k := .i64) (i := s14) Tryd.underlying24 Tryd.sizeOf31 (by rw [← ha148]; kernel_rfl) (by kernel_rfl) h143) ?_)
      refine sq (o_pv (.agg #[(.int .i64 ((lget s2 s14).Base)), (.slice aeIndex154 (((lget s2 s14).Index).length) ceIndex155), (.slice aeWork157 (((lget s2 s14).Work).length) ceWork158), (.string ((lget s2 s14).Text))]) rfl (x_loadN [(.int .i64 ((lget s2 s14).Base)), (.slice aeIndex154 (((lget s2 s14).Index).length) ceIndex155), (.slice aeWork157 (((lget s2 s14).Work).length) ceWork158), (.string ((lget s2 s14).Text))] (by kernel_rfl) Tryd.isAgg31 Tryd.sizeOf31 hc152) ?_)
      have E167 := (Evo.thenW E138 (Step.evo s140) k136.2.2)
      refine sq (o_newX [(.int .i64 (0 : Int)), (.slice none 0 0), (.slice none 0 0), (.string (ByteArray.mk #[]))] 31 (X := X134) (B := w.heap.size) E167.size rfl (by kernel_rfl) ?_)
      intro b161 w162 X163 s164 k165 n166
      have p168 := n166 _ (OB.old k141)
      have k169 := (OB.step0 k141 s164)
      have E170 := (Evo.then0 E167 (Step.evo s164))
      refine sq (o_stB (o := 0) (v := (.agg #[(.int .i64 ((lget s2 s14).Base)), (.slice aeIndex154 (((lget s2 s14).Index).length) ceIndex155), (.slice aeWork157 (((lget s2 s14).Work).length) ceWork158), (.string ((lget s2 s14).Text))])) [(.int .i64 ((lget s2 s14).Base)), (.slice aeIndex154 (((lget s2 s14).Index).length) ceIndex155), (.slice aeWork157 (((lget s2 s14).Work).length) ceWork158), (.string ((lget s2 s14).Text))] rfl k165 (by kernel_rfl) (by kernel_rfl) Tryd.sizeOf31 rfl rfl rfl ?_)
      intro w171 s172 k173
      refine nil_ ?_
      refine then_normal (K142 _ _ _ _ ?_)
      refine seq_ (fun _ K174 => ?_)
      refine reg_ ?_
      refine sq (o_pv (.func (.func 20) #[] #[]) rfl (by kernel_rfl) ?_)
      have k175 := (OB.step k169 s172 p168)
      refine sq (o_pv (.agg #[(.int .i64 ((lget s1 s14).Base)), (.slice aeIndex125 (((lget s1 s14).Index).length) ceIndex126), (.slice aeWork128 (((lget s1 s14).Work).length) ceWork129), (.string ((lget s1 s14).Text))]) rfl (x_loadN [(.int .i64 ((lget s1 s14).Base)), (.slice aeIndex125 (((lget s1 s14).Index).length) ceIndex126), (.slice aeWork128 (((lget s1 s14).Work).length) ceWork129), (.string ((lget s1 s14).Text))] (by kernel_rfl) Tryd.isAgg31 Tryd.sizeOf31 (k175.2.1.cells' 0 rfl)) ?_)
      refine sq (o_pv (.agg #[(.int .i64 ((lget s2 s14).Base)), (.slice aeIndex154 (((lget s2 s14).Index).length) ceIndex155), (.slice aeWork157 (((lget s2 s14).Work).length) ceWork158), (.string ((lget s2 s14).Text))]) rfl (x_loadN [(.int .i64 ((lget s2 s14).Base)), (.slice aeIndex154 (((lget s2 s14).Index).length) ceIndex155), (.slice aeWork157 (((lget s2 s14).Work).length) ceWork158), (.string ((lget s2 s14).Text))] (by kernel_rfl) Tryd.isAgg31 Tryd.sizeOf31 (k173.2.1.cells' 0 rfl)) ?_)
      have heIndex176 := (Sl.step (Sl.step (Sl.step (Sl.step heIndex127 s135) s140) s164) s172)
      have heWork177 := (Sl.step (Sl.step (Sl.step (Sl.step heWork130 s135) s140) s164) s172)
      have heIndex178 := (Sl.step (Sl.step heIndex156 s164) s172)
      have heWork179 := (Sl.step (Sl.step heWork159 s164) s172)
      refine sq (o_call 20 #[(.agg #[(.int .i64 ((lget s1 s14).Base)), (.slice aeIndex125 ((lget s1 s14).Index).length ceIndex126), (.slice aeWork128 ((lget s1 s14).Work).length ceWork129), (.string ((lget s1 s14).Text))]), (.agg #[(.int .i64 ((lget s2 s14).Base)), (.slice aeIndex154 ((lget s2 s14).Index).length ceIndex155), (.slice aeWork157 ((lget s2 s14).Work).length ceWork158), (.string ((lget s2 s14).Text))])] rfl (x_callc (first := #[]) (cap := #[]) (by kernel_rfl) Tryd.call20 (by rw []; kernel_rfl)) (shelf_Stack_Same_1_w (X := []) (x := (lget s1 s14)) (y := (lget s2 s14)) (Old.nil _) reBase124 (Sl.less heIndex176 (Sub.nil _)) (Sl.less heWork177 (Sub.nil _)) zeText131 reBase153 (Sl.less heIndex178 (Sub.nil _)) (Sl.less heWork179 (Sub.nil _)) zeText160 hp) ?_)
      rintro _ w181 ⟨r180, hp, e182, rfl⟩
      have s183 := Step.of0 X163 e182
      refine sq (o_pv (.bool (!r180)) rfl (by kernel_rfl) ?_)
      refine nil_ ?_
      refine then_normal (K174 _ _ _ _ ?_)
      refine cond_b (!r180) (by kernel_rfl) (fun h184 => ?_) (fun h184 => ?_)
      ·
        replace hp := hp.1 h184
        refine seq_ (fun _ K185 => ?_)
        refine reg_ ?_
        refine sq (o_pv (.bool false) rfl (by kernel_rfl) ?_)
        refine nil_ ?_
        refine then_normal (K185 _ _ _ _ ?_)
        refine wp_ret ?_
        refine blk_ret ?_
        refine then_ret ?_
        refine then_ret ?_
        refine blk_ret ?_
        refine then_ret ?_
        have E186 := (Evo.then0 (Evo.thenW E170 (Step.evo s172) k165.2.2) e182)
        refine end_ret hQ (.bool false) (by kernel_rfl) ?_
        exact ⟨false, hp, E186, rfl⟩
      ·
        replace hp := hp.2 h184
        refine wp_skip ?_
        refine blk_normal ?_
        refine then_normal (K113 _ _ _ _ ?_)
        refine reg_ ?_
        obtain ⟨h187, hp⟩ := hp
        refine sq (o_pv (.int .i64 (s14 + (1 : Int))) rfl (x_add2 (k := .i64) (a := s14) (b := (1 : Int)) (s14 + (1 : Int)) (by kernel_rfl) (by kernel_rfl) (wrap_inR h187)) ?_)
        refine sq (o_pv (.int .i64 (s14 + (1 : Int))) rfl (by kernel_rfl) ?_)
        refine nil_ ?_
        have E188 := (Evo.then0 (Evo.thenW E170 (Step.evo s172) k165.2.2) e182)
        have hXo189 := (Old.step (Old.step (Old.step (Old.step (Old.step hXo106 s135) s140) s164) s172) s183)
        have hS190 := (Sub.trans (Sub.trans (Sub.trans (Sub.trans (Sub.trans hS107 (Step.up s135)) (Step.up s140)) (Step.up s164)) (Step.up s172)) (Step.up s183))
        have hs2_191 := (Sl.step (Sl.step (Sl.step hs2_144 s164) s172) s183)
        have hs1_192 := (Sl.step (Sl.step (Sl.step (Sl.step (Sl.step hs1_109 s135) s140) s164) s172) s183)
        refine then_normal (hA104 _ _ _ ⟨_, [(17, (.int .i64 (s14 + (1 : Int))))], hp.2, fit_mk (AgB.mix _ _ _) (by kernel_rfl) (vs_cons (by kernel_rfl) vs_nil), ?_⟩)
        exact ⟨X163, (s14 + (1 : Int)), rfl, rfl, E188, hXo189, hS190, hs2_191, hs1_192, h187, hp.1⟩
    ·
      replace hp := hp.2 h112
      refine wp_exit ?_
      refine then_exit ?_
      refine then_exit ?_
      refine blk_exit ?_
      refine then_normal (K12 _ _ _ _ ?_)
      refine seq_ (fun _ K193 => ?_)
      refine reg_ ?_
      refine sq (o_pv (.bool true) rfl (by kernel_rfl) ?_)
      refine nil_ ?_
      refine then_normal (K193 _ _ _ _ ?_)
      refine wp_ret ?_
      refine end_ret hQ (.bool true) (by kernel_rfl) ?_
      exact ⟨true, hp, E105, rfl⟩

def shelf_Stack_Same_p (s : (List S_shelf_Shelf)) (t : (List S_shelf_Shelf)) (Q : Bool → Prop) : Prop :=
  ((s.length ≤ 9223372036854775807) → ((t.length ≤ 9223372036854775807) → (slices_EqualFunc_shelf_Stack_shelf_Stack_shelf_Shelf_shelf_Shelf__shelf_Stack_Same_1_p s t () (fun (r9 : Bool) => Q r9))))
set_option maxRecDepth 20000 in
set_option maxHeartbeats 4000000 in
theorem shelf_Stack_Same_w {X : List Nat} {w : World} {s : (List S_shelf_Shelf)} {t : (List S_shelf_Shelf)} {as1 : Option Addr} {cs2 : Nat} {at4 : Option Addr} {ct5 : Nat} {Q : Bool → Prop} (hX0 : Old X w) (hs3 : Sl r_shelf_Shelf X w as1 cs2 s) (ht6 : Sl r_shelf_Shelf X w at4 ct5 t) (hp : shelf_Stack_Same_p s t Q) :
    Calls Tryd.prog 9 #[(.slice as1 s.length cs2), (.slice at4 t.length ct5)] w (Ret fun v w' => ∃ (r0 : Bool), Q r0 ∧ Evo [] w w' ∧ v = (.bool r0)) := by
  have hXo := hX0
  have E0 : Evo [] w w := RB.refl _ _ _
  have hS : Sub X X := Sub.refl _
  unfold shelf_Stack_Same_p at hp
  refine enter_ Tryd.func9 rfl 8 [(0, (.slice as1 s.length cs2)), (1, (.slice at4 t.length ct5))] (by kernel_rfl) (fun Qe hQ => ?_)
  replace hp := hp (Sl.len hs3)
  replace hp := hp (Sl.len ht6)
  refine seq_ (fun _ K7 => ?_)
  refine reg_ ?_
  refine sq (o_pv (.bool false) rfl (by kernel_rfl) ?_)
  refine nil_ ?_
  refine then_normal (K7 _ _ _ _ ?_)
  refine seq_ (fun _ K8 => ?_)
  refine reg_ ?_
  refine sq (o_pv (.slice as1 s.length cs2) rfl (by kernel_rfl) ?_)
  refine sq (o_pv (.slice at4 t.length ct5) rfl (by kernel_rfl) ?_)
  refine sq (o_call 19 #[(.slice as1 s.length cs2), (.slice at4 t.length ct5), (.func (.func 20) #[] #[])] rfl (x_call Tryd.call19 (by kernel_rfl)) (slices_EqualFunc_shelf_Stack_shelf_Stack_shelf_Shelf_shelf_Shelf__shelf_Stack_Same_1_w (X := []) (s1 := s) (s2 := t) (eq := ()) (Old.nil _) (Sl.less hs3 (Sub.nil _)) (Sl.less ht6 (Sub.nil _)) hp) ?_)
  rintro _ w10 ⟨r9, hp, e11, rfl⟩
  have s12 := Step.of0 X e11
  refine sq (o_pv (.bool r9) rfl (by kernel_rfl) ?_)
  refine nil_ ?_
  refine then_normal (K8 _ _ _ _ ?_)
  refine wp_ret ?_
  have E13 := (Evo.then0 E0 e11)
  refine end_ret hQ (.bool r9) (by kernel_rfl) ?_
  exact ⟨r9, hp, E13, rfl⟩

def rectolaw23_known_p (Q : Bool → Prop) : Prop :=
  (shelf_Stack_Push_p ([] : List S_shelf_Shelf) (S_shelf_Shelf.mk (1 : Int) ([] : List S_files_File) ([] : List S_files_File) (ByteArray.mk #[97])) (fun (r3 : (List S_shelf_Shelf)) (r4 : Int) => ((r3.length ≤ 9223372036854775807) → ((inR .i64 r4) → (shelf_Stack_Push_p r3 (S_shelf_Shelf.mk (2 : Int) ([] : List S_files_File) ([(S_files_File.mk (ByteArray.mk #[112]) (1 : Int) (ByteArray.mk #[]))]) (ByteArray.mk #[98])) (fun (r32 : (List S_shelf_Shelf)) (r33 : Int) => ((r32.length ≤ 9223372036854775807) → ((inR .i64 r33) → (shelf_Stack_Get_p r32 (0 : Int) (fun (r43 : S_shelf_Shelf) (r44 : Int) => ((inR .i64 r43.Base) → ((r43.Index.length ≤ 9223372036854775807) → ((r43.Work.length ≤ 9223372036854775807) → ((r43.Text.size ≤ maxLen) → ((inR .i64 r44) → (shelf_Stack_Drop_p r32 (0 : Int) (fun (r71 : (List S_shelf_Shelf)) (r72 : Int) => ((r71.length ≤ 9223372036854775807) → ((inR .i64 r72) → (shelf_Stack_Get_p r32 (2 : Int) (fun (r83 : S_shelf_Shelf) (r84 : Int) => ((inR .i64 r83.Base) → ((r83.Index.length ≤ 9223372036854775807) → ((r83.Work.length ≤ 9223372036854775807) → ((r83.Text.size ≤ maxLen) → ((inR .i64 r84) → (∃ k156 : Bool → Prop, (∀ (s155 : Bool), k156 s155 → Q s155) ∧ ((inR .i64 (r4 + r33)) ∧ ((inR .i64 ((r4 + r33) + r44)) ∧ ((inR .i64 (((r4 + r33) + r44) + r72)) ∧ ((((((r4 + r33) + r44) + r72) = (0 : Int)) → ((((r3.length : Int) = (1 : Int)) → ((((r32.length : Int) = (2 : Int)) → (((r43.Base = (2 : Int)) → ((((r71.length : Int) = (1 : Int)) → ((inL r71 (0 : Int)) ∧ ((inR .i64 ((lget r71 (0 : Int)).Base)) → ((((lget r71 (0 : Int)).Index).length ≤ 9223372036854775807) → ((((lget r71 (0 : Int)).Work).length ≤ 9223372036854775807) → ((((lget r71 (0 : Int)).Text).size ≤ maxLen) → (((((lget r71 (0 : Int)).Base) = (1 : Int)) → (((r84 = (1 : Int)) → (shelf_Stack_Text_p r32 (fun (r207 : ByteArray) => ((r207.size ≤ maxLen) → ((((r207 : ByteArray) = (ByteArray.mk #[48, 58, 32, 98, 32, 40, 50, 44, 32, 48, 47, 49, 41, 10, 49, 58, 32, 97, 32, 40, 49, 44, 32, 48, 47, 48, 41, 10])) → (shelf_Stack_Same_p r71 r3 (fun (r215 : Bool) => (k156 r215)))) ∧ ((¬ ((r207 : ByteArray) = (ByteArray.mk #[48, 58, 32, 98, 32, 40, 50, 44, 32, 48, 47, 49, 41, 10, 49, 58, 32, 97, 32, 40, 49, 44, 32, 48, 47, 48, 41, 10]))) → (k156 false))))))) ∧ ((¬ (r84 = (1 : Int))) → (k156 false)))) ∧ ((¬ (((lget r71 (0 : Int)).Base) = (1 : Int))) → (k156 false))))))))) ∧ ((¬ ((r71.length : Int) = (1 : Int))) → (k156 false)))) ∧ ((¬ (r43.Base = (2 : Int))) → (k156 false)))) ∧ ((¬ ((r32.length : Int) = (2 : Int))) → (k156 false)))) ∧ ((¬ ((r3.length : Int) = (1 : Int))) → (k156 false)))) ∧ ((¬ ((((r4 + r33) + r44) + r72) = (0 : Int))) → (k156 false)))))))))))))))))))))))))))))))))
set_option maxRecDepth 20000 in
set_option maxHeartbeats 4000000 in
theorem rectolaw23_known_w {X : List Nat} {w : World} {Q : Bool → Prop} (hX0 : Old X w) (gv0 : GV X w 0 (Lib.pow10Tab.map (Value.int .u64))) (hp : rectolaw23_known_p Q) :
    Calls Tryd.prog 4 #[] w (Ret fun v w' => ∃ (r0 : Bool), Q r0 ∧ Evo [] w w' ∧ v = (.bool r0)) := by
  have hXo := hX0
  have E0 : Evo [] w w := RB.refl _ _ _
  have hS : Sub X X := Sub.refl _
  unfold rectolaw23_known_p at hp
  refine enter_ Tryd.func4 rfl 88 [] (by kernel_rfl) (fun Qe hQ => ?_)
  refine seq_ (fun _ K1 => ?_)
  refine reg_ ?_
  refine sq (o_pv (.bool false) rfl (by kernel_rfl) ?_)
  refine nil_ ?_
  refine then_normal (K1 _ _ _ _ ?_)
  refine seq_ (fun _ K2 => ?_)
  refine reg_ ?_
  refine sq (o_pv (.agg #[(.int .i64 (1 : Int)), (.slice none 0 0), (.slice none 0 0), (.string (ByteArray.mk #[97]))]) rfl (by kernel_rfl) ?_)
  refine sq (o_call 5 #[(.slice none (([] : List S_shelf_Shelf)).length 0), (.agg #[(.int .i64 (1 : Int)), (.slice none (([] : List S_files_File)).length 0), (.slice none (([] : List S_files_File)).length 0), (.string (ByteArray.mk #[97]))])] rfl (x_call Tryd.call5 (by rw []; kernel_rfl)) (shelf_Stack_Push_w (X := X) (s := ([] : List S_shelf_Shelf)) (x := (S_shelf_Shelf.mk (1 : Int) ([] : List S_files_File) ([] : List S_files_File) (ByteArray.mk #[97]))) hXo Sl.nil (by decide : inR .i64 (1 : Int)) Sl.nil Sl.nil (by decide : (ByteArray.mk #[97]).size ≤ maxLen) hp) ?_)
  rintro _ w5 ⟨r3, r4, hp, e6, ar8, cr9, rfl, hr10, rr11⟩
  have s7 := Step.of0 X e6
  replace hp := hp (Sl.len hr10)
  replace hp := hp rr11
  refine sq (o_pv (.tuple #[(.slice ar8 r3.length cr9), (.int .i64 r4)]) rfl (by kernel_rfl) ?_)
  refine sq (o_pv (.slice ar8 r3.length cr9) rfl (by kernel_rfl) ?_)
  refine sq (o_pv (.int .i64 r4) rfl (by kernel_rfl) ?_)
  refine sq (o_pv (.slice ar8 r3.length cr9) rfl (by kernel_rfl) ?_)
  refine sq (o_pv (.int .i64 r4) rfl (by kernel_rfl) ?_)
  refine nil_ ?_
  refine then_normal (K2 _ _ _ _ ?_)
  refine seq_ (fun _ K12 => ?_)
  refine reg_ ?_
  refine sq (o_pv (.slice ar8 r3.length cr9) rfl (by kernel_rfl) ?_)
  refine sq (o_pv (.agg #[(.string (ByteArray.mk #[112])), (.int .i64 (1 : Int)), (.string (ByteArray.mk #[]))]) rfl (by kernel_rfl) ?_)
  have E19 := (Evo.then0 E0 e6)
  refine sq (o_rowX (R := r_files_File) [(.string (ByteArray.mk #[112])), (.int .i64 (1 : Int)), (.string (ByteArray.mk #[]))] [(S_files_File.mk (ByteArray.mk #[112]) (1 : Int) (ByteArray.mk #[]))] 37 1 (X := X) (B := w.heap.size) E19.size rfl (by kernel_rfl) (Flat.cons (cs := [(.string (ByteArray.mk #[112])), (.int .i64 (1 : Int)), (.string (ByteArray.mk #[]))]) (r_files_File_mk (by decide : (ByteArray.mk #[112]).size ≤ maxLen) (by decide : inR .i64 (1 : Int)) (by decide : (ByteArray.mk #[]).size ≤ maxLen)) Flat.nil) rfl (by decide) ?_)
  intro b13 w14 X15 s16 O17 n18
  refine sq (o_pv (.agg #[(.int .i64 (2 : Int)), (.slice none 0 0), (.slice (some ⟨b13, 0, none⟩) 1 1), (.string (ByteArray.mk #[98]))]) rfl (by kernel_rfl) ?_)
  have hS20 := (Sub.trans (Sub.trans hS (Step.up s7)) (Step.up s16))
  have gv26 := (GV.step (GV.step gv0 s7) s16)
  have hXo27 := (Old.step (Old.step hXo s7) s16)
  have E28 := (Evo.then0 E19 (Step.evo s16))
  have hr29 := (Sl.step hr10 s16)
  have ax25 := OS.apold O17 hX0
  obtain ⟨X21, u22, r23, hm24⟩ := OS.release O17
  have hr30 := (Sl.less hr29 u22)
  have hXo31 := (Old.less hXo27 u22)
  refine sq (o_call 5 #[(.slice ar8 r3.length cr9), (.agg #[(.int .i64 (2 : Int)), (.slice none (([] : List S_files_File)).length 0), (.slice (some ⟨b13, 0, none⟩) ([(S_files_File.mk (ByteArray.mk #[112]) (1 : Int) (ByteArray.mk #[]))]).length 1), (.string (ByteArray.mk #[98]))])] rfl (x_call Tryd.call5 (by rw [← show 1 = ([(S_files_File.mk (ByteArray.mk #[112]) (1 : Int) (ByteArray.mk #[]))]).length from O17.1]; kernel_rfl)) (shelf_Stack_Push_w (X := X21) (s := r3) (x := (S_shelf_Shelf.mk (2 : Int) ([] : List S_files_File) ([(S_files_File.mk (ByteArray.mk #[112]) (1 : Int) (ByteArray.mk #[]))]) (ByteArray.mk #[98]))) hXo31 hr30 (by decide : inR .i64 (2 : Int)) Sl.nil r23 (by decide : (ByteArray.mk #[98]).size ≤ maxLen) hp) ?_)
  rintro _ w34 ⟨r32, r33, hp, e35, ar37, cr38, rfl, hr39, rr40⟩
  have s36 := Step.of0 X21 e35
  replace hp := hp (Sl.len hr39)
  replace hp := hp rr40
  refine sq (o_pv (.tuple #[(.slice ar37 r32.length cr38), (.int .i64 r33)]) rfl (by kernel_rfl) ?_)
  refine sq (o_pv (.slice ar37 r32.length cr38) rfl (by kernel_rfl) ?_)
  refine sq (o_pv (.int .i64 r33) rfl (by kernel_rfl) ?_)
  refine sq (o_pv (.slice ar37 r32.length cr38) rfl (by kernel_rfl) ?_)
  refine sq (o_pv (.int .i64 r33) rfl (by kernel_rfl) ?_)
  refine nil_ ?_
  refine then_normal (K12 _ _ _ _ ?_)
  refine seq_ (fun _ K41 => ?_)
  refine reg_ ?_
  refine sq (o_pv (.slice ar37 r32.length cr38) rfl (by kernel_rfl) ?_)
  have hXo42 := (Old.step hXo31 s36)
  refine sq (o_call 7 #[(.slice ar37 r32.length cr38), (.int .i64 (0 : Int))] rfl (x_call Tryd.call7 (by kernel_rfl)) (shelf_Stack_Get_w (X := X21) (s := r32) (n_ := (0 : Int)) hXo42 hr39 (by decide : inR .i64 (0 : Int)) hp) ?_)
  rintro _ w45 ⟨r43, r44, hp, e46, arIndex49, crIndex50, arWork52, crWork53, rfl, rrBase48, hrIndex51, hrWork54, zrText55, rr56⟩
  have s47 := Step.of0 X21 e46
  replace hp := hp rrBase48
  replace hp := hp (Sl.len hrIndex51)
  replace hp := hp (Sl.len hrWork54)
  replace hp := hp zrText55
  replace hp := hp rr56
  refine sq (o_pv (.tuple #[(.agg #[(.int .i64 r43.Base), (.slice arIndex49 r43.Index.length crIndex50), (.slice arWork52 r43.Work.length crWork53), (.string r43.Text)]), (.int .i64 r44)]) rfl (by kernel_rfl) ?_)
  refine sq (o_pv (.agg #[(.int .i64 r43.Base), (.slice arIndex49 r43.Index.length crIndex50), (.slice arWork52 r43.Work.length crWork53), (.string r43.Text)]) rfl (by kernel_rfl) ?_)
  refine sq (o_pv (.int .i64 r44) rfl (by kernel_rfl) ?_)
  have E63 := (Evo.then0 (Evo.then0 E28 e35) e46)
  refine sq (o_newX [(.int .i64 (0 : Int)), (.slice none 0 0), (.slice none 0 0), (.string (ByteArray.mk #[]))] 31 (X := X21) (B := w.heap.size) E63.size rfl (by kernel_rfl) ?_)
  intro b57 w58 X59 s60 k61 n62
  have E64 := (Evo.then0 E63 (Step.evo s60))
  refine sq (o_stB (o := 0) (v := (.agg #[(.int .i64 r43.Base), (.slice arIndex49 r43.Index.length crIndex50), (.slice arWork52 r43.Work.length crWork53), (.string r43.Text)])) [(.int .i64 r43.Base), (.slice arIndex49 r43.Index.length crIndex50), (.slice arWork52 r43.Work.length crWork53), (.string r43.Text)] rfl k61 (by kernel_rfl) (by kernel_rfl) Tryd.sizeOf31 rfl rfl rfl ?_)
  intro w65 s66 k67
  refine sq (o_pv (.int .i64 r44) rfl (by kernel_rfl) ?_)
  refine nil_ ?_
  refine then_normal (K41 _ _ _ _ ?_)
  refine seq_ (fun _ K68 => ?_)
  refine reg_ ?_
  refine sq (o_pv (.slice ar37 r32.length cr38) rfl (by kernel_rfl) ?_)
  have hr69 := (Sl.step (Sl.step (Sl.step hr39 s47) s60) s66)
  have hXo70 := (Old.step (Old.step (Old.step hXo42 s47) s60) s66)
  refine sq (o_call 6 #[(.slice ar37 r32.length cr38), (.int .i64 (0 : Int))] rfl (x_call Tryd.call6 (by kernel_rfl)) (shelf_Stack_Drop_w (X := X59) (s := r32) (n_ := (0 : Int)) hXo70 hr69 (by decide : inR .i64 (0 : Int)) hp) ?_)
  rintro _ w73 ⟨r71, r72, hp, e74, ar76, cr77, rfl, hr78, rr79⟩
  have s75 := Step.of0 X59 e74
  replace hp := hp (Sl.len hr78)
  replace hp := hp rr79
  refine sq (o_pv (.tuple #[(.slice ar76 r71.length cr77), (.int .i64 r72)]) rfl (by kernel_rfl) ?_)
  refine sq (o_pv (.slice ar76 r71.length cr77) rfl (by kernel_rfl) ?_)
  refine sq (o_pv (.int .i64 r72) rfl (by kernel_rfl) ?_)
  refine sq (o_pv (.slice ar76 r71.length cr77) rfl (by kernel_rfl) ?_)
  refine sq (o_pv (.int .i64 r72) rfl (by kernel_rfl) ?_)
  refine nil_ ?_
  refine then_normal (K68 _ _ _ _ ?_)
  refine seq_ (fun _ K80 => ?_)
  refine reg_ ?_
  refine sq (o_pv (.slice ar37 r32.length cr38) rfl (by kernel_rfl) ?_)
  have hr81 := (Sl.step hr69 s75)
  have hXo82 := (Old.step hXo70 s75)
  refine sq (o_call 7 #[(.slice ar37 r32.length cr38), (.int .i64 (2 : Int))] rfl (x_call Tryd.call7 (by kernel_rfl)) (shelf_Stack_Get_w (X := X59) (s := r32) (n_ := (2 : Int)) hXo82 hr81 (by decide : inR .i64 (2 : Int)) hp) ?_)
  rintro _ w85 ⟨r83, r84, hp, e86, arIndex89, crIndex90, arWork92, crWork93, rfl, rrBase88, hrIndex91, hrWork94, zrText95, rr96⟩
  have s87 := Step.of0 X59 e86
  replace hp := hp rrBase88
  replace hp := hp (Sl.len hrIndex91)
  replace hp := hp (Sl.len hrWork94)
  replace hp := hp zrText95
  replace hp := hp rr96
  refine sq (o_pv (.tuple #[(.agg #[(.int .i64 r83.Base), (.slice arIndex89 r83.Index.length crIndex90), (.slice arWork92 r83.Work.length crWork93), (.string r83.Text)]), (.int .i64 r84)]) rfl (by kernel_rfl) ?_)
  refine sq (o_pv (.agg #[(.int .i64 r83.Base), (.slice arIndex89 r83.Index.length crIndex90), (.slice arWork92 r83.Work.length crWork93), (.string r83.Text)]) rfl (by kernel_rfl) ?_)
  refine sq (o_pv (.int .i64 r84) rfl (by kernel_rfl) ?_)
  have k103 := (OB.step0 (OB.step0 k67 s75) s87)
  have E104 := (Evo.then0 (Evo.then0 (Evo.thenW E64 (Step.evo s66) k61.2.2) e74) e86)
  refine sq (o_newX [(.int .i64 (0 : Int)), (.slice none 0 0), (.slice none 0 0), (.string (ByteArray.mk #[]))] 31 (X := X59) (B := w.heap.size) E104.size rfl (by kernel_rfl) ?_)
  intro b97 w98 X99 s100 k101 n102
  have p105 := n102 _ (OB.old k103)
  have k106 := (OB.step0 k103 s100)
  have E107 := (Evo.then0 E104 (Step.evo s100))
  refine sq (o_stB (o := 0) (v := (.agg #[(.int .i64 r83.Base), (.slice arIndex89 r83.Index.length crIndex90), (.slice arWork92 r83.Work.length crWork93), (.string r83.Text)])) [(.int .i64 r83.Base), (.slice arIndex89 r83.Index.length crIndex90), (.slice arWork92 r83.Work.length crWork93), (.string r83.Text)] rfl k101 (by kernel_rfl) (by kernel_rfl) Tryd.sizeOf31 rfl rfl rfl ?_)
  intro w108 s109 k110
  refine sq (o_pv (.int .i64 r84) rfl (by kernel_rfl) ?_)
  refine nil_ ?_
  refine then_normal (K80 _ _ _ _ ?_)
  refine seq_ (fun _ K111 => ?_)
  have gv163 := (GV.step (GV.step (GV.step (GV.step (GV.step (GV.step (GV.step (GV.step (GV.less gv26 u22) s36) s47) s60) s66) s75) s87) s100) s109)
  have hXo164 := (Old.step (Old.step (Old.step hXo82 s87) s100) s109)
  have E165 := (Evo.thenW E107 (Step.evo s109) k101.2.2)
  have hS166 := (Sub.trans (Sub.trans (Sub.trans (Sub.trans (Sub.trans (Sub.trans (Sub.trans (Sub.trans (hm24 _ ax25 hS20) (Step.up s36)) (Step.up s47)) (Step.up s60)) (Step.up s66)) (Step.up s75)) (Step.up s87)) (Step.up s100)) (Step.up s109))
  have hr167 := (Sl.step (Sl.step (Sl.step (Sl.step (Sl.step (Sl.step (Sl.step (Sl.step hr30 s36) s47) s60) s66) s75) s87) s100) s109)
  have r168 := (Sl.step (Sl.step (Sl.step (Sl.step (Sl.step (Sl.step (Sl.step (Sl.step r23 s36) s47) s60) s66) s75) s87) s100) s109)
  have hr169 := (Sl.step (Sl.step (Sl.step hr81 s87) s100) s109)
  have hrIndex170 := (Sl.step (Sl.step (Sl.step (Sl.step (Sl.step (Sl.step hrIndex51 s60) s66) s75) s87) s100) s109)
  have hrWork171 := (Sl.step (Sl.step (Sl.step (Sl.step (Sl.step (Sl.step hrWork54 s60) s66) s75) s87) s100) s109)
  have k172 := (OB.step k106 s109 p105)
  have hr173 := (Sl.step (Sl.step (Sl.step hr78 s87) s100) s109)
  have hrIndex174 := (Sl.step (Sl.step hrIndex91 s100) s109)
  have hrWork175 := (Sl.step (Sl.step hrWork94 s100) s109)
  obtain ⟨k156, hk157, hp⟩ := hp
  refine ground_ ?_
  refine join_ 309485009821344518968967169 (fun lq w158 => ∃ (X159 : List Nat) (s155 : Bool), (lq = [(0, (.bool s155))]) ∧ (Evo [] w w158) ∧ (Old X159 w158) ∧ (Sub X X159) ∧ (GV X159 w158 0 (Lib.pow10Tab.map (Value.int .u64))) ∧ (k156 s155)) (fun Kj160 hJ161 => ?_) ?_
  ·
    refine reg_ ?_
    refine sq (o_pv (.int .i64 r4) rfl (by kernel_rfl) ?_)
    refine sq (o_pv (.int .i64 r33) rfl (by kernel_rfl) ?_)
    obtain ⟨h180, hp⟩ := hp
    refine sq (o_pv (.int .i64 (r4 + r33)) rfl (x_add2 (k := .i64) (a := r4) (b := r33) (r4 + r33) (by kernel_rfl) (by kernel_rfl) (wrap_inR h180)) ?_)
    refine sq (o_pv (.int .i64 r44) rfl (by kernel_rfl) ?_)
    obtain ⟨h181, hp⟩ := hp
    refine sq (o_pv (.int .i64 ((r4 + r33) + r44)) rfl (x_add2 (k := .i64) (a := r4 + r33) (b := r44) ((r4 + r33) + r44) (by kernel_rfl) (by kernel_rfl) (wrap_inR h181)) ?_)
    refine sq (o_pv (.int .i64 r72) rfl (by kernel_rfl) ?_)
    obtain ⟨h182, hp⟩ := hp
    refine sq (o_pv (.int .i64 (((r4 + r33) + r44) + r72)) rfl (x_add2 (k := .i64) (a := (r4 + r33) + r44) (b := r72) (((r4 + r33) + r44) + r72) (by kernel_rfl) (by kernel_rfl) (wrap_inR h182)) ?_)
    by_cases h183 : (((r4 + r33) + r44) + r72) = (0 : Int)
    ·
      replace hp := hp.1 h183
      refine sq (o_pv (.bool true) rfl (x_dt (p := (((r4 + r33) + r44) + r72) = (0 : Int)) (by kernel_rfl) h183) ?_)
      refine sq (o_pv (.bool true) rfl (by kernel_rfl) ?_)
      refine sq (o_pv (.slice ar8 r3.length cr9) (by kernel_rfl) (by kernel_rfl) ?_)
      refine sq (o_pv (.int .i64 (r3.length : Int)) (by kernel_rfl) (by kernel_rfl) ?_)
      by_cases h184 : (r3.length : Int) = (1 : Int)
      ·
        replace hp := hp.1 h184
        refine sq (o_pv (.bool true) (by kernel_rfl) (x_dt (p := (r3.length : Int) = (1 : Int)) (by kernel_rfl) h184) ?_)
        refine sq (o_pv (.bool true) rfl (by kernel_rfl) ?_)
        refine sq (o_pv (.bool true) rfl (by kernel_rfl) ?_)
        refine sq (o_pv (.slice ar37 r32.length cr38) (by kernel_rfl) (by kernel_rfl) ?_)
        refine sq (o_pv (.int .i64 (r32.length : Int)) (by kernel_rfl) (by kernel_rfl) ?_)
        by_cases h185 : (r32.length : Int) = (2 : Int)
        ·
          replace hp := hp.1 h185
          refine sq (o_pv (.bool true) (by kernel_rfl) (x_dt (p := (r32.length : Int) = (2 : Int)) (by kernel_rfl) h185) ?_)
          refine sq (o_pv (.bool true) rfl (by kernel_rfl) ?_)
          refine sq (o_pv (.bool true) rfl (by kernel_rfl) ?_)
          refine sq (o_pv (.pointer (some ⟨b57, 0, none⟩)) (by kernel_rfl) (by kernel_rfl) ?_)
          refine sq (o_pv (.int .i64 r43.Base) (by kernel_rfl) (x_load1 (by kernel_rfl) Tryd.isAgg3 (k172.2.1.cell' 0 rfl)) ?_)
          by_cases h186 : r43.Base = (2 : Int)
          ·
            replace hp := hp.1 h186
            refine sq (o_pv (.bool true) (by kernel_rfl) (x_dt (p := r43.Base = (2 : Int)) (by kernel_rfl) h186) ?_)
            refine sq (o_pv (.bool true) rfl (by kernel_rfl) ?_)
            refine sq (o_pv (.bool true) rfl (by kernel_rfl) ?_)
            refine sq (o_pv (.slice ar76 r71.length cr77) (by kernel_rfl) (by kernel_rfl) ?_)
            refine sq (o_pv (.int .i64 (r71.length : Int)) (by kernel_rfl) (by kernel_rfl) ?_)
            by_cases h187 : (r71.length : Int) = (1 : Int)
            ·
              replace hp := hp.1 h187
              refine sq (o_pv (.bool true) (by kernel_rfl) (x_dt (p := (r71.length : Int) = (1 : Int)) (by kernel_rfl) h187) ?_)
              refine sq (o_pv (.bool true) rfl (by kernel_rfl) ?_)
              refine sq (o_pv (.bool true) rfl (by kernel_rfl) ?_)
              refine sq (o_pv (.slice ar76 r71.length cr77) (by kernel_rfl) (by kernel_rfl) ?_)
              obtain ⟨h188, hp⟩ := hp
              obtain ⟨b189, o190, cs191, ha192, nx193, lt194, ok195, hc196⟩ := Sl.atI hr173 (0 : Int) h188
              obtain ⟨aeIndex198, ceIndex199, aeWork201, ceWork202, rfl, reBase197, heIndex200, heWork203, zeText204⟩ := r_shelf_Shelf_open ok195
              replace hp := hp reBase197
              replace hp := hp (Sl.len heIndex200)
              replace hp := hp (Sl.len heWork203)
              replace hp := hp zeText204
              refine sq (o_pv (.pointer (some ⟨b189, o190 + (0 : Int).toNat * 4, none⟩)) (by kernel_rfl) (x_ixA (m := r71.length) (c := cr77) (k := .i64) (i := (0 : Int)) Tryd.underlying24 Tryd.sizeOf31 (by rw [← ha192]; kernel_rfl) (by kernel_rfl) h188) ?_)
              refine sq (o_pv (.pointer (some ⟨b189, o190 + (0 : Int).toNat * 4, none⟩)) (by kernel_rfl) (by kernel_rfl) ?_)
              refine sq (o_pv (.int .i64 ((lget r71 (0 : Int)).Base)) (by kernel_rfl) (x_load1 (by kernel_rfl) Tryd.isAgg3 (hc196 0 _ rfl)) ?_)
              by_cases h205 : ((lget r71 (0 : Int)).Base) = (1 : Int)
              ·
                replace hp := hp.1 h205
                refine sq (o_pv (.bool true) (by kernel_rfl) (x_dt (p := ((lget r71 (0 : Int)).Base) = (1 : Int)) (by kernel_rfl) h205) ?_)
                refine sq (o_pv (.bool true) rfl (by kernel_rfl) ?_)
                refine sq (o_pv (.bool true) rfl (by kernel_rfl) ?_)
                refine sq (o_pv (.int .i64 r84) (by kernel_rfl) (by kernel_rfl) ?_)
                by_cases h206 : r84 = (1 : Int)
                ·
                  replace hp := hp.1 h206
                  refine sq (o_pv (.bool true) (by kernel_rfl) (x_dt (p := r84 = (1 : Int)) (by kernel_rfl) h206) ?_)
                  refine sq (o_pv (.bool true) rfl (by kernel_rfl) ?_)
                  refine sq (o_pv (.bool true) rfl (by kernel_rfl) ?_)
                  refine sq (o_pv (.slice ar37 r32.length cr38) (by kernel_rfl) (by kernel_rfl) ?_)
                  refine sq (o_call 8 #[(.slice ar37 r32.length cr38)] (by kernel_rfl) (x_call Tryd.call8 (by kernel_rfl)) (shelf_Stack_Text_w (X := []) (s := r32) (Old.nil _) (Sl.less hr169 (Sub.nil _)) (GV.less gv163 (Sub.nil _)) hp) ?_)
                  rintro _ w208 ⟨r207, hp, e209, rfl, zr211⟩
                  have s210 := Step.of0 X99 e209
                  replace hp := hp zr211
                  by_cases h212 : (r207 : ByteArray) = (ByteArray.mk #[48, 58, 32, 98, 32, 40, 50, 44, 32, 48, 47, 49, 41, 10, 49, 58, 32, 97, 32, 40, 49, 44, 32, 48, 47, 48, 41, 10])
                  ·
                    replace hp := hp.1 h212
                    refine sq (o_pv (.bool true) (by kernel_rfl) (x_dt (p := (r207 : ByteArray) = (ByteArray.mk #[48, 58, 32, 98, 32, 40, 50, 44, 32, 48, 47, 49, 41, 10, 49, 58, 32, 97, 32, 40, 49, 44, 32, 48, 47, 48, 41, 10])) (x_streq (by kernel_rfl) (by kernel_rfl)) h212) ?_)
                    refine sq (o_pv (.bool true) rfl (by kernel_rfl) ?_)
                    refine sq (o_pv (.bool true) rfl (by kernel_rfl) ?_)
                    refine sq (o_pv (.slice ar76 r71.length cr77) (by kernel_rfl) (by kernel_rfl) ?_)
                    refine sq (o_pv (.slice ar8 r3.length cr9) (by kernel_rfl) (by kernel_rfl) ?_)
                    have hr213 := (Sl.step hr173 s210)
                    have hr214 := (Sl.step hr167 s210)
                    refine sq (o_call 9 #[(.slice ar76 r71.length cr77), (.slice ar8 r3.length cr9)] (by kernel_rfl) (x_call Tryd.call9 (by kernel_rfl)) (shelf_Stack_Same_w (X := []) (s := r71) (t := r3) (Old.nil _) (Sl.less hr213 (Sub.nil _)) (Sl.less hr214 (Sub.nil _)) hp) ?_)
                    rintro _ w216 ⟨r215, hp, e217, rfl⟩
                    have s218 := Step.of0 X99 e217
                    refine sq (o_pv (.bool r215) rfl (by kernel_rfl) ?_)
                    refine sq (o_pv (.bool r215) rfl (by kernel_rfl) ?_)
                    refine nil_ ?_
                    have E219 := (Evo.then0 (Evo.then0 E165 e209) e217)
                    have hXo220 := (Old.step (Old.step hXo164 s210) s218)
                    have hS221 := (Sub.trans (Sub.trans hS166 (Step.up s210)) (Step.up s218))
                    have gv222 := (GV.step (GV.step gv163 s210) s218)
                    refine then_normal (hJ161 _ _ _ ⟨[(0, (.bool r215))], fit_mk (fun _ _ => rfl) (by kernel_rfl) (vs_cons (by kernel_rfl) vs_nil), ?_⟩)
                    exact ⟨X99, r215, rfl, E219, hXo220, hS221, gv222, hp⟩
                  ·
                    replace hp := hp.2 h212
                    refine sq (o_pv (.bool false) (by kernel_rfl) (x_df (p := (r207 : ByteArray) = (ByteArray.mk #[48, 58, 32, 98, 32, 40, 50, 44, 32, 48, 47, 49, 41, 10, 49, 58, 32, 97, 32, 40, 49, 44, 32, 48, 47, 48, 41, 10])) (x_streq (by kernel_rfl) (by kernel_rfl)) h212) ?_)
                    refine sq (o_pv (.bool false) rfl (by kernel_rfl) ?_)
                    refine sq (o_pv (.bool false) rfl (by kernel_rfl) ?_)
                    refine sq (o_not (by kernel_rfl) ?_)
                    refine sq (o_not (by kernel_rfl) ?_)
                    refine sq (o_not (by kernel_rfl) ?_)
                    refine sq (o_pv (.bool false) rfl (by kernel_rfl) ?_)
                    refine sq (o_pv (.bool false) rfl (by kernel_rfl) ?_)
                    refine nil_ ?_
                    have E223 := (Evo.then0 E165 e209)
                    have hXo224 := (Old.step hXo164 s210)
                    have hS225 := (Sub.trans hS166 (Step.up s210))
                    have gv226 := (GV.step gv163 s210)
                    refine then_normal (hJ161 _ _ _ ⟨[(0, (.bool false))], fit_mk (fun _ _ => rfl) (by kernel_rfl) (vs_cons (by kernel_rfl) vs_nil), ?_⟩)
                    exact ⟨X99, false, rfl, E223, hXo224, hS225, gv226, hp⟩
                ·
                  replace hp := hp.2 h206
                  refine sq (o_pv (.bool false) (by kernel_rfl) (x_df (p := r84 = (1 : Int)) (by kernel_rfl) h206) ?_)
                  refine sq (o_pv (.bool false) rfl (by kernel_rfl) ?_)
                  refine sq (o_pv (.bool false) rfl (by kernel_rfl) ?_)
                  refine sq (o_not (by kernel_rfl) ?_)
                  refine sq (o_not (by kernel_rfl) ?_)
                  refine sq (o_not (by kernel_rfl) ?_)
                  refine sq (o_pv (.bool false) rfl (by kernel_rfl) ?_)
                  refine sq (o_pv (.bool false) rfl (by kernel_rfl) ?_)
                  refine sq (o_not (by kernel_rfl) ?_)
                  refine sq (o_not (by kernel_rfl) ?_)
                  refine sq (o_not (by kernel_rfl) ?_)
                  refine sq (o_pv (.bool false) rfl (by kernel_rfl) ?_)
                  refine sq (o_pv (.bool false) rfl (by kernel_rfl) ?_)
                  refine nil_ ?_
                  refine then_normal (hJ161 _ _ _ ⟨[(0, (.bool false))], fit_mk (fun _ _ => rfl) (by kernel_rfl) (vs_cons (by kernel_rfl) vs_nil), ?_⟩)
                  exact ⟨X99, false, rfl, E165, hXo164, hS166, gv163, hp⟩
              ·
                replace hp := hp.2 h205
                refine sq (o_pv (.bool false) (by kernel_rfl) (x_df (p := ((lget r71 (0 : Int)).Base) = (1 : Int)) (by kernel_rfl) h205) ?_)
                refine sq (o_pv (.bool false) rfl (by kernel_rfl) ?_)
                refine sq (o_pv (.bool false) rfl (by kernel_rfl) ?_)
                refine sq (o_not (by kernel_rfl) ?_)
                refine sq (o_not (by kernel_rfl) ?_)
                refine sq (o_pv (.bool false) rfl (by kernel_rfl) ?_)
                refine sq (o_pv (.bool false) rfl (by kernel_rfl) ?_)
                refine sq (o_not (by kernel_rfl) ?_)
                refine sq (o_not (by kernel_rfl) ?_)
                refine sq (o_not (by kernel_rfl) ?_)
                refine sq (o_pv (.bool false) rfl (by kernel_rfl) ?_)
                refine sq (o_pv (.bool false) rfl (by kernel_rfl) ?_)
                refine sq (o_not (by kernel_rfl) ?_)
                refine sq (o_not (by kernel_rfl) ?_)
                refine sq (o_not (by kernel_rfl) ?_)
                refine sq (o_pv (.bool false) rfl (by kernel_rfl) ?_)
                refine sq (o_pv (.bool false) rfl (by kernel_rfl) ?_)
                refine nil_ ?_
                refine then_normal (hJ161 _ _ _ ⟨[(0, (.bool false))], fit_mk (fun _ _ => rfl) (by kernel_rfl) (vs_cons (by kernel_rfl) vs_nil), ?_⟩)
                exact ⟨X99, false, rfl, E165, hXo164, hS166, gv163, hp⟩
            ·
              replace hp := hp.2 h187
              refine sq (o_pv (.bool false) (by kernel_rfl) (x_df (p := (r71.length : Int) = (1 : Int)) (by kernel_rfl) h187) ?_)
              refine sq (o_pv (.bool false) rfl (by kernel_rfl) ?_)
              refine sq (o_pv (.bool false) rfl (by kernel_rfl) ?_)
              refine sq (o_not (by kernel_rfl) ?_)
              refine sq (o_not (by kernel_rfl) ?_)
              refine sq (o_not (by kernel_rfl) ?_)
              refine sq (o_not (by kernel_rfl) ?_)
              refine sq (o_not (by kernel_rfl) ?_)
              refine sq (o_pv (.bool false) rfl (by kernel_rfl) ?_)
              refine sq (o_pv (.bool false) rfl (by kernel_rfl) ?_)
              refine sq (o_not (by kernel_rfl) ?_)
              refine sq (o_not (by kernel_rfl) ?_)
              refine sq (o_pv (.bool false) rfl (by kernel_rfl) ?_)
              refine sq (o_pv (.bool false) rfl (by kernel_rfl) ?_)
              refine sq (o_not (by kernel_rfl) ?_)
              refine sq (o_not (by kernel_rfl) ?_)
              refine sq (o_not (by kernel_rfl) ?_)
              refine sq (o_pv (.bool false) rfl (by kernel_rfl) ?_)
              refine sq (o_pv (.bool false) rfl (by kernel_rfl) ?_)
              refine sq (o_not (by kernel_rfl) ?_)
              refine sq (o_not (by kernel_rfl) ?_)
              refine sq (o_not (by kernel_rfl) ?_)
              refine sq (o_pv (.bool false) rfl (by kernel_rfl) ?_)
              refine sq (o_pv (.bool false) rfl (by kernel_rfl) ?_)
              refine nil_ ?_
              refine then_normal (hJ161 _ _ _ ⟨[(0, (.bool false))], fit_mk (fun _ _ => rfl) (by kernel_rfl) (vs_cons (by kernel_rfl) vs_nil), ?_⟩)
              exact ⟨X99, false, rfl, E165, hXo164, hS166, gv163, hp⟩
          ·
            replace hp := hp.2 h186
            refine sq (o_pv (.bool false) (by kernel_rfl) (x_df (p := r43.Base = (2 : Int)) (by kernel_rfl) h186) ?_)
            refine sq (o_pv (.bool false) rfl (by kernel_rfl) ?_)
            refine sq (o_pv (.bool false) rfl (by kernel_rfl) ?_)
            refine sq (o_not (by kernel_rfl) ?_)
            refine sq (o_not (by kernel_rfl) ?_)
            refine sq (o_not (by kernel_rfl) ?_)
            refine sq (o_pv (.bool false) rfl (by kernel_rfl) ?_)
            refine sq (o_pv (.bool false) rfl (by kernel_rfl) ?_)
            refine sq (o_not (by kernel_rfl) ?_)
            refine sq (o_not (by kernel_rfl) ?_)
            refine sq (o_not (by kernel_rfl) ?_)
            refine sq (o_not (by kernel_rfl) ?_)
            refine sq (o_not (by kernel_rfl) ?_)
            refine sq (o_pv (.bool false) rfl (by kernel_rfl) ?_)
            refine sq (o_pv (.bool false) rfl (by kernel_rfl) ?_)
            refine sq (o_not (by kernel_rfl) ?_)
            refine sq (o_not (by kernel_rfl) ?_)
            refine sq (o_pv (.bool false) rfl (by kernel_rfl) ?_)
            refine sq (o_pv (.bool false) rfl (by kernel_rfl) ?_)
            refine sq (o_not (by kernel_rfl) ?_)
            refine sq (o_not (by kernel_rfl) ?_)
            refine sq (o_not (by kernel_rfl) ?_)
            refine sq (o_pv (.bool false) rfl (by kernel_rfl) ?_)
            refine sq (o_pv (.bool false) rfl (by kernel_rfl) ?_)
            refine sq (o_not (by kernel_rfl) ?_)
            refine sq (o_not (by kernel_rfl) ?_)
            refine sq (o_not (by kernel_rfl) ?_)
            refine sq (o_pv (.bool false) rfl (by kernel_rfl) ?_)
            refine sq (o_pv (.bool false) rfl (by kernel_rfl) ?_)
            refine nil_ ?_
            refine then_normal (hJ161 _ _ _ ⟨[(0, (.bool false))], fit_mk (fun _ _ => rfl) (by kernel_rfl) (vs_cons (by kernel_rfl) vs_nil), ?_⟩)
            exact ⟨X99, false, rfl, E165, hXo164, hS166, gv163, hp⟩
        ·
          replace hp := hp.2 h185
          refine sq (o_pv (.bool false) (by kernel_rfl) (x_df (p := (r32.length : Int) = (2 : Int)) (by kernel_rfl) h185) ?_)
          refine sq (o_pv (.bool false) rfl (by kernel_rfl) ?_)
          refine sq (o_pv (.bool false) rfl (by kernel_rfl) ?_)
          refine sq (o_not (by kernel_rfl) ?_)
          refine sq (o_not (by kernel_rfl) ?_)
          refine sq (o_not (by kernel_rfl) ?_)
          refine sq (o_pv (.bool false) rfl (by kernel_rfl) ?_)
          refine sq (o_pv (.bool false) rfl (by kernel_rfl) ?_)
          refine sq (o_not (by kernel_rfl) ?_)
          refine sq (o_not (by kernel_rfl) ?_)
          refine sq (o_not (by kernel_rfl) ?_)
          refine sq (o_pv (.bool false) rfl (by kernel_rfl) ?_)
          refine sq (o_pv (.bool false) rfl (by kernel_rfl) ?_)
          refine sq (o_not (by kernel_rfl) ?_)
          refine sq (o_not (by kernel_rfl) ?_)
          refine sq (o_not (by kernel_rfl) ?_)
          refine sq (o_not (by kernel_rfl) ?_)
          refine sq (o_not (by kernel_rfl) ?_)
          refine sq (o_pv (.bool false) rfl (by kernel_rfl) ?_)
          refine sq (o_pv (.bool false) rfl (by kernel_rfl) ?_)
          refine sq (o_not (by kernel_rfl) ?_)
          refine sq (o_not (by kernel_rfl) ?_)
          refine sq (o_pv (.bool false) rfl (by kernel_rfl) ?_)
          refine sq (o_pv (.bool false) rfl (by kernel_rfl) ?_)
          refine sq (o_not (by kernel_rfl) ?_)
          refine sq (o_not (by kernel_rfl) ?_)
          refine sq (o_not (by kernel_rfl) ?_)
          refine sq (o_pv (.bool false) rfl (by kernel_rfl) ?_)
          refine sq (o_pv (.bool false) rfl (by kernel_rfl) ?_)
          refine sq (o_not (by kernel_rfl) ?_)
          refine sq (o_not (by kernel_rfl) ?_)
          refine sq (o_not (by kernel_rfl) ?_)
          refine sq (o_pv (.bool false) rfl (by kernel_rfl) ?_)
          refine sq (o_pv (.bool false) rfl (by kernel_rfl) ?_)
          refine nil_ ?_
          refine then_normal (hJ161 _ _ _ ⟨[(0, (.bool false))], fit_mk (fun _ _ => rfl) (by kernel_rfl) (vs_cons (by kernel_rfl) vs_nil), ?_⟩)
          exact ⟨X99, false, rfl, E165, hXo164, hS166, gv163, hp⟩
      ·
        replace hp := hp.2 h184
        refine sq (o_pv (.bool false) (by kernel_rfl) (x_df (p := (r3.length : Int) = (1 : Int)) (by kernel_rfl) h184) ?_)
        refine sq (o_pv (.bool false) rfl (by kernel_rfl) ?_)
        refine sq (o_pv (.bool false) rfl (by kernel_rfl) ?_)
        refine sq (o_not (by kernel_rfl) ?_)
        refine sq (o_not (by kernel_rfl) ?_)
        refine sq (o_not (by kernel_rfl) ?_)
        refine sq (o_pv (.bool false) rfl (by kernel_rfl) ?_)
        refine sq (o_pv (.bool false) rfl (by kernel_rfl) ?_)
        refine sq (o_not (by kernel_rfl) ?_)
        refine sq (o_not (by kernel_rfl) ?_)
        refine sq (o_not (by kernel_rfl) ?_)
        refine sq (o_pv (.bool false) rfl (by kernel_rfl) ?_)
        refine sq (o_pv (.bool false) rfl (by kernel_rfl) ?_)
        refine sq (o_not (by kernel_rfl) ?_)
        refine sq (o_not (by kernel_rfl) ?_)
        refine sq (o_not (by kernel_rfl) ?_)
        refine sq (o_pv (.bool false) rfl (by kernel_rfl) ?_)
        refine sq (o_pv (.bool false) rfl (by kernel_rfl) ?_)
        refine sq (o_not (by kernel_rfl) ?_)
        refine sq (o_not (by kernel_rfl) ?_)
        refine sq (o_not (by kernel_rfl) ?_)
        refine sq (o_not (by kernel_rfl) ?_)
        refine sq (o_not (by kernel_rfl) ?_)
        refine sq (o_pv (.bool false) rfl (by kernel_rfl) ?_)
        refine sq (o_pv (.bool false) rfl (by kernel_rfl) ?_)
        refine sq (o_not (by kernel_rfl) ?_)
        refine sq (o_not (by kernel_rfl) ?_)
        refine sq (o_pv (.bool false) rfl (by kernel_rfl) ?_)
        refine sq (o_pv (.bool false) rfl (by kernel_rfl) ?_)
        refine sq (o_not (by kernel_rfl) ?_)
        refine sq (o_not (by kernel_rfl) ?_)
        refine sq (o_not (by kernel_rfl) ?_)
        refine sq (o_pv (.bool false) rfl (by kernel_rfl) ?_)
        refine sq (o_pv (.bool false) rfl (by kernel_rfl) ?_)
        refine sq (o_not (by kernel_rfl) ?_)
        refine sq (o_not (by kernel_rfl) ?_)
        refine sq (o_not (by kernel_rfl) ?_)
        refine sq (o_pv (.bool false) rfl (by kernel_rfl) ?_)
        refine sq (o_pv (.bool false) rfl (by kernel_rfl) ?_)
        refine nil_ ?_
        refine then_normal (hJ161 _ _ _ ⟨[(0, (.bool false))], fit_mk (fun _ _ => rfl) (by kernel_rfl) (vs_cons (by kernel_rfl) vs_nil), ?_⟩)
        exact ⟨X99, false, rfl, E165, hXo164, hS166, gv163, hp⟩
    ·
      replace hp := hp.2 h183
      refine sq (o_pv (.bool false) rfl (x_df (p := (((r4 + r33) + r44) + r72) = (0 : Int)) (by kernel_rfl) h183) ?_)
      refine sq (o_pv (.bool false) rfl (by kernel_rfl) ?_)
      refine sq (o_not (by kernel_rfl) ?_)
      refine sq (o_not (by kernel_rfl) ?_)
      refine sq (o_not (by kernel_rfl) ?_)
      refine sq (o_pv (.bool false) rfl (by kernel_rfl) ?_)
      refine sq (o_pv (.bool false) rfl (by kernel_rfl) ?_)
      refine sq (o_not (by kernel_rfl) ?_)
      refine sq (o_not (by kernel_rfl) ?_)
      refine sq (o_not (by kernel_rfl) ?_)
      refine sq (o_pv (.bool false) rfl (by kernel_rfl) ?_)
      refine sq (o_pv (.bool false) rfl (by kernel_rfl) ?_)
      refine sq (o_not (by kernel_rfl) ?_)
      refine sq (o_not (by kernel_rfl) ?_)
      refine sq (o_not (by kernel_rfl) ?_)
      refine sq (o_pv (.bool false) rfl (by kernel_rfl) ?_)
      refine sq (o_pv (.bool false) rfl (by kernel_rfl) ?_)
      refine sq (o_not (by kernel_rfl) ?_)
      refine sq (o_not (by kernel_rfl) ?_)
      refine sq (o_not (by kernel_rfl) ?_)
      refine sq (o_pv (.bool false) rfl (by kernel_rfl) ?_)
      refine sq (o_pv (.bool false) rfl (by kernel_rfl) ?_)
      refine sq (o_not (by kernel_rfl) ?_)
      refine sq (o_not (by kernel_rfl) ?_)
      refine sq (o_not (by kernel_rfl) ?_)
      refine sq (o_not (by kernel_rfl) ?_)
      refine sq (o_not (by kernel_rfl) ?_)
      refine sq (o_pv (.bool false) rfl (by kernel_rfl) ?_)
      refine sq (o_pv (.bool false) rfl (by kernel_rfl) ?_)
      refine sq (o_not (by kernel_rfl) ?_)
      refine sq (o_not (by kernel_rfl) ?_)
      refine sq (o_pv (.bool false) rfl (by kernel_rfl) ?_)
      refine sq (o_pv (.bool false) rfl (by kernel_rfl) ?_)
      refine sq (o_not (by kernel_rfl) ?_)
      refine sq (o_not (by kernel_rfl) ?_)
      refine sq (o_not (by kernel_rfl) ?_)
      refine sq (o_pv (.bool false) rfl (by kernel_rfl) ?_)
      refine sq (o_pv (.bool false) rfl (by kernel_rfl) ?_)
      refine sq (o_not (by kernel_rfl) ?_)
      refine sq (o_not (by kernel_rfl) ?_)
      refine sq (o_not (by kernel_rfl) ?_)
      refine sq (o_pv (.bool false) rfl (by kernel_rfl) ?_)
      refine sq (o_pv (.bool false) rfl (by kernel_rfl) ?_)
      refine nil_ ?_
      refine then_normal (hJ161 _ _ _ ⟨[(0, (.bool false))], fit_mk (fun _ _ => rfl) (by kernel_rfl) (vs_cons (by kernel_rfl) vs_nil), ?_⟩)
      exact ⟨X99, false, rfl, E165, hXo164, hS166, gv163, hp⟩
  ·
    rintro _ w158 g227 ⟨X159, s155, rfl, E176, hXo177, hS178, gv179, hv162⟩
    replace hp := hk157 s155 hv162
    refine then_normal (K111 _ _ _ _ ?_)
    refine wp_ret ?_
    refine end_ret hQ (.bool s155) (by kernel_rfl) ?_
    exact ⟨s155, hp, E176, rfl⟩

end Go.Proofs.YtoankcdcnhooiaaDoor
