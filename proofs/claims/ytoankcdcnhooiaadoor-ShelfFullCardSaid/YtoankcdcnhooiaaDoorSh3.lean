/- Walks of functions: what each asks and computes, as a plain predicate, and the contract from it. -/
import Derived.Test.YtoankcdcnhooiaaDoorChecked
import Derived.Test.YtoankcdcnhooiaaDoorSh2
namespace Go.Proofs.YtoankcdcnhooiaaDoor
open Go


def rectolaw23_ShelfFull_p (more : Int) (which : Int) (Q : Bool → Prop) : Prop :=
  ((inR .u8 more) → ((inR .u8 which) → (rectolaw23_known_p  (fun (r6 : Bool) => ((((!r6) = true) → Q false) ∧ (((!r6) = false) → (∃ (I247 : (List S_shelf_Shelf) → Int → Prop) (m248 : (List S_shelf_Shelf) → Int → Nat), (I247 ([] : List S_shelf_Shelf) (0 : Int)) ∧ (∀ (s127 : (List S_shelf_Shelf)) (i132 : Int), (I247 s127 i132) → (s127.length ≤ 9223372036854775807) → (inR .i64 i132) → ((inR .i64 ((16 : Int) + (more % (4 : Int)))) ∧ (((i132 < ((16 : Int) + (more % (4 : Int)))) → (∃ k317 : (List S_shelf_Shelf) → Prop, (∀ (s312 : (List S_shelf_Shelf)), k317 s312 → (s312.length ≤ 9223372036854775807) → ((inR .i64 (i132 + (1 : Int))) ∧ ((I247 s312 (i132 + (1 : Int))) ∧ m248 s312 (i132 + (1 : Int)) < m248 s127 i132))) ∧ ((inR .i64 (i132 + (1 : Int))) ∧ (shelf_Stack_Push_p s127 (S_shelf_Shelf.mk (i132 + (1 : Int)) ([] : List S_files_File) ([] : List S_files_File) (ByteArray.mk #[])) (fun (r330 : (List S_shelf_Shelf)) (r331 : Int) => ((r330.length ≤ 9223372036854775807) → ((inR .i64 r331) → (∃ k344 : Bool → Prop, (∀ (s343 : Bool), k344 s343 → (((s343 = true) → Q false) ∧ ((s343 = false) → (((i132 < (16 : Int)) → (k317 r330)) ∧ ((¬ (i132 < (16 : Int))) → (k317 s127)))))) ∧ (((((decide (r331 = (0 : Int))) : Bool) = (decide (i132 < (16 : Int)))) → (((i132 ≥ (16 : Int)) → (k344 (!decide (r331 = (4 : Int))))) ∧ ((¬ (i132 ≥ (16 : Int))) → (k344 false)))) ∧ ((¬ (((decide (r331 = (0 : Int))) : Bool) = (decide (i132 < (16 : Int))))) → (k344 true))))))))))) ∧ ((¬ (i132 < ((16 : Int) + (more % (4 : Int))))) → (shelf_Stack_Drop_p s127 (which % (16 : Int)) (fun (r374 : (List S_shelf_Shelf)) (r375 : Int) => ((r374.length ≤ 9223372036854775807) → ((inR .i64 r375) → (shelf_Stack_Push_p r374 (S_shelf_Shelf.mk (99 : Int) ([] : List S_files_File) ([] : List S_files_File) (ByteArray.mk #[])) (fun (r385 : (List S_shelf_Shelf)) (r386 : Int) => ((r385.length ≤ 9223372036854775807) → ((inR .i64 r386) → (shelf_Stack_Get_p r385 (0 : Int) (fun (r396 : S_shelf_Shelf) (r397 : Int) => ((inR .i64 r396.Base) → ((r396.Index.length ≤ 9223372036854775807) → ((r396.Work.length ≤ 9223372036854775807) → ((r396.Text.size ≤ maxLen) → ((inR .i64 r397) → ((inR .i64 ((which % (16 : Int)) + (1 : Int))) ∧ (shelf_Stack_Get_p r385 ((which % (16 : Int)) + (1 : Int)) (fun (r425 : S_shelf_Shelf) (r426 : Int) => ((inR .i64 r425.Base) → ((r425.Index.length ≤ 9223372036854775807) → ((r425.Work.length ≤ 9223372036854775807) → ((r425.Text.size ≤ maxLen) → ((inR .i64 r426) → (((inR .i64 (r375 + r386)) ∧ ((inR .i64 ((r375 + r386) + r397)) ∧ (((((r375 + r386) + r397) = (0 : Int)) → (((r396.Base = (99 : Int)) → True) ∧ ((¬ (r396.Base = (99 : Int))) → True))) ∧ ((¬ (((r375 + r386) + r397) = (0 : Int))) → True)))) ∧ ((((¬ (((r375 + r386) + r397) = (0 : Int))) ∨ ((¬ (r396.Base = (99 : Int))) ∨ (¬ ((r385.length : Int) = (16 : Int))))) → Q false) ∧ ((¬ ((¬ (((r375 + r386) + r397) = (0 : Int))) ∨ ((¬ (r396.Base = (99 : Int))) ∨ (¬ ((r385.length : Int) = (16 : Int)))))) → ((((which % (16 : Int)) = (15 : Int)) → Q (decide (r426 = (1 : Int)))) ∧ ((¬ ((which % (16 : Int)) = (15 : Int))) → ((((r426 = (0 : Int)) → ((inR .i64 ((16 : Int) - (which % (16 : Int)))) ∧ ((inR .i64 (((16 : Int) - (which % (16 : Int))) - (1 : Int))) ∧ True))) ∧ ((¬ (r426 = (0 : Int))) → True)) ∧ Q (decide ((r426 = (0 : Int)) ∧ (r425.Base = (((16 : Int) - (which % (16 : Int))) - (1 : Int)))))))))))))))))))))))))))))))))))))))))))))
set_option maxRecDepth 20000 in
set_option maxHeartbeats 4000000 in
theorem rectolaw23_ShelfFull_w {X : List Nat} {w : World} {more : Int} {which : Int} {Q : Bool → Prop} (hX0 : Old X w) (rmore1 : inR .u8 more) (rwhich2 : inR .u8 which) (gv0 : GV X w 0 (Lib.pow10Tab.map (Value.int .u64))) (hp : rectolaw23_ShelfFull_p more which Q) :
    Calls Tryd.prog 3 #[(.int .u8 more), (.int .u8 which)] w (Ret fun v w' => ∃ (r0 : Bool), Q r0 ∧ Evo [] w w' ∧ v = (.bool r0)) := by
  have hXo := hX0
  have E0 : Evo [] w w := RB.refl _ _ _
  have hS : Sub X X := Sub.refl _
  unfold rectolaw23_ShelfFull_p at hp
  refine enter_ Tryd.func3 rfl 109 [(0, (.int .u8 more)), (1, (.int .u8 which))] (by kernel_rfl) (fun Qe hQ => ?_)
  replace hp := hp rmore1
  replace hp := hp rwhich2
  refine seq_ (fun _ K3 => ?_)
  refine reg_ ?_
  refine sq (o_pv (.bool false) rfl (by kernel_rfl) ?_)
  refine nil_ ?_
  refine then_normal (K3 _ _ _ _ ?_)
  refine seq_ (fun _ K4 => ?_)
  refine seq_ (fun _ K5 => ?_)
  refine reg_ ?_
  refine sq (o_call 4 #[] rfl (x_call Tryd.call4 (by kernel_rfl)) (rectolaw23_known_w (X := [])  (Old.nil _) (GV.less gv0 (Sub.nil _)) hp) ?_)
  rintro _ w7 ⟨r6, hp, e8, rfl⟩
  have s9 := Step.of0 X e8
  refine sq (o_pv (.bool (!r6)) rfl (by kernel_rfl) ?_)
  refine nil_ ?_
  refine then_normal (K5 _ _ _ _ ?_)
  refine cond_b (!r6) (by kernel_rfl) (fun h10 => ?_) (fun h10 => ?_)
  ·
    replace hp := hp.1 h10
    refine seq_ (fun _ K11 => ?_)
    refine reg_ ?_
    refine sq (o_pv (.bool false) rfl (by kernel_rfl) ?_)
    refine nil_ ?_
    refine then_normal (K11 _ _ _ _ ?_)
    refine wp_ret ?_
    refine then_ret ?_
    have E12 := (Evo.then0 E0 e8)
    refine end_ret hQ (.bool false) (by kernel_rfl) ?_
    exact ⟨false, hp, E12, rfl⟩
  ·
    replace hp := hp.2 h10
    refine wp_skip ?_
    refine then_normal (K4 _ _ _ _ ?_)
    refine seq_ (fun _ K13 => ?_)
    refine reg_ ?_
    refine sq (o_pv (.slice none 0 0) rfl (by kernel_rfl) ?_)
    refine nil_ ?_
    refine then_normal (K13 _ _ _ _ ?_)
    refine seq_ (fun _ K14 => ?_)
    refine seq_ (fun _ K15 => ?_)
    refine reg_ ?_
    refine sq (o_pv (.int .i64 (0 : Int)) rfl (by kernel_rfl) ?_)
    refine nil_ ?_
    refine then_normal (K15 _ _ _ _ ?_)
    refine wp_block ?_
    have gv257 := (GV.step gv0 s9)
    have hXo258 := (Old.step hXo s9)
    have E259 := (Evo.then0 E0 e8)
    have hS260 := (Sub.trans hS (Step.up s9))
    obtain ⟨I247, m248, hI249, hp⟩ := hp
    refine loop_ 4503599626322416 (fun kq lq w251 => ∃ (X252 : List Nat) (s127 : (List S_shelf_Shelf)) (i132 : Int) (a128 : Option Addr) (c130 : Nat), (lq = [(5, (.slice a128 s127.length c130)), (6, (.int .i64 i132))]) ∧ (kq = m248 s127 i132) ∧ (Evo [] w w251) ∧ (Old X252 w251) ∧ (Sub X X252) ∧ (GV X252 w251 0 (Lib.pow10Tab.map (Value.int .u64))) ∧ (Sl r_shelf_Shelf X252 w251 a128 c130 s127) ∧ (inR .i64 i132) ∧ (I247 s127 i132)) (m248 ([] : List S_shelf_Shelf) (0 : Int)) [(5, (.slice none ([] : List S_shelf_Shelf).length 0)), (6, (.int .i64 (0 : Int)))] (vs_cons (by kernel_rfl) (vs_cons (by kernel_rfl) vs_nil)) ⟨X, ([] : List S_shelf_Shelf), (0 : Int), none, 0, rfl, rfl, E259, hXo258, hS260, gv257, Sl.nil, (by decide : inR .i64 (0 : Int)), hI249⟩ ?_
    rintro _ _ w251 g254 ⟨X252, s127, i132, a128, c130, rfl, rfl, E261, hXo262, hS263, gv264, h131, ri133, hI250⟩ Kl255 hA256
    replace hp := hp s127 i132 hI250 (Sl.len h131) ri133
    refine seq_ (fun _ K265 => ?_)
    refine seq_ (fun _ K266 => ?_)
    refine reg_ ?_
    refine sq (o_pv (.int .i64 i132) rfl (by kernel_rfl) ?_)
    refine sq (o_pv (.int .u8 more) rfl (by kernel_rfl) ?_)
    refine sq (o_pv (.int .u8 (more % (4 : Int))) rfl (x_rem2 (k := .u8) (a := more) (b := (4 : Int)) (more % (4 : Int)) (by kernel_rfl) (by kernel_rfl) (inR_nn rmore1) (by decide) rfl (wrap_inR (inR_rem (inR_nn rmore1) (by decide) rmore1 (by decide : inR .u8 (4 : Int))))) ?_)
    have r267 : inR .i64 (more % (4 : Int)) := inR_up (by decide) (by decide) (inR_rem (inR_nn rmore1) (by decide) rmore1 (by decide : inR .u8 (4 : Int)))
    refine sq (o_pv (.int .i64 (more % (4 : Int))) rfl (x_conv (k := .u8) Tryd.underlying5 Tryd.underlying3 (by kernel_rfl) (wrap_inR r267)) ?_)
    obtain ⟨h268, hp⟩ := hp
    refine sq (o_pv (.int .i64 ((16 : Int) + (more % (4 : Int)))) rfl (x_add2 (k := .i64) (a := (16 : Int)) (b := more % (4 : Int)) ((16 : Int) + (more % (4 : Int))) (by kernel_rfl) (by kernel_rfl) (wrap_inR h268)) ?_)
    refine sq (o_pv (.bool (decide (i132 < ((16 : Int) + (more % (4 : Int)))))) rfl (by kernel_rfl) ?_)
    refine nil_ ?_
    refine then_normal (K266 _ _ _ _ ?_)
    refine cond_d (i132 < ((16 : Int) + (more % (4 : Int)))) (by kernel_rfl) (fun h269 => ?_) (fun h269 => ?_)
    ·
      replace hp := hp.1 h269
      refine wp_skip ?_
      refine then_normal (K265 _ _ _ _ ?_)
      refine seq_ (fun _ K270 => ?_)
      obtain ⟨k317, hk318, hp⟩ := hp
      refine ground_ ?_
      refine join_ 4503599358935472 (fun lq w319 => ∃ (X320 : List Nat) (s312 : (List S_shelf_Shelf)) (a313 : Option Addr) (c315 : Nat), (lq = [(5, (.slice a313 s312.length c315))]) ∧ (Evo [] w w319) ∧ (Old X320 w319) ∧ (Sub X X320) ∧ (GV X320 w319 0 (Lib.pow10Tab.map (Value.int .u64))) ∧ (Sl r_shelf_Shelf X320 w319 a313 c315 s312) ∧ (k317 s312)) (fun Kj321 hJ322 => ?_) ?_
      ·
        refine wp_block ?_
        refine seq_ (fun _ K328 => ?_)
        refine reg_ ?_
        refine sq (o_pv (.slice a128 s127.length c130) rfl (by kernel_rfl) ?_)
        refine sq (o_pv (.int .i64 i132) rfl (by kernel_rfl) ?_)
        obtain ⟨h329, hp⟩ := hp
        refine sq (o_pv (.int .i64 (i132 + (1 : Int))) rfl (x_add2 (k := .i64) (a := i132) (b := (1 : Int)) (i132 + (1 : Int)) (by kernel_rfl) (by kernel_rfl) (wrap_inR h329)) ?_)
        refine sq (o_pv (.agg #[(.int .i64 (i132 + (1 : Int))), (.slice none 0 0), (.slice none 0 0), (.string (ByteArray.mk #[]))]) rfl (by kernel_rfl) ?_)
        refine sq (o_call 5 #[(.slice a128 s127.length c130), (.agg #[(.int .i64 (i132 + (1 : Int))), (.slice none (([] : List S_files_File)).length 0), (.slice none (([] : List S_files_File)).length 0), (.string (ByteArray.mk #[]))])] rfl (x_call Tryd.call5 (by rw []; kernel_rfl)) (shelf_Stack_Push_w (X := X252) (s := s127) (x := (S_shelf_Shelf.mk (i132 + (1 : Int)) ([] : List S_files_File) ([] : List S_files_File) (ByteArray.mk #[]))) hXo262 h131 h329 Sl.nil Sl.nil (by decide : (ByteArray.mk #[]).size ≤ maxLen) hp) ?_)
        rintro _ w332 ⟨r330, r331, hp, e333, ar335, cr336, rfl, hr337, rr338⟩
        have s334 := Step.of0 X252 e333
        replace hp := hp (Sl.len hr337)
        replace hp := hp rr338
        refine sq (o_pv (.tuple #[(.slice ar335 r330.length cr336), (.int .i64 r331)]) rfl (by kernel_rfl) ?_)
        refine sq (o_pv (.slice ar335 r330.length cr336) rfl (by kernel_rfl) ?_)
        refine sq (o_pv (.int .i64 r331) rfl (by kernel_rfl) ?_)
        refine sq (o_pv (.slice ar335 r330.length cr336) rfl (by kernel_rfl) ?_)
        refine sq (o_pv (.int .i64 r331) rfl (by kernel_rfl) ?_)
        refine nil_ ?_
        refine then_normal (K328 _ _ _ _ ?_)
        refine seq_ (fun _ K339 => ?_)
        refine seq_ (fun _ K340 => ?_)
        have E351 := (Evo.then0 E261 e333)
        have hXo352 := (Old.step hXo262 s334)
        have hS353 := (Sub.trans hS263 (Step.up s334))
        have gv354 := (GV.step gv264 s334)
        have h355 := (Sl.step h131 s334)
        obtain ⟨k344, hk345, hp⟩ := hp
        refine ground_ ?_
        refine join_ 562881233944576 (fun lq w346 => ∃ (X347 : List Nat) (s343 : Bool), (lq = [(48, (.bool s343))]) ∧ (Evo [] w w346) ∧ (Old X347 w346) ∧ (Sub X X347) ∧ (GV X347 w346 0 (Lib.pow10Tab.map (Value.int .u64))) ∧ (Sl r_shelf_Shelf X347 w346 a128 c130 s127) ∧ (Sl r_shelf_Shelf X347 w346 ar335 cr336 r330) ∧ (k344 s343)) (fun Kj348 hJ349 => ?_) ?_
        ·
          refine reg_ ?_
          refine sq (o_pv (.int .i64 r331) rfl (by kernel_rfl) ?_)
          refine sq (o_pv (.bool (decide (r331 = (0 : Int)))) rfl (by kernel_rfl) ?_)
          refine sq (o_pv (.int .i64 i132) rfl (by kernel_rfl) ?_)
          refine sq (o_pv (.bool (decide (i132 < (16 : Int)))) rfl (by kernel_rfl) ?_)
          by_cases h362 : ((decide (r331 = (0 : Int))) : Bool) = (decide (i132 < (16 : Int)))
          ·
            replace hp := hp.1 h362
            refine sq (o_pv (.bool false) rfl (x_ndf (p := ((decide (r331 = (0 : Int))) : Bool) = (decide (i132 < (16 : Int)))) (x_boolne (a := (decide (r331 = (0 : Int)))) (b := (decide (i132 < (16 : Int)))) Tryd.underlying4 (by kernel_rfl) (by kernel_rfl)) h362) ?_)
            refine sq (o_pv (.bool false) rfl (by kernel_rfl) ?_)
            refine sq (o_pv (.int .i64 i132) (by kernel_rfl) (by kernel_rfl) ?_)
            by_cases h363 : i132 ≥ (16 : Int)
            ·
              replace hp := hp.1 h363
              refine sq (o_pv (.bool true) (by kernel_rfl) (x_dt (p := i132 ≥ (16 : Int)) (by kernel_rfl) h363) ?_)
              refine sq (o_pv (.bool true) (by kernel_rfl) (by kernel_rfl) ?_)
              refine sq (o_pv (.int .i64 r331) (by kernel_rfl) (by kernel_rfl) ?_)
              refine sq (o_pv (.bool (!decide (r331 = (4 : Int)))) (by kernel_rfl) (by kernel_rfl) ?_)
              refine sq (o_pv (.bool (!decide (r331 = (4 : Int)))) (by kernel_rfl) (by kernel_rfl) ?_)
              refine sq (o_pv (.bool (!decide (r331 = (4 : Int)))) rfl (by kernel_rfl) ?_)
              refine nil_ ?_
              refine then_normal (hJ349 _ _ _ ⟨[(48, (.bool (!decide (r331 = (4 : Int)))))], fit_mk (fun _ _ => rfl) (by kernel_rfl) (vs_cons (by kernel_rfl) vs_nil), ?_⟩)
              exact ⟨X252, (!decide (r331 = (4 : Int))), rfl, E351, hXo352, hS353, gv354, h355, hr337, hp⟩
            ·
              replace hp := hp.2 h363
              refine sq (o_pv (.bool false) (by kernel_rfl) (x_df (p := i132 ≥ (16 : Int)) (by kernel_rfl) h363) ?_)
              refine sq (o_pv (.bool false) (by kernel_rfl) (by kernel_rfl) ?_)
              refine sq (o_not (by kernel_rfl) ?_)
              refine sq (o_not (by kernel_rfl) ?_)
              refine sq (o_pv (.bool false) (by kernel_rfl) (by kernel_rfl) ?_)
              refine sq (o_pv (.bool false) rfl (by kernel_rfl) ?_)
              refine nil_ ?_
              refine then_normal (hJ349 _ _ _ ⟨[(48, (.bool false))], fit_mk (fun _ _ => rfl) (by kernel_rfl) (vs_cons (by kernel_rfl) vs_nil), ?_⟩)
              exact ⟨X252, false, rfl, E351, hXo352, hS353, gv354, h355, hr337, hp⟩
          ·
            replace hp := hp.2 h362
            refine sq (o_pv (.bool true) rfl (x_ndt (p := ((decide (r331 = (0 : Int))) : Bool) = (decide (i132 < (16 : Int)))) (x_boolne (a := (decide (r331 = (0 : Int)))) (b := (decide (i132 < (16 : Int)))) Tryd.underlying4 (by kernel_rfl) (by kernel_rfl)) h362) ?_)
            refine sq (o_pv (.bool true) rfl (by kernel_rfl) ?_)
            refine sq (o_not (by kernel_rfl) ?_)
            refine sq (o_not (by kernel_rfl) ?_)
            refine sq (o_not (by kernel_rfl) ?_)
            refine sq (o_not (by kernel_rfl) ?_)
            refine sq (o_not (by kernel_rfl) ?_)
            refine sq (o_not (by kernel_rfl) ?_)
            refine sq (o_pv (.bool true) rfl (by kernel_rfl) ?_)
            refine nil_ ?_
            refine then_normal (hJ349 _ _ _ ⟨[(48, (.bool true))], fit_mk (fun _ _ => rfl) (by kernel_rfl) (vs_cons (by kernel_rfl) vs_nil), ?_⟩)
            exact ⟨X252, true, rfl, E351, hXo352, hS353, gv354, h355, hr337, hp⟩
        ·
          rintro _ w346 g364 ⟨X347, s343, rfl, E356, hXo357, hS358, gv359, h360, hr361, hv350⟩
          replace hp := hk345 s343 hv350
          refine then_normal (K340 _ _ _ _ ?_)
          refine cond_b s343 (by kernel_rfl) (fun h365 => ?_) (fun h365 => ?_)
          ·
            replace hp := hp.1 h365
            refine seq_ (fun _ K366 => ?_)
            refine reg_ ?_
            refine sq (o_pv (.bool false) rfl (by kernel_rfl) ?_)
            refine nil_ ?_
            refine then_normal (K366 _ _ _ _ ?_)
            refine wp_ret ?_
            refine then_ret ?_
            refine blk_ret ?_
            refine then_ret ?_
            refine then_ret ?_
            refine then_ret ?_
            refine blk_ret ?_
            refine then_ret ?_
            refine end_ret hQ (.bool false) (by kernel_rfl) ?_
            exact ⟨false, hp, E356, rfl⟩
          ·
            replace hp := hp.2 h365
            refine wp_skip ?_
            refine then_normal (K339 _ _ _ _ ?_)
            refine seq_ (fun _ K367 => ?_)
            refine reg_ ?_
            refine sq (o_pv (.int .i64 i132) rfl (by kernel_rfl) ?_)
            refine sq (o_pv (.bool (decide (i132 < (16 : Int)))) rfl (by kernel_rfl) ?_)
            refine nil_ ?_
            refine then_normal (K367 _ _ _ _ ?_)
            refine cond_d (i132 < (16 : Int)) (by kernel_rfl) (fun h368 => ?_) (fun h368 => ?_)
            ·
              replace hp := hp.1 h368
              refine reg_ ?_
              refine sq (o_pv (.slice ar335 r330.length cr336) rfl (by kernel_rfl) ?_)
              refine sq (o_pv (.slice ar335 r330.length cr336) rfl (by kernel_rfl) ?_)
              refine nil_ ?_
              refine blk_normal ?_
              refine then_normal (hJ322 _ _ _ ⟨[(5, (.slice ar335 r330.length cr336))], fit_mk (AgB.nest (AgB.look (fun _ _ => rfl) (by kernel_rfl)) (by kernel_rfl) (by kernel_rfl)) (by kernel_rfl) (vs_cons (by kernel_rfl) vs_nil), ?_⟩)
              exact ⟨X347, r330, ar335, cr336, rfl, E356, hXo357, hS358, gv359, hr361, hp⟩
            ·
              replace hp := hp.2 h368
              refine wp_skip ?_
              refine blk_normal ?_
              refine then_normal (hJ322 _ _ _ ⟨[(5, (.slice a128 s127.length c130))], fit_mk (AgB.nest (AgB.look (fun _ _ => rfl) (by kernel_rfl)) (by kernel_rfl) (by kernel_rfl)) (by kernel_rfl) (vs_cons (by kernel_rfl) vs_nil), ?_⟩)
              exact ⟨X347, s127, a128, c130, rfl, E356, hXo357, hS358, gv359, h360, hp⟩
      ·
        rintro _ w319 g369 ⟨X320, s312, a313, c315, rfl, E324, hXo325, hS326, gv327, h316, hv323⟩
        replace hp := hk318 s312 hv323 (Sl.len h316)
        refine then_normal (K270 _ _ _ _ ?_)
        refine reg_ ?_
        refine sq (o_pv (.int .i64 i132) rfl (by kernel_rfl) ?_)
        obtain ⟨h370, hp⟩ := hp
        refine sq (o_pv (.int .i64 (i132 + (1 : Int))) rfl (x_add2 (k := .i64) (a := i132) (b := (1 : Int)) (i132 + (1 : Int)) (by kernel_rfl) (by kernel_rfl) (wrap_inR h370)) ?_)
        refine sq (o_pv (.int .i64 (i132 + (1 : Int))) rfl (by kernel_rfl) ?_)
        refine nil_ ?_
        refine then_normal (hA256 _ _ _ ⟨_, [(5, (.slice a313 s312.length c315)), (6, (.int .i64 (i132 + (1 : Int))))], hp.2, fit_mk (AgB.nest (AgB.look (AgB.mix _ _ _) (by kernel_rfl)) (by kernel_rfl) (by kernel_rfl)) (by kernel_rfl) (vs_cons (by kernel_rfl) (vs_cons (by kernel_rfl) vs_nil)), ?_⟩)
        exact ⟨X320, s312, (i132 + (1 : Int)), a313, c315, rfl, rfl, E324, hXo325, hS326, gv327, h316, h370, hp.1⟩
    ·
      replace hp := hp.2 h269
      refine wp_exit ?_
      refine then_exit ?_
      refine then_exit ?_
      refine blk_exit ?_
      refine then_normal (K14 _ _ _ _ ?_)
      refine seq_ (fun _ K371 => ?_)
      refine reg_ ?_
      refine sq (o_pv (.int .u8 which) rfl (by kernel_rfl) ?_)
      refine sq (o_pv (.int .u8 (which % (16 : Int))) rfl (x_rem2 (k := .u8) (a := which) (b := (16 : Int)) (which % (16 : Int)) (by kernel_rfl) (by kernel_rfl) (inR_nn rwhich2) (by decide) rfl (wrap_inR (inR_rem (inR_nn rwhich2) (by decide) rwhich2 (by decide : inR .u8 (16 : Int))))) ?_)
      have r372 : inR .i64 (which % (16 : Int)) := inR_up (by decide) (by decide) (inR_rem (inR_nn rwhich2) (by decide) rwhich2 (by decide : inR .u8 (16 : Int)))
      refine sq (o_pv (.int .i64 (which % (16 : Int))) rfl (x_conv (k := .u8) Tryd.underlying5 Tryd.underlying3 (by kernel_rfl) (wrap_inR r372)) ?_)
      refine sq (o_pv (.int .i64 (which % (16 : Int))) rfl (by kernel_rfl) ?_)
      refine nil_ ?_
      refine then_normal (K371 _ _ _ _ ?_)
      refine seq_ (fun _ K373 => ?_)
      refine reg_ ?_
      refine sq (o_pv (.slice a128 s127.length c130) rfl (by kernel_rfl) ?_)
      refine sq (o_pv (.int .i64 (which % (16 : Int))) rfl (by kernel_rfl) ?_)
      refine sq (o_call 6 #[(.slice a128 s127.length c130), (.int .i64 (which % (16 : Int)))] rfl (x_call Tryd.call6 (by kernel_rfl)) (shelf_Stack_Drop_w (X := X252) (s := s127) (n_ := which % (16 : Int)) hXo262 h131 r372 hp) ?_)
      rintro _ w376 ⟨r374, r375, hp, e377, ar379, cr380, rfl, hr381, rr382⟩
      have s378 := Step.of0 X252 e377
      replace hp := hp (Sl.len hr381)
      replace hp := hp rr382
      refine sq (o_pv (.tuple #[(.slice ar379 r374.length cr380), (.int .i64 r375)]) rfl (by kernel_rfl) ?_)
      refine sq (o_pv (.slice ar379 r374.length cr380) rfl (by kernel_rfl) ?_)
      refine sq (o_pv (.int .i64 r375) rfl (by kernel_rfl) ?_)
      refine sq (o_pv (.slice ar379 r374.length cr380) rfl (by kernel_rfl) ?_)
      refine sq (o_pv (.int .i64 r375) rfl (by kernel_rfl) ?_)
      refine nil_ ?_
      refine then_normal (K373 _ _ _ _ ?_)
      refine seq_ (fun _ K383 => ?_)
      refine reg_ ?_
      refine sq (o_pv (.slice ar379 r374.length cr380) rfl (by kernel_rfl) ?_)
      refine sq (o_pv (.agg #[(.int .i64 (99 : Int)), (.slice none 0 0), (.slice none 0 0), (.string (ByteArray.mk #[]))]) rfl (by kernel_rfl) ?_)
      have hXo384 := (Old.step hXo262 s378)
      refine sq (o_call 5 #[(.slice ar379 r374.length cr380), (.agg #[(.int .i64 (99 : Int)), (.slice none (([] : List S_files_File)).length 0), (.slice none (([] : List S_files_File)).length 0), (.string (ByteArray.mk #[]))])] rfl (x_call Tryd.call5 (by rw []; kernel_rfl)) (shelf_Stack_Push_w (X := X252) (s := r374) (x := (S_shelf_Shelf.mk (99 : Int) ([] : List S_files_File) ([] : List S_files_File) (ByteArray.mk #[]))) hXo384 hr381 (by decide : inR .i64 (99 : Int)) Sl.nil Sl.nil (by decide : (ByteArray.mk #[]).size ≤ maxLen) hp) ?_)
      rintro _ w387 ⟨r385, r386, hp, e388, ar390, cr391, rfl, hr392, rr393⟩
      have s389 := Step.of0 X252 e388
      replace hp := hp (Sl.len hr392)
      replace hp := hp rr393
      refine sq (o_pv (.tuple #[(.slice ar390 r385.length cr391), (.int .i64 r386)]) rfl (by kernel_rfl) ?_)
      refine sq (o_pv (.slice ar390 r385.length cr391) rfl (by kernel_rfl) ?_)
      refine sq (o_pv (.int .i64 r386) rfl (by kernel_rfl) ?_)
      refine sq (o_pv (.slice ar390 r385.length cr391) rfl (by kernel_rfl) ?_)
      refine sq (o_pv (.int .i64 r386) rfl (by kernel_rfl) ?_)
      refine nil_ ?_
      refine then_normal (K383 _ _ _ _ ?_)
      refine seq_ (fun _ K394 => ?_)
      refine reg_ ?_
      refine sq (o_pv (.slice ar390 r385.length cr391) rfl (by kernel_rfl) ?_)
      have hXo395 := (Old.step hXo384 s389)
      refine sq (o_call 7 #[(.slice ar390 r385.length cr391), (.int .i64 (0 : Int))] rfl (x_call Tryd.call7 (by kernel_rfl)) (shelf_Stack_Get_w (X := X252) (s := r385) (n_ := (0 : Int)) hXo395 hr392 (by decide : inR .i64 (0 : Int)) hp) ?_)
      rintro _ w398 ⟨r396, r397, hp, e399, arIndex402, crIndex403, arWork405, crWork406, rfl, rrBase401, hrIndex404, hrWork407, zrText408, rr409⟩
      have s400 := Step.of0 X252 e399
      replace hp := hp rrBase401
      replace hp := hp (Sl.len hrIndex404)
      replace hp := hp (Sl.len hrWork407)
      replace hp := hp zrText408
      replace hp := hp rr409
      refine sq (o_pv (.tuple #[(.agg #[(.int .i64 r396.Base), (.slice arIndex402 r396.Index.length crIndex403), (.slice arWork405 r396.Work.length crWork406), (.string r396.Text)]), (.int .i64 r397)]) rfl (by kernel_rfl) ?_)
      refine sq (o_pv (.agg #[(.int .i64 r396.Base), (.slice arIndex402 r396.Index.length crIndex403), (.slice arWork405 r396.Work.length crWork406), (.string r396.Text)]) rfl (by kernel_rfl) ?_)
      refine sq (o_pv (.int .i64 r397) rfl (by kernel_rfl) ?_)
      have E416 := (Evo.then0 (Evo.then0 (Evo.then0 E261 e377) e388) e399)
      refine sq (o_newX [(.int .i64 (0 : Int)), (.slice none 0 0), (.slice none 0 0), (.string (ByteArray.mk #[]))] 31 (X := X252) (B := w.heap.size) E416.size rfl (by kernel_rfl) ?_)
      intro b410 w411 X412 s413 k414 n415
      have E417 := (Evo.then0 E416 (Step.evo s413))
      refine sq (o_stB (o := 0) (v := (.agg #[(.int .i64 r396.Base), (.slice arIndex402 r396.Index.length crIndex403), (.slice arWork405 r396.Work.length crWork406), (.string r396.Text)])) [(.int .i64 r396.Base), (.slice arIndex402 r396.Index.length crIndex403), (.slice arWork405 r396.Work.length crWork406), (.string r396.Text)] rfl k414 (by kernel_rfl) (by kernel_rfl) Tryd.sizeOf31 rfl rfl rfl ?_)
      intro w418 s419 k420
      refine sq (o_pv (.int .i64 r397) rfl (by kernel_rfl) ?_)
      refine nil_ ?_
      refine then_normal (K394 _ _ _ _ ?_)
      refine seq_ (fun _ K421 => ?_)
      refine reg_ ?_
      refine sq (o_pv (.slice ar390 r385.length cr391) rfl (by kernel_rfl) ?_)
      refine sq (o_pv (.int .i64 (which % (16 : Int))) rfl (by kernel_rfl) ?_)
      obtain ⟨h422, hp⟩ := hp
      refine sq (o_pv (.int .i64 ((which % (16 : Int)) + (1 : Int))) rfl (x_add2 (k := .i64) (a := which % (16 : Int)) (b := (1 : Int)) ((which % (16 : Int)) + (1 : Int)) (by kernel_rfl) (by kernel_rfl) (wrap_inR h422)) ?_)
      have hr423 := (Sl.step (Sl.step (Sl.step hr392 s400) s413) s419)
      have hXo424 := (Old.step (Old.step (Old.step hXo395 s400) s413) s419)
      refine sq (o_call 7 #[(.slice ar390 r385.length cr391), (.int .i64 ((which % (16 : Int)) + (1 : Int)))] rfl (x_call Tryd.call7 (by kernel_rfl)) (shelf_Stack_Get_w (X := X412) (s := r385) (n_ := (which % (16 : Int)) + (1 : Int)) hXo424 hr423 h422 hp) ?_)
      rintro _ w427 ⟨r425, r426, hp, e428, arIndex431, crIndex432, arWork434, crWork435, rfl, rrBase430, hrIndex433, hrWork436, zrText437, rr438⟩
      have s429 := Step.of0 X412 e428
      replace hp := hp rrBase430
      replace hp := hp (Sl.len hrIndex433)
      replace hp := hp (Sl.len hrWork436)
      replace hp := hp zrText437
      replace hp := hp rr438
      refine sq (o_pv (.tuple #[(.agg #[(.int .i64 r425.Base), (.slice arIndex431 r425.Index.length crIndex432), (.slice arWork434 r425.Work.length crWork435), (.string r425.Text)]), (.int .i64 r426)]) rfl (by kernel_rfl) ?_)
      refine sq (o_pv (.agg #[(.int .i64 r425.Base), (.slice arIndex431 r425.Index.length crIndex432), (.slice arWork434 r425.Work.length crWork435), (.string r425.Text)]) rfl (by kernel_rfl) ?_)
      refine sq (o_pv (.int .i64 r426) rfl (by kernel_rfl) ?_)
      have k445 := (OB.step0 k420 s429)
      have E446 := (Evo.then0 (Evo.thenW E417 (Step.evo s419) k414.2.2) e428)
      refine sq (o_newX [(.int .i64 (0 : Int)), (.slice none 0 0), (.slice none 0 0), (.string (ByteArray.mk #[]))] 31 (X := X412) (B := w.heap.size) E446.size rfl (by kernel_rfl) ?_)
      intro b439 w440 X441 s442 k443 n444
      have p447 := n444 _ (OB.old k445)
      have k448 := (OB.step0 k445 s442)
      have E449 := (Evo.then0 E446 (Step.evo s442))
      refine sq (o_stB (o := 0) (v := (.agg #[(.int .i64 r425.Base), (.slice arIndex431 r425.Index.length crIndex432), (.slice arWork434 r425.Work.length crWork435), (.string r425.Text)])) [(.int .i64 r425.Base), (.slice arIndex431 r425.Index.length crIndex432), (.slice arWork434 r425.Work.length crWork435), (.string r425.Text)] rfl k443 (by kernel_rfl) (by kernel_rfl) Tryd.sizeOf31 rfl rfl rfl ?_)
      intro w450 s451 k452
      refine sq (o_pv (.int .i64 r426) rfl (by kernel_rfl) ?_)
      refine nil_ ?_
      refine then_normal (K421 _ _ _ _ ?_)
      refine seq_ (fun _ K453 => ?_)
      refine seq_ (fun _ K454 => ?_)
      obtain ⟨hp, hq⟩ := hp
      refine ground_ ?_
      refine join_ 39613476794222361482184622080 (fun lq w462 => lq = [(94, (.bool (decide ((¬ (((r375 + r386) + r397) = (0 : Int))) ∨ ((¬ (r396.Base = (99 : Int))) ∨ (¬ ((r385.length : Int) = (16 : Int))))))))] ∧ w450 = w462) (fun Kj460 hJ461 => ?_) ?_
      ·
        refine reg_ ?_
        refine sq (o_pv (.int .i64 r375) rfl (by kernel_rfl) ?_)
        refine sq (o_pv (.int .i64 r386) rfl (by kernel_rfl) ?_)
        obtain ⟨h464, hp⟩ := hp
        refine sq (o_pv (.int .i64 (r375 + r386)) rfl (x_add2 (k := .i64) (a := r375) (b := r386) (r375 + r386) (by kernel_rfl) (by kernel_rfl) (wrap_inR h464)) ?_)
        refine sq (o_pv (.int .i64 r397) rfl (by kernel_rfl) ?_)
        obtain ⟨h465, hp⟩ := hp
        refine sq (o_pv (.int .i64 ((r375 + r386) + r397)) rfl (x_add2 (k := .i64) (a := r375 + r386) (b := r397) ((r375 + r386) + r397) (by kernel_rfl) (by kernel_rfl) (wrap_inR h465)) ?_)
        by_cases h466 : ((r375 + r386) + r397) = (0 : Int)
        ·
          replace hp := hp.1 h466
          refine sq (o_pv (.bool false) rfl (x_ndf (p := ((r375 + r386) + r397) = (0 : Int)) (by kernel_rfl) h466) ?_)
          refine sq (o_pv (.bool false) rfl (by kernel_rfl) ?_)
          refine sq (o_pv (.pointer (some ⟨b410, 0, none⟩)) (by kernel_rfl) (by kernel_rfl) ?_)
          have k467 := (OB.step k448 s451 p447)
          refine sq (o_pv (.int .i64 r396.Base) (by kernel_rfl) (x_load1 (by kernel_rfl) Tryd.isAgg3 (k467.2.1.cell' 0 rfl)) ?_)
          by_cases h468 : r396.Base = (99 : Int)
          ·
            replace hp := hp.1 h468
            refine sq (o_pv (.bool false) (by kernel_rfl) (x_ndf (p := r396.Base = (99 : Int)) (by kernel_rfl) h468) ?_)
            refine sq (o_pv (.bool false) rfl (by kernel_rfl) ?_)
            refine sq (o_pv (.bool false) rfl (by kernel_rfl) ?_)
            refine sq (o_pv (.slice ar390 r385.length cr391) (by kernel_rfl) (by kernel_rfl) ?_)
            refine sq (o_pv (.int .i64 (r385.length : Int)) (by kernel_rfl) (by kernel_rfl) ?_)
            refine sq (o_pv (.bool (!decide ((r385.length : Int) = (16 : Int)))) (by kernel_rfl) (by kernel_rfl) ?_)
            refine sq (o_pv (.bool (!decide ((r385.length : Int) = (16 : Int)))) rfl (by kernel_rfl) ?_)
            refine nil_ ?_
            refine then_normal (hJ461 _ _ _ ⟨[(94, (.bool (decide ((¬ (((r375 + r386) + r397) = (0 : Int))) ∨ ((¬ (r396.Base = (99 : Int))) ∨ (¬ ((r385.length : Int) = (16 : Int))))))))], fit_mk (fun _ _ => rfl) (by kernel_rfl) (vs_cons (Eq.trans (b := (.bool (!decide ((r385.length : Int) = (16 : Int))))) (by kernel_rfl) (dec_n ((or_iff_right (fun h1 => h1 h466)).trans ((or_iff_right (fun h1 => h1 h468)).trans Iff.rfl))).symm) vs_nil), rfl, rfl⟩)
          ·
            replace hp := hp.2 h468
            refine sq (o_pv (.bool true) (by kernel_rfl) (x_ndt (p := r396.Base = (99 : Int)) (by kernel_rfl) h468) ?_)
            refine sq (o_pv (.bool true) rfl (by kernel_rfl) ?_)
            refine sq (o_pv (.bool true) rfl (by kernel_rfl) ?_)
            refine sq (o_not (by kernel_rfl) ?_)
            refine sq (o_not (by kernel_rfl) ?_)
            refine sq (o_not (by kernel_rfl) ?_)
            refine sq (o_pv (.bool true) rfl (by kernel_rfl) ?_)
            refine nil_ ?_
            refine then_normal (hJ461 _ _ _ ⟨[(94, (.bool (decide ((¬ (((r375 + r386) + r397) = (0 : Int))) ∨ ((¬ (r396.Base = (99 : Int))) ∨ (¬ ((r385.length : Int) = (16 : Int))))))))], fit_mk (fun _ _ => rfl) (by kernel_rfl) (vs_cons (Eq.trans (b := (.bool true)) (by kernel_rfl) (dec_t ((or_iff_right (fun h1 => h1 h466)).trans (iff_true_intro (Or.inl h468)))).symm) vs_nil), rfl, rfl⟩)
        ·
          replace hp := hp.2 h466
          refine sq (o_pv (.bool true) rfl (x_ndt (p := ((r375 + r386) + r397) = (0 : Int)) (by kernel_rfl) h466) ?_)
          refine sq (o_pv (.bool true) rfl (by kernel_rfl) ?_)
          refine sq (o_not (by kernel_rfl) ?_)
          refine sq (o_not (by kernel_rfl) ?_)
          refine sq (o_not (by kernel_rfl) ?_)
          refine sq (o_pv (.bool true) rfl (by kernel_rfl) ?_)
          refine sq (o_pv (.bool true) rfl (by kernel_rfl) ?_)
          refine sq (o_not (by kernel_rfl) ?_)
          refine sq (o_not (by kernel_rfl) ?_)
          refine sq (o_not (by kernel_rfl) ?_)
          refine sq (o_pv (.bool true) rfl (by kernel_rfl) ?_)
          refine nil_ ?_
          refine then_normal (hJ461 _ _ _ ⟨[(94, (.bool (decide ((¬ (((r375 + r386) + r397) = (0 : Int))) ∨ ((¬ (r396.Base = (99 : Int))) ∨ (¬ ((r385.length : Int) = (16 : Int))))))))], fit_mk (fun _ _ => rfl) (by kernel_rfl) (vs_cons (Eq.trans (b := (.bool true)) (by kernel_rfl) (dec_t (iff_true_intro (Or.inl h466))).symm) vs_nil), rfl, rfl⟩)
      ·
        rintro _ w462 g463 ⟨rfl, hw⟩
        subst hw
        have hp := hq
        refine then_normal (K454 _ _ _ _ ?_)
        refine cond_d ((¬ (((r375 + r386) + r397) = (0 : Int))) ∨ ((¬ (r396.Base = (99 : Int))) ∨ (¬ ((r385.length : Int) = (16 : Int))))) (by kernel_rfl) (fun h469 => ?_) (fun h469 => ?_)
        ·
          replace hp := hp.1 h469
          refine seq_ (fun _ K470 => ?_)
          refine reg_ ?_
          refine sq (o_pv (.bool false) rfl (by kernel_rfl) ?_)
          refine nil_ ?_
          refine then_normal (K470 _ _ _ _ ?_)
          refine wp_ret ?_
          refine then_ret ?_
          have E471 := (Evo.thenW E449 (Step.evo s451) k443.2.2)
          refine end_ret hQ (.bool false) (by kernel_rfl) ?_
          exact ⟨false, hp, E471, rfl⟩
        ·
          replace hp := hp.2 h469
          refine wp_skip ?_
          refine then_normal (K453 _ _ _ _ ?_)
          refine seq_ (fun _ K472 => ?_)
          refine seq_ (fun _ K473 => ?_)
          refine reg_ ?_
          refine sq (o_pv (.int .i64 (which % (16 : Int))) rfl (by kernel_rfl) ?_)
          refine sq (o_pv (.bool (decide ((which % (16 : Int)) = (15 : Int)))) rfl (by kernel_rfl) ?_)
          refine nil_ ?_
          refine then_normal (K473 _ _ _ _ ?_)
          refine cond_d ((which % (16 : Int)) = (15 : Int)) (by kernel_rfl) (fun h474 => ?_) (fun h474 => ?_)
          ·
            replace hp := hp.1 h474
            refine seq_ (fun _ K475 => ?_)
            refine reg_ ?_
            refine sq (o_pv (.int .i64 r426) rfl (by kernel_rfl) ?_)
            refine sq (o_pv (.bool (decide (r426 = (1 : Int)))) rfl (by kernel_rfl) ?_)
            refine sq (o_pv (.bool (decide (r426 = (1 : Int)))) rfl (by kernel_rfl) ?_)
            refine nil_ ?_
            refine then_normal (K475 _ _ _ _ ?_)
            refine wp_ret ?_
            refine then_ret ?_
            have E476 := (Evo.thenW E449 (Step.evo s451) k443.2.2)
            refine end_ret hQ (.bool (decide (r426 = (1 : Int)))) (by kernel_rfl) ?_
            exact ⟨(decide (r426 = (1 : Int))), hp, E476, rfl⟩
          ·
            replace hp := hp.2 h474
            refine wp_skip ?_
            refine then_normal (K472 _ _ _ _ ?_)
            refine seq_ (fun _ K477 => ?_)
            obtain ⟨hp, hq⟩ := hp
            refine ground_ ?_
            refine join_ 648403282016739338865563689549840 (fun lq w483 => lq = [(4, (.bool (decide ((r426 = (0 : Int)) ∧ (r425.Base = (((16 : Int) - (which % (16 : Int))) - (1 : Int)))))))] ∧ w450 = w483) (fun Kj481 hJ482 => ?_) ?_
            ·
              refine reg_ ?_
              refine sq (o_pv (.int .i64 r426) rfl (by kernel_rfl) ?_)
              by_cases h485 : r426 = (0 : Int)
              ·
                replace hp := hp.1 h485
                refine sq (o_pv (.bool true) rfl (x_dt (p := r426 = (0 : Int)) (by kernel_rfl) h485) ?_)
                refine sq (o_pv (.bool true) rfl (by kernel_rfl) ?_)
                refine sq (o_pv (.pointer (some ⟨b439, 0, none⟩)) (by kernel_rfl) (by kernel_rfl) ?_)
                refine sq (o_pv (.int .i64 r425.Base) (by kernel_rfl) (x_load1 (by kernel_rfl) Tryd.isAgg3 (k452.2.1.cell' 0 rfl)) ?_)
                refine sq (o_pv (.int .i64 (which % (16 : Int))) (by kernel_rfl) (by kernel_rfl) ?_)
                obtain ⟨h486, hp⟩ := hp
                refine sq (o_pv (.int .i64 ((16 : Int) - (which % (16 : Int)))) (by kernel_rfl) (x_sub2 (k := .i64) (a := (16 : Int)) (b := which % (16 : Int)) ((16 : Int) - (which % (16 : Int))) (by kernel_rfl) (by kernel_rfl) (wrap_inR h486)) ?_)
                obtain ⟨h487, hp⟩ := hp
                refine sq (o_pv (.int .i64 (((16 : Int) - (which % (16 : Int))) - (1 : Int))) (by kernel_rfl) (x_sub2 (k := .i64) (a := (16 : Int) - (which % (16 : Int))) (b := (1 : Int)) (((16 : Int) - (which % (16 : Int))) - (1 : Int)) (by kernel_rfl) (by kernel_rfl) (wrap_inR h487)) ?_)
                refine sq (o_pv (.bool (decide (r425.Base = (((16 : Int) - (which % (16 : Int))) - (1 : Int))))) (by kernel_rfl) (by kernel_rfl) ?_)
                refine sq (o_pv (.bool (decide (r425.Base = (((16 : Int) - (which % (16 : Int))) - (1 : Int))))) rfl (by kernel_rfl) ?_)
                refine sq (o_pv (.bool (decide (r425.Base = (((16 : Int) - (which % (16 : Int))) - (1 : Int))))) rfl (by kernel_rfl) ?_)
                refine nil_ ?_
                refine then_normal (hJ482 _ _ _ ⟨[(4, (.bool (decide ((r426 = (0 : Int)) ∧ (r425.Base = (((16 : Int) - (which % (16 : Int))) - (1 : Int)))))))], fit_mk (fun _ _ => rfl) (by kernel_rfl) (vs_cons (Eq.trans (b := (.bool (decide (r425.Base = (((16 : Int) - (which % (16 : Int))) - (1 : Int)))))) (by kernel_rfl) (dec_d ((and_iff_right h485).trans Iff.rfl)).symm) vs_nil), rfl, rfl⟩)
              ·
                replace hp := hp.2 h485
                refine sq (o_pv (.bool false) rfl (x_df (p := r426 = (0 : Int)) (by kernel_rfl) h485) ?_)
                refine sq (o_pv (.bool false) rfl (by kernel_rfl) ?_)
                refine sq (o_not (by kernel_rfl) ?_)
                refine sq (o_not (by kernel_rfl) ?_)
                refine sq (o_not (by kernel_rfl) ?_)
                refine sq (o_not (by kernel_rfl) ?_)
                refine sq (o_not (by kernel_rfl) ?_)
                refine sq (o_not (by kernel_rfl) ?_)
                refine sq (o_pv (.bool false) rfl (by kernel_rfl) ?_)
                refine sq (o_pv (.bool false) rfl (by kernel_rfl) ?_)
                refine nil_ ?_
                refine then_normal (hJ482 _ _ _ ⟨[(4, (.bool (decide ((r426 = (0 : Int)) ∧ (r425.Base = (((16 : Int) - (which % (16 : Int))) - (1 : Int)))))))], fit_mk (fun _ _ => rfl) (by kernel_rfl) (vs_cons (Eq.trans (b := (.bool false)) (by kernel_rfl) (dec_f (iff_false_intro (fun h => h485 h.1))).symm) vs_nil), rfl, rfl⟩)
            ·
              rintro _ w483 g484 ⟨rfl, hw⟩
              subst hw
              have hp := hq
              refine then_normal (K477 _ _ _ _ ?_)
              refine wp_ret ?_
              have E488 := (Evo.thenW E449 (Step.evo s451) k443.2.2)
              refine end_ret hQ (.bool (decide ((r426 = (0 : Int)) ∧ (r425.Base = (((16 : Int) - (which % (16 : Int))) - (1 : Int)))))) (by kernel_rfl) ?_
              exact ⟨(decide ((r426 = (0 : Int)) ∧ (r425.Base = (((16 : Int) - (which % (16 : Int))) - (1 : Int))))), hp, E488, rfl⟩

end Go.Proofs.YtoankcdcnhooiaaDoor
