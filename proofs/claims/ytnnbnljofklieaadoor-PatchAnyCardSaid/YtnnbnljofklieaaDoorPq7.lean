/- Walks of functions: what each asks and computes, as a plain predicate, and the contract from it. -/
import Derived.Test.YtnnbnljofklieaaDoorChecked
import Derived.Test.YtnnbnljofklieaaDoorPq6
namespace Go.Proofs.YtnnbnljofklieaaDoor
open Go


def rectolaw12_same_p (a : (List S_patch_Hunk)) (b : (List S_rectoref11_Hunk)) (Q : Bool → Prop) : Prop :=
  ((a.length ≤ 9223372036854775807) → ((b.length ≤ 9223372036854775807) → (((¬ ((a.length : Int) = (b.length : Int))) → Q false) ∧ (((a.length : Int) = (b.length : Int)) → (∃ (I405 : Int → Prop) (m406 : Int → Nat), (I405 (0 : Int)) ∧ (∀ (i14 : Int), (I405 i14) → (inR .i64 i14) → (((i14 < (a.length : Int)) → (∃ k606 : Bool → Prop, (∀ (s605 : Bool), k606 s605 → (((s605 = true) → Q false) ∧ ((s605 = false) → ((inR .i64 (i14 + (1 : Int))) ∧ ((I405 (i14 + (1 : Int))) ∧ m406 (i14 + (1 : Int)) < m406 i14))))) ∧ ((inL a i14) ∧ ((inR .i64 ((lget a i14).At)) → ((inR .i64 ((lget a i14).Del)) → ((inR .i64 ((lget a i14).To)) → ((inR .i64 ((lget a i14).Add)) → ((((lget a i14).Lines).length ≤ 9223372036854775807) → ((inL b i14) ∧ ((inR .i64 ((lget b i14).At)) → ((inR .i64 ((lget b i14).Del)) → ((inR .i64 ((lget b i14).To)) → ((inR .i64 ((lget b i14).Add)) → ((((lget b i14).Lines).length ≤ 9223372036854775807) → (((((lget a i14).At) = ((lget b i14).At)) → ((inL a i14) ∧ ((inR .i64 ((lget a i14).At)) → ((inR .i64 ((lget a i14).Del)) → ((inR .i64 ((lget a i14).To)) → ((inR .i64 ((lget a i14).Add)) → ((((lget a i14).Lines).length ≤ 9223372036854775807) → ((inL b i14) ∧ ((inR .i64 ((lget b i14).At)) → ((inR .i64 ((lget b i14).Del)) → ((inR .i64 ((lget b i14).To)) → ((inR .i64 ((lget b i14).Add)) → ((((lget b i14).Lines).length ≤ 9223372036854775807) → (((((lget a i14).Del) = ((lget b i14).Del)) → ((inL a i14) ∧ ((inR .i64 ((lget a i14).At)) → ((inR .i64 ((lget a i14).Del)) → ((inR .i64 ((lget a i14).To)) → ((inR .i64 ((lget a i14).Add)) → ((((lget a i14).Lines).length ≤ 9223372036854775807) → ((inL b i14) ∧ ((inR .i64 ((lget b i14).At)) → ((inR .i64 ((lget b i14).Del)) → ((inR .i64 ((lget b i14).To)) → ((inR .i64 ((lget b i14).Add)) → ((((lget b i14).Lines).length ≤ 9223372036854775807) → (((((lget a i14).To) = ((lget b i14).To)) → ((inL a i14) ∧ ((inR .i64 ((lget a i14).At)) → ((inR .i64 ((lget a i14).Del)) → ((inR .i64 ((lget a i14).To)) → ((inR .i64 ((lget a i14).Add)) → ((((lget a i14).Lines).length ≤ 9223372036854775807) → ((inL b i14) ∧ ((inR .i64 ((lget b i14).At)) → ((inR .i64 ((lget b i14).Del)) → ((inR .i64 ((lget b i14).To)) → ((inR .i64 ((lget b i14).Add)) → ((((lget b i14).Lines).length ≤ 9223372036854775807) → (((((lget a i14).Add) = ((lget b i14).Add)) → ((inL a i14) ∧ ((inR .i64 ((lget a i14).At)) → ((inR .i64 ((lget a i14).Del)) → ((inR .i64 ((lget a i14).To)) → ((inR .i64 ((lget a i14).Add)) → ((((lget a i14).Lines).length ≤ 9223372036854775807) → ((inL b i14) ∧ ((inR .i64 ((lget b i14).At)) → ((inR .i64 ((lget b i14).Del)) → ((inR .i64 ((lget b i14).To)) → ((inR .i64 ((lget b i14).Add)) → ((((lget b i14).Lines).length ≤ 9223372036854775807) → (rectolaw11_Edits_p ((lget a i14).Lines) ((lget b i14).Lines) (fun (r793 : Bool) => (k606 (!r793))))))))))))))))) ∧ ((¬ (((lget a i14).Add) = ((lget b i14).Add))) → (k606 true)))))))))))))))) ∧ ((¬ (((lget a i14).To) = ((lget b i14).To))) → (k606 true)))))))))))))))) ∧ ((¬ (((lget a i14).Del) = ((lget b i14).Del))) → (k606 true)))))))))))))))) ∧ ((¬ (((lget a i14).At) = ((lget b i14).At))) → (k606 true))))))))))))))))) ∧ ((¬ (i14 < (a.length : Int))) → Q true))))))))
set_option maxRecDepth 20000 in
set_option maxHeartbeats 4000000 in
theorem rectolaw12_same_w {X : List Nat} {w : World} {a : (List S_patch_Hunk)} {b : (List S_rectoref11_Hunk)} {aa1 : Option Addr} {ca2 : Nat} {ab4 : Option Addr} {cb5 : Nat} {Q : Bool → Prop} (hX0 : Old X w) (ha3 : Sl r_patch_Hunk X w aa1 ca2 a) (hb6 : Sl r_rectoref11_Hunk X w ab4 cb5 b) (hp : rectolaw12_same_p a b Q) :
    Calls Tryd.prog 10 #[(.slice aa1 a.length ca2), (.slice ab4 b.length cb5)] w (Ret fun v w' => ∃ (r0 : Bool), Q r0 ∧ Evo [] w w' ∧ v = (.bool r0)) := by
  have hXo := hX0
  have E0 : Evo [] w w := RB.refl _ _ _
  have hS : Sub X X := Sub.refl _
  unfold rectolaw12_same_p at hp
  refine enter_ Tryd.func10 rfl 81 [(0, (.slice aa1 a.length ca2)), (1, (.slice ab4 b.length cb5))] (by kernel_rfl) (fun Qe hQ => ?_)
  replace hp := hp (Sl.len ha3)
  replace hp := hp (Sl.len hb6)
  refine seq_ (fun _ K7 => ?_)
  refine reg_ ?_
  refine sq (o_pv (.bool false) rfl (by kernel_rfl) ?_)
  refine nil_ ?_
  refine then_normal (K7 _ _ _ _ ?_)
  refine seq_ (fun _ K8 => ?_)
  refine seq_ (fun _ K9 => ?_)
  refine reg_ ?_
  refine sq (o_pv (.slice aa1 a.length ca2) rfl (by kernel_rfl) ?_)
  refine sq (o_pv (.int .i64 (a.length : Int)) rfl (by kernel_rfl) ?_)
  refine sq (o_pv (.slice ab4 b.length cb5) rfl (by kernel_rfl) ?_)
  refine sq (o_pv (.int .i64 (b.length : Int)) rfl (by kernel_rfl) ?_)
  refine sq (o_pv (.bool (!decide ((a.length : Int) = (b.length : Int)))) rfl (by kernel_rfl) ?_)
  refine nil_ ?_
  refine then_normal (K9 _ _ _ _ ?_)
  refine cond_nd ((a.length : Int) = (b.length : Int)) (by kernel_rfl) (fun h10 => ?_) (fun h10 => ?_)
  ·
    replace hp := hp.1 h10
    refine seq_ (fun _ K11 => ?_)
    refine reg_ ?_
    refine sq (o_pv (.bool false) rfl (by kernel_rfl) ?_)
    refine nil_ ?_
    refine then_normal (K11 _ _ _ _ ?_)
    refine wp_ret ?_
    refine then_ret ?_
    refine end_ret hQ (.bool false) (by kernel_rfl) ?_
    exact ⟨false, hp, E0, rfl⟩
  ·
    replace hp := hp.2 h10
    refine wp_skip ?_
    refine then_normal (K8 _ _ _ _ ?_)
    refine seq_ (fun _ K12 => ?_)
    refine seq_ (fun _ K13 => ?_)
    refine reg_ ?_
    refine sq (o_pv (.int .i64 (0 : Int)) rfl (by kernel_rfl) ?_)
    refine nil_ ?_
    refine then_normal (K13 _ _ _ _ ?_)
    refine wp_block ?_
    obtain ⟨I405, m406, hI407, hp⟩ := hp
    refine loop_ 2417851639229258349410352 (fun kq lq w409 => ∃ (X410 : List Nat) (i14 : Int), (lq = [(5, (.int .i64 i14))]) ∧ (kq = m406 i14) ∧ (Evo [] w w409) ∧ (Old X410 w409) ∧ (Sub X X410) ∧ (Sl r_patch_Hunk X410 w409 aa1 ca2 a) ∧ (Sl r_rectoref11_Hunk X410 w409 ab4 cb5 b) ∧ (inR .i64 i14) ∧ (I405 i14)) (m406 (0 : Int)) [(5, (.int .i64 (0 : Int)))] (vs_cons (by kernel_rfl) vs_nil) ⟨X, (0 : Int), rfl, rfl, E0, hXo, hS, ha3, hb6, (by decide : inR .i64 (0 : Int)), hI407⟩ ?_
    rintro _ _ w409 g412 ⟨X410, i14, rfl, rfl, E415, hXo416, hS417, ha418, hb419, ri15, hI408⟩ Kl413 hA414
    replace hp := hp i14 hI408 ri15
    refine seq_ (fun _ K420 => ?_)
    refine seq_ (fun _ K421 => ?_)
    refine reg_ ?_
    refine sq (o_pv (.int .i64 i14) rfl (by kernel_rfl) ?_)
    refine sq (o_pv (.slice aa1 a.length ca2) rfl (by kernel_rfl) ?_)
    refine sq (o_pv (.int .i64 (a.length : Int)) rfl (by kernel_rfl) ?_)
    refine sq (o_pv (.bool (decide (i14 < (a.length : Int)))) rfl (by kernel_rfl) ?_)
    refine nil_ ?_
    refine then_normal (K421 _ _ _ _ ?_)
    refine cond_d (i14 < (a.length : Int)) (by kernel_rfl) (fun h422 => ?_) (fun h422 => ?_)
    ·
      replace hp := hp.1 h422
      refine wp_skip ?_
      refine then_normal (K420 _ _ _ _ ?_)
      refine seq_ (fun _ K423 => ?_)
      refine wp_block ?_
      refine seq_ (fun _ K424 => ?_)
      obtain ⟨k606, hk607, hp⟩ := hp
      refine ground_ ?_
      refine join_ 2417851639229258349281280 (fun lq w608 => ∃ (X609 : List Nat) (s605 : Bool), (lq = [(80, (.bool s605))]) ∧ (Evo [] w w608) ∧ (Old X609 w608) ∧ (Sub X X609) ∧ (Sl r_patch_Hunk X609 w608 aa1 ca2 a) ∧ (Sl r_rectoref11_Hunk X609 w608 ab4 cb5 b) ∧ (k606 s605)) (fun Kj610 hJ611 => ?_) ?_
      ·
        refine reg_drawn (RB w409.heap.size []) 64 (by kernel_rfl) (fun w618 hd619 => ?_)
        have e620 := Evo.of_drew hd619
        have z621 : w618.heap.size = w409.heap.size := by rw [hd619]
        clear hd619
        have s623 := Step.of0 X410 e620
        have er622 := RB.refl w409.heap.size [] w618
        have E624 := (Evo.then0 E415 (Step.evo s623))
        have hXo625 := (Old.step hXo416 s623)
        have hS626 := (Sub.trans hS417 (Step.up s623))
        have ha627 := (Sl.step ha418 s623)
        have hb628 := (Sl.step hb419 s623)
        refine r_take 0 (.slice aa1 a.length ca2) (RB.pre _ _) rfl (by kernel_rfl) (fun _ _ _ h => hQ.panic _ _ _ _ _ h) (.inl ⟨rfl, fun wq hq => (by kernel_rfl)⟩) ?_
        refine r_take 1 (.int .i64 i14) (RB.pre _ _) rfl (by kernel_rfl) (fun _ _ _ h => hQ.panic _ _ _ _ _ h) (.inl ⟨rfl, fun wq hq => (by kernel_rfl)⟩) ?_
        obtain ⟨h629, hp⟩ := hp
        obtain ⟨b630, o631, cs632, ha633, nx634, lt635, ok636, hc637⟩ := Sl.atI ha627 i14 h629
        obtain ⟨aeLines642, ceLines643, rfl, reAt638, reDel639, reTo640, reAdd641, heLines644⟩ := r_patch_Hunk_open ok636
        replace hp := hp reAt638
        replace hp := hp reDel639
        replace hp := hp reTo640
        replace hp := hp reAdd641
        replace hp := hp (Sl.len heLines644)
        refine r_take 2 (.pointer (some ⟨b630, o631 + i14.toNat * 5, none⟩)) (RB.pre _ _) rfl (by kernel_rfl) (fun _ _ _ h => hQ.panic _ _ _ _ _ h) (.inl ⟨rfl, fun wq hq => (x_ixA (m := a.length) (c := ca2) (k := .i64) (i := i14) Tryd.underlying31 Tryd.sizeOf50 (by rw [← ha633]; kernel_rfl) (by kernel_rfl) h629)⟩) ?_
        refine r_take 3 (.pointer (some ⟨b630, o631 + i14.toNat * 5, none⟩)) (RB.pre _ _) rfl (by kernel_rfl) (fun _ _ _ h => hQ.panic _ _ _ _ _ h) (.inl ⟨rfl, fun wq hq => (by kernel_rfl)⟩) ?_
        refine r_take 4 (.int .i64 ((lget a i14).At)) (RB.pre _ _) rfl (by kernel_rfl) (fun _ _ _ h => hQ.panic _ _ _ _ _ h) (.inl ⟨rfl, fun wq hq => (x_load1 (by kernel_rfl) Tryd.isAgg3 ((CellsAt.rb hc637 (RB.trans er622 hq) (Nat.lt_of_lt_of_eq lt635 z621) (fun h => by cases h)) 0 _ rfl))⟩) ?_
        refine r_take 5 (.slice ab4 b.length cb5) (RB.pre _ _) rfl (by kernel_rfl) (fun _ _ _ h => hQ.panic _ _ _ _ _ h) (.inl ⟨rfl, fun wq hq => (by kernel_rfl)⟩) ?_
        refine r_take 6 (.int .i64 i14) (RB.pre _ _) rfl (by kernel_rfl) (fun _ _ _ h => hQ.panic _ _ _ _ _ h) (.inl ⟨rfl, fun wq hq => (by kernel_rfl)⟩) ?_
        obtain ⟨h645, hp⟩ := hp
        obtain ⟨b646, o647, cs648, ha649, nx650, lt651, ok652, hc653⟩ := Sl.atI hb628 i14 h645
        obtain ⟨aeLines658, ceLines659, rfl, reAt654, reDel655, reTo656, reAdd657, heLines660⟩ := r_rectoref11_Hunk_open ok652
        replace hp := hp reAt654
        replace hp := hp reDel655
        replace hp := hp reTo656
        replace hp := hp reAdd657
        replace hp := hp (Sl.len heLines660)
        refine r_take 7 (.pointer (some ⟨b646, o647 + i14.toNat * 5, none⟩)) (RB.pre _ _) rfl (by kernel_rfl) (fun _ _ _ h => hQ.panic _ _ _ _ _ h) (.inl ⟨rfl, fun wq hq => (x_ixA (m := b.length) (c := cb5) (k := .i64) (i := i14) Tryd.underlying35 Tryd.sizeOf60 (by rw [← ha649]; kernel_rfl) (by kernel_rfl) h645)⟩) ?_
        refine r_take 8 (.pointer (some ⟨b646, o647 + i14.toNat * 5, none⟩)) (RB.pre _ _) rfl (by kernel_rfl) (fun _ _ _ h => hQ.panic _ _ _ _ _ h) (.inl ⟨rfl, fun wq hq => (by kernel_rfl)⟩) ?_
        refine r_take 9 (.int .i64 ((lget b i14).At)) (RB.pre _ _) rfl (by kernel_rfl) (fun _ _ _ h => hQ.panic _ _ _ _ _ h) (.inl ⟨rfl, fun wq hq => (x_load1 (by kernel_rfl) Tryd.isAgg3 ((CellsAt.rb hc653 (RB.trans er622 hq) (Nat.lt_of_lt_of_eq lt651 z621) (fun h => by cases h)) 0 _ rfl))⟩) ?_
        by_cases h661 : ((lget a i14).At) = ((lget b i14).At)
        ·
          replace hp := hp.1 h661
          refine r_take 10 (.bool false) (RB.pre _ _) rfl (by kernel_rfl) (fun _ _ _ h => hQ.panic _ _ _ _ _ h) (.inl ⟨rfl, fun wq hq => (x_ndf (p := ((lget a i14).At) = ((lget b i14).At)) (by kernel_rfl) h661)⟩) ?_
          refine r_take 11 (.bool false) (RB.pre _ _) rfl (by kernel_rfl) (fun _ _ _ h => hQ.panic _ _ _ _ _ h) (.inl ⟨rfl, fun wq hq => (by kernel_rfl)⟩) ?_
          refine r_take 12 (.slice aa1 a.length ca2) (RB.pre _ _) rfl (by kernel_rfl) (fun _ _ _ h => hQ.panic _ _ _ _ _ h) (.inl ⟨(by kernel_rfl), fun wq hq => (by kernel_rfl)⟩) ?_
          refine r_take 13 (.int .i64 i14) (RB.pre _ _) rfl (by kernel_rfl) (fun _ _ _ h => hQ.panic _ _ _ _ _ h) (.inl ⟨(by kernel_rfl), fun wq hq => (by kernel_rfl)⟩) ?_
          obtain ⟨h662, hp⟩ := hp
          obtain ⟨b663, o664, cs665, ha666, nx667, lt668, ok669, hc670⟩ := Sl.atI ha627 i14 h662
          obtain ⟨aeLines675, ceLines676, rfl, reAt671, reDel672, reTo673, reAdd674, heLines677⟩ := r_patch_Hunk_open ok669
          replace hp := hp reAt671
          replace hp := hp reDel672
          replace hp := hp reTo673
          replace hp := hp reAdd674
          replace hp := hp (Sl.len heLines677)
          refine r_take 14 (.pointer (some ⟨b663, o664 + i14.toNat * 5, none⟩)) (RB.pre _ _) rfl (by kernel_rfl) (fun _ _ _ h => hQ.panic _ _ _ _ _ h) (.inl ⟨(by kernel_rfl), fun wq hq => (x_ixA (m := a.length) (c := ca2) (k := .i64) (i := i14) Tryd.underlying31 Tryd.sizeOf50 (by rw [← ha666]; kernel_rfl) (by kernel_rfl) h662)⟩) ?_
          refine r_take 15 (.pointer (some ⟨b663, o664 + i14.toNat * 5 + 1, none⟩)) (RB.pre _ _) rfl (by kernel_rfl) (fun _ _ _ h => hQ.panic _ _ _ _ _ h) (.inl ⟨(by kernel_rfl), fun wq hq => (by kernel_rfl)⟩) ?_
          refine r_take 16 (.int .i64 ((lget a i14).Del)) (RB.pre _ _) rfl (by kernel_rfl) (fun _ _ _ h => hQ.panic _ _ _ _ _ h) (.inl ⟨(by kernel_rfl), fun wq hq => (x_load1 (by kernel_rfl) Tryd.isAgg3 ((CellsAt.rb hc670 (RB.trans er622 hq) (Nat.lt_of_lt_of_eq lt668 z621) (fun h => by cases h)) 1 _ rfl))⟩) ?_
          refine r_take 17 (.slice ab4 b.length cb5) (RB.pre _ _) rfl (by kernel_rfl) (fun _ _ _ h => hQ.panic _ _ _ _ _ h) (.inl ⟨(by kernel_rfl), fun wq hq => (by kernel_rfl)⟩) ?_
          refine r_take 18 (.int .i64 i14) (RB.pre _ _) rfl (by kernel_rfl) (fun _ _ _ h => hQ.panic _ _ _ _ _ h) (.inl ⟨(by kernel_rfl), fun wq hq => (by kernel_rfl)⟩) ?_
          obtain ⟨h678, hp⟩ := hp
          obtain ⟨b679, o680, cs681, ha682, nx683, lt684, ok685, hc686⟩ := Sl.atI hb628 i14 h678
          obtain ⟨aeLines691, ceLines692, rfl, reAt687, reDel688, reTo689, reAdd690, heLines693⟩ := r_rectoref11_Hunk_open ok685
          replace hp := hp reAt687
          replace hp := hp reDel688
          replace hp := hp reTo689
          replace hp := hp reAdd690
          replace hp := hp (Sl.len heLines693)
          refine r_take 19 (.pointer (some ⟨b679, o680 + i14.toNat * 5, none⟩)) (RB.pre _ _) rfl (by kernel_rfl) (fun _ _ _ h => hQ.panic _ _ _ _ _ h) (.inl ⟨(by kernel_rfl), fun wq hq => (x_ixA (m := b.length) (c := cb5) (k := .i64) (i := i14) Tryd.underlying35 Tryd.sizeOf60 (by rw [← ha682]; kernel_rfl) (by kernel_rfl) h678)⟩) ?_
          refine r_take 20 (.pointer (some ⟨b679, o680 + i14.toNat * 5 + 1, none⟩)) (RB.pre _ _) rfl (by kernel_rfl) (fun _ _ _ h => hQ.panic _ _ _ _ _ h) (.inl ⟨(by kernel_rfl), fun wq hq => (by kernel_rfl)⟩) ?_
          refine r_take 21 (.int .i64 ((lget b i14).Del)) (RB.pre _ _) rfl (by kernel_rfl) (fun _ _ _ h => hQ.panic _ _ _ _ _ h) (.inl ⟨(by kernel_rfl), fun wq hq => (x_load1 (by kernel_rfl) Tryd.isAgg3 ((CellsAt.rb hc686 (RB.trans er622 hq) (Nat.lt_of_lt_of_eq lt684 z621) (fun h => by cases h)) 1 _ rfl))⟩) ?_
          by_cases h694 : ((lget a i14).Del) = ((lget b i14).Del)
          ·
            replace hp := hp.1 h694
            refine r_take 22 (.bool false) (RB.pre _ _) rfl (by kernel_rfl) (fun _ _ _ h => hQ.panic _ _ _ _ _ h) (.inl ⟨(by kernel_rfl), fun wq hq => (x_ndf (p := ((lget a i14).Del) = ((lget b i14).Del)) (by kernel_rfl) h694)⟩) ?_
            refine r_take 23 (.bool false) (RB.pre _ _) rfl (by kernel_rfl) (fun _ _ _ h => hQ.panic _ _ _ _ _ h) (.inl ⟨rfl, fun wq hq => (by kernel_rfl)⟩) ?_
            refine r_take 24 (.bool false) (RB.pre _ _) rfl (by kernel_rfl) (fun _ _ _ h => hQ.panic _ _ _ _ _ h) (.inl ⟨rfl, fun wq hq => (by kernel_rfl)⟩) ?_
            refine r_take 25 (.slice aa1 a.length ca2) (RB.pre _ _) rfl (by kernel_rfl) (fun _ _ _ h => hQ.panic _ _ _ _ _ h) (.inl ⟨(by kernel_rfl), fun wq hq => (by kernel_rfl)⟩) ?_
            refine r_take 26 (.int .i64 i14) (RB.pre _ _) rfl (by kernel_rfl) (fun _ _ _ h => hQ.panic _ _ _ _ _ h) (.inl ⟨(by kernel_rfl), fun wq hq => (by kernel_rfl)⟩) ?_
            obtain ⟨h695, hp⟩ := hp
            obtain ⟨b696, o697, cs698, ha699, nx700, lt701, ok702, hc703⟩ := Sl.atI ha627 i14 h695
            obtain ⟨aeLines708, ceLines709, rfl, reAt704, reDel705, reTo706, reAdd707, heLines710⟩ := r_patch_Hunk_open ok702
            replace hp := hp reAt704
            replace hp := hp reDel705
            replace hp := hp reTo706
            replace hp := hp reAdd707
            replace hp := hp (Sl.len heLines710)
            refine r_take 27 (.pointer (some ⟨b696, o697 + i14.toNat * 5, none⟩)) (RB.pre _ _) rfl (by kernel_rfl) (fun _ _ _ h => hQ.panic _ _ _ _ _ h) (.inl ⟨(by kernel_rfl), fun wq hq => (x_ixA (m := a.length) (c := ca2) (k := .i64) (i := i14) Tryd.underlying31 Tryd.sizeOf50 (by rw [← ha699]; kernel_rfl) (by kernel_rfl) h695)⟩) ?_
            refine r_take 28 (.pointer (some ⟨b696, o697 + i14.toNat * 5 + 2, none⟩)) (RB.pre _ _) rfl (by kernel_rfl) (fun _ _ _ h => hQ.panic _ _ _ _ _ h) (.inl ⟨(by kernel_rfl), fun wq hq => (by kernel_rfl)⟩) ?_
            refine r_take 29 (.int .i64 ((lget a i14).To)) (RB.pre _ _) rfl (by kernel_rfl) (fun _ _ _ h => hQ.panic _ _ _ _ _ h) (.inl ⟨(by kernel_rfl), fun wq hq => (x_load1 (by kernel_rfl) Tryd.isAgg3 ((CellsAt.rb hc703 (RB.trans er622 hq) (Nat.lt_of_lt_of_eq lt701 z621) (fun h => by cases h)) 2 _ rfl))⟩) ?_
            refine r_take 30 (.slice ab4 b.length cb5) (RB.pre _ _) rfl (by kernel_rfl) (fun _ _ _ h => hQ.panic _ _ _ _ _ h) (.inl ⟨(by kernel_rfl), fun wq hq => (by kernel_rfl)⟩) ?_
            refine r_take 31 (.int .i64 i14) (RB.pre _ _) rfl (by kernel_rfl) (fun _ _ _ h => hQ.panic _ _ _ _ _ h) (.inl ⟨(by kernel_rfl), fun wq hq => (by kernel_rfl)⟩) ?_
            obtain ⟨h711, hp⟩ := hp
            obtain ⟨b712, o713, cs714, ha715, nx716, lt717, ok718, hc719⟩ := Sl.atI hb628 i14 h711
            obtain ⟨aeLines724, ceLines725, rfl, reAt720, reDel721, reTo722, reAdd723, heLines726⟩ := r_rectoref11_Hunk_open ok718
            replace hp := hp reAt720
            replace hp := hp reDel721
            replace hp := hp reTo722
            replace hp := hp reAdd723
            replace hp := hp (Sl.len heLines726)
            refine r_take 32 (.pointer (some ⟨b712, o713 + i14.toNat * 5, none⟩)) (RB.pre _ _) rfl (by kernel_rfl) (fun _ _ _ h => hQ.panic _ _ _ _ _ h) (.inl ⟨(by kernel_rfl), fun wq hq => (x_ixA (m := b.length) (c := cb5) (k := .i64) (i := i14) Tryd.underlying35 Tryd.sizeOf60 (by rw [← ha715]; kernel_rfl) (by kernel_rfl) h711)⟩) ?_
            refine r_take 33 (.pointer (some ⟨b712, o713 + i14.toNat * 5 + 2, none⟩)) (RB.pre _ _) rfl (by kernel_rfl) (fun _ _ _ h => hQ.panic _ _ _ _ _ h) (.inl ⟨(by kernel_rfl), fun wq hq => (by kernel_rfl)⟩) ?_
            refine r_take 34 (.int .i64 ((lget b i14).To)) (RB.pre _ _) rfl (by kernel_rfl) (fun _ _ _ h => hQ.panic _ _ _ _ _ h) (.inl ⟨(by kernel_rfl), fun wq hq => (x_load1 (by kernel_rfl) Tryd.isAgg3 ((CellsAt.rb hc719 (RB.trans er622 hq) (Nat.lt_of_lt_of_eq lt717 z621) (fun h => by cases h)) 2 _ rfl))⟩) ?_
            by_cases h727 : ((lget a i14).To) = ((lget b i14).To)
            ·
              replace hp := hp.1 h727
              refine r_take 35 (.bool false) (RB.pre _ _) rfl (by kernel_rfl) (fun _ _ _ h => hQ.panic _ _ _ _ _ h) (.inl ⟨(by kernel_rfl), fun wq hq => (x_ndf (p := ((lget a i14).To) = ((lget b i14).To)) (by kernel_rfl) h727)⟩) ?_
              refine r_take 36 (.bool false) (RB.pre _ _) rfl (by kernel_rfl) (fun _ _ _ h => hQ.panic _ _ _ _ _ h) (.inl ⟨rfl, fun wq hq => (by kernel_rfl)⟩) ?_
              refine r_take 37 (.bool false) (RB.pre _ _) rfl (by kernel_rfl) (fun _ _ _ h => hQ.panic _ _ _ _ _ h) (.inl ⟨rfl, fun wq hq => (by kernel_rfl)⟩) ?_
              refine r_take 38 (.slice aa1 a.length ca2) (RB.pre _ _) rfl (by kernel_rfl) (fun _ _ _ h => hQ.panic _ _ _ _ _ h) (.inl ⟨(by kernel_rfl), fun wq hq => (by kernel_rfl)⟩) ?_
              refine r_take 39 (.int .i64 i14) (RB.pre _ _) rfl (by kernel_rfl) (fun _ _ _ h => hQ.panic _ _ _ _ _ h) (.inl ⟨(by kernel_rfl), fun wq hq => (by kernel_rfl)⟩) ?_
              obtain ⟨h728, hp⟩ := hp
              obtain ⟨b729, o730, cs731, ha732, nx733, lt734, ok735, hc736⟩ := Sl.atI ha627 i14 h728
              obtain ⟨aeLines741, ceLines742, rfl, reAt737, reDel738, reTo739, reAdd740, heLines743⟩ := r_patch_Hunk_open ok735
              replace hp := hp reAt737
              replace hp := hp reDel738
              replace hp := hp reTo739
              replace hp := hp reAdd740
              replace hp := hp (Sl.len heLines743)
              refine r_take 40 (.pointer (some ⟨b729, o730 + i14.toNat * 5, none⟩)) (RB.pre _ _) rfl (by kernel_rfl) (fun _ _ _ h => hQ.panic _ _ _ _ _ h) (.inl ⟨(by kernel_rfl), fun wq hq => (x_ixA (m := a.length) (c := ca2) (k := .i64) (i := i14) Tryd.underlying31 Tryd.sizeOf50 (by rw [← ha732]; kernel_rfl) (by kernel_rfl) h728)⟩) ?_
              refine r_take 41 (.pointer (some ⟨b729, o730 + i14.toNat * 5 + 3, none⟩)) (RB.pre _ _) rfl (by kernel_rfl) (fun _ _ _ h => hQ.panic _ _ _ _ _ h) (.inl ⟨(by kernel_rfl), fun wq hq => (by kernel_rfl)⟩) ?_
              refine r_take 42 (.int .i64 ((lget a i14).Add)) (RB.pre _ _) rfl (by kernel_rfl) (fun _ _ _ h => hQ.panic _ _ _ _ _ h) (.inl ⟨(by kernel_rfl), fun wq hq => (x_load1 (by kernel_rfl) Tryd.isAgg3 ((CellsAt.rb hc736 (RB.trans er622 hq) (Nat.lt_of_lt_of_eq lt734 z621) (fun h => by cases h)) 3 _ rfl))⟩) ?_
              refine r_take 43 (.slice ab4 b.length cb5) (RB.pre _ _) rfl (by kernel_rfl) (fun _ _ _ h => hQ.panic _ _ _ _ _ h) (.inl ⟨(by kernel_rfl), fun wq hq => (by kernel_rfl)⟩) ?_
              refine r_take 44 (.int .i64 i14) (RB.pre _ _) rfl (by kernel_rfl) (fun _ _ _ h => hQ.panic _ _ _ _ _ h) (.inl ⟨(by kernel_rfl), fun wq hq => (by kernel_rfl)⟩) ?_
              obtain ⟨h744, hp⟩ := hp
              obtain ⟨b745, o746, cs747, ha748, nx749, lt750, ok751, hc752⟩ := Sl.atI hb628 i14 h744
              obtain ⟨aeLines757, ceLines758, rfl, reAt753, reDel754, reTo755, reAdd756, heLines759⟩ := r_rectoref11_Hunk_open ok751
              replace hp := hp reAt753
              replace hp := hp reDel754
              replace hp := hp reTo755
              replace hp := hp reAdd756
              replace hp := hp (Sl.len heLines759)
              refine r_take 45 (.pointer (some ⟨b745, o746 + i14.toNat * 5, none⟩)) (RB.pre _ _) rfl (by kernel_rfl) (fun _ _ _ h => hQ.panic _ _ _ _ _ h) (.inl ⟨(by kernel_rfl), fun wq hq => (x_ixA (m := b.length) (c := cb5) (k := .i64) (i := i14) Tryd.underlying35 Tryd.sizeOf60 (by rw [← ha748]; kernel_rfl) (by kernel_rfl) h744)⟩) ?_
              refine r_take 46 (.pointer (some ⟨b745, o746 + i14.toNat * 5 + 3, none⟩)) (RB.pre _ _) rfl (by kernel_rfl) (fun _ _ _ h => hQ.panic _ _ _ _ _ h) (.inl ⟨(by kernel_rfl), fun wq hq => (by kernel_rfl)⟩) ?_
              refine r_take 47 (.int .i64 ((lget b i14).Add)) (RB.pre _ _) rfl (by kernel_rfl) (fun _ _ _ h => hQ.panic _ _ _ _ _ h) (.inl ⟨(by kernel_rfl), fun wq hq => (x_load1 (by kernel_rfl) Tryd.isAgg3 ((CellsAt.rb hc752 (RB.trans er622 hq) (Nat.lt_of_lt_of_eq lt750 z621) (fun h => by cases h)) 3 _ rfl))⟩) ?_
              by_cases h760 : ((lget a i14).Add) = ((lget b i14).Add)
              ·
                replace hp := hp.1 h760
                refine r_take 48 (.bool false) (RB.pre _ _) rfl (by kernel_rfl) (fun _ _ _ h => hQ.panic _ _ _ _ _ h) (.inl ⟨(by kernel_rfl), fun wq hq => (x_ndf (p := ((lget a i14).Add) = ((lget b i14).Add)) (by kernel_rfl) h760)⟩) ?_
                refine r_take 49 (.bool false) (RB.pre _ _) rfl (by kernel_rfl) (fun _ _ _ h => hQ.panic _ _ _ _ _ h) (.inl ⟨rfl, fun wq hq => (by kernel_rfl)⟩) ?_
                refine r_take 50 (.bool false) (RB.pre _ _) rfl (by kernel_rfl) (fun _ _ _ h => hQ.panic _ _ _ _ _ h) (.inl ⟨rfl, fun wq hq => (by kernel_rfl)⟩) ?_
                refine r_take 51 (.slice aa1 a.length ca2) (RB.pre _ _) rfl (by kernel_rfl) (fun _ _ _ h => hQ.panic _ _ _ _ _ h) (.inl ⟨(by kernel_rfl), fun wq hq => (by kernel_rfl)⟩) ?_
                refine r_take 52 (.int .i64 i14) (RB.pre _ _) rfl (by kernel_rfl) (fun _ _ _ h => hQ.panic _ _ _ _ _ h) (.inl ⟨(by kernel_rfl), fun wq hq => (by kernel_rfl)⟩) ?_
                obtain ⟨h761, hp⟩ := hp
                obtain ⟨b762, o763, cs764, ha765, nx766, lt767, ok768, hc769⟩ := Sl.atI ha627 i14 h761
                obtain ⟨aeLines774, ceLines775, rfl, reAt770, reDel771, reTo772, reAdd773, heLines776⟩ := r_patch_Hunk_open ok768
                replace hp := hp reAt770
                replace hp := hp reDel771
                replace hp := hp reTo772
                replace hp := hp reAdd773
                replace hp := hp (Sl.len heLines776)
                refine r_take 53 (.pointer (some ⟨b762, o763 + i14.toNat * 5, none⟩)) (RB.pre _ _) rfl (by kernel_rfl) (fun _ _ _ h => hQ.panic _ _ _ _ _ h) (.inl ⟨(by kernel_rfl), fun wq hq => (x_ixA (m := a.length) (c := ca2) (k := .i64) (i := i14) Tryd.underlying31 Tryd.sizeOf50 (by rw [← ha765]; kernel_rfl) (by kernel_rfl) h761)⟩) ?_
                refine r_take 54 (.pointer (some ⟨b762, o763 + i14.toNat * 5 + 4, none⟩)) (RB.pre _ _) rfl (by kernel_rfl) (fun _ _ _ h => hQ.panic _ _ _ _ _ h) (.inl ⟨(by kernel_rfl), fun wq hq => (by kernel_rfl)⟩) ?_
                refine r_take 55 (.slice aeLines774 (((lget a i14).Lines).length) ceLines775) (RB.pre _ _) rfl (by kernel_rfl) (fun _ _ _ h => hQ.panic _ _ _ _ _ h) (.inl ⟨(by kernel_rfl), fun wq hq => (x_load1 (by kernel_rfl) Tryd.isAgg33 ((CellsAt.rb hc769 (RB.trans er622 hq) (Nat.lt_of_lt_of_eq lt767 z621) (fun h => by cases h)) 4 _ rfl))⟩) ?_
                refine r_take 56 (.slice ab4 b.length cb5) (RB.pre _ _) rfl (by kernel_rfl) (fun _ _ _ h => hQ.panic _ _ _ _ _ h) (.inl ⟨(by kernel_rfl), fun wq hq => (by kernel_rfl)⟩) ?_
                refine r_take 57 (.int .i64 i14) (RB.pre _ _) rfl (by kernel_rfl) (fun _ _ _ h => hQ.panic _ _ _ _ _ h) (.inl ⟨(by kernel_rfl), fun wq hq => (by kernel_rfl)⟩) ?_
                obtain ⟨h777, hp⟩ := hp
                obtain ⟨b778, o779, cs780, ha781, nx782, lt783, ok784, hc785⟩ := Sl.atI hb628 i14 h777
                obtain ⟨aeLines790, ceLines791, rfl, reAt786, reDel787, reTo788, reAdd789, heLines792⟩ := r_rectoref11_Hunk_open ok784
                replace hp := hp reAt786
                replace hp := hp reDel787
                replace hp := hp reTo788
                replace hp := hp reAdd789
                replace hp := hp (Sl.len heLines792)
                refine r_take 58 (.pointer (some ⟨b778, o779 + i14.toNat * 5, none⟩)) (RB.pre _ _) rfl (by kernel_rfl) (fun _ _ _ h => hQ.panic _ _ _ _ _ h) (.inl ⟨(by kernel_rfl), fun wq hq => (x_ixA (m := b.length) (c := cb5) (k := .i64) (i := i14) Tryd.underlying35 Tryd.sizeOf60 (by rw [← ha781]; kernel_rfl) (by kernel_rfl) h777)⟩) ?_
                refine r_take 59 (.pointer (some ⟨b778, o779 + i14.toNat * 5 + 4, none⟩)) (RB.pre _ _) rfl (by kernel_rfl) (fun _ _ _ h => hQ.panic _ _ _ _ _ h) (.inl ⟨(by kernel_rfl), fun wq hq => (by kernel_rfl)⟩) ?_
                refine r_take 60 (.slice aeLines790 (((lget b i14).Lines).length) ceLines791) (RB.pre _ _) rfl (by kernel_rfl) (fun _ _ _ h => hQ.panic _ _ _ _ _ h) (.inl ⟨(by kernel_rfl), fun wq hq => (x_load1 (by kernel_rfl) Tryd.isAgg25 ((CellsAt.rb hc785 (RB.trans er622 hq) (Nat.lt_of_lt_of_eq lt783 z621) (fun h => by cases h)) 4 _ rfl))⟩) ?_
                refine r_ready [61] (by kernel_rfl) rfl (all_cons ⟨_, _, _, _, _, _, rfl, ?_⟩ all_nil)
                refine o_call 22 #[(.slice aeLines774 ((lget a i14).Lines).length ceLines775), (.slice aeLines790 ((lget b i14).Lines).length ceLines791)] (by kernel_rfl) (x_call Tryd.call22 (by rw []; kernel_rfl)) (rectolaw11_Edits_w (X := []) (a := (lget a i14).Lines) (b := (lget b i14).Lines) (Old.nil _) (Sl.less heLines776 (Sub.nil _)) (Sl.less heLines792 (Sub.nil _)) hp) ?_
                rintro _ w794 ⟨r793, hp, e795, rfl⟩
                have rm := RB.mono (F' := []) e795 (Nat.le_trans (Nat.le_of_eq z621.symm) (RB.size er622)) (fun _ h => by cases h)
                have er797 := RB.trans er622 rm
                refine ⟨fun _ => rm, ?_⟩
                have s796 := Step.of0 X410 e795
                refine r_take 62 (.bool (!r793)) (RB.pre _ _) rfl (by kernel_rfl) (fun _ _ _ h => hQ.panic _ _ _ _ _ h) (.inl ⟨(by kernel_rfl), fun wq hq => (by kernel_rfl)⟩) ?_
                refine r_take 63 (.bool (!r793)) (RB.pre _ _) rfl (by kernel_rfl) (fun _ _ _ h => hQ.panic _ _ _ _ _ h) (.inl ⟨rfl, fun wq hq => (by kernel_rfl)⟩) ?_
                refine r_done (by kernel_rfl) ?_
                have E798 := (Evo.then0 E624 e795)
                have hXo799 := (Old.step hXo625 s796)
                have hS800 := (Sub.trans hS626 (Step.up s796))
                have ha801 := (Sl.step ha627 s796)
                have hb802 := (Sl.step hb628 s796)
                refine then_normal (hJ611 _ _ _ ⟨[(80, (.bool (!r793)))], fit_mk (fun _ _ => rfl) (by kernel_rfl) (vs_cons (by kernel_rfl) vs_nil), ?_⟩)
                exact ⟨X410, (!r793), rfl, E798, hXo799, hS800, ha801, hb802, hp⟩
              ·
                replace hp := hp.2 h760
                refine r_take 48 (.bool true) (RB.pre _ _) rfl (by kernel_rfl) (fun _ _ _ h => hQ.panic _ _ _ _ _ h) (.inl ⟨(by kernel_rfl), fun wq hq => (x_ndt (p := ((lget a i14).Add) = ((lget b i14).Add)) (by kernel_rfl) h760)⟩) ?_
                refine r_take 49 (.bool true) (RB.pre _ _) rfl (by kernel_rfl) (fun _ _ _ h => hQ.panic _ _ _ _ _ h) (.inl ⟨rfl, fun wq hq => (by kernel_rfl)⟩) ?_
                refine r_take 50 (.bool true) (RB.pre _ _) rfl (by kernel_rfl) (fun _ _ _ h => hQ.panic _ _ _ _ _ h) (.inl ⟨rfl, fun wq hq => (by kernel_rfl)⟩) ?_
                refine r_take 51 undef (RB.pre _ _) rfl (by kernel_rfl) (fun _ _ _ h => hQ.panic _ _ _ _ _ h) (.inr ⟨by kernel_rfl, rfl⟩) ?_
                refine r_take 52 undef (RB.pre _ _) rfl (by kernel_rfl) (fun _ _ _ h => hQ.panic _ _ _ _ _ h) (.inr ⟨by kernel_rfl, rfl⟩) ?_
                refine r_take 53 undef (RB.pre _ _) rfl (by kernel_rfl) (fun _ _ _ h => hQ.panic _ _ _ _ _ h) (.inr ⟨by kernel_rfl, rfl⟩) ?_
                refine r_take 54 undef (RB.pre _ _) rfl (by kernel_rfl) (fun _ _ _ h => hQ.panic _ _ _ _ _ h) (.inr ⟨by kernel_rfl, rfl⟩) ?_
                refine r_take 55 undef (RB.pre _ _) rfl (by kernel_rfl) (fun _ _ _ h => hQ.panic _ _ _ _ _ h) (.inr ⟨by kernel_rfl, rfl⟩) ?_
                refine r_take 56 undef (RB.pre _ _) rfl (by kernel_rfl) (fun _ _ _ h => hQ.panic _ _ _ _ _ h) (.inr ⟨by kernel_rfl, rfl⟩) ?_
                refine r_take 57 undef (RB.pre _ _) rfl (by kernel_rfl) (fun _ _ _ h => hQ.panic _ _ _ _ _ h) (.inr ⟨by kernel_rfl, rfl⟩) ?_
                refine r_take 58 undef (RB.pre _ _) rfl (by kernel_rfl) (fun _ _ _ h => hQ.panic _ _ _ _ _ h) (.inr ⟨by kernel_rfl, rfl⟩) ?_
                refine r_take 59 undef (RB.pre _ _) rfl (by kernel_rfl) (fun _ _ _ h => hQ.panic _ _ _ _ _ h) (.inr ⟨by kernel_rfl, rfl⟩) ?_
                refine r_take 60 undef (RB.pre _ _) rfl (by kernel_rfl) (fun _ _ _ h => hQ.panic _ _ _ _ _ h) (.inr ⟨by kernel_rfl, rfl⟩) ?_
                refine r_take 61 undef (RB.pre _ _) rfl (by kernel_rfl) (fun _ _ _ h => hQ.panic _ _ _ _ _ h) (.inr ⟨by kernel_rfl, rfl⟩) ?_
                refine r_take 62 undef (RB.pre _ _) rfl (by kernel_rfl) (fun _ _ _ h => hQ.panic _ _ _ _ _ h) (.inr ⟨by kernel_rfl, rfl⟩) ?_
                refine r_take 63 (.bool true) (RB.pre _ _) rfl (by kernel_rfl) (fun _ _ _ h => hQ.panic _ _ _ _ _ h) (.inl ⟨rfl, fun wq hq => (by kernel_rfl)⟩) ?_
                refine r_done (by kernel_rfl) ?_
                refine then_normal (hJ611 _ _ _ ⟨[(80, (.bool true))], fit_mk (fun _ _ => rfl) (by kernel_rfl) (vs_cons (by kernel_rfl) vs_nil), ?_⟩)
                exact ⟨X410, true, rfl, E624, hXo625, hS626, ha627, hb628, hp⟩
            ·
              replace hp := hp.2 h727
              refine r_take 35 (.bool true) (RB.pre _ _) rfl (by kernel_rfl) (fun _ _ _ h => hQ.panic _ _ _ _ _ h) (.inl ⟨(by kernel_rfl), fun wq hq => (x_ndt (p := ((lget a i14).To) = ((lget b i14).To)) (by kernel_rfl) h727)⟩) ?_
              refine r_take 36 (.bool true) (RB.pre _ _) rfl (by kernel_rfl) (fun _ _ _ h => hQ.panic _ _ _ _ _ h) (.inl ⟨rfl, fun wq hq => (by kernel_rfl)⟩) ?_
              refine r_take 37 (.bool true) (RB.pre _ _) rfl (by kernel_rfl) (fun _ _ _ h => hQ.panic _ _ _ _ _ h) (.inl ⟨rfl, fun wq hq => (by kernel_rfl)⟩) ?_
              refine r_take 38 undef (RB.pre _ _) rfl (by kernel_rfl) (fun _ _ _ h => hQ.panic _ _ _ _ _ h) (.inr ⟨by kernel_rfl, rfl⟩) ?_
              refine r_take 39 undef (RB.pre _ _) rfl (by kernel_rfl) (fun _ _ _ h => hQ.panic _ _ _ _ _ h) (.inr ⟨by kernel_rfl, rfl⟩) ?_
              refine r_take 40 undef (RB.pre _ _) rfl (by kernel_rfl) (fun _ _ _ h => hQ.panic _ _ _ _ _ h) (.inr ⟨by kernel_rfl, rfl⟩) ?_
              refine r_take 41 undef (RB.pre _ _) rfl (by kernel_rfl) (fun _ _ _ h => hQ.panic _ _ _ _ _ h) (.inr ⟨by kernel_rfl, rfl⟩) ?_
              refine r_take 42 undef (RB.pre _ _) rfl (by kernel_rfl) (fun _ _ _ h => hQ.panic _ _ _ _ _ h) (.inr ⟨by kernel_rfl, rfl⟩) ?_
              refine r_take 43 undef (RB.pre _ _) rfl (by kernel_rfl) (fun _ _ _ h => hQ.panic _ _ _ _ _ h) (.inr ⟨by kernel_rfl, rfl⟩) ?_
              refine r_take 44 undef (RB.pre _ _) rfl (by kernel_rfl) (fun _ _ _ h => hQ.panic _ _ _ _ _ h) (.inr ⟨by kernel_rfl, rfl⟩) ?_
              refine r_take 45 undef (RB.pre _ _) rfl (by kernel_rfl) (fun _ _ _ h => hQ.panic _ _ _ _ _ h) (.inr ⟨by kernel_rfl, rfl⟩) ?_
              refine r_take 46 undef (RB.pre _ _) rfl (by kernel_rfl) (fun _ _ _ h => hQ.panic _ _ _ _ _ h) (.inr ⟨by kernel_rfl, rfl⟩) ?_
              refine r_take 47 undef (RB.pre _ _) rfl (by kernel_rfl) (fun _ _ _ h => hQ.panic _ _ _ _ _ h) (.inr ⟨by kernel_rfl, rfl⟩) ?_
              refine r_take 48 undef (RB.pre _ _) rfl (by kernel_rfl) (fun _ _ _ h => hQ.panic _ _ _ _ _ h) (.inr ⟨by kernel_rfl, rfl⟩) ?_
              refine r_take 49 (.bool true) (RB.pre _ _) rfl (by kernel_rfl) (fun _ _ _ h => hQ.panic _ _ _ _ _ h) (.inl ⟨rfl, fun wq hq => (by kernel_rfl)⟩) ?_
              refine r_take 50 (.bool true) (RB.pre _ _) rfl (by kernel_rfl) (fun _ _ _ h => hQ.panic _ _ _ _ _ h) (.inl ⟨rfl, fun wq hq => (by kernel_rfl)⟩) ?_
              refine r_take 51 undef (RB.pre _ _) rfl (by kernel_rfl) (fun _ _ _ h => hQ.panic _ _ _ _ _ h) (.inr ⟨by kernel_rfl, rfl⟩) ?_
              refine r_take 52 undef (RB.pre _ _) rfl (by kernel_rfl) (fun _ _ _ h => hQ.panic _ _ _ _ _ h) (.inr ⟨by kernel_rfl, rfl⟩) ?_
              refine r_take 53 undef (RB.pre _ _) rfl (by kernel_rfl) (fun _ _ _ h => hQ.panic _ _ _ _ _ h) (.inr ⟨by kernel_rfl, rfl⟩) ?_
              refine r_take 54 undef (RB.pre _ _) rfl (by kernel_rfl) (fun _ _ _ h => hQ.panic _ _ _ _ _ h) (.inr ⟨by kernel_rfl, rfl⟩) ?_
              refine r_take 55 undef (RB.pre _ _) rfl (by kernel_rfl) (fun _ _ _ h => hQ.panic _ _ _ _ _ h) (.inr ⟨by kernel_rfl, rfl⟩) ?_
              refine r_take 56 undef (RB.pre _ _) rfl (by kernel_rfl) (fun _ _ _ h => hQ.panic _ _ _ _ _ h) (.inr ⟨by kernel_rfl, rfl⟩) ?_
              refine r_take 57 undef (RB.pre _ _) rfl (by kernel_rfl) (fun _ _ _ h => hQ.panic _ _ _ _ _ h) (.inr ⟨by kernel_rfl, rfl⟩) ?_
              refine r_take 58 undef (RB.pre _ _) rfl (by kernel_rfl) (fun _ _ _ h => hQ.panic _ _ _ _ _ h) (.inr ⟨by kernel_rfl, rfl⟩) ?_
              refine r_take 59 undef (RB.pre _ _) rfl (by kernel_rfl) (fun _ _ _ h => hQ.panic _ _ _ _ _ h) (.inr ⟨by kernel_rfl, rfl⟩) ?_
              refine r_take 60 undef (RB.pre _ _) rfl (by kernel_rfl) (fun _ _ _ h => hQ.panic _ _ _ _ _ h) (.inr ⟨by kernel_rfl, rfl⟩) ?_
              refine r_take 61 undef (RB.pre _ _) rfl (by kernel_rfl) (fun _ _ _ h => hQ.panic _ _ _ _ _ h) (.inr ⟨by kernel_rfl, rfl⟩) ?_
              refine r_take 62 undef (RB.pre _ _) rfl (by kernel_rfl) (fun _ _ _ h => hQ.panic _ _ _ _ _ h) (.inr ⟨by kernel_rfl, rfl⟩) ?_
              refine r_take 63 (.bool true) (RB.pre _ _) rfl (by kernel_rfl) (fun _ _ _ h => hQ.panic _ _ _ _ _ h) (.inl ⟨rfl, fun wq hq => (by kernel_rfl)⟩) ?_
              refine r_done (by kernel_rfl) ?_
              refine then_normal (hJ611 _ _ _ ⟨[(80, (.bool true))], fit_mk (fun _ _ => rfl) (by kernel_rfl) (vs_cons (by kernel_rfl) vs_nil), ?_⟩)
              exact ⟨X410, true, rfl, E624, hXo625, hS626, ha627, hb628, hp⟩
          ·
            replace hp := hp.2 h694
            refine r_take 22 (.bool true) (RB.pre _ _) rfl (by kernel_rfl) (fun _ _ _ h => hQ.panic _ _ _ _ _ h) (.inl ⟨(by kernel_rfl), fun wq hq => (x_ndt (p := ((lget a i14).Del) = ((lget b i14).Del)) (by kernel_rfl) h694)⟩) ?_
            refine r_take 23 (.bool true) (RB.pre _ _) rfl (by kernel_rfl) (fun _ _ _ h => hQ.panic _ _ _ _ _ h) (.inl ⟨rfl, fun wq hq => (by kernel_rfl)⟩) ?_
            refine r_take 24 (.bool true) (RB.pre _ _) rfl (by kernel_rfl) (fun _ _ _ h => hQ.panic _ _ _ _ _ h) (.inl ⟨rfl, fun wq hq => (by kernel_rfl)⟩) ?_
            refine r_take 25 undef (RB.pre _ _) rfl (by kernel_rfl) (fun _ _ _ h => hQ.panic _ _ _ _ _ h) (.inr ⟨by kernel_rfl, rfl⟩) ?_
            refine r_take 26 undef (RB.pre _ _) rfl (by kernel_rfl) (fun _ _ _ h => hQ.panic _ _ _ _ _ h) (.inr ⟨by kernel_rfl, rfl⟩) ?_
            refine r_take 27 undef (RB.pre _ _) rfl (by kernel_rfl) (fun _ _ _ h => hQ.panic _ _ _ _ _ h) (.inr ⟨by kernel_rfl, rfl⟩) ?_
            refine r_take 28 undef (RB.pre _ _) rfl (by kernel_rfl) (fun _ _ _ h => hQ.panic _ _ _ _ _ h) (.inr ⟨by kernel_rfl, rfl⟩) ?_
            refine r_take 29 undef (RB.pre _ _) rfl (by kernel_rfl) (fun _ _ _ h => hQ.panic _ _ _ _ _ h) (.inr ⟨by kernel_rfl, rfl⟩) ?_
            refine r_take 30 undef (RB.pre _ _) rfl (by kernel_rfl) (fun _ _ _ h => hQ.panic _ _ _ _ _ h) (.inr ⟨by kernel_rfl, rfl⟩) ?_
            refine r_take 31 undef (RB.pre _ _) rfl (by kernel_rfl) (fun _ _ _ h => hQ.panic _ _ _ _ _ h) (.inr ⟨by kernel_rfl, rfl⟩) ?_
            refine r_take 32 undef (RB.pre _ _) rfl (by kernel_rfl) (fun _ _ _ h => hQ.panic _ _ _ _ _ h) (.inr ⟨by kernel_rfl, rfl⟩) ?_
            refine r_take 33 undef (RB.pre _ _) rfl (by kernel_rfl) (fun _ _ _ h => hQ.panic _ _ _ _ _ h) (.inr ⟨by kernel_rfl, rfl⟩) ?_
            refine r_take 34 undef (RB.pre _ _) rfl (by kernel_rfl) (fun _ _ _ h => hQ.panic _ _ _ _ _ h) (.inr ⟨by kernel_rfl, rfl⟩) ?_
            refine r_take 35 undef (RB.pre _ _) rfl (by kernel_rfl) (fun _ _ _ h => hQ.panic _ _ _ _ _ h) (.inr ⟨by kernel_rfl, rfl⟩) ?_
            refine r_take 36 (.bool true) (RB.pre _ _) rfl (by kernel_rfl) (fun _ _ _ h => hQ.panic _ _ _ _ _ h) (.inl ⟨rfl, fun wq hq => (by kernel_rfl)⟩) ?_
            refine r_take 37 (.bool true) (RB.pre _ _) rfl (by kernel_rfl) (fun _ _ _ h => hQ.panic _ _ _ _ _ h) (.inl ⟨rfl, fun wq hq => (by kernel_rfl)⟩) ?_
            refine r_take 38 undef (RB.pre _ _) rfl (by kernel_rfl) (fun _ _ _ h => hQ.panic _ _ _ _ _ h) (.inr ⟨by kernel_rfl, rfl⟩) ?_
            refine r_take 39 undef (RB.pre _ _) rfl (by kernel_rfl) (fun _ _ _ h => hQ.panic _ _ _ _ _ h) (.inr ⟨by kernel_rfl, rfl⟩) ?_
            refine r_take 40 undef (RB.pre _ _) rfl (by kernel_rfl) (fun _ _ _ h => hQ.panic _ _ _ _ _ h) (.inr ⟨by kernel_rfl, rfl⟩) ?_
            refine r_take 41 undef (RB.pre _ _) rfl (by kernel_rfl) (fun _ _ _ h => hQ.panic _ _ _ _ _ h) (.inr ⟨by kernel_rfl, rfl⟩) ?_
            refine r_take 42 undef (RB.pre _ _) rfl (by kernel_rfl) (fun _ _ _ h => hQ.panic _ _ _ _ _ h) (.inr ⟨by kernel_rfl, rfl⟩) ?_
            refine r_take 43 undef (RB.pre _ _) rfl (by kernel_rfl) (fun _ _ _ h => hQ.panic _ _ _ _ _ h) (.inr ⟨by kernel_rfl, rfl⟩) ?_
            refine r_take 44 undef (RB.pre _ _) rfl (by kernel_rfl) (fun _ _ _ h => hQ.panic _ _ _ _ _ h) (.inr ⟨by kernel_rfl, rfl⟩) ?_
            refine r_take 45 undef (RB.pre _ _) rfl (by kernel_rfl) (fun _ _ _ h => hQ.panic _ _ _ _ _ h) (.inr ⟨by kernel_rfl, rfl⟩) ?_
            refine r_take 46 undef (RB.pre _ _) rfl (by kernel_rfl) (fun _ _ _ h => hQ.panic _ _ _ _ _ h) (.inr ⟨by kernel_rfl, rfl⟩) ?_
            refine r_take 47 undef (RB.pre _ _) rfl (by kernel_rfl) (fun _ _ _ h => hQ.panic _ _ _ _ _ h) (.inr ⟨by kernel_rfl, rfl⟩) ?_
            refine r_take 48 undef (RB.pre _ _) rfl (by kernel_rfl) (fun _ _ _ h => hQ.panic _ _ _ _ _ h) (.inr ⟨by kernel_rfl, rfl⟩) ?_
            refine r_take 49 (.bool true) (RB.pre _ _) rfl (by kernel_rfl) (fun _ _ _ h => hQ.panic _ _ _ _ _ h) (.inl ⟨rfl, fun wq hq => (by kernel_rfl)⟩) ?_
            refine r_take 50 (.bool true) (RB.pre _ _) rfl (by kernel_rfl) (fun _ _ _ h => hQ.panic _ _ _ _ _ h) (.inl ⟨rfl, fun wq hq => (by kernel_rfl)⟩) ?_
            refine r_take 51 undef (RB.pre _ _) rfl (by kernel_rfl) (fun _ _ _ h => hQ.panic _ _ _ _ _ h) (.inr ⟨by kernel_rfl, rfl⟩) ?_
            refine r_take 52 undef (RB.pre _ _) rfl (by kernel_rfl) (fun _ _ _ h => hQ.panic _ _ _ _ _ h) (.inr ⟨by kernel_rfl, rfl⟩) ?_
            refine r_take 53 undef (RB.pre _ _) rfl (by kernel_rfl) (fun _ _ _ h => hQ.panic _ _ _ _ _ h) (.inr ⟨by kernel_rfl, rfl⟩) ?_
            refine r_take 54 undef (RB.pre _ _) rfl (by kernel_rfl) (fun _ _ _ h => hQ.panic _ _ _ _ _ h) (.inr ⟨by kernel_rfl, rfl⟩) ?_
            refine r_take 55 undef (RB.pre _ _) rfl (by kernel_rfl) (fun _ _ _ h => hQ.panic _ _ _ _ _ h) (.inr ⟨by kernel_rfl, rfl⟩) ?_
            refine r_take 56 undef (RB.pre _ _) rfl (by kernel_rfl) (fun _ _ _ h => hQ.panic _ _ _ _ _ h) (.inr ⟨by kernel_rfl, rfl⟩) ?_
            refine r_take 57 undef (RB.pre _ _) rfl (by kernel_rfl) (fun _ _ _ h => hQ.panic _ _ _ _ _ h) (.inr ⟨by kernel_rfl, rfl⟩) ?_
            refine r_take 58 undef (RB.pre _ _) rfl (by kernel_rfl) (fun _ _ _ h => hQ.panic _ _ _ _ _ h) (.inr ⟨by kernel_rfl, rfl⟩) ?_
            refine r_take 59 undef (RB.pre _ _) rfl (by kernel_rfl) (fun _ _ _ h => hQ.panic _ _ _ _ _ h) (.inr ⟨by kernel_rfl, rfl⟩) ?_
            refine r_take 60 undef (RB.pre _ _) rfl (by kernel_rfl) (fun _ _ _ h => hQ.panic _ _ _ _ _ h) (.inr ⟨by kernel_rfl, rfl⟩) ?_
            refine r_take 61 undef (RB.pre _ _) rfl (by kernel_rfl) (fun _ _ _ h => hQ.panic _ _ _ _ _ h) (.inr ⟨by kernel_rfl, rfl⟩) ?_
            refine r_take 62 undef (RB.pre _ _) rfl (by kernel_rfl) (fun _ _ _ h => hQ.panic _ _ _ _ _ h) (.inr ⟨by kernel_rfl, rfl⟩) ?_
            refine r_take 63 (.bool true) (RB.pre _ _) rfl (by kernel_rfl) (fun _ _ _ h => hQ.panic _ _ _ _ _ h) (.inl ⟨rfl, fun wq hq => (by kernel_rfl)⟩) ?_
            refine r_done (by kernel_rfl) ?_
            refine then_normal (hJ611 _ _ _ ⟨[(80, (.bool true))], fit_mk (fun _ _ => rfl) (by kernel_rfl) (vs_cons (by kernel_rfl) vs_nil), ?_⟩)
            exact ⟨X410, true, rfl, E624, hXo625, hS626, ha627, hb628, hp⟩
        ·
          replace hp := hp.2 h661
          refine r_take 10 (.bool true) (RB.pre _ _) rfl (by kernel_rfl) (fun _ _ _ h => hQ.panic _ _ _ _ _ h) (.inl ⟨rfl, fun wq hq => (x_ndt (p := ((lget a i14).At) = ((lget b i14).At)) (by kernel_rfl) h661)⟩) ?_
          refine r_take 11 (.bool true) (RB.pre _ _) rfl (by kernel_rfl) (fun _ _ _ h => hQ.panic _ _ _ _ _ h) (.inl ⟨rfl, fun wq hq => (by kernel_rfl)⟩) ?_
          refine r_take 12 undef (RB.pre _ _) rfl (by kernel_rfl) (fun _ _ _ h => hQ.panic _ _ _ _ _ h) (.inr ⟨by kernel_rfl, rfl⟩) ?_
          refine r_take 13 undef (RB.pre _ _) rfl (by kernel_rfl) (fun _ _ _ h => hQ.panic _ _ _ _ _ h) (.inr ⟨by kernel_rfl, rfl⟩) ?_
          refine r_take 14 undef (RB.pre _ _) rfl (by kernel_rfl) (fun _ _ _ h => hQ.panic _ _ _ _ _ h) (.inr ⟨by kernel_rfl, rfl⟩) ?_
          refine r_take 15 undef (RB.pre _ _) rfl (by kernel_rfl) (fun _ _ _ h => hQ.panic _ _ _ _ _ h) (.inr ⟨by kernel_rfl, rfl⟩) ?_
          refine r_take 16 undef (RB.pre _ _) rfl (by kernel_rfl) (fun _ _ _ h => hQ.panic _ _ _ _ _ h) (.inr ⟨by kernel_rfl, rfl⟩) ?_
          refine r_take 17 undef (RB.pre _ _) rfl (by kernel_rfl) (fun _ _ _ h => hQ.panic _ _ _ _ _ h) (.inr ⟨by kernel_rfl, rfl⟩) ?_
          refine r_take 18 undef (RB.pre _ _) rfl (by kernel_rfl) (fun _ _ _ h => hQ.panic _ _ _ _ _ h) (.inr ⟨by kernel_rfl, rfl⟩) ?_
          refine r_take 19 undef (RB.pre _ _) rfl (by kernel_rfl) (fun _ _ _ h => hQ.panic _ _ _ _ _ h) (.inr ⟨by kernel_rfl, rfl⟩) ?_
          refine r_take 20 undef (RB.pre _ _) rfl (by kernel_rfl) (fun _ _ _ h => hQ.panic _ _ _ _ _ h) (.inr ⟨by kernel_rfl, rfl⟩) ?_
          refine r_take 21 undef (RB.pre _ _) rfl (by kernel_rfl) (fun _ _ _ h => hQ.panic _ _ _ _ _ h) (.inr ⟨by kernel_rfl, rfl⟩) ?_
          refine r_take 22 undef (RB.pre _ _) rfl (by kernel_rfl) (fun _ _ _ h => hQ.panic _ _ _ _ _ h) (.inr ⟨by kernel_rfl, rfl⟩) ?_
          refine r_take 23 (.bool true) (RB.pre _ _) rfl (by kernel_rfl) (fun _ _ _ h => hQ.panic _ _ _ _ _ h) (.inl ⟨rfl, fun wq hq => (by kernel_rfl)⟩) ?_
          refine r_take 24 (.bool true) (RB.pre _ _) rfl (by kernel_rfl) (fun _ _ _ h => hQ.panic _ _ _ _ _ h) (.inl ⟨rfl, fun wq hq => (by kernel_rfl)⟩) ?_
          refine r_take 25 undef (RB.pre _ _) rfl (by kernel_rfl) (fun _ _ _ h => hQ.panic _ _ _ _ _ h) (.inr ⟨by kernel_rfl, rfl⟩) ?_
          refine r_take 26 undef (RB.pre _ _) rfl (by kernel_rfl) (fun _ _ _ h => hQ.panic _ _ _ _ _ h) (.inr ⟨by kernel_rfl, rfl⟩) ?_
          refine r_take 27 undef (RB.pre _ _) rfl (by kernel_rfl) (fun _ _ _ h => hQ.panic _ _ _ _ _ h) (.inr ⟨by kernel_rfl, rfl⟩) ?_
          refine r_take 28 undef (RB.pre _ _) rfl (by kernel_rfl) (fun _ _ _ h => hQ.panic _ _ _ _ _ h) (.inr ⟨by kernel_rfl, rfl⟩) ?_
          refine r_take 29 undef (RB.pre _ _) rfl (by kernel_rfl) (fun _ _ _ h => hQ.panic _ _ _ _ _ h) (.inr ⟨by kernel_rfl, rfl⟩) ?_
          refine r_take 30 undef (RB.pre _ _) rfl (by kernel_rfl) (fun _ _ _ h => hQ.panic _ _ _ _ _ h) (.inr ⟨by kernel_rfl, rfl⟩) ?_
          refine r_take 31 undef (RB.pre _ _) rfl (by kernel_rfl) (fun _ _ _ h => hQ.panic _ _ _ _ _ h) (.inr ⟨by kernel_rfl, rfl⟩) ?_
          refine r_take 32 undef (RB.pre _ _) rfl (by kernel_rfl) (fun _ _ _ h => hQ.panic _ _ _ _ _ h) (.inr ⟨by kernel_rfl, rfl⟩) ?_
          refine r_take 33 undef (RB.pre _ _) rfl (by kernel_rfl) (fun _ _ _ h => hQ.panic _ _ _ _ _ h) (.inr ⟨by kernel_rfl, rfl⟩) ?_
          refine r_take 34 undef (RB.pre _ _) rfl (by kernel_rfl) (fun _ _ _ h => hQ.panic _ _ _ _ _ h) (.inr ⟨by kernel_rfl, rfl⟩) ?_
          refine r_take 35 undef (RB.pre _ _) rfl (by kernel_rfl) (fun _ _ _ h => hQ.panic _ _ _ _ _ h) (.inr ⟨by kernel_rfl, rfl⟩) ?_
          refine r_take 36 (.bool true) (RB.pre _ _) rfl (by kernel_rfl) (fun _ _ _ h => hQ.panic _ _ _ _ _ h) (.inl ⟨rfl, fun wq hq => (by kernel_rfl)⟩) ?_
          refine r_take 37 (.bool true) (RB.pre _ _) rfl (by kernel_rfl) (fun _ _ _ h => hQ.panic _ _ _ _ _ h) (.inl ⟨rfl, fun wq hq => (by kernel_rfl)⟩) ?_
          refine r_take 38 undef (RB.pre _ _) rfl (by kernel_rfl) (fun _ _ _ h => hQ.panic _ _ _ _ _ h) (.inr ⟨by kernel_rfl, rfl⟩) ?_
          refine r_take 39 undef (RB.pre _ _) rfl (by kernel_rfl) (fun _ _ _ h => hQ.panic _ _ _ _ _ h) (.inr ⟨by kernel_rfl, rfl⟩) ?_
          refine r_take 40 undef (RB.pre _ _) rfl (by kernel_rfl) (fun _ _ _ h => hQ.panic _ _ _ _ _ h) (.inr ⟨by kernel_rfl, rfl⟩) ?_
          refine r_take 41 undef (RB.pre _ _) rfl (by kernel_rfl) (fun _ _ _ h => hQ.panic _ _ _ _ _ h) (.inr ⟨by kernel_rfl, rfl⟩) ?_
          refine r_take 42 undef (RB.pre _ _) rfl (by kernel_rfl) (fun _ _ _ h => hQ.panic _ _ _ _ _ h) (.inr ⟨by kernel_rfl, rfl⟩) ?_
          refine r_take 43 undef (RB.pre _ _) rfl (by kernel_rfl) (fun _ _ _ h => hQ.panic _ _ _ _ _ h) (.inr ⟨by kernel_rfl, rfl⟩) ?_
          refine r_take 44 undef (RB.pre _ _) rfl (by kernel_rfl) (fun _ _ _ h => hQ.panic _ _ _ _ _ h) (.inr ⟨by kernel_rfl, rfl⟩) ?_
          refine r_take 45 undef (RB.pre _ _) rfl (by kernel_rfl) (fun _ _ _ h => hQ.panic _ _ _ _ _ h) (.inr ⟨by kernel_rfl, rfl⟩) ?_
          refine r_take 46 undef (RB.pre _ _) rfl (by kernel_rfl) (fun _ _ _ h => hQ.panic _ _ _ _ _ h) (.inr ⟨by kernel_rfl, rfl⟩) ?_
          refine r_take 47 undef (RB.pre _ _) rfl (by kernel_rfl) (fun _ _ _ h => hQ.panic _ _ _ _ _ h) (.inr ⟨by kernel_rfl, rfl⟩) ?_
          refine r_take 48 undef (RB.pre _ _) rfl (by kernel_rfl) (fun _ _ _ h => hQ.panic _ _ _ _ _ h) (.inr ⟨by kernel_rfl, rfl⟩) ?_
          refine r_take 49 (.bool true) (RB.pre _ _) rfl (by kernel_rfl) (fun _ _ _ h => hQ.panic _ _ _ _ _ h) (.inl ⟨rfl, fun wq hq => (by kernel_rfl)⟩) ?_
          refine r_take 50 (.bool true) (RB.pre _ _) rfl (by kernel_rfl) (fun _ _ _ h => hQ.panic _ _ _ _ _ h) (.inl ⟨rfl, fun wq hq => (by kernel_rfl)⟩) ?_
          refine r_take 51 undef (RB.pre _ _) rfl (by kernel_rfl) (fun _ _ _ h => hQ.panic _ _ _ _ _ h) (.inr ⟨by kernel_rfl, rfl⟩) ?_
          refine r_take 52 undef (RB.pre _ _) rfl (by kernel_rfl) (fun _ _ _ h => hQ.panic _ _ _ _ _ h) (.inr ⟨by kernel_rfl, rfl⟩) ?_
          refine r_take 53 undef (RB.pre _ _) rfl (by kernel_rfl) (fun _ _ _ h => hQ.panic _ _ _ _ _ h) (.inr ⟨by kernel_rfl, rfl⟩) ?_
          refine r_take 54 undef (RB.pre _ _) rfl (by kernel_rfl) (fun _ _ _ h => hQ.panic _ _ _ _ _ h) (.inr ⟨by kernel_rfl, rfl⟩) ?_
          refine r_take 55 undef (RB.pre _ _) rfl (by kernel_rfl) (fun _ _ _ h => hQ.panic _ _ _ _ _ h) (.inr ⟨by kernel_rfl, rfl⟩) ?_
          refine r_take 56 undef (RB.pre _ _) rfl (by kernel_rfl) (fun _ _ _ h => hQ.panic _ _ _ _ _ h) (.inr ⟨by kernel_rfl, rfl⟩) ?_
          refine r_take 57 undef (RB.pre _ _) rfl (by kernel_rfl) (fun _ _ _ h => hQ.panic _ _ _ _ _ h) (.inr ⟨by kernel_rfl, rfl⟩) ?_
          refine r_take 58 undef (RB.pre _ _) rfl (by kernel_rfl) (fun _ _ _ h => hQ.panic _ _ _ _ _ h) (.inr ⟨by kernel_rfl, rfl⟩) ?_
          refine r_take 59 undef (RB.pre _ _) rfl (by kernel_rfl) (fun _ _ _ h => hQ.panic _ _ _ _ _ h) (.inr ⟨by kernel_rfl, rfl⟩) ?_
          refine r_take 60 undef (RB.pre _ _) rfl (by kernel_rfl) (fun _ _ _ h => hQ.panic _ _ _ _ _ h) (.inr ⟨by kernel_rfl, rfl⟩) ?_
          refine r_take 61 undef (RB.pre _ _) rfl (by kernel_rfl) (fun _ _ _ h => hQ.panic _ _ _ _ _ h) (.inr ⟨by kernel_rfl, rfl⟩) ?_
          refine r_take 62 undef (RB.pre _ _) rfl (by kernel_rfl) (fun _ _ _ h => hQ.panic _ _ _ _ _ h) (.inr ⟨by kernel_rfl, rfl⟩) ?_
          refine r_take 63 (.bool true) (RB.pre _ _) rfl (by kernel_rfl) (fun _ _ _ h => hQ.panic _ _ _ _ _ h) (.inl ⟨rfl, fun wq hq => (by kernel_rfl)⟩) ?_
          refine r_done (by kernel_rfl) ?_
          refine then_normal (hJ611 _ _ _ ⟨[(80, (.bool true))], fit_mk (fun _ _ => rfl) (by kernel_rfl) (vs_cons (by kernel_rfl) vs_nil), ?_⟩)
          exact ⟨X410, true, rfl, E624, hXo625, hS626, ha627, hb628, hp⟩
      ·
        rintro _ w608 g803 ⟨X609, s605, rfl, E613, hXo614, hS615, ha616, hb617, hv612⟩
        replace hp := hk607 s605 hv612
        refine then_normal (K424 _ _ _ _ ?_)
        refine cond_b s605 (by kernel_rfl) (fun h804 => ?_) (fun h804 => ?_)
        ·
          replace hp := hp.1 h804
          refine seq_ (fun _ K805 => ?_)
          refine reg_ ?_
          refine sq (o_pv (.bool false) rfl (by kernel_rfl) ?_)
          refine nil_ ?_
          refine then_normal (K805 _ _ _ _ ?_)
          refine wp_ret ?_
          refine blk_ret ?_
          refine then_ret ?_
          refine then_ret ?_
          refine blk_ret ?_
          refine then_ret ?_
          refine end_ret hQ (.bool false) (by kernel_rfl) ?_
          exact ⟨false, hp, E613, rfl⟩
        ·
          replace hp := hp.2 h804
          refine wp_skip ?_
          refine blk_normal ?_
          refine then_normal (K423 _ _ _ _ ?_)
          refine reg_ ?_
          refine sq (o_pv (.int .i64 i14) rfl (by kernel_rfl) ?_)
          obtain ⟨h806, hp⟩ := hp
          refine sq (o_pv (.int .i64 (i14 + (1 : Int))) rfl (x_add2 (k := .i64) (a := i14) (b := (1 : Int)) (i14 + (1 : Int)) (by kernel_rfl) (by kernel_rfl) (wrap_inR h806)) ?_)
          refine sq (o_pv (.int .i64 (i14 + (1 : Int))) rfl (by kernel_rfl) ?_)
          refine nil_ ?_
          refine then_normal (hA414 _ _ _ ⟨_, [(5, (.int .i64 (i14 + (1 : Int))))], hp.2, fit_mk (AgB.nest (AgB.look (AgB.mix _ _ _) (by kernel_rfl)) (by kernel_rfl) (by kernel_rfl)) (by kernel_rfl) (vs_cons (by kernel_rfl) vs_nil), ?_⟩)
          exact ⟨X609, (i14 + (1 : Int)), rfl, rfl, E613, hXo614, hS615, ha616, hb617, h806, hp.1⟩
    ·
      replace hp := hp.2 h422
      refine wp_exit ?_
      refine then_exit ?_
      refine then_exit ?_
      refine blk_exit ?_
      refine then_normal (K12 _ _ _ _ ?_)
      refine seq_ (fun _ K807 => ?_)
      refine reg_ ?_
      refine sq (o_pv (.bool true) rfl (by kernel_rfl) ?_)
      refine nil_ ?_
      refine then_normal (K807 _ _ _ _ ?_)
      refine wp_ret ?_
      refine end_ret hQ (.bool true) (by kernel_rfl) ?_
      exact ⟨true, hp, E415, rfl⟩

def rectoref3_Decimal_p0 (R : Int → (ByteArray → Prop) → Prop) (n_ : Int) (Q : ByteArray → Prop) : Prop :=
  ((inR .i64 n_) → (((n_ < (0 : Int)) → (((n_ = (-9223372036854775808 : Int)) → Q (ByteArray.mk #[45, 57, 50, 50, 51, 51, 55, 50, 48, 51, 54, 56, 53, 52, 55, 55, 53, 56, 48, 56])) ∧ ((¬ (n_ = (-9223372036854775808 : Int))) → ((inR .i64 ((0 : Int) - n_)) ∧ (R ((0 : Int) - n_) (fun (r12 : ByteArray) => ((r12.size ≤ maxLen) → ((((ByteArray.mk #[45]) ++ r12).size ≤ maxLen) ∧ Q ((ByteArray.mk #[45]) ++ r12))))))))) ∧ ((¬ (n_ < (0 : Int))) → ((0 ≤ n_) ∧ ((inR .i64 ((48 : Int) + (n_ % (10 : Int)))) ∧ (∃ (I53 : Int → ByteArray → Prop) (m54 : Int → ByteArray → Nat), (I53 n_ (strOfNums ([iwrap .u8 ((48 : Int) + (n_ % (10 : Int)))]))) ∧ (∀ (n_30 : Int) (s32 : ByteArray), (I53 n_30 s32) → (inR .i64 n_30) → (s32.size ≤ maxLen) → (((n_30 ≥ (10 : Int)) → ((0 ≤ n_30) ∧ ((0 ≤ (n_30 / (10 : Int))) ∧ ((inR .i64 ((48 : Int) + ((n_30 / (10 : Int)) % (10 : Int)))) ∧ ((((strOfNums ([iwrap .u8 ((48 : Int) + ((n_30 / (10 : Int)) % (10 : Int)))])) ++ s32).size ≤ maxLen) ∧ ((I53 (n_30 / (10 : Int)) ((strOfNums ([iwrap .u8 ((48 : Int) + ((n_30 / (10 : Int)) % (10 : Int)))])) ++ s32)) ∧ m54 (n_30 / (10 : Int)) ((strOfNums ([iwrap .u8 ((48 : Int) + ((n_30 / (10 : Int)) % (10 : Int)))])) ++ s32) < m54 n_30 s32)))))) ∧ ((¬ (n_30 ≥ (10 : Int))) → Q s32)))))))))
set_option maxRecDepth 20000 in
set_option maxHeartbeats 4000000 in
theorem rectoref3_Decimal_w0 {R : Int → (ByteArray → Prop) → Prop} (hR : ∀ {X : List Nat} {w : World} {n_ : Int} {Q : ByteArray → Prop} (hX0 : Old X w) (rn_1 : inR .i64 n_) (_hp : R n_ Q), Calls Tryd.prog 28 #[(.int .i64 n_)] w (Ret fun v w' => ∃ (r0 : ByteArray), Q r0 ∧ Evo [] w w' ∧ v = (.string r0) ∧ r0.size ≤ maxLen)) {X : List Nat} {w : World} {n_ : Int} {Q : ByteArray → Prop} (hX0 : Old X w) (rn_1 : inR .i64 n_) (hp : rectoref3_Decimal_p0 R n_ Q) :
    Calls Tryd.prog 28 #[(.int .i64 n_)] w (Ret fun v w' => ∃ (r0 : ByteArray), Q r0 ∧ Evo [] w w' ∧ v = (.string r0) ∧ r0.size ≤ maxLen) := by
  have hXo := hX0
  have E0 : Evo [] w w := RB.refl _ _ _
  have hS : Sub X X := Sub.refl _
  unfold rectoref3_Decimal_p0 at hp
  refine enter_ Tryd.func28 rfl 31 [(0, (.int .i64 n_))] (by kernel_rfl) (fun Qe hQ => ?_)
  replace hp := hp rn_1
  refine seq_ (fun _ K2 => ?_)
  refine reg_ ?_
  refine sq (o_pv (.string (ByteArray.mk #[])) rfl (by kernel_rfl) ?_)
  refine nil_ ?_
  refine then_normal (K2 _ _ _ _ ?_)
  refine seq_ (fun _ K3 => ?_)
  refine seq_ (fun _ K4 => ?_)
  refine reg_ ?_
  refine sq (o_pv (.int .i64 n_) rfl (by kernel_rfl) ?_)
  refine sq (o_pv (.bool (decide (n_ < (0 : Int)))) rfl (by kernel_rfl) ?_)
  refine nil_ ?_
  refine then_normal (K4 _ _ _ _ ?_)
  refine cond_d (n_ < (0 : Int)) (by kernel_rfl) (fun h5 => ?_) (fun h5 => ?_)
  ·
    replace hp := hp.1 h5
    refine seq_ (fun _ K6 => ?_)
    refine seq_ (fun _ K7 => ?_)
    refine reg_ ?_
    refine sq (o_pv (.int .i64 n_) rfl (by kernel_rfl) ?_)
    refine sq (o_pv (.bool (decide (n_ = (-9223372036854775808 : Int)))) rfl (by kernel_rfl) ?_)
    refine nil_ ?_
    refine then_normal (K7 _ _ _ _ ?_)
    refine cond_d (n_ = (-9223372036854775808 : Int)) (by kernel_rfl) (fun h8 => ?_) (fun h8 => ?_)
    ·
      replace hp := hp.1 h8
      refine seq_ (fun _ K9 => ?_)
      refine reg_ ?_
      refine sq (o_pv (.string (ByteArray.mk #[45, 57, 50, 50, 51, 51, 55, 50, 48, 51, 54, 56, 53, 52, 55, 55, 53, 56, 48, 56])) rfl (by kernel_rfl) ?_)
      refine nil_ ?_
      refine then_normal (K9 _ _ _ _ ?_)
      refine wp_ret ?_
      refine then_ret ?_
      refine then_ret ?_
      refine end_ret hQ (.string (ByteArray.mk #[45, 57, 50, 50, 51, 51, 55, 50, 48, 51, 54, 56, 53, 52, 55, 55, 53, 56, 48, 56])) (by kernel_rfl) ?_
      exact ⟨(ByteArray.mk #[45, 57, 50, 50, 51, 51, 55, 50, 48, 51, 54, 56, 53, 52, 55, 55, 53, 56, 48, 56]), hp, E0, rfl, (by decide : (ByteArray.mk #[45, 57, 50, 50, 51, 51, 55, 50, 48, 51, 54, 56, 53, 52, 55, 55, 53, 56, 48, 56]).size ≤ maxLen)⟩
    ·
      replace hp := hp.2 h8
      refine wp_skip ?_
      refine then_normal (K6 _ _ _ _ ?_)
      refine seq_ (fun _ K10 => ?_)
      refine reg_ ?_
      refine sq (o_pv (.int .i64 n_) rfl (by kernel_rfl) ?_)
      obtain ⟨h11, hp⟩ := hp
      refine sq (o_pv (.int .i64 ((0 : Int) - n_)) rfl (x_sub2 (k := .i64) (a := (0 : Int)) (b := n_) ((0 : Int) - n_) (by kernel_rfl) (by kernel_rfl) (wrap_inR h11)) ?_)
      refine sq (o_call 28 #[(.int .i64 ((0 : Int) - n_))] rfl (x_call Tryd.call28 (by kernel_rfl)) (hR (X := []) (n_ := (0 : Int) - n_) (Old.nil _) h11 hp) ?_)
      rintro _ w13 ⟨r12, hp, e14, rfl, zr16⟩
      have s15 := Step.of0 X e14
      replace hp := hp zr16
      obtain ⟨h17, hp⟩ := hp
      refine sq (o_pv (.string ((ByteArray.mk #[45]) ++ r12)) rfl (x_cat (by kernel_rfl) (by kernel_rfl) h17) ?_)
      refine sq (o_pv (.string ((ByteArray.mk #[45]) ++ r12)) rfl (by kernel_rfl) ?_)
      refine nil_ ?_
      refine then_normal (K10 _ _ _ _ ?_)
      refine wp_ret ?_
      refine then_ret ?_
      have E18 := (Evo.then0 E0 e14)
      refine end_ret hQ (.string ((ByteArray.mk #[45]) ++ r12)) (by kernel_rfl) ?_
      exact ⟨((ByteArray.mk #[45]) ++ r12), hp, E18, rfl, h17⟩
  ·
    replace hp := hp.2 h5
    refine wp_skip ?_
    refine then_normal (K3 _ _ _ _ ?_)
    refine seq_ (fun _ K19 => ?_)
    refine reg_ ?_
    refine sq (o_pv (.int .i64 n_) rfl (by kernel_rfl) ?_)
    obtain ⟨h20, hp⟩ := hp
    refine sq (o_pv (.int .i64 (n_ % (10 : Int))) rfl (x_rem2 (k := .i64) (a := n_) (b := (10 : Int)) (n_ % (10 : Int)) (by kernel_rfl) (by kernel_rfl) h20 (by decide) rfl (wrap_inR (inR_rem h20 (by decide) rn_1 (by decide : inR .i64 (10 : Int))))) ?_)
    obtain ⟨h21, hp⟩ := hp
    refine sq (o_pv (.int .i64 ((48 : Int) + (n_ % (10 : Int)))) rfl (x_add2 (k := .i64) (a := (48 : Int)) (b := n_ % (10 : Int)) ((48 : Int) + (n_ % (10 : Int))) (by kernel_rfl) (by kernel_rfl) (wrap_inR h21)) ?_)
    refine sq (o_pv (.int .u8 (iwrap .u8 ((48 : Int) + (n_ % (10 : Int))))) rfl (x_convw (k := .i64) Tryd.underlying3 Tryd.underlying5 (by kernel_rfl)) ?_)
    refine sq (o_rowX (R := (rInt .u8)) [(.int .u8 (iwrap .u8 ((48 : Int) + (n_ % (10 : Int)))))] [iwrap .u8 ((48 : Int) + (n_ % (10 : Int)))] 5 1 (X := X) (B := w.heap.size) E0.size rfl (by kernel_rfl) (Flat.cons (cs := [(.int .u8 (iwrap .u8 ((48 : Int) + (n_ % (10 : Int)))))]) (rInt_mk (inR_iwrap _ _)) Flat.nil) rfl (by decide) ?_)
    intro b22 w23 X24 s25 O26 n27
    have hl28 := OS.len O26
    refine sq (o_pv (.string (strOfNums ([iwrap .u8 ((48 : Int) + (n_ % (10 : Int)))]))) rfl (x_b2s_sl (a := (some ⟨b22, 0, none⟩)) (len := 1) (c := 1) ([iwrap .u8 ((48 : Int) + (n_ % (10 : Int)))]) Tryd.underlying64 Tryd.underlying5 Tryd.underlying9 (by kernel_rfl) O26.1 (OS.rd O26)) ?_)
    refine sq (o_pv (.string (strOfNums ([iwrap .u8 ((48 : Int) + (n_ % (10 : Int)))]))) rfl (by kernel_rfl) ?_)
    refine nil_ ?_
    refine then_normal (K19 _ _ _ _ ?_)
    refine seq_ (fun _ K29 => ?_)
    refine wp_block ?_
    have hXo63 := (Old.step hXo s25)
    have E64 := (Evo.then0 E0 (Step.evo s25))
    have hS65 := (Sub.trans hS (Step.up s25))
    obtain ⟨I53, m54, hI55, hp⟩ := hp
    refine loop_ 1073479689 (fun kq lq w57 => ∃ (X58 : List Nat) (n_30 : Int) (s32 : ByteArray), (lq = [(0, (.int .i64 n_30)), (3, (.string s32))]) ∧ (kq = m54 n_30 s32) ∧ (Evo [] w w57) ∧ (Old X58 w57) ∧ (Sub X X58) ∧ (inR .i64 n_30) ∧ (s32.size ≤ maxLen) ∧ (I53 n_30 s32)) (m54 n_ (strOfNums ([iwrap .u8 ((48 : Int) + (n_ % (10 : Int)))]))) [(0, (.int .i64 n_)), (3, (.string (strOfNums ([iwrap .u8 ((48 : Int) + (n_ % (10 : Int)))]))))] (vs_cons (by kernel_rfl) (vs_cons (by kernel_rfl) vs_nil)) ⟨X24, n_, (strOfNums ([iwrap .u8 ((48 : Int) + (n_ % (10 : Int)))])), rfl, rfl, E64, hXo63, hS65, rn_1, (strOfNums_le hl28), hI55⟩ ?_
    rintro _ _ w57 g60 ⟨X58, n_30, s32, rfl, rfl, E66, hXo67, hS68, rn_31, zs33, hI56⟩ Kl61 hA62
    replace hp := hp n_30 s32 hI56 rn_31 zs33
    refine seq_ (fun _ K69 => ?_)
    refine seq_ (fun _ K70 => ?_)
    refine reg_ ?_
    refine sq (o_pv (.int .i64 n_30) rfl (by kernel_rfl) ?_)
    refine sq (o_pv (.bool (decide (n_30 ≥ (10 : Int)))) rfl (by kernel_rfl) ?_)
    refine nil_ ?_
    refine then_normal (K70 _ _ _ _ ?_)
    refine cond_d (n_30 ≥ (10 : Int)) (by kernel_rfl) (fun h71 => ?_) (fun h71 => ?_)
    ·
      replace hp := hp.1 h71
      refine wp_skip ?_
      refine then_normal (K69 _ _ _ _ ?_)
      refine wp_block ?_
      refine seq_ (fun _ K72 => ?_)
      refine reg_ ?_
      refine sq (o_pv (.int .i64 n_30) rfl (by kernel_rfl) ?_)
      obtain ⟨h73, hp⟩ := hp
      refine sq (o_pv (.int .i64 (n_30 / (10 : Int))) rfl (x_quo2 (k := .i64) (a := n_30) (b := (10 : Int)) (n_30 / (10 : Int)) (by kernel_rfl) (by kernel_rfl) h73 (by decide) rfl (wrap_inR (inR_quo h73 (by decide) rn_31 (by decide : inR .i64 (10 : Int))))) ?_)
      refine sq (o_pv (.int .i64 (n_30 / (10 : Int))) rfl (by kernel_rfl) ?_)
      refine nil_ ?_
      refine then_normal (K72 _ _ _ _ ?_)
      refine reg_ ?_
      refine sq (o_pv (.int .i64 (n_30 / (10 : Int))) rfl (by kernel_rfl) ?_)
      obtain ⟨h74, hp⟩ := hp
      refine sq (o_pv (.int .i64 ((n_30 / (10 : Int)) % (10 : Int))) rfl (x_rem2 (k := .i64) (a := n_30 / (10 : Int)) (b := (10 : Int)) ((n_30 / (10 : Int)) % (10 : Int)) (by kernel_rfl) (by kernel_rfl) h74 (by decide) rfl (wrap_inR (inR_rem h74 (by decide) (inR_quo h73 (by decide) rn_31 (by decide : inR .i64 (10 : Int))) (by decide : inR .i64 (10 : Int))))) ?_)
      obtain ⟨h75, hp⟩ := hp
      refine sq (o_pv (.int .i64 ((48 : Int) + ((n_30 / (10 : Int)) % (10 : Int)))) rfl (x_add2 (k := .i64) (a := (48 : Int)) (b := (n_30 / (10 : Int)) % (10 : Int)) ((48 : Int) + ((n_30 / (10 : Int)) % (10 : Int))) (by kernel_rfl) (by kernel_rfl) (wrap_inR h75)) ?_)
      refine sq (o_pv (.int .u8 (iwrap .u8 ((48 : Int) + ((n_30 / (10 : Int)) % (10 : Int))))) rfl (x_convw (k := .i64) Tryd.underlying3 Tryd.underlying5 (by kernel_rfl)) ?_)
      refine sq (o_rowX (R := (rInt .u8)) [(.int .u8 (iwrap .u8 ((48 : Int) + ((n_30 / (10 : Int)) % (10 : Int)))))] [iwrap .u8 ((48 : Int) + ((n_30 / (10 : Int)) % (10 : Int)))] 5 1 (X := X58) (B := w.heap.size) E66.size rfl (by kernel_rfl) (Flat.cons (cs := [(.int .u8 (iwrap .u8 ((48 : Int) + ((n_30 / (10 : Int)) % (10 : Int)))))]) (rInt_mk (inR_iwrap _ _)) Flat.nil) rfl (by decide) ?_)
      intro b76 w77 X78 s79 O80 n81
      have hl82 := OS.len O80
      refine sq (o_pv (.string (strOfNums ([iwrap .u8 ((48 : Int) + ((n_30 / (10 : Int)) % (10 : Int)))]))) rfl (x_b2s_sl (a := (some ⟨b76, 0, none⟩)) (len := 1) (c := 1) ([iwrap .u8 ((48 : Int) + ((n_30 / (10 : Int)) % (10 : Int)))]) Tryd.underlying64 Tryd.underlying5 Tryd.underlying9 (by kernel_rfl) O80.1 (OS.rd O80)) ?_)
      refine sq (o_pv (.string s32) rfl (by kernel_rfl) ?_)
      obtain ⟨h83, hp⟩ := hp
      refine sq (o_pv (.string ((strOfNums ([iwrap .u8 ((48 : Int) + ((n_30 / (10 : Int)) % (10 : Int)))])) ++ s32)) rfl (x_cat (by kernel_rfl) (by kernel_rfl) h83) ?_)
      refine sq (o_pv (.string ((strOfNums ([iwrap .u8 ((48 : Int) + ((n_30 / (10 : Int)) % (10 : Int)))])) ++ s32)) rfl (by kernel_rfl) ?_)
      refine nil_ ?_
      refine blk_normal ?_
      have E84 := (Evo.then0 E66 (Step.evo s79))
      have hXo85 := (Old.step hXo67 s79)
      have hS86 := (Sub.trans hS68 (Step.up s79))
      refine then_normal (hA62 _ _ _ ⟨_, [(0, (.int .i64 (n_30 / (10 : Int)))), (3, (.string ((strOfNums ([iwrap .u8 ((48 : Int) + ((n_30 / (10 : Int)) % (10 : Int)))])) ++ s32)))], hp.2, fit_mk (AgB.mix _ _ _) (by kernel_rfl) (vs_cons (by kernel_rfl) (vs_cons (by kernel_rfl) vs_nil)), ?_⟩)
      exact ⟨X78, (n_30 / (10 : Int)), ((strOfNums ([iwrap .u8 ((48 : Int) + ((n_30 / (10 : Int)) % (10 : Int)))])) ++ s32), rfl, rfl, E84, hXo85, hS86, (inR_quo h73 (by decide) rn_31 (by decide : inR .i64 (10 : Int))), h83, hp.1⟩
    ·
      replace hp := hp.2 h71
      refine wp_exit ?_
      refine then_exit ?_
      refine then_exit ?_
      refine blk_exit ?_
      refine then_normal (K29 _ _ _ _ ?_)
      refine seq_ (fun _ K87 => ?_)
      refine reg_ ?_
      refine sq (o_pv (.string s32) rfl (by kernel_rfl) ?_)
      refine sq (o_pv (.string s32) rfl (by kernel_rfl) ?_)
      refine nil_ ?_
      refine then_normal (K87 _ _ _ _ ?_)
      refine wp_ret ?_
      refine end_ret hQ (.string s32) (by kernel_rfl) ?_
      exact ⟨s32, hp, E66, rfl, zs33⟩
def rectoref3_Decimal_pk : Nat → Int → (ByteArray → Prop) → Prop
  | 0 => fun _ _ => False
  | k + 1 => rectoref3_Decimal_p0 (rectoref3_Decimal_pk k)
theorem rectoref3_Decimal_wk : ∀ (k : Nat) {X : List Nat} {w : World} {n_ : Int} {Q : ByteArray → Prop} (hX0 : Old X w) (rn_1 : inR .i64 n_) (_hp : rectoref3_Decimal_pk k n_ Q), Calls Tryd.prog 28 #[(.int .i64 n_)] w (Ret fun v w' => ∃ (r0 : ByteArray), Q r0 ∧ Evo [] w w' ∧ v = (.string r0) ∧ r0.size ≤ maxLen) := by
  intro k
  induction k with
  | zero => intro _ _ _ _ _ _ hp; exact hp.elim
  | succ k ih => intro X w n_ Q hX0 rn_1 hp; exact rectoref3_Decimal_w0 (R := rectoref3_Decimal_pk k) (fun hX0 rn_1 hp => ih hX0 rn_1 hp) hX0 rn_1 hp
def rectoref3_Decimal_p (n_ : Int) (Q : ByteArray → Prop) : Prop := ∃ k, rectoref3_Decimal_pk k n_ Q
theorem rectoref3_Decimal_w {X : List Nat} {w : World} {n_ : Int} {Q : ByteArray → Prop} (hX0 : Old X w) (rn_1 : inR .i64 n_) (hp : rectoref3_Decimal_p n_ Q) :
    Calls Tryd.prog 28 #[(.int .i64 n_)] w (Ret fun v w' => ∃ (r0 : ByteArray), Q r0 ∧ Evo [] w w' ∧ v = (.string r0) ∧ r0.size ≤ maxLen) := by
  obtain ⟨k, hp⟩ := hp
  exact rectoref3_Decimal_wk k hX0 rn_1 hp

def rectoref11_ended_p (s : ByteArray) (Q : ByteArray → Prop) : Prop :=
  ((s.size ≤ maxLen) → (((((s.size : Int) > (0 : Int)) → ((inR .i64 ((s.size : Int) - (1 : Int))) ∧ ((0 ≤ ((s.size : Int) - (1 : Int)) ∧ ((s.size : Int) - (1 : Int)) < (s.size : Int)) ∧ True))) ∧ ((¬ ((s.size : Int) > (0 : Int))) → True)) ∧ (((((s.size : Int) > (0 : Int)) ∧ ((bget s ((s.size : Int) - (1 : Int))) = (10 : Int))) → Q s) ∧ ((¬ (((s.size : Int) > (0 : Int)) ∧ ((bget s ((s.size : Int) - (1 : Int))) = (10 : Int)))) → (((s ++ (ByteArray.mk #[10])).size ≤ maxLen) ∧ Q (s ++ (ByteArray.mk #[10])))))))
set_option maxRecDepth 20000 in
set_option maxHeartbeats 4000000 in
theorem rectoref11_ended_w {X : List Nat} {w : World} {s : ByteArray} {Q : ByteArray → Prop} (hX0 : Old X w) (zs1 : s.size ≤ maxLen) (hp : rectoref11_ended_p s Q) :
    Calls Tryd.prog 29 #[(.string s)] w (Ret fun v w' => ∃ (r0 : ByteArray), Q r0 ∧ Evo [] w w' ∧ v = (.string r0) ∧ r0.size ≤ maxLen) := by
  have hXo := hX0
  have E0 : Evo [] w w := RB.refl _ _ _
  have hS : Sub X X := Sub.refl _
  unfold rectoref11_ended_p at hp
  refine enter_ Tryd.func29 rfl 17 [(0, (.string s))] (by kernel_rfl) (fun Qe hQ => ?_)
  replace hp := hp zs1
  refine seq_ (fun _ K2 => ?_)
  refine reg_ ?_
  refine sq (o_pv (.string (ByteArray.mk #[])) rfl (by kernel_rfl) ?_)
  refine nil_ ?_
  refine then_normal (K2 _ _ _ _ ?_)
  refine seq_ (fun _ K3 => ?_)
  refine seq_ (fun _ K4 => ?_)
  obtain ⟨hp, hq⟩ := hp
  refine ground_ ?_
  refine join_ 16376 (fun lq w10 => lq = [(13, (.bool (decide (((s.size : Int) > (0 : Int)) ∧ ((bget s ((s.size : Int) - (1 : Int))) = (10 : Int))))))] ∧ w = w10) (fun Kj8 hJ9 => ?_) ?_
  ·
    refine reg_ ?_
    refine sq (o_pv (.string s) rfl (by kernel_rfl) ?_)
    refine sq (o_pv (.int .i64 (s.size : Int)) rfl (by kernel_rfl) ?_)
    by_cases h12 : (s.size : Int) > (0 : Int)
    ·
      replace hp := hp.1 h12
      refine sq (o_pv (.bool true) rfl (x_dt (p := (s.size : Int) > (0 : Int)) (by kernel_rfl) h12) ?_)
      refine sq (o_pv (.bool true) rfl (by kernel_rfl) ?_)
      refine sq (o_pv (.string s) (by kernel_rfl) (by kernel_rfl) ?_)
      refine sq (o_pv (.string s) (by kernel_rfl) (by kernel_rfl) ?_)
      refine sq (o_pv (.int .i64 (s.size : Int)) (by kernel_rfl) (by kernel_rfl) ?_)
      obtain ⟨h13, hp⟩ := hp
      refine sq (o_pv (.int .i64 ((s.size : Int) - (1 : Int))) (by kernel_rfl) (x_sub2 (k := .i64) (a := (s.size : Int)) (b := (1 : Int)) ((s.size : Int) - (1 : Int)) (by kernel_rfl) (by kernel_rfl) (wrap_inR h13)) ?_)
      obtain ⟨h14, hp⟩ := hp
      refine sq (o_pv (.int .u8 (bget s ((s.size : Int) - (1 : Int)))) (by kernel_rfl) (x_bget (k := .i64) (by kernel_rfl) (by kernel_rfl) Tryd.underlying9 h14) ?_)
      refine sq (o_pv (.bool (decide ((bget s ((s.size : Int) - (1 : Int))) = (10 : Int)))) (by kernel_rfl) (by kernel_rfl) ?_)
      refine sq (o_pv (.bool (decide ((bget s ((s.size : Int) - (1 : Int))) = (10 : Int)))) rfl (by kernel_rfl) ?_)
      refine nil_ ?_
      refine then_normal (hJ9 _ _ _ ⟨[(13, (.bool (decide (((s.size : Int) > (0 : Int)) ∧ ((bget s ((s.size : Int) - (1 : Int))) = (10 : Int))))))], fit_mk (fun _ _ => rfl) (by kernel_rfl) (vs_cons (Eq.trans (b := (.bool (decide ((bget s ((s.size : Int) - (1 : Int))) = (10 : Int))))) (by kernel_rfl) (dec_d ((and_iff_right h12).trans Iff.rfl)).symm) vs_nil), rfl, rfl⟩)
    ·
      replace hp := hp.2 h12
      refine sq (o_pv (.bool false) rfl (x_df (p := (s.size : Int) > (0 : Int)) (by kernel_rfl) h12) ?_)
      refine sq (o_pv (.bool false) rfl (by kernel_rfl) ?_)
      refine sq (o_not (by kernel_rfl) ?_)
      refine sq (o_not (by kernel_rfl) ?_)
      refine sq (o_not (by kernel_rfl) ?_)
      refine sq (o_not (by kernel_rfl) ?_)
      refine sq (o_not (by kernel_rfl) ?_)
      refine sq (o_not (by kernel_rfl) ?_)
      refine sq (o_pv (.bool false) rfl (by kernel_rfl) ?_)
      refine nil_ ?_
      refine then_normal (hJ9 _ _ _ ⟨[(13, (.bool (decide (((s.size : Int) > (0 : Int)) ∧ ((bget s ((s.size : Int) - (1 : Int))) = (10 : Int))))))], fit_mk (fun _ _ => rfl) (by kernel_rfl) (vs_cons (Eq.trans (b := (.bool false)) (by kernel_rfl) (dec_f (iff_false_intro (fun h => h12 h.1))).symm) vs_nil), rfl, rfl⟩)
  ·
    rintro _ w10 g11 ⟨rfl, hw⟩
    subst hw
    have hp := hq
    refine then_normal (K4 _ _ _ _ ?_)
    refine cond_d (((s.size : Int) > (0 : Int)) ∧ ((bget s ((s.size : Int) - (1 : Int))) = (10 : Int))) (by kernel_rfl) (fun h15 => ?_) (fun h15 => ?_)
    ·
      replace hp := hp.1 h15
      refine seq_ (fun _ K16 => ?_)
      refine reg_ ?_
      refine sq (o_pv (.string s) rfl (by kernel_rfl) ?_)
      refine sq (o_pv (.string s) rfl (by kernel_rfl) ?_)
      refine nil_ ?_
      refine then_normal (K16 _ _ _ _ ?_)
      refine wp_ret ?_
      refine then_ret ?_
      refine end_ret hQ (.string s) (by kernel_rfl) ?_
      exact ⟨s, hp, E0, rfl, zs1⟩
    ·
      replace hp := hp.2 h15
      refine wp_skip ?_
      refine then_normal (K3 _ _ _ _ ?_)
      refine seq_ (fun _ K17 => ?_)
      refine reg_ ?_
      refine sq (o_pv (.string s) rfl (by kernel_rfl) ?_)
      obtain ⟨h18, hp⟩ := hp
      refine sq (o_pv (.string (s ++ (ByteArray.mk #[10]))) rfl (x_cat (by kernel_rfl) (by kernel_rfl) h18) ?_)
      refine sq (o_pv (.string (s ++ (ByteArray.mk #[10]))) rfl (by kernel_rfl) ?_)
      refine nil_ ?_
      refine then_normal (K17 _ _ _ _ ?_)
      refine wp_ret ?_
      refine end_ret hQ (.string (s ++ (ByteArray.mk #[10]))) (by kernel_rfl) ?_
      exact ⟨(s ++ (ByteArray.mk #[10])), hp, E0, rfl, h18⟩

def rectoref11_HunkText_p (h : (List S_rectoref11_Hunk)) (Q : ByteArray → Prop) : Prop :=
  ((h.length ≤ 9223372036854775807) → (∃ (I258 : ByteArray → Int → Prop) (m259 : ByteArray → Int → Nat), (I258 (ByteArray.mk #[]) (0 : Int)) ∧ (∀ (s8 : ByteArray) (i10 : Int), (I258 s8 i10) → (s8.size ≤ maxLen) → (inR .i64 i10) → (((i10 < (h.length : Int)) → ((inL h i10) ∧ ((inR .i64 ((lget h i10).At)) → ((inR .i64 ((lget h i10).Del)) → ((inR .i64 ((lget h i10).To)) → ((inR .i64 ((lget h i10).Add)) → ((((lget h i10).Lines).length ≤ 9223372036854775807) → (((s8 ++ (ByteArray.mk #[64, 64, 32, 45])).size ≤ maxLen) ∧ (rectoref3_Decimal_p ((lget h i10).At) (fun (r322 : ByteArray) => ((r322.size ≤ maxLen) → ((((s8 ++ (ByteArray.mk #[64, 64, 32, 45])) ++ r322).size ≤ maxLen) ∧ (((((s8 ++ (ByteArray.mk #[64, 64, 32, 45])) ++ r322) ++ (ByteArray.mk #[44])).size ≤ maxLen) ∧ (rectoref3_Decimal_p ((lget h i10).Del) (fun (r330 : ByteArray) => ((r330.size ≤ maxLen) → ((((((s8 ++ (ByteArray.mk #[64, 64, 32, 45])) ++ r322) ++ (ByteArray.mk #[44])) ++ r330).size ≤ maxLen) ∧ (((((((s8 ++ (ByteArray.mk #[64, 64, 32, 45])) ++ r322) ++ (ByteArray.mk #[44])) ++ r330) ++ (ByteArray.mk #[32, 43])).size ≤ maxLen) ∧ (rectoref3_Decimal_p ((lget h i10).To) (fun (r338 : ByteArray) => ((r338.size ≤ maxLen) → ((((((((s8 ++ (ByteArray.mk #[64, 64, 32, 45])) ++ r322) ++ (ByteArray.mk #[44])) ++ r330) ++ (ByteArray.mk #[32, 43])) ++ r338).size ≤ maxLen) ∧ (((((((((s8 ++ (ByteArray.mk #[64, 64, 32, 45])) ++ r322) ++ (ByteArray.mk #[44])) ++ r330) ++ (ByteArray.mk #[32, 43])) ++ r338) ++ (ByteArray.mk #[44])).size ≤ maxLen) ∧ (rectoref3_Decimal_p ((lget h i10).Add) (fun (r346 : ByteArray) => ((r346.size ≤ maxLen) → ((((((((((s8 ++ (ByteArray.mk #[64, 64, 32, 45])) ++ r322) ++ (ByteArray.mk #[44])) ++ r330) ++ (ByteArray.mk #[32, 43])) ++ r338) ++ (ByteArray.mk #[44])) ++ r346).size ≤ maxLen) ∧ (((((((((((s8 ++ (ByteArray.mk #[64, 64, 32, 45])) ++ r322) ++ (ByteArray.mk #[44])) ++ r330) ++ (ByteArray.mk #[32, 43])) ++ r338) ++ (ByteArray.mk #[44])) ++ r346) ++ (ByteArray.mk #[32, 64, 64, 10])).size ≤ maxLen) ∧ (∃ (I424 : ByteArray → Int → Prop) (m425 : ByteArray → Int → Nat), (I424 (((((((((s8 ++ (ByteArray.mk #[64, 64, 32, 45])) ++ r322) ++ (ByteArray.mk #[44])) ++ r330) ++ (ByteArray.mk #[32, 43])) ++ r338) ++ (ByteArray.mk #[44])) ++ r346) ++ (ByteArray.mk #[32, 64, 64, 10])) (0 : Int)) ∧ (∀ (s355 : ByteArray) (k357 : Int), (I424 s355 k357) → (s355.size ≤ maxLen) → (inR .i64 k357) → (((k357 < (((lget h i10).Lines).length : Int)) → ((inL ((lget h i10).Lines) k357) ∧ ((inR .i64 ((lget ((lget h i10).Lines) k357).Op)) → ((((lget ((lget h i10).Lines) k357).Line).size ≤ maxLen) → (∃ k470 : ByteArray → Prop, (∀ (sign468 : ByteArray), k470 sign468 → (sign468.size ≤ maxLen) → (((s355 ++ sign468).size ≤ maxLen) ∧ ((inL ((lget h i10).Lines) k357) ∧ ((inR .i64 ((lget ((lget h i10).Lines) k357).Op)) → ((((lget ((lget h i10).Lines) k357).Line).size ≤ maxLen) → (rectoref11_ended_p ((lget ((lget h i10).Lines) k357).Line) (fun (r500 : ByteArray) => ((r500.size ≤ maxLen) → ((((s355 ++ sign468) ++ r500).size ≤ maxLen) ∧ ((inR .i64 (k357 + (1 : Int))) ∧ ((I424 ((s355 ++ sign468) ++ r500) (k357 + (1 : Int))) ∧ m425 ((s355 ++ sign468) ++ r500) (k357 + (1 : Int)) < m425 s355 k357))))))))))) ∧ (((((lget ((lget h i10).Lines) k357).Op) = (2 : Int)) → (k470 (ByteArray.mk #[45]))) ∧ ((¬ (((lget ((lget h i10).Lines) k357).Op) = (2 : Int))) → (((((lget ((lget h i10).Lines) k357).Op) = (3 : Int)) → (k470 (ByteArray.mk #[43]))) ∧ ((¬ (((lget ((lget h i10).Lines) k357).Op) = (3 : Int))) → (k470 (ByteArray.mk #[32]))))))))))) ∧ ((¬ (k357 < (((lget h i10).Lines).length : Int))) → ((inR .i64 (i10 + (1 : Int))) ∧ ((I258 s355 (i10 + (1 : Int))) ∧ m259 s355 (i10 + (1 : Int)) < m259 s8 i10)))))))))))))))))))))))))))))))))) ∧ ((¬ (i10 < (h.length : Int))) → Q s8)))))
set_option maxRecDepth 20000 in
set_option maxHeartbeats 4000000 in
theorem rectoref11_HunkText_w {X : List Nat} {w : World} {h : (List S_rectoref11_Hunk)} {ah1 : Option Addr} {ch2 : Nat} {Q : ByteArray → Prop} (hX0 : Old X w) (hh3 : Sl r_rectoref11_Hunk X w ah1 ch2 h) (hp : rectoref11_HunkText_p h Q) :
    Calls Tryd.prog 12 #[(.slice ah1 h.length ch2)] w (Ret fun v w' => ∃ (r0 : ByteArray), Q r0 ∧ Evo [] w w' ∧ v = (.string r0) ∧ r0.size ≤ maxLen) := by
  have hXo := hX0
  have E0 : Evo [] w w := RB.refl _ _ _
  have hS : Sub X X := Sub.refl _
  unfold rectoref11_HunkText_p at hp
  refine enter_ Tryd.func12 rfl 69 [(0, (.slice ah1 h.length ch2))] (by kernel_rfl) (fun Qe hQ => ?_)
  replace hp := hp (Sl.len hh3)
  refine seq_ (fun _ K4 => ?_)
  refine reg_ ?_
  refine sq (o_pv (.string (ByteArray.mk #[])) rfl (by kernel_rfl) ?_)
  refine nil_ ?_
  refine then_normal (K4 _ _ _ _ ?_)
  refine seq_ (fun _ K5 => ?_)
  refine reg_ ?_
  refine sq (o_pv (.string (ByteArray.mk #[])) rfl (by kernel_rfl) ?_)
  refine nil_ ?_
  refine then_normal (K5 _ _ _ _ ?_)
  refine seq_ (fun _ K6 => ?_)
  refine seq_ (fun _ K7 => ?_)
  refine reg_ ?_
  refine sq (o_pv (.int .i64 (0 : Int)) rfl (by kernel_rfl) ?_)
  refine nil_ ?_
  refine then_normal (K7 _ _ _ _ ?_)
  refine wp_block ?_
  obtain ⟨I258, m259, hI260, hp⟩ := hp
  refine loop_ 295147905179352825848 (fun kq lq w262 => ∃ (X263 : List Nat) (s8 : ByteArray) (i10 : Int), (lq = [(3, (.string s8)), (4, (.int .i64 i10))]) ∧ (kq = m259 s8 i10) ∧ (Evo [] w w262) ∧ (Old X263 w262) ∧ (Sub X X263) ∧ (Sl r_rectoref11_Hunk X263 w262 ah1 ch2 h) ∧ (s8.size ≤ maxLen) ∧ (inR .i64 i10) ∧ (I258 s8 i10)) (m259 (ByteArray.mk #[]) (0 : Int)) [(3, (.string (ByteArray.mk #[]))), (4, (.int .i64 (0 : Int)))] (vs_cons (by kernel_rfl) (vs_cons (by kernel_rfl) vs_nil)) ⟨X, (ByteArray.mk #[]), (0 : Int), rfl, rfl, E0, hXo, hS, hh3, (by decide : (ByteArray.mk #[]).size ≤ maxLen), (by decide : inR .i64 (0 : Int)), hI260⟩ ?_
  rintro _ _ w262 g265 ⟨X263, s8, i10, rfl, rfl, E268, hXo269, hS270, hh271, zs9, ri11, hI261⟩ Kl266 hA267
  replace hp := hp s8 i10 hI261 zs9 ri11
  refine seq_ (fun _ K272 => ?_)
  refine seq_ (fun _ K273 => ?_)
  refine reg_ ?_
  refine sq (o_pv (.int .i64 i10) rfl (by kernel_rfl) ?_)
  refine sq (o_pv (.slice ah1 h.length ch2) rfl (by kernel_rfl) ?_)
  refine sq (o_pv (.int .i64 (h.length : Int)) rfl (by kernel_rfl) ?_)
  refine sq (o_pv (.bool (decide (i10 < (h.length : Int)))) rfl (by kernel_rfl) ?_)
  refine nil_ ?_
  refine then_normal (K273 _ _ _ _ ?_)
  refine cond_d (i10 < (h.length : Int)) (by kernel_rfl) (fun h274 => ?_) (fun h274 => ?_)
  ·
    replace hp := hp.1 h274
    refine wp_skip ?_
    refine then_normal (K272 _ _ _ _ ?_)
    refine seq_ (fun _ K275 => ?_)
    refine wp_block ?_
    refine seq_ (fun _ K276 => ?_)
    refine reg_ ?_
    refine sq (o_pv (.slice ah1 h.length ch2) rfl (by kernel_rfl) ?_)
    refine sq (o_pv (.int .i64 i10) rfl (by kernel_rfl) ?_)
    obtain ⟨h277, hp⟩ := hp
    obtain ⟨b278, o279, cs280, ha281, nx282, lt283, ok284, hc285⟩ := Sl.atI hh271 i10 h277
    obtain ⟨aeLines290, ceLines291, rfl, reAt286, reDel287, reTo288, reAdd289, heLines292⟩ := r_rectoref11_Hunk_open ok284
    replace hp := hp reAt286
    replace hp := hp reDel287
    replace hp := hp reTo288
    replace hp := hp reAdd289
    replace hp := hp (Sl.len heLines292)
    refine sq (o_pv (.pointer (some ⟨b278, o279 + i10.toNat * 5, none⟩)) rfl (x_ixA (m := h.length) (c := ch2) (k := .i64) (i := i10) Tryd.underlying35 Tryd.sizeOf60 (by rw [← ha281]; kernel_rfl) (by kernel_rfl) h277) ?_)
    refine sq (o_pv (.agg #[(.int .i64 ((lget h i10).At)), (.int .i64 ((lget h i10).Del)), (.int .i64 ((lget h i10).To)), (.int .i64 ((lget h i10).Add)), (.slice aeLines290 (((lget h i10).Lines).length) ceLines291)]) rfl (x_loadN [(.int .i64 ((lget h i10).At)), (.int .i64 ((lget h i10).Del)), (.int .i64 ((lget h i10).To)), (.int .i64 ((lget h i10).Add)), (.slice aeLines290 (((lget h i10).Lines).length) ceLines291)] (by kernel_rfl) Tryd.isAgg60 Tryd.sizeOf60 hc285) ?_)
    refine sq (o_newX [(.int .i64 (0 : Int)), (.int .i64 (0 : Int)), (.int .i64 (0 : Int)), (.int .i64 (0 : Int)), (.slice none 0 0)] 60 (X := X263) (B := w.heap.size) E268.size rfl (by kernel_rfl) ?_)
    intro b293 w294 X295 s296 k297 n298
    have E299 := (Evo.then0 E268 (Step.evo s296))
    refine sq (o_stB (o := 0) (v := (.agg #[(.int .i64 ((lget h i10).At)), (.int .i64 ((lget h i10).Del)), (.int .i64 ((lget h i10).To)), (.int .i64 ((lget h i10).Add)), (.slice aeLines290 (((lget h i10).Lines).length) ceLines291)])) [(.int .i64 ((lget h i10).At)), (.int .i64 ((lget h i10).Del)), (.int .i64 ((lget h i10).To)), (.int .i64 ((lget h i10).Add)), (.slice aeLines290 (((lget h i10).Lines).length) ceLines291)] rfl k297 (by kernel_rfl) (by kernel_rfl) Tryd.sizeOf60 rfl rfl rfl ?_)
    intro w300 s301 k302
    refine nil_ ?_
    refine then_normal (K276 _ _ _ _ ?_)
    refine seq_ (fun _ K303 => ?_)
    have E304 := (Evo.thenW E299 (Step.evo s301) k297.2.2)
    have hXo305 := (Old.step (Old.step hXo269 s296) s301)
    have hS306 := (Sub.trans (Sub.trans hS270 (Step.up s296)) (Step.up s301))
    have hh307 := (Sl.step (Sl.step hh271 s296) s301)
    have heLines308 := (Sl.step (Sl.step heLines292 s296) s301)
    refine reg_drawn (RB w300.heap.size []) 22 (by kernel_rfl) (fun w309 hd310 => ?_)
    have e311 := Evo.of_drew hd310
    have z312 : w309.heap.size = w300.heap.size := by rw [hd310]
    clear hd310
    have s314 := Step.of0 X295 e311
    have er313 := RB.refl w300.heap.size [] w309
    have E315 := (Evo.then0 E304 (Step.evo s314))
    have hXo316 := (Old.step hXo305 s314)
    have hS317 := (Sub.trans hS306 (Step.up s314))
    have hh318 := (Sl.step hh307 s314)
    have heLines319 := (Sl.step heLines308 s314)
    have k320 := (OB.step0 k302 s314)
    refine r_take 0 (.string s8) (RB.pre _ _) rfl (by kernel_rfl) (fun _ _ _ h => hQ.panic _ _ _ _ _ h) (.inl ⟨rfl, fun wq hq => (by kernel_rfl)⟩) ?_
    obtain ⟨h321, hp⟩ := hp
    refine r_take 1 (.string (s8 ++ (ByteArray.mk #[64, 64, 32, 45]))) (RB.pre _ _) rfl (by kernel_rfl) (fun _ _ _ h => hQ.panic _ _ _ _ _ h) (.inl ⟨rfl, fun wq hq => (x_cat (by kernel_rfl) (by kernel_rfl) h321)⟩) ?_
    refine r_take 2 (.pointer (some ⟨b293, 0, none⟩)) (RB.pre _ _) rfl (by kernel_rfl) (fun _ _ _ h => hQ.panic _ _ _ _ _ h) (.inl ⟨rfl, fun wq hq => (by kernel_rfl)⟩) ?_
    refine r_take 3 (.int .i64 ((lget h i10).At)) (RB.pre _ _) rfl (by kernel_rfl) (fun _ _ _ h => hQ.panic _ _ _ _ _ h) (.inl ⟨rfl, fun wq hq => (x_load1 (by kernel_rfl) Tryd.isAgg3 ((Blk.rb k320.2.1 (RB.trans er313 hq) (Nat.lt_of_lt_of_eq (Blk.lt k320.2.1) z312) (fun h => by cases h)).cell' 0 rfl))⟩) ?_
    refine r_take 7 (.pointer (some ⟨b293, 1, none⟩)) (RB.pre _ _) rfl (by kernel_rfl) (fun _ _ _ h => hQ.panic _ _ _ _ _ h) (.inl ⟨rfl, fun wq hq => (by kernel_rfl)⟩) ?_
    refine r_take 8 (.int .i64 ((lget h i10).Del)) (RB.pre _ _) rfl (by kernel_rfl) (fun _ _ _ h => hQ.panic _ _ _ _ _ h) (.inl ⟨rfl, fun wq hq => (x_load1 (by kernel_rfl) Tryd.isAgg3 ((Blk.rb k320.2.1 (RB.trans er313 hq) (Nat.lt_of_lt_of_eq (Blk.lt k320.2.1) z312) (fun h => by cases h)).cell' 1 rfl))⟩) ?_
    refine r_take 12 (.pointer (some ⟨b293, 2, none⟩)) (RB.pre _ _) rfl (by kernel_rfl) (fun _ _ _ h => hQ.panic _ _ _ _ _ h) (.inl ⟨rfl, fun wq hq => (by kernel_rfl)⟩) ?_
    refine r_take 13 (.int .i64 ((lget h i10).To)) (RB.pre _ _) rfl (by kernel_rfl) (fun _ _ _ h => hQ.panic _ _ _ _ _ h) (.inl ⟨rfl, fun wq hq => (x_load1 (by kernel_rfl) Tryd.isAgg3 ((Blk.rb k320.2.1 (RB.trans er313 hq) (Nat.lt_of_lt_of_eq (Blk.lt k320.2.1) z312) (fun h => by cases h)).cell' 2 rfl))⟩) ?_
    refine r_take 17 (.pointer (some ⟨b293, 3, none⟩)) (RB.pre _ _) rfl (by kernel_rfl) (fun _ _ _ h => hQ.panic _ _ _ _ _ h) (.inl ⟨rfl, fun wq hq => (by kernel_rfl)⟩) ?_
    refine r_take 18 (.int .i64 ((lget h i10).Add)) (RB.pre _ _) rfl (by kernel_rfl) (fun _ _ _ h => hQ.panic _ _ _ _ _ h) (.inl ⟨rfl, fun wq hq => (x_load1 (by kernel_rfl) Tryd.isAgg3 ((Blk.rb k320.2.1 (RB.trans er313 hq) (Nat.lt_of_lt_of_eq (Blk.lt k320.2.1) z312) (fun h => by cases h)).cell' 3 rfl))⟩) ?_
    refine r_ready [4] (by kernel_rfl) rfl (all_cons ⟨_, _, _, _, _, _, rfl, ?_⟩ all_nil)
    refine o_call 28 #[(.int .i64 ((lget h i10).At))] rfl (x_call Tryd.call28 (by kernel_rfl)) (rectoref3_Decimal_w (X := []) (n_ := (lget h i10).At) (Old.nil _) reAt286 hp) ?_
    rintro _ w323 ⟨r322, hp, e324, rfl, zr326⟩
    have rm := RB.mono (F' := []) e324 (Nat.le_trans (Nat.le_of_eq z312.symm) (RB.size er313)) (fun _ h => by cases h)
    have er327 := RB.trans er313 rm
    refine ⟨fun _ => rm, ?_⟩
    have s325 := Step.of0 X295 e324
    replace hp := hp zr326
    obtain ⟨h328, hp⟩ := hp
    refine r_take 5 (.string ((s8 ++ (ByteArray.mk #[64, 64, 32, 45])) ++ r322)) (RB.pre _ _) rfl (by kernel_rfl) (fun _ _ _ h => hQ.panic _ _ _ _ _ h) (.inl ⟨rfl, fun wq hq => (x_cat (by kernel_rfl) (by kernel_rfl) h328)⟩) ?_
    obtain ⟨h329, hp⟩ := hp
    refine r_take 6 (.string (((s8 ++ (ByteArray.mk #[64, 64, 32, 45])) ++ r322) ++ (ByteArray.mk #[44]))) (RB.pre _ _) rfl (by kernel_rfl) (fun _ _ _ h => hQ.panic _ _ _ _ _ h) (.inl ⟨rfl, fun wq hq => (x_cat (by kernel_rfl) (by kernel_rfl) h329)⟩) ?_
    refine r_ready [9] (by kernel_rfl) rfl (all_cons ⟨_, _, _, _, _, _, rfl, ?_⟩ all_nil)
    refine o_call 28 #[(.int .i64 ((lget h i10).Del))] rfl (x_call Tryd.call28 (by kernel_rfl)) (rectoref3_Decimal_w (X := []) (n_ := (lget h i10).Del) (Old.nil _) reDel287 hp) ?_
    rintro _ w331 ⟨r330, hp, e332, rfl, zr334⟩
    have rm := RB.mono (F' := []) e332 (Nat.le_trans (Nat.le_of_eq z312.symm) (RB.size er327)) (fun _ h => by cases h)
    have er335 := RB.trans er327 rm
    refine ⟨fun _ => rm, ?_⟩
    have s333 := Step.of0 X295 e332
    replace hp := hp zr334
    obtain ⟨h336, hp⟩ := hp
    refine r_take 10 (.string ((((s8 ++ (ByteArray.mk #[64, 64, 32, 45])) ++ r322) ++ (ByteArray.mk #[44])) ++ r330)) (RB.pre _ _) rfl (by kernel_rfl) (fun _ _ _ h => hQ.panic _ _ _ _ _ h) (.inl ⟨rfl, fun wq hq => (x_cat (by kernel_rfl) (by kernel_rfl) h336)⟩) ?_
    obtain ⟨h337, hp⟩ := hp
    refine r_take 11 (.string (((((s8 ++ (ByteArray.mk #[64, 64, 32, 45])) ++ r322) ++ (ByteArray.mk #[44])) ++ r330) ++ (ByteArray.mk #[32, 43]))) (RB.pre _ _) rfl (by kernel_rfl) (fun _ _ _ h => hQ.panic _ _ _ _ _ h) (.inl ⟨rfl, fun wq hq => (x_cat (by kernel_rfl) (by kernel_rfl) h337)⟩) ?_
    refine r_ready [14] (by kernel_rfl) rfl (all_cons ⟨_, _, _, _, _, _, rfl, ?_⟩ all_nil)
    refine o_call 28 #[(.int .i64 ((lget h i10).To))] rfl (x_call Tryd.call28 (by kernel_rfl)) (rectoref3_Decimal_w (X := []) (n_ := (lget h i10).To) (Old.nil _) reTo288 hp) ?_
    rintro _ w339 ⟨r338, hp, e340, rfl, zr342⟩
    have rm := RB.mono (F' := []) e340 (Nat.le_trans (Nat.le_of_eq z312.symm) (RB.size er335)) (fun _ h => by cases h)
    have er343 := RB.trans er335 rm
    refine ⟨fun _ => rm, ?_⟩
    have s341 := Step.of0 X295 e340
    replace hp := hp zr342
    obtain ⟨h344, hp⟩ := hp
    refine r_take 15 (.string ((((((s8 ++ (ByteArray.mk #[64, 64, 32, 45])) ++ r322) ++ (ByteArray.mk #[44])) ++ r330) ++ (ByteArray.mk #[32, 43])) ++ r338)) (RB.pre _ _) rfl (by kernel_rfl) (fun _ _ _ h => hQ.panic _ _ _ _ _ h) (.inl ⟨rfl, fun wq hq => (x_cat (by kernel_rfl) (by kernel_rfl) h344)⟩) ?_
    obtain ⟨h345, hp⟩ := hp
    refine r_take 16 (.string (((((((s8 ++ (ByteArray.mk #[64, 64, 32, 45])) ++ r322) ++ (ByteArray.mk #[44])) ++ r330) ++ (ByteArray.mk #[32, 43])) ++ r338) ++ (ByteArray.mk #[44]))) (RB.pre _ _) rfl (by kernel_rfl) (fun _ _ _ h => hQ.panic _ _ _ _ _ h) (.inl ⟨rfl, fun wq hq => (x_cat (by kernel_rfl) (by kernel_rfl) h345)⟩) ?_
    refine r_ready [19] (by kernel_rfl) rfl (all_cons ⟨_, _, _, _, _, _, rfl, ?_⟩ all_nil)
    refine o_call 28 #[(.int .i64 ((lget h i10).Add))] rfl (x_call Tryd.call28 (by kernel_rfl)) (rectoref3_Decimal_w (X := []) (n_ := (lget h i10).Add) (Old.nil _) reAdd289 hp) ?_
    rintro _ w347 ⟨r346, hp, e348, rfl, zr350⟩
    have rm := RB.mono (F' := []) e348 (Nat.le_trans (Nat.le_of_eq z312.symm) (RB.size er343)) (fun _ h => by cases h)
    have er351 := RB.trans er343 rm
    refine ⟨fun _ => rm, ?_⟩
    have s349 := Step.of0 X295 e348
    replace hp := hp zr350
    obtain ⟨h352, hp⟩ := hp
    refine r_take 20 (.string ((((((((s8 ++ (ByteArray.mk #[64, 64, 32, 45])) ++ r322) ++ (ByteArray.mk #[44])) ++ r330) ++ (ByteArray.mk #[32, 43])) ++ r338) ++ (ByteArray.mk #[44])) ++ r346)) (RB.pre _ _) rfl (by kernel_rfl) (fun _ _ _ h => hQ.panic _ _ _ _ _ h) (.inl ⟨rfl, fun wq hq => (x_cat (by kernel_rfl) (by kernel_rfl) h352)⟩) ?_
    obtain ⟨h353, hp⟩ := hp
    refine r_take 21 (.string (((((((((s8 ++ (ByteArray.mk #[64, 64, 32, 45])) ++ r322) ++ (ByteArray.mk #[44])) ++ r330) ++ (ByteArray.mk #[32, 43])) ++ r338) ++ (ByteArray.mk #[44])) ++ r346) ++ (ByteArray.mk #[32, 64, 64, 10]))) (RB.pre _ _) rfl (by kernel_rfl) (fun _ _ _ h => hQ.panic _ _ _ _ _ h) (.inl ⟨rfl, fun wq hq => (x_cat (by kernel_rfl) (by kernel_rfl) h353)⟩) ?_
    refine r_ready [22] (by kernel_rfl) rfl (all_cons ⟨_, _, _, _, _, _, rfl, ?_⟩ all_nil)
    refine o_pv (.string (((((((((s8 ++ (ByteArray.mk #[64, 64, 32, 45])) ++ r322) ++ (ByteArray.mk #[44])) ++ r330) ++ (ByteArray.mk #[32, 43])) ++ r338) ++ (ByteArray.mk #[44])) ++ r346) ++ (ByteArray.mk #[32, 64, 64, 10]))) rfl (by kernel_rfl) ?_
    refine ⟨fun h => absurd h (by decide), ?_⟩
    refine r_done (by kernel_rfl) ?_
    refine then_normal (K303 _ _ _ _ ?_)
    refine seq_ (fun _ K354 => ?_)
    refine reg_ ?_
    refine sq (o_pv (.int .i64 (0 : Int)) rfl (by kernel_rfl) ?_)
    refine nil_ ?_
    refine then_normal (K354 _ _ _ _ ?_)
    refine wp_block ?_
    have E434 := (Evo.then0 (Evo.then0 (Evo.then0 (Evo.then0 E315 e324) e332) e340) e348)
    have hXo435 := (Old.step (Old.step (Old.step (Old.step hXo316 s325) s333) s341) s349)
    have hS436 := (Sub.trans (Sub.trans (Sub.trans (Sub.trans hS317 (Step.up s325)) (Step.up s333)) (Step.up s341)) (Step.up s349))
    have hh437 := (Sl.step (Sl.step (Sl.step (Sl.step hh318 s325) s333) s341) s349)
    have heLines438 := (Sl.step (Sl.step (Sl.step (Sl.step heLines319 s325) s333) s341) s349)
    have k439 := (OB.step0 (OB.step0 (OB.step0 (OB.step0 k320 s325) s333) s341) s349)
    obtain ⟨I424, m425, hI426, hp⟩ := hp
    refine loop_ 295147904079841198280 (fun kq lq w428 => ∃ (X429 : List Nat) (s355 : ByteArray) (k357 : Int), (lq = [(3, (.string s355)), (6, (.int .i64 k357))]) ∧ (kq = m425 s355 k357) ∧ (Evo [] w w428) ∧ (Old X429 w428) ∧ (Sub X X429) ∧ (Sl r_rectoref11_Hunk X429 w428 ah1 ch2 h) ∧ (Sl r_rectoref11_Edit X429 w428 aeLines290 ceLines291 ((lget h i10).Lines)) ∧ (OB ([]) w.heap.size X429 w428 b293 [(.int .i64 ((lget h i10).At)), (.int .i64 ((lget h i10).Del)), (.int .i64 ((lget h i10).To)), (.int .i64 ((lget h i10).Add)), (.slice aeLines290 (((lget h i10).Lines).length) ceLines291)] 60) ∧ (s355.size ≤ maxLen) ∧ (inR .i64 k357) ∧ (I424 s355 k357)) (m425 (((((((((s8 ++ (ByteArray.mk #[64, 64, 32, 45])) ++ r322) ++ (ByteArray.mk #[44])) ++ r330) ++ (ByteArray.mk #[32, 43])) ++ r338) ++ (ByteArray.mk #[44])) ++ r346) ++ (ByteArray.mk #[32, 64, 64, 10])) (0 : Int)) [(3, (.string (((((((((s8 ++ (ByteArray.mk #[64, 64, 32, 45])) ++ r322) ++ (ByteArray.mk #[44])) ++ r330) ++ (ByteArray.mk #[32, 43])) ++ r338) ++ (ByteArray.mk #[44])) ++ r346) ++ (ByteArray.mk #[32, 64, 64, 10])))), (6, (.int .i64 (0 : Int)))] (vs_cons (by kernel_rfl) (vs_cons (by kernel_rfl) vs_nil)) ⟨X295, (((((((((s8 ++ (ByteArray.mk #[64, 64, 32, 45])) ++ r322) ++ (ByteArray.mk #[44])) ++ r330) ++ (ByteArray.mk #[32, 43])) ++ r338) ++ (ByteArray.mk #[44])) ++ r346) ++ (ByteArray.mk #[32, 64, 64, 10])), (0 : Int), rfl, rfl, E434, hXo435, hS436, hh437, heLines438, k439, h353, (by decide : inR .i64 (0 : Int)), hI426⟩ ?_
    rintro _ _ w428 g431 ⟨X429, s355, k357, rfl, rfl, E440, hXo441, hS442, hh443, heLines444, k445, zs356, rk358, hI427⟩ Kl432 hA433
    replace hp := hp s355 k357 hI427 zs356 rk358
    refine seq_ (fun _ K446 => ?_)
    refine seq_ (fun _ K447 => ?_)
    refine reg_ ?_
    refine sq (o_pv (.int .i64 k357) rfl (by kernel_rfl) ?_)
    refine sq (o_pv (.pointer (some ⟨b293, 4, none⟩)) rfl (by kernel_rfl) ?_)
    refine sq (o_pv (.slice aeLines290 (((lget h i10).Lines).length) ceLines291) rfl (x_load1 (by kernel_rfl) Tryd.isAgg25 (k445.2.1.cell' 4 rfl)) ?_)
    refine sq (o_pv (.int .i64 (((lget h i10).Lines).length : Int)) rfl (by kernel_rfl) ?_)
    refine sq (o_pv (.bool (decide (k357 < (((lget h i10).Lines).length : Int)))) rfl (by kernel_rfl) ?_)
    refine nil_ ?_
    refine then_normal (K447 _ _ _ _ ?_)
    refine cond_d (k357 < (((lget h i10).Lines).length : Int)) (by kernel_rfl) (fun h448 => ?_) (fun h448 => ?_)
    ·
      replace hp := hp.1 h448
      refine wp_skip ?_
      refine then_normal (K446 _ _ _ _ ?_)
      refine seq_ (fun _ K449 => ?_)
      refine wp_block ?_
      refine seq_ (fun _ K450 => ?_)
      refine reg_ ?_
      refine sq (o_pv (.string (ByteArray.mk #[32])) rfl (by kernel_rfl) ?_)
      refine nil_ ?_
      refine then_normal (K450 _ _ _ _ ?_)
      refine seq_ (fun _ K451 => ?_)
      refine seq_ (fun _ K452 => ?_)
      refine reg_ ?_
      refine sq (o_pv (.pointer (some ⟨b293, 4, none⟩)) rfl (by kernel_rfl) ?_)
      refine sq (o_pv (.slice aeLines290 (((lget h i10).Lines).length) ceLines291) rfl (x_load1 (by kernel_rfl) Tryd.isAgg25 (k445.2.1.cell' 4 rfl)) ?_)
      refine sq (o_pv (.int .i64 k357) rfl (by kernel_rfl) ?_)
      obtain ⟨h453, hp⟩ := hp
      obtain ⟨b454, o455, cs456, ha457, nx458, lt459, ok460, hc461⟩ := Sl.atI heLines444 k357 h453
      obtain ⟨rfl, reOp462, zeLine463⟩ := r_rectoref11_Edit_open ok460
      replace hp := hp reOp462
      replace hp := hp zeLine463
      refine sq (o_pv (.pointer (some ⟨b454, o455 + k357.toNat * 2, none⟩)) rfl (x_ixA (m := ((lget h i10).Lines).length) (c := ceLines291) (k := .i64) (i := k357) Tryd.underlying25 Tryd.sizeOf54 (by rw [← ha457]; kernel_rfl) (by kernel_rfl) h453) ?_)
      refine sq (o_pv (.pointer (some ⟨b454, o455 + k357.toNat * 2, none⟩)) rfl (by kernel_rfl) ?_)
      refine sq (o_pv (.int .i64 ((lget ((lget h i10).Lines) k357).Op)) rfl (x_load1 (by kernel_rfl) Tryd.isAgg3 (hc461 0 _ rfl)) ?_)
      refine nil_ ?_
      refine then_normal (K452 _ _ _ _ ?_)
      obtain ⟨k470, hk471, hp⟩ := hp
      refine ground_ ?_
      refine join_ 135107988821115008 (fun lq w472 => ∃ (X473 : List Nat) (sign468 : ByteArray), (lq = [(7, (.string sign468))]) ∧ (Evo [] w w472) ∧ (Old X473 w472) ∧ (Sub X X473) ∧ (Sl r_rectoref11_Hunk X473 w472 ah1 ch2 h) ∧ (Sl r_rectoref11_Edit X473 w472 aeLines290 ceLines291 ((lget h i10).Lines)) ∧ (OB ([]) w.heap.size X473 w472 b293 [(.int .i64 ((lget h i10).At)), (.int .i64 ((lget h i10).Del)), (.int .i64 ((lget h i10).To)), (.int .i64 ((lget h i10).Add)), (.slice aeLines290 (((lget h i10).Lines).length) ceLines291)] 60) ∧ (sign468.size ≤ maxLen) ∧ (k470 sign468)) (fun Kj474 hJ475 => ?_) ?_
      ·
        refine wp_block ?_
        refine seq_ (fun _ K483 => ?_)
        refine reg_ ?_
        refine sq (o_pv (.bool (decide (((lget ((lget h i10).Lines) k357).Op) = (2 : Int)))) rfl (by kernel_rfl) ?_)
        refine sq (o_pv (.bool (decide (((lget ((lget h i10).Lines) k357).Op) = (2 : Int)))) rfl (by kernel_rfl) ?_)
        refine nil_ ?_
        refine then_normal (K483 _ _ _ _ ?_)
        refine cond_d (((lget ((lget h i10).Lines) k357).Op) = (2 : Int)) (by kernel_rfl) (fun h484 => ?_) (fun h484 => ?_)
        ·
          replace hp := hp.1 h484
          refine reg_ ?_
          refine sq (o_pv (.string (ByteArray.mk #[45])) rfl (by kernel_rfl) ?_)
          refine nil_ ?_
          refine blk_normal ?_
          refine then_normal (hJ475 _ _ _ ⟨[(7, (.string (ByteArray.mk #[45])))], fit_mk (fun _ _ => rfl) (by kernel_rfl) (vs_cons (by kernel_rfl) vs_nil), ?_⟩)
          exact ⟨X429, (ByteArray.mk #[45]), rfl, E440, hXo441, hS442, hh443, heLines444, k445, (by decide : (ByteArray.mk #[45]).size ≤ maxLen), hp⟩
        ·
          replace hp := hp.2 h484
          refine seq_ (fun _ K485 => ?_)
          refine reg_ ?_
          refine sq (o_pv (.bool (decide (((lget ((lget h i10).Lines) k357).Op) = (3 : Int)))) rfl (by kernel_rfl) ?_)
          refine sq (o_pv (.bool (decide (((lget ((lget h i10).Lines) k357).Op) = (3 : Int)))) rfl (by kernel_rfl) ?_)
          refine nil_ ?_
          refine then_normal (K485 _ _ _ _ ?_)
          refine cond_d (((lget ((lget h i10).Lines) k357).Op) = (3 : Int)) (by kernel_rfl) (fun h486 => ?_) (fun h486 => ?_)
          ·
            replace hp := hp.1 h486
            refine reg_ ?_
            refine sq (o_pv (.string (ByteArray.mk #[43])) rfl (by kernel_rfl) ?_)
            refine nil_ ?_
            refine blk_normal ?_
            refine then_normal (hJ475 _ _ _ ⟨[(7, (.string (ByteArray.mk #[43])))], fit_mk (fun _ _ => rfl) (by kernel_rfl) (vs_cons (by kernel_rfl) vs_nil), ?_⟩)
            exact ⟨X429, (ByteArray.mk #[43]), rfl, E440, hXo441, hS442, hh443, heLines444, k445, (by decide : (ByteArray.mk #[43]).size ≤ maxLen), hp⟩
          ·
            replace hp := hp.2 h486
            refine wp_skip ?_
            refine blk_normal ?_
            refine then_normal (hJ475 _ _ _ ⟨[(7, (.string (ByteArray.mk #[32])))], fit_mk (fun _ _ => rfl) (by kernel_rfl) (vs_cons (by kernel_rfl) vs_nil), ?_⟩)
            exact ⟨X429, (ByteArray.mk #[32]), rfl, E440, hXo441, hS442, hh443, heLines444, k445, (by decide : (ByteArray.mk #[32]).size ≤ maxLen), hp⟩
      ·
        rintro _ w472 g487 ⟨X473, sign468, rfl, E477, hXo478, hS479, hh480, heLines481, k482, zsign469, hv476⟩
        replace hp := hk471 sign468 hv476 zsign469
        refine then_normal (K451 _ _ _ _ ?_)
        refine reg_ ?_
        refine sq (o_pv (.string s355) rfl (by kernel_rfl) ?_)
        refine sq (o_pv (.string sign468) rfl (by kernel_rfl) ?_)
        obtain ⟨h488, hp⟩ := hp
        refine sq (o_pv (.string (s355 ++ sign468)) rfl (x_cat (by kernel_rfl) (by kernel_rfl) h488) ?_)
        refine sq (o_pv (.pointer (some ⟨b293, 4, none⟩)) rfl (by kernel_rfl) ?_)
        refine sq (o_pv (.slice aeLines290 (((lget h i10).Lines).length) ceLines291) rfl (x_load1 (by kernel_rfl) Tryd.isAgg25 (k482.2.1.cell' 4 rfl)) ?_)
        refine sq (o_pv (.int .i64 k357) rfl (by kernel_rfl) ?_)
        obtain ⟨h489, hp⟩ := hp
        obtain ⟨b490, o491, cs492, ha493, nx494, lt495, ok496, hc497⟩ := Sl.atI heLines481 k357 h489
        obtain ⟨rfl, reOp498, zeLine499⟩ := r_rectoref11_Edit_open ok496
        replace hp := hp reOp498
        replace hp := hp zeLine499
        refine sq (o_pv (.pointer (some ⟨b490, o491 + k357.toNat * 2, none⟩)) rfl (x_ixA (m := ((lget h i10).Lines).length) (c := ceLines291) (k := .i64) (i := k357) Tryd.underlying25 Tryd.sizeOf54 (by rw [← ha493]; kernel_rfl) (by kernel_rfl) h489) ?_)
        refine sq (o_pv (.pointer (some ⟨b490, o491 + k357.toNat * 2 + 1, none⟩)) rfl (by kernel_rfl) ?_)
        refine sq (o_pv (.string ((lget ((lget h i10).Lines) k357).Line)) rfl (x_load1 (by kernel_rfl) Tryd.isAgg9 (hc497 1 _ rfl)) ?_)
        refine sq (o_call 29 #[(.string ((lget ((lget h i10).Lines) k357).Line))] rfl (x_call Tryd.call29 (by kernel_rfl)) (rectoref11_ended_w (X := []) (s := (lget ((lget h i10).Lines) k357).Line) (Old.nil _) zeLine499 hp) ?_)
        rintro _ w501 ⟨r500, hp, e502, rfl, zr504⟩
        have s503 := Step.of0 X473 e502
        replace hp := hp zr504
        obtain ⟨h505, hp⟩ := hp
        refine sq (o_pv (.string ((s355 ++ sign468) ++ r500)) rfl (x_cat (by kernel_rfl) (by kernel_rfl) h505) ?_)
        refine sq (o_pv (.string ((s355 ++ sign468) ++ r500)) rfl (by kernel_rfl) ?_)
        refine nil_ ?_
        refine blk_normal ?_
        refine then_normal (K449 _ _ _ _ ?_)
        refine reg_ ?_
        refine sq (o_pv (.int .i64 k357) rfl (by kernel_rfl) ?_)
        obtain ⟨h506, hp⟩ := hp
        refine sq (o_pv (.int .i64 (k357 + (1 : Int))) rfl (x_add2 (k := .i64) (a := k357) (b := (1 : Int)) (k357 + (1 : Int)) (by kernel_rfl) (by kernel_rfl) (wrap_inR h506)) ?_)
        refine sq (o_pv (.int .i64 (k357 + (1 : Int))) rfl (by kernel_rfl) ?_)
        refine nil_ ?_
        have E507 := (Evo.then0 E477 e502)
        have hXo508 := (Old.step hXo478 s503)
        have hS509 := (Sub.trans hS479 (Step.up s503))
        have hh510 := (Sl.step hh480 s503)
        have heLines511 := (Sl.step heLines481 s503)
        have k512 := (OB.step0 k482 s503)
        refine then_normal (hA433 _ _ _ ⟨_, [(3, (.string ((s355 ++ sign468) ++ r500))), (6, (.int .i64 (k357 + (1 : Int))))], hp.2, fit_mk (AgB.nest (AgB.look (AgB.mix _ _ _) (by kernel_rfl)) (by kernel_rfl) (by kernel_rfl)) (by kernel_rfl) (vs_cons (by kernel_rfl) (vs_cons (by kernel_rfl) vs_nil)), ?_⟩)
        exact ⟨X473, ((s355 ++ sign468) ++ r500), (k357 + (1 : Int)), rfl, rfl, E507, hXo508, hS509, hh510, heLines511, k512, h505, h506, hp.1⟩
    ·
      replace hp := hp.2 h448
      refine wp_exit ?_
      refine then_exit ?_
      refine then_exit ?_
      refine blk_exit ?_
      refine blk_normal ?_
      refine then_normal (K275 _ _ _ _ ?_)
      refine reg_ ?_
      refine sq (o_pv (.int .i64 i10) rfl (by kernel_rfl) ?_)
      obtain ⟨h513, hp⟩ := hp
      refine sq (o_pv (.int .i64 (i10 + (1 : Int))) rfl (x_add2 (k := .i64) (a := i10) (b := (1 : Int)) (i10 + (1 : Int)) (by kernel_rfl) (by kernel_rfl) (wrap_inR h513)) ?_)
      refine sq (o_pv (.int .i64 (i10 + (1 : Int))) rfl (by kernel_rfl) ?_)
      refine nil_ ?_
      refine then_normal (hA267 _ _ _ ⟨_, [(3, (.string s355)), (4, (.int .i64 (i10 + (1 : Int))))], hp.2, fit_mk (AgB.nest (AgB.mix _ _ _) (by kernel_rfl) (by kernel_rfl)) (by kernel_rfl) (vs_cons (by kernel_rfl) (vs_cons (by kernel_rfl) vs_nil)), ?_⟩)
      exact ⟨X429, s355, (i10 + (1 : Int)), rfl, rfl, E440, hXo441, hS442, hh443, zs356, h513, hp.1⟩
  ·
    replace hp := hp.2 h274
    refine wp_exit ?_
    refine then_exit ?_
    refine then_exit ?_
    refine blk_exit ?_
    refine then_normal (K6 _ _ _ _ ?_)
    refine seq_ (fun _ K514 => ?_)
    refine reg_ ?_
    refine sq (o_pv (.string s8) rfl (by kernel_rfl) ?_)
    refine sq (o_pv (.string s8) rfl (by kernel_rfl) ?_)
    refine nil_ ?_
    refine then_normal (K514 _ _ _ _ ?_)
    refine wp_ret ?_
    refine end_ret hQ (.string s8) (by kernel_rfl) ?_
    exact ⟨s8, hp, E268, rfl, zs9⟩

end Go.Proofs.YtnnbnljofklieaaDoor
