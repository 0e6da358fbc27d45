/- Walks of functions: what each asks and computes, as a plain predicate, and the contract from it. -/
import Derived.Test.YtcgfjmfbfildpaaRDoorChecked
import Derived.Test.YtcgfjmfbfildpaaRDoorAux
import Derived.Test.YtcgfjmfbfildpaaRDoorLib
import Derived.Test.YtcgfjmfbfildpaaRDoorLibS
import Derived.Test.YtcgfjmfbfildpaaRDoorShelf
namespace Go.Proofs.YtcgfjmfbfildpaaRDoor
open Go

theorem elT27 : ElemT Tryd.prog 27 9 1 16 := elemT_mk (i := Tryd.t9) (z := (.string (ByteArray.mk #[]))) (by kernel_rfl) (by kernel_rfl) (by kernel_rfl) (by kernel_rfl) Tryd.underlying27 Tryd.sizeOf9 (by decide) (by decide)
/-- strings.genSplit: all parts, at a separator of one byte. -/
def strings_genSplit_p (s sep : ByteArray) (sepSave n : Int) (Q : List ByteArray → Prop) : Prop := ∃ c : UInt8, sep = ByteArray.mk #[c] ∧ sepSave = 0 ∧ n = -1 ∧ s.size < 4294967281 ∧ Q (partsB s c)
theorem strings_genSplit_w {X : List Nat} {w : World} {s sep : ByteArray} {sepSave n_ : Int} {Q : List ByteArray → Prop} (hX0 : Old X w) (_hs : s.size ≤ maxLen) (_ht : sep.size ≤ maxLen) (_h1 : inR .i64 sepSave) (_h2 : inR .i64 n_) (hp : strings_genSplit_p s sep sepSave n_ Q) :
    Calls Tryd.prog 99 #[(.string s), (.string sep), (.int .i64 sepSave), (.int .i64 n_)] w (Ret fun v w' => ∃ r0 : List ByteArray, Q r0 ∧ Evo [] w w' ∧ ∃ (aq01 : Option Addr) (cq02 : Nat), v = (.slice aq01 r0.length cq02) ∧ Sl rStr X w' aq01 cq02 r0) := by
  obtain ⟨c, rfl, rfl, rfl, hs, hq⟩ := hp
  have L := Tryd.lays146
  refine (genSplit_one (ρ := Tryd.lays146_ren) { L with } (by kernel_rfl) s c w hs).mono ?_
  rintro e w' ⟨rfl, rfl⟩
  obtain ⟨hE, hS⟩ := parts_sl (s := s) (c := c) (t := Tryd.lays146_ren.t 9) hX0 hs
  exact ⟨_, rfl, _, hq, hE, _, _, rfl, hS⟩

def strings_Split_p (s : ByteArray) (sep : ByteArray) (Q : (List ByteArray) → Prop) : Prop :=
  ((s.size ≤ maxLen) → ((sep.size ≤ maxLen) → (strings_genSplit_p s sep (0 : Int) (-1 : Int) (fun (r5 : (List ByteArray)) => ((r5.length ≤ 9223372036854775807) → Q r5)))))
set_option maxRecDepth 20000 in
set_option maxHeartbeats 4000000 in
theorem strings_Split_w {X : List Nat} {w : World} {s : ByteArray} {sep : ByteArray} {Q : (List ByteArray) → Prop} (hX0 : Old X w) (zs1 : s.size ≤ maxLen) (zsep2 : sep.size ≤ maxLen) (hp : strings_Split_p s sep Q) :
    Calls Tryd.prog 56 #[(.string s), (.string sep)] w (Ret fun v w' => ∃ (r0 : (List ByteArray)), Q r0 ∧ Evo [] w w' ∧ ∃ (aq01 : Option Addr) (cq02 : Nat), v = (.slice aq01 r0.length cq02) ∧ Sl rStr X w' aq01 cq02 r0) := by
  have hXo := hX0
  have E0 : Evo [] w w := RB.refl _ _ _
  have hS : Sub X X := Sub.refl _
  unfold strings_Split_p at hp
  refine enter_ Tryd.func56 rfl 8 [(0, (.string s)), (1, (.string sep))] (by kernel_rfl) (fun Qe hQ => ?_)
  replace hp := hp zs1
  replace hp := hp zsep2
  refine seq_ (fun _ K3 => ?_)
  refine reg_ ?_
  refine sq (o_pv (.slice none 0 0) rfl (by kernel_rfl) ?_)
  refine nil_ ?_
  refine then_normal (K3 _ _ _ _ ?_)
  refine seq_ (fun _ K4 => ?_)
  refine reg_ ?_
  refine sq (o_pv (.string s) rfl (by kernel_rfl) ?_)
  refine sq (o_pv (.string sep) rfl (by kernel_rfl) ?_)
  refine sq (o_call 99 #[(.string s), (.string sep), (.int .i64 (0 : Int)), (.int .i64 (-1 : Int))] rfl (x_call Tryd.call99 (by kernel_rfl)) (strings_genSplit_w (X := X) (s := s) (sep := sep) (sepSave := (0 : Int)) (n_ := (-1 : Int)) hXo zs1 zsep2 (by decide) (by decide) hp) ?_)
  rintro _ w6 ⟨r5, hp, e7, ar9, cr10, rfl, hr11⟩
  have s8 := Step.of0 X e7
  replace hp := hp (Sl.len hr11)
  refine sq (o_pv (.slice ar9 r5.length cr10) rfl (by kernel_rfl) ?_)
  refine nil_ ?_
  refine then_normal (K4 _ _ _ _ ?_)
  refine wp_ret ?_
  have hS12 := (Sub.trans hS (Step.up s8))
  have E13 := (Evo.then0 E0 e7)
  refine end_ret hQ (.slice ar9 r5.length cr10) (by kernel_rfl) ?_
  exact ⟨r5, hp, E13, ar9, cr10, rfl, (Sl.less hr11 hS12)⟩

def path_Parts_p (p : ByteArray) (Q : (List ByteArray) → Prop) : Prop :=
  ((p.size ≤ maxLen) → ((((p : ByteArray) = (ByteArray.mk #[])) → Q ([] : List ByteArray)) ∧ ((¬ ((p : ByteArray) = (ByteArray.mk #[]))) → (strings_Split_p p (ByteArray.mk #[47]) (fun (r8 : (List ByteArray)) => ((r8.length ≤ 9223372036854775807) → Q r8))))))
set_option maxRecDepth 20000 in
set_option maxHeartbeats 4000000 in
theorem path_Parts_w {X : List Nat} {w : World} {p : ByteArray} {Q : (List ByteArray) → Prop} (hX0 : Old X w) (zp1 : p.size ≤ maxLen) (hp : path_Parts_p p Q) :
    Calls Tryd.prog 17 #[(.string p)] w (Ret fun v w' => ∃ (r0 : (List ByteArray)), Q r0 ∧ Evo [] w w' ∧ ∃ (aq01 : Option Addr) (cq02 : Nat), v = (.slice aq01 r0.length cq02) ∧ Sl rStr X w' aq01 cq02 r0) := by
  have hXo := hX0
  have E0 : Evo [] w w := RB.refl _ _ _
  have hS : Sub X X := Sub.refl _
  unfold path_Parts_p at hp
  refine enter_ Tryd.func17 rfl 7 [(0, (.string p))] (by kernel_rfl) (fun Qe hQ => ?_)
  replace hp := hp zp1
  refine seq_ (fun _ K2 => ?_)
  refine reg_ ?_
  refine sq (o_pv (.slice none 0 0) rfl (by kernel_rfl) ?_)
  refine nil_ ?_
  refine then_normal (K2 _ _ _ _ ?_)
  refine seq_ (fun _ K3 => ?_)
  refine seq_ (fun _ K4 => ?_)
  refine reg_ ?_
  refine sq (o_pv (.string p) rfl (by kernel_rfl) ?_)
  refine sq (o_pv (.bool (decide ((p : ByteArray) = (ByteArray.mk #[])))) rfl (x_streq (by kernel_rfl) (by kernel_rfl)) ?_)
  refine nil_ ?_
  refine then_normal (K4 _ _ _ _ ?_)
  refine cond_d ((p : ByteArray) = (ByteArray.mk #[])) (by kernel_rfl) (fun h5 => ?_) (fun h5 => ?_)
  ·
    replace hp := hp.1 h5
    refine seq_ (fun _ K6 => ?_)
    refine reg_ ?_
    refine sq (o_pv (.slice none 0 0) rfl (by kernel_rfl) ?_)
    refine nil_ ?_
    refine then_normal (K6 _ _ _ _ ?_)
    refine wp_ret ?_
    refine then_ret ?_
    refine end_ret hQ (.slice none 0 0) (by kernel_rfl) ?_
    exact ⟨([] : List ByteArray), hp, E0, none, 0, rfl, Sl.nil⟩
  ·
    replace hp := hp.2 h5
    refine wp_skip ?_
    refine then_normal (K3 _ _ _ _ ?_)
    refine seq_ (fun _ K7 => ?_)
    refine reg_ ?_
    refine sq (o_pv (.string p) rfl (by kernel_rfl) ?_)
    refine sq (o_call 56 #[(.string p), (.string (ByteArray.mk #[47]))] rfl (x_call Tryd.call56 (by kernel_rfl)) (strings_Split_w (X := X) (s := p) (sep := (ByteArray.mk #[47])) hXo zp1 (by decide) hp) ?_)
    rintro _ w9 ⟨r8, hp, e10, ar12, cr13, rfl, hr14⟩
    have s11 := Step.of0 X e10
    replace hp := hp (Sl.len hr14)
    refine sq (o_pv (.slice ar12 r8.length cr13) rfl (by kernel_rfl) ?_)
    refine nil_ ?_
    refine then_normal (K7 _ _ _ _ ?_)
    refine wp_ret ?_
    have hS15 := (Sub.trans hS (Step.up s11))
    have E16 := (Evo.then0 E0 e10)
    refine end_ret hQ (.slice ar12 r8.length cr13) (by kernel_rfl) ?_
    exact ⟨r8, hp, E16, ar12, cr13, rfl, (Sl.less hr14 hS15)⟩

def path_good_p (c : Int) (Q : Bool → Prop) : Prop :=
  ((inR .u8 c) → (∃ k15 : Prop, (k15 → Q true) ∧ (((c = (46 : Int)) → (k15)) ∧ ((¬ (c = (46 : Int))) → (((c = (45 : Int)) → (k15)) ∧ ((¬ (c = (45 : Int))) → (((c = (95 : Int)) → (k15)) ∧ ((¬ (c = (95 : Int))) → Q (decide (((c ≥ (97 : Int)) ∧ ((c ≤ (122 : Int)) ∨ ((c ≥ (48 : Int)) ∧ (c ≤ (57 : Int))))) ∨ ((¬ (c ≥ (97 : Int))) ∧ ((c ≥ (48 : Int)) ∧ (c ≤ (57 : Int))))))))))))))
set_option maxRecDepth 20000 in
set_option maxHeartbeats 4000000 in
theorem path_good_w {X : List Nat} {w : World} {c : Int} {Q : Bool → Prop} (hX0 : Old X w) (rc1 : inR .u8 c) (hp : path_good_p c Q) :
    Calls Tryd.prog 100 #[(.int .u8 c)] w (Ret fun v w' => ∃ (r0 : Bool), Q r0 ∧ Evo [] w w' ∧ v = (.bool r0)) := by
  have hXo := hX0
  have E0 : Evo [] w w := RB.refl _ _ _
  have hS : Sub X X := Sub.refl _
  unfold path_good_p at hp
  refine enter_ Tryd.func100 rfl 24 [(0, (.int .u8 c))] (by kernel_rfl) (fun Qe hQ => ?_)
  replace hp := hp rc1
  refine seq_ (fun _ K2 => ?_)
  refine reg_ ?_
  refine sq (o_pv (.bool false) rfl (by kernel_rfl) ?_)
  refine nil_ ?_
  refine then_normal (K2 _ _ _ _ ?_)
  refine seq_ (fun _ K3 => ?_)
  refine seq_ (fun _ K4 => ?_)
  refine reg_ ?_
  refine sq (o_pv (.int .u8 c) rfl (by kernel_rfl) ?_)
  refine nil_ ?_
  refine then_normal (K4 _ _ _ _ ?_)
  refine wp_block ?_
  refine seq_ (fun _ K5 => ?_)
  obtain ⟨k15, hk16, hp⟩ := hp
  refine ground_ ?_
  refine join_ 1008 (fun lq w17 => ∃ (X18 : List Nat), (lq = []) ∧ (Evo [] w w17) ∧ (Old X18 w17) ∧ (Sub X X18) ∧ (k15)) (fun Kj19 hJ20 => ?_) ?_
  ·
    refine wp_block ?_
    refine wp_block ?_
    refine wp_block ?_
    refine seq_ (fun _ K25 => ?_)
    refine seq_ (fun _ K26 => ?_)
    refine seq_ (fun _ K27 => ?_)
    refine reg_ ?_
    refine sq (o_pv (.bool (decide (c = (46 : Int)))) rfl (by kernel_rfl) ?_)
    refine sq (o_pv (.bool (decide (c = (46 : Int)))) rfl (by kernel_rfl) ?_)
    refine nil_ ?_
    refine then_normal (K27 _ _ _ _ ?_)
    refine cond_d (c = (46 : Int)) (by kernel_rfl) (fun h28 => ?_) (fun h28 => ?_)
    ·
      replace hp := hp.1 h28
      refine wp_exit ?_
      refine then_exit ?_
      refine then_exit ?_
      refine blk_exit ?_
      refine blk_normal ?_
      refine blk_normal ?_
      refine then_normal (hJ20 _ _ _ ⟨[], fit_mk (fun _ _ => rfl) (by kernel_rfl) vs_nil, ?_⟩)
      exact ⟨X, rfl, E0, hXo, hS, hp⟩
    ·
      replace hp := hp.2 h28
      refine wp_skip ?_
      refine then_normal (K26 _ _ _ _ ?_)
      refine seq_ (fun _ K29 => ?_)
      refine seq_ (fun _ K30 => ?_)
      refine reg_ ?_
      refine sq (o_pv (.bool (decide (c = (45 : Int)))) rfl (by kernel_rfl) ?_)
      refine sq (o_pv (.bool (decide (c = (45 : Int)))) rfl (by kernel_rfl) ?_)
      refine nil_ ?_
      refine then_normal (K30 _ _ _ _ ?_)
      refine cond_d (c = (45 : Int)) (by kernel_rfl) (fun h31 => ?_) (fun h31 => ?_)
      ·
        replace hp := hp.1 h31
        refine wp_exit ?_
        refine then_exit ?_
        refine then_exit ?_
        refine blk_exit_ne rfl ?_
        refine blk_exit ?_
        refine blk_normal ?_
        refine then_normal (hJ20 _ _ _ ⟨[], fit_mk (fun _ _ => rfl) (by kernel_rfl) vs_nil, ?_⟩)
        exact ⟨X, rfl, E0, hXo, hS, hp⟩
      ·
        replace hp := hp.2 h31
        refine wp_skip ?_
        refine then_normal (K29 _ _ _ _ ?_)
        refine seq_ (fun _ K32 => ?_)
        refine reg_ ?_
        refine sq (o_pv (.bool (decide (c = (95 : Int)))) rfl (by kernel_rfl) ?_)
        refine sq (o_pv (.bool (decide (c = (95 : Int)))) rfl (by kernel_rfl) ?_)
        refine nil_ ?_
        refine then_normal (K32 _ _ _ _ ?_)
        refine cond_d (c = (95 : Int)) (by kernel_rfl) (fun h33 => ?_) (fun h33 => ?_)
        ·
          replace hp := hp.1 h33
          refine wp_exit ?_
          refine then_exit ?_
          refine blk_exit_ne rfl ?_
          refine blk_exit_ne rfl ?_
          refine blk_exit ?_
          refine then_normal (hJ20 _ _ _ ⟨[], fit_mk (fun _ _ => rfl) (by kernel_rfl) vs_nil, ?_⟩)
          exact ⟨X, rfl, E0, hXo, hS, hp⟩
        ·
          replace hp := hp.2 h33
          refine wp_skip ?_
          refine then_normal (K25 _ _ _ _ ?_)
          refine wp_exit ?_
          refine blk_exit_ne rfl ?_
          refine blk_exit_ne rfl ?_
          refine blk_exit_ne rfl ?_
          refine then_exit ?_
          refine then_exit ?_
          refine blk_exit ?_
          refine then_normal (K3 _ _ _ _ ?_)
          refine seq_ (fun _ K34 => ?_)
          refine ground_ ?_
          refine join_ 16776196 (fun lq w41 => lq = [(2, (.bool (decide (((c ≥ (97 : Int)) ∧ ((c ≤ (122 : Int)) ∨ ((c ≥ (48 : Int)) ∧ (c ≤ (57 : Int))))) ∨ ((¬ (c ≥ (97 : Int))) ∧ ((c ≥ (48 : Int)) ∧ (c ≤ (57 : Int))))))))] ∧ w = w41) (fun Kj39 hJ40 => ?_) ?_
          ·
            refine reg_ ?_
            refine sq (o_pv (.int .u8 c) rfl (by kernel_rfl) ?_)
            by_cases h43 : c ≥ (97 : Int)
            ·
              refine sq (o_pv (.bool true) rfl (x_dt (p := c ≥ (97 : Int)) (by kernel_rfl) h43) ?_)
              refine sq (o_pv (.bool true) rfl (by kernel_rfl) ?_)
              refine sq (o_pv (.int .u8 c) (by kernel_rfl) (by kernel_rfl) ?_)
              by_cases h44 : c ≤ (122 : Int)
              ·
                refine sq (o_pv (.bool true) (by kernel_rfl) (x_dt (p := c ≤ (122 : Int)) (by kernel_rfl) h44) ?_)
                refine sq (o_pv (.bool true) rfl (by kernel_rfl) ?_)
                refine sq (o_pv (.bool true) rfl (by kernel_rfl) ?_)
                refine sq (o_not (by kernel_rfl) ?_)
                refine sq (o_not (by kernel_rfl) ?_)
                refine sq (o_not (by kernel_rfl) ?_)
                refine sq (o_not (by kernel_rfl) ?_)
                refine sq (o_not (by kernel_rfl) ?_)
                refine sq (o_not (by kernel_rfl) ?_)
                refine sq (o_pv (.bool true) rfl (by kernel_rfl) ?_)
                refine sq (o_pv (.bool true) rfl (by kernel_rfl) ?_)
                refine nil_ ?_
                refine then_normal (hJ40 _ _ _ ⟨[(2, (.bool (decide (((c ≥ (97 : Int)) ∧ ((c ≤ (122 : Int)) ∨ ((c ≥ (48 : Int)) ∧ (c ≤ (57 : Int))))) ∨ ((¬ (c ≥ (97 : Int))) ∧ ((c ≥ (48 : Int)) ∧ (c ≤ (57 : Int))))))))], fit_mk (fun _ _ => rfl) (by kernel_rfl) (vs_cons (Eq.trans (b := (.bool true)) (by kernel_rfl) (dec_t (by simp [h43, h44])).symm) vs_nil), rfl, rfl⟩)
              ·
                refine sq (o_pv (.bool false) (by kernel_rfl) (x_df (p := c ≤ (122 : Int)) (by kernel_rfl) h44) ?_)
                refine sq (o_pv (.bool false) rfl (by kernel_rfl) ?_)
                refine sq (o_pv (.bool false) rfl (by kernel_rfl) ?_)
                refine sq (o_pv (.int .u8 c) (by kernel_rfl) (by kernel_rfl) ?_)
                by_cases h45 : c ≥ (48 : Int)
                ·
                  refine sq (o_pv (.bool true) (by kernel_rfl) (x_dt (p := c ≥ (48 : Int)) (by kernel_rfl) h45) ?_)
                  refine sq (o_pv (.bool true) (by kernel_rfl) (by kernel_rfl) ?_)
                  refine sq (o_pv (.int .u8 c) (by kernel_rfl) (by kernel_rfl) ?_)
                  refine sq (o_pv (.bool (decide (c ≤ (57 : Int)))) (by kernel_rfl) (by kernel_rfl) ?_)
                  refine sq (o_pv (.bool (decide (c ≤ (57 : Int)))) (by kernel_rfl) (by kernel_rfl) ?_)
                  refine sq (o_pv (.bool (decide (c ≤ (57 : Int)))) rfl (by kernel_rfl) ?_)
                  refine sq (o_pv (.bool (decide (c ≤ (57 : Int)))) rfl (by kernel_rfl) ?_)
                  refine nil_ ?_
                  refine then_normal (hJ40 _ _ _ ⟨[(2, (.bool (decide (((c ≥ (97 : Int)) ∧ ((c ≤ (122 : Int)) ∨ ((c ≥ (48 : Int)) ∧ (c ≤ (57 : Int))))) ∨ ((¬ (c ≥ (97 : Int))) ∧ ((c ≥ (48 : Int)) ∧ (c ≤ (57 : Int))))))))], fit_mk (fun _ _ => rfl) (by kernel_rfl) (vs_cons (Eq.trans (b := (.bool (decide (c ≤ (57 : Int))))) (by kernel_rfl) (dec_d (by simp [h43, h44, h45])).symm) vs_nil), rfl, rfl⟩)
                ·
                  refine sq (o_pv (.bool false) (by kernel_rfl) (x_df (p := c ≥ (48 : Int)) (by kernel_rfl) h45) ?_)
                  refine sq (o_pv (.bool false) (by kernel_rfl) (by kernel_rfl) ?_)
                  refine sq (o_not (by kernel_rfl) ?_)
                  refine sq (o_not (by kernel_rfl) ?_)
                  refine sq (o_pv (.bool false) (by kernel_rfl) (by kernel_rfl) ?_)
                  refine sq (o_pv (.bool false) rfl (by kernel_rfl) ?_)
                  refine sq (o_pv (.bool false) rfl (by kernel_rfl) ?_)
                  refine nil_ ?_
                  refine then_normal (hJ40 _ _ _ ⟨[(2, (.bool (decide (((c ≥ (97 : Int)) ∧ ((c ≤ (122 : Int)) ∨ ((c ≥ (48 : Int)) ∧ (c ≤ (57 : Int))))) ∨ ((¬ (c ≥ (97 : Int))) ∧ ((c ≥ (48 : Int)) ∧ (c ≤ (57 : Int))))))))], fit_mk (fun _ _ => rfl) (by kernel_rfl) (vs_cons (Eq.trans (b := (.bool false)) (by kernel_rfl) (dec_f (by simp [h43, h44, h45])).symm) vs_nil), rfl, rfl⟩)
            ·
              refine sq (o_pv (.bool false) rfl (x_df (p := c ≥ (97 : Int)) (by kernel_rfl) h43) ?_)
              refine sq (o_pv (.bool false) rfl (by kernel_rfl) ?_)
              refine sq (o_not (by kernel_rfl) ?_)
              refine sq (o_not (by kernel_rfl) ?_)
              refine sq (o_pv (.bool false) rfl (by kernel_rfl) ?_)
              refine sq (o_pv (.bool false) rfl (by kernel_rfl) ?_)
              refine sq (o_pv (.int .u8 c) (by kernel_rfl) (by kernel_rfl) ?_)
              by_cases h46 : c ≥ (48 : Int)
              ·
                refine sq (o_pv (.bool true) (by kernel_rfl) (x_dt (p := c ≥ (48 : Int)) (by kernel_rfl) h46) ?_)
                refine sq (o_pv (.bool true) (by kernel_rfl) (by kernel_rfl) ?_)
                refine sq (o_pv (.int .u8 c) (by kernel_rfl) (by kernel_rfl) ?_)
                refine sq (o_pv (.bool (decide (c ≤ (57 : Int)))) (by kernel_rfl) (by kernel_rfl) ?_)
                refine sq (o_pv (.bool (decide (c ≤ (57 : Int)))) (by kernel_rfl) (by kernel_rfl) ?_)
                refine sq (o_pv (.bool (decide (c ≤ (57 : Int)))) rfl (by kernel_rfl) ?_)
                refine sq (o_pv (.bool (decide (c ≤ (57 : Int)))) rfl (by kernel_rfl) ?_)
                refine nil_ ?_
                refine then_normal (hJ40 _ _ _ ⟨[(2, (.bool (decide (((c ≥ (97 : Int)) ∧ ((c ≤ (122 : Int)) ∨ ((c ≥ (48 : Int)) ∧ (c ≤ (57 : Int))))) ∨ ((¬ (c ≥ (97 : Int))) ∧ ((c ≥ (48 : Int)) ∧ (c ≤ (57 : Int))))))))], fit_mk (fun _ _ => rfl) (by kernel_rfl) (vs_cons (Eq.trans (b := (.bool (decide (c ≤ (57 : Int))))) (by kernel_rfl) (dec_d (by simp [h43, h46])).symm) vs_nil), rfl, rfl⟩)
              ·
                refine sq (o_pv (.bool false) (by kernel_rfl) (x_df (p := c ≥ (48 : Int)) (by kernel_rfl) h46) ?_)
                refine sq (o_pv (.bool false) (by kernel_rfl) (by kernel_rfl) ?_)
                refine sq (o_not (by kernel_rfl) ?_)
                refine sq (o_not (by kernel_rfl) ?_)
                refine sq (o_pv (.bool false) (by kernel_rfl) (by kernel_rfl) ?_)
                refine sq (o_pv (.bool false) rfl (by kernel_rfl) ?_)
                refine sq (o_pv (.bool false) rfl (by kernel_rfl) ?_)
                refine nil_ ?_
                refine then_normal (hJ40 _ _ _ ⟨[(2, (.bool (decide (((c ≥ (97 : Int)) ∧ ((c ≤ (122 : Int)) ∨ ((c ≥ (48 : Int)) ∧ (c ≤ (57 : Int))))) ∨ ((¬ (c ≥ (97 : Int))) ∧ ((c ≥ (48 : Int)) ∧ (c ≤ (57 : Int))))))))], fit_mk (fun _ _ => rfl) (by kernel_rfl) (vs_cons (Eq.trans (b := (.bool false)) (by kernel_rfl) (dec_f (by simp [h43, h46])).symm) vs_nil), rfl, rfl⟩)
          ·
            rintro _ w41 g42 ⟨rfl, hw⟩
            subst hw
            refine then_normal (K34 _ _ _ _ ?_)
            refine wp_ret ?_
            refine end_ret hQ (.bool (decide (((c ≥ (97 : Int)) ∧ ((c ≤ (122 : Int)) ∨ ((c ≥ (48 : Int)) ∧ (c ≤ (57 : Int))))) ∨ ((¬ (c ≥ (97 : Int))) ∧ ((c ≥ (48 : Int)) ∧ (c ≤ (57 : Int))))))) (by kernel_rfl) ?_
            exact ⟨(decide (((c ≥ (97 : Int)) ∧ ((c ≤ (122 : Int)) ∨ ((c ≥ (48 : Int)) ∧ (c ≤ (57 : Int))))) ∨ ((¬ (c ≥ (97 : Int))) ∧ ((c ≥ (48 : Int)) ∧ (c ≤ (57 : Int)))))), hp, E0, rfl⟩
  ·
    rintro _ w17 g47 ⟨X18, rfl, E22, hXo23, hS24, hv21⟩
    replace hp := hk16 hv21
    refine then_normal (K5 _ _ _ _ ?_)
    refine seq_ (fun _ K48 => ?_)
    refine seq_ (fun _ K49 => ?_)
    refine reg_ ?_
    refine sq (o_pv (.bool true) rfl (by kernel_rfl) ?_)
    refine nil_ ?_
    refine then_normal (K49 _ _ _ _ ?_)
    refine wp_ret ?_
    refine then_ret ?_
    refine blk_ret ?_
    refine then_ret ?_
    refine end_ret hQ (.bool true) (by kernel_rfl) ?_
    exact ⟨true, hp, E22, rfl⟩

def path_part_p (s : ByteArray) (Q : Bool → Prop) : Prop :=
  ((s.size ≤ maxLen) → (((((s : ByteArray) = (ByteArray.mk #[])) ∨ (((s : ByteArray) = (ByteArray.mk #[46])) ∨ ((s : ByteArray) = (ByteArray.mk #[46, 46])))) → Q false) ∧ ((¬ (((s : ByteArray) = (ByteArray.mk #[])) ∨ (((s : ByteArray) = (ByteArray.mk #[46])) ∨ ((s : ByteArray) = (ByteArray.mk #[46, 46]))))) → (∃ (I49 : Int → Prop) (m50 : Int → Nat), (I49 (0 : Int)) ∧ ∀ (s22 : Int), (I49 s22) → (inR .i64 s22) → (((s22 < ((bytesL s).length : Int)) → ((inL (bytesL s) s22) ∧ ((inR .u8 (lget (bytesL s) s22)) → (path_good_p (lget (bytesL s) s22) (fun (r82 : Bool) => ((((!r82) = true) → Q false) ∧ (((!r82) = false) → ((inR .i64 (s22 + (1 : Int))) ∧ ((I49 (s22 + (1 : Int))) ∧ m50 (s22 + (1 : Int)) < m50 s22))))))))) ∧ ((¬ (s22 < ((bytesL s).length : Int))) → Q true))))))
set_option maxRecDepth 20000 in
set_option maxHeartbeats 4000000 in
theorem path_part_w {X : List Nat} {w : World} {s : ByteArray} {Q : Bool → Prop} (hX0 : Old X w) (zs1 : s.size ≤ maxLen) (hp : path_part_p s Q) :
    Calls Tryd.prog 57 #[(.string s)] w (Ret fun v w' => ∃ (r0 : Bool), Q r0 ∧ Evo [] w w' ∧ v = (.bool r0)) := by
  have hXo := hX0
  have E0 : Evo [] w w := RB.refl _ _ _
  have hS : Sub X X := Sub.refl _
  unfold path_part_p at hp
  refine enter_ Tryd.func57 rfl 26 [(0, (.string s))] (by kernel_rfl) (fun Qe hQ => ?_)
  replace hp := hp zs1
  refine seq_ (fun _ K2 => ?_)
  refine reg_ ?_
  refine sq (o_pv (.bool false) rfl (by kernel_rfl) ?_)
  refine nil_ ?_
  refine then_normal (K2 _ _ _ _ ?_)
  refine seq_ (fun _ K3 => ?_)
  refine seq_ (fun _ K4 => ?_)
  refine ground_ ?_
  refine join_ 32736 (fun lq w9 => lq = [(14, (.bool (decide (((s : ByteArray) = (ByteArray.mk #[])) ∨ (((s : ByteArray) = (ByteArray.mk #[46])) ∨ ((s : ByteArray) = (ByteArray.mk #[46, 46])))))))] ∧ w = w9) (fun Kj7 hJ8 => ?_) ?_
  ·
    refine reg_ ?_
    refine sq (o_pv (.string s) rfl (by kernel_rfl) ?_)
    by_cases h11 : (s : ByteArray) = (ByteArray.mk #[])
    ·
      refine sq (o_pv (.bool true) rfl (x_dt (p := (s : ByteArray) = (ByteArray.mk #[])) (x_streq (by kernel_rfl) (by kernel_rfl)) h11) ?_)
      refine sq (o_pv (.bool true) rfl (by kernel_rfl) ?_)
      refine sq (o_not (by kernel_rfl) ?_)
      refine sq (o_not (by kernel_rfl) ?_)
      refine sq (o_pv (.bool true) rfl (by kernel_rfl) ?_)
      refine sq (o_pv (.bool true) rfl (by kernel_rfl) ?_)
      refine sq (o_not (by kernel_rfl) ?_)
      refine sq (o_not (by kernel_rfl) ?_)
      refine sq (o_pv (.bool true) rfl (by kernel_rfl) ?_)
      refine nil_ ?_
      refine then_normal (hJ8 _ _ _ ⟨[(14, (.bool (decide (((s : ByteArray) = (ByteArray.mk #[])) ∨ (((s : ByteArray) = (ByteArray.mk #[46])) ∨ ((s : ByteArray) = (ByteArray.mk #[46, 46])))))))], fit_mk (fun _ _ => rfl) (by kernel_rfl) (vs_cons (Eq.trans (b := (.bool true)) (by kernel_rfl) (dec_t (iff_true_intro (Or.inl h11))).symm) vs_nil), rfl, rfl⟩)
    ·
      refine sq (o_pv (.bool false) rfl (x_df (p := (s : ByteArray) = (ByteArray.mk #[])) (x_streq (by kernel_rfl) (by kernel_rfl)) h11) ?_)
      refine sq (o_pv (.bool false) rfl (by kernel_rfl) ?_)
      refine sq (o_pv (.string s) (by kernel_rfl) (by kernel_rfl) ?_)
      by_cases h12 : (s : ByteArray) = (ByteArray.mk #[46])
      ·
        refine sq (o_pv (.bool true) (by kernel_rfl) (x_dt (p := (s : ByteArray) = (ByteArray.mk #[46])) (x_streq (by kernel_rfl) (by kernel_rfl)) h12) ?_)
        refine sq (o_pv (.bool true) rfl (by kernel_rfl) ?_)
        refine sq (o_pv (.bool true) rfl (by kernel_rfl) ?_)
        refine sq (o_not (by kernel_rfl) ?_)
        refine sq (o_not (by kernel_rfl) ?_)
        refine sq (o_pv (.bool true) rfl (by kernel_rfl) ?_)
        refine nil_ ?_
        refine then_normal (hJ8 _ _ _ ⟨[(14, (.bool (decide (((s : ByteArray) = (ByteArray.mk #[])) ∨ (((s : ByteArray) = (ByteArray.mk #[46])) ∨ ((s : ByteArray) = (ByteArray.mk #[46, 46])))))))], fit_mk (fun _ _ => rfl) (by kernel_rfl) (vs_cons (Eq.trans (b := (.bool true)) (by kernel_rfl) (dec_t ((or_iff_right h11).trans (iff_true_intro (Or.inl h12)))).symm) vs_nil), rfl, rfl⟩)
      ·
        refine sq (o_pv (.bool false) (by kernel_rfl) (x_df (p := (s : ByteArray) = (ByteArray.mk #[46])) (x_streq (by kernel_rfl) (by kernel_rfl)) h12) ?_)
        refine sq (o_pv (.bool false) rfl (by kernel_rfl) ?_)
        refine sq (o_pv (.bool false) rfl (by kernel_rfl) ?_)
        refine sq (o_pv (.string s) (by kernel_rfl) (by kernel_rfl) ?_)
        refine sq (o_pv (.bool (decide ((s : ByteArray) = (ByteArray.mk #[46, 46])))) (by kernel_rfl) (x_streq (by kernel_rfl) (by kernel_rfl)) ?_)
        refine sq (o_pv (.bool (decide ((s : ByteArray) = (ByteArray.mk #[46, 46])))) rfl (by kernel_rfl) ?_)
        refine nil_ ?_
        refine then_normal (hJ8 _ _ _ ⟨[(14, (.bool (decide (((s : ByteArray) = (ByteArray.mk #[])) ∨ (((s : ByteArray) = (ByteArray.mk #[46])) ∨ ((s : ByteArray) = (ByteArray.mk #[46, 46])))))))], fit_mk (fun _ _ => rfl) (by kernel_rfl) (vs_cons (Eq.trans (b := (.bool (decide ((s : ByteArray) = (ByteArray.mk #[46, 46]))))) (by kernel_rfl) (dec_d ((or_iff_right h11).trans ((or_iff_right h12).trans Iff.rfl))).symm) vs_nil), rfl, rfl⟩)
  ·
    rintro _ w9 g10 ⟨rfl, hw⟩
    subst hw
    refine then_normal (K4 _ _ _ _ ?_)
    refine cond_d (((s : ByteArray) = (ByteArray.mk #[])) ∨ (((s : ByteArray) = (ByteArray.mk #[46])) ∨ ((s : ByteArray) = (ByteArray.mk #[46, 46])))) (by kernel_rfl) (fun h13 => ?_) (fun h13 => ?_)
    ·
      replace hp := hp.1 h13
      refine seq_ (fun _ K14 => ?_)
      refine reg_ ?_
      refine sq (o_pv (.bool false) rfl (by kernel_rfl) ?_)
      refine nil_ ?_
      refine then_normal (K14 _ _ _ _ ?_)
      refine wp_ret ?_
      refine then_ret ?_
      refine end_ret hQ (.bool false) (by kernel_rfl) ?_
      exact ⟨false, hp, E0, rfl⟩
    ·
      replace hp := hp.2 h13
      refine wp_skip ?_
      refine then_normal (K3 _ _ _ _ ?_)
      refine seq_ (fun _ K15 => ?_)
      refine seq_ (fun _ K16 => ?_)
      refine reg_ ?_
      refine sq (o_pv (.string s) rfl (by kernel_rfl) ?_)
      refine sq (o_s2b (X := X) (sv := s) hXo rfl Tryd.underlying9 Tryd.underlying80 Tryd.underlying5 (by kernel_rfl) zs1 ?_)
      intro a17 c18 w19 s20 h21
      refine sq (o_pv (.int .i64 ((bytesL s).length : Int)) rfl (by kernel_rfl) ?_)
      refine sq (o_pv (.int .i64 (0 : Int)) rfl (by kernel_rfl) ?_)
      refine nil_ ?_
      refine then_normal (K16 _ _ _ _ ?_)
      refine wp_block ?_
      have hXo59 := (Old.step hXo s20)
      have E60 := (Evo.then0 E0 (Step.evo s20))
      have hS61 := (Sub.trans hS (Step.up s20))
      obtain ⟨I49, m50, hI51, hp⟩ := hp
      refine loop_ 66846740 (fun kq lq w53 => ∃ (X54 : List Nat) (s22 : Int), (lq = [(18, (.int .i64 s22))]) ∧ (kq = m50 s22) ∧ (Evo [] w w53) ∧ (Old X54 w53) ∧ (Sub X X54) ∧ (Sl (rInt .u8) X54 w53 a17 c18 (bytesL s)) ∧ (inR .i64 s22) ∧ (I49 s22)) (m50 (0 : Int)) [(18, (.int .i64 (0 : Int)))] (vs_cons (by kernel_rfl) vs_nil) ⟨X, (0 : Int), rfl, rfl, E60, hXo59, hS61, h21, (by decide), hI51⟩ ?_
      rintro _ _ w53 g56 ⟨X54, s22, rfl, rfl, E62, hXo63, hS64, h65, rs23, hI52⟩ Kl57 hA58
      replace hp := hp s22 hI52 rs23
      refine seq_ (fun _ K66 => ?_)
      refine reg_ ?_
      refine sq (o_pv (.bool (decide (s22 < ((bytesL s).length : Int)))) rfl (by kernel_rfl) ?_)
      refine nil_ ?_
      refine then_normal (K66 _ _ _ _ ?_)
      refine seq_ (fun _ K67 => ?_)
      refine cond_d (s22 < ((bytesL s).length : Int)) (by kernel_rfl) (fun h68 => ?_) (fun h68 => ?_)
      ·
        replace hp := hp.1 h68
        refine wp_skip ?_
        refine then_normal (K67 _ _ _ _ ?_)
        refine seq_ (fun _ K69 => ?_)
        refine wp_block ?_
        refine seq_ (fun _ K70 => ?_)
        refine reg_ ?_
        obtain ⟨h71, hp⟩ := hp
        obtain ⟨b72, o73, cs74, ha75, nx76, lt77, ok78, hc79⟩ := Sl.atI h65 s22 h71
        obtain ⟨rfl, re80⟩ := ok78
        replace hp := hp re80
        refine sq (o_pv (.pointer (some ⟨b72, o73 + s22.toNat * 1, none⟩)) rfl (x_ixA (m := (bytesL s).length) (c := c18) (k := .i64) (i := s22) Tryd.underlying80 Tryd.sizeOf5 (by rw [← ha75]; kernel_rfl) (by kernel_rfl) h71) ?_)
        refine sq (o_pv (.int .u8 (lget (bytesL s) s22)) rfl (x_load1 (by kernel_rfl) Tryd.isAgg5 (hc79 0 _ rfl)) ?_)
        refine sq (o_pv (.int .u8 (lget (bytesL s) s22)) rfl (by kernel_rfl) ?_)
        refine nil_ ?_
        refine then_normal (K70 _ _ _ _ ?_)
        refine seq_ (fun _ K81 => ?_)
        refine reg_ ?_
        refine sq (o_pv (.int .u8 (lget (bytesL s) s22)) rfl (by kernel_rfl) ?_)
        refine sq (o_call 100 #[(.int .u8 (lget (bytesL s) s22))] rfl (x_call Tryd.call100 (by kernel_rfl)) (path_good_w (X := []) (c := lget (bytesL s) s22) (Old.nil _) re80 hp) ?_)
        rintro _ w83 ⟨r82, hp, e84, rfl⟩
        have s85 := Step.of0 X54 e84
        refine sq (o_pv (.bool (!r82)) rfl (by kernel_rfl) ?_)
        refine nil_ ?_
        refine then_normal (K81 _ _ _ _ ?_)
        refine cond_b (!r82) (by kernel_rfl) (fun h86 => ?_) (fun h86 => ?_)
        ·
          replace hp := hp.1 h86
          refine seq_ (fun _ K87 => ?_)
          refine reg_ ?_
          refine sq (o_pv (.bool false) rfl (by kernel_rfl) ?_)
          refine nil_ ?_
          refine then_normal (K87 _ _ _ _ ?_)
          refine wp_ret ?_
          refine blk_ret ?_
          refine then_ret ?_
          refine then_ret ?_
          refine blk_ret ?_
          refine then_ret ?_
          have E88 := (Evo.then0 E62 e84)
          refine end_ret hQ (.bool false) (by kernel_rfl) ?_
          exact ⟨false, hp, E88, rfl⟩
        ·
          replace hp := hp.2 h86
          refine wp_skip ?_
          refine blk_normal ?_
          refine then_normal (K69 _ _ _ _ ?_)
          refine reg_ ?_
          obtain ⟨h89, hp⟩ := hp
          refine sq (o_pv (.int .i64 (s22 + (1 : Int))) rfl (x_add2 (k := .i64) (a := s22) (b := (1 : Int)) (s22 + (1 : Int)) (by kernel_rfl) (by kernel_rfl) (wrap_inR h89)) ?_)
          refine sq (o_pv (.int .i64 (s22 + (1 : Int))) rfl (by kernel_rfl) ?_)
          refine nil_ ?_
          have E90 := (Evo.then0 E62 e84)
          have hXo91 := (Old.step hXo63 s85)
          have hS92 := (Sub.trans hS64 (Step.up s85))
          have h93 := (Sl.step h65 s85)
          refine then_normal (hA58 _ _ _ ⟨_, [(18, (.int .i64 (s22 + (1 : Int))))], hp.2, fit_mk (AgB.mix _ _ _) (by kernel_rfl) (vs_cons (by kernel_rfl) vs_nil), ?_⟩)
          exact ⟨X54, (s22 + (1 : Int)), rfl, rfl, E90, hXo91, hS92, h93, h89, hp.1⟩
      ·
        replace hp := hp.2 h68
        refine wp_exit ?_
        refine then_exit ?_
        refine then_exit ?_
        refine blk_exit ?_
        refine then_normal (K15 _ _ _ _ ?_)
        refine seq_ (fun _ K94 => ?_)
        refine reg_ ?_
        refine sq (o_pv (.bool true) rfl (by kernel_rfl) ?_)
        refine nil_ ?_
        refine then_normal (K94 _ _ _ _ ?_)
        refine wp_ret ?_
        refine end_ret hQ (.bool true) (by kernel_rfl) ?_
        exact ⟨true, hp, E62, rfl⟩

def path_Check_p (p : ByteArray) (Q : Int → Prop) : Prop :=
  ((p.size ≤ maxLen) → ((((p.size : Int) > (64 : Int)) → Q (4 : Int)) ∧ ((¬ ((p.size : Int) > (64 : Int))) → (strings_Split_p p (ByteArray.mk #[47]) (fun (r9 : (List ByteArray)) => ((r9.length ≤ 9223372036854775807) → (∃ (I43 : Int → Prop) (m44 : Int → Nat), (I43 (0 : Int)) ∧ ∀ (s16 : Int), (I43 s16) → (inR .i64 s16) → (((s16 < (r9.length : Int)) → ((inL r9 s16) ∧ (((lget r9 s16).size ≤ maxLen) → (path_part_p (lget r9 s16) (fun (r76 : Bool) => ((((!r76) = true) → Q (5 : Int)) ∧ (((!r76) = false) → ((inR .i64 (s16 + (1 : Int))) ∧ ((I43 (s16 + (1 : Int))) ∧ m44 (s16 + (1 : Int)) < m44 s16))))))))) ∧ ((¬ (s16 < (r9.length : Int))) → Q (0 : Int))))))))))
set_option maxRecDepth 20000 in
set_option maxHeartbeats 4000000 in
theorem path_Check_w {X : List Nat} {w : World} {p : ByteArray} {Q : Int → Prop} (hX0 : Old X w) (zp1 : p.size ≤ maxLen) (hp : path_Check_p p Q) :
    Calls Tryd.prog 14 #[(.string p)] w (Ret fun v w' => ∃ (r0 : Int), Q r0 ∧ Evo [] w w' ∧ v = (.int .i64 r0) ∧ inR .i64 r0) := by
  have hXo := hX0
  have E0 : Evo [] w w := RB.refl _ _ _
  have hS : Sub X X := Sub.refl _
  unfold path_Check_p at hp
  refine enter_ Tryd.func14 rfl 19 [(0, (.string p))] (by kernel_rfl) (fun Qe hQ => ?_)
  replace hp := hp zp1
  refine seq_ (fun _ K2 => ?_)
  refine reg_ ?_
  refine sq (o_pv (.int .i64 (0 : Int)) rfl (by kernel_rfl) ?_)
  refine nil_ ?_
  refine then_normal (K2 _ _ _ _ ?_)
  refine seq_ (fun _ K3 => ?_)
  refine seq_ (fun _ K4 => ?_)
  refine reg_ ?_
  refine sq (o_pv (.string p) rfl (by kernel_rfl) ?_)
  refine sq (o_pv (.int .i64 (p.size : Int)) rfl (by kernel_rfl) ?_)
  refine sq (o_pv (.bool (decide ((p.size : Int) > (64 : Int)))) rfl (by kernel_rfl) ?_)
  refine nil_ ?_
  refine then_normal (K4 _ _ _ _ ?_)
  refine cond_d ((p.size : Int) > (64 : Int)) (by kernel_rfl) (fun h5 => ?_) (fun h5 => ?_)
  ·
    replace hp := hp.1 h5
    refine seq_ (fun _ K6 => ?_)
    refine reg_ ?_
    refine sq (o_pv (.int .i64 (4 : Int)) rfl (by kernel_rfl) ?_)
    refine nil_ ?_
    refine then_normal (K6 _ _ _ _ ?_)
    refine wp_ret ?_
    refine then_ret ?_
    refine end_ret hQ (.int .i64 (4 : Int)) (by kernel_rfl) ?_
    exact ⟨(4 : Int), hp, E0, rfl, (by decide)⟩
  ·
    replace hp := hp.2 h5
    refine wp_skip ?_
    refine then_normal (K3 _ _ _ _ ?_)
    refine seq_ (fun _ K7 => ?_)
    refine seq_ (fun _ K8 => ?_)
    refine reg_ ?_
    refine sq (o_pv (.string p) rfl (by kernel_rfl) ?_)
    refine sq (o_call 56 #[(.string p), (.string (ByteArray.mk #[47]))] rfl (x_call Tryd.call56 (by kernel_rfl)) (strings_Split_w (X := X) (s := p) (sep := (ByteArray.mk #[47])) hXo zp1 (by decide) hp) ?_)
    rintro _ w10 ⟨r9, hp, e11, ar13, cr14, rfl, hr15⟩
    have s12 := Step.of0 X e11
    replace hp := hp (Sl.len hr15)
    refine sq (o_pv (.int .i64 (r9.length : Int)) rfl (by kernel_rfl) ?_)
    refine sq (o_pv (.int .i64 (0 : Int)) rfl (by kernel_rfl) ?_)
    refine nil_ ?_
    refine then_normal (K8 _ _ _ _ ?_)
    refine wp_block ?_
    have hXo53 := (Old.step hXo s12)
    have E54 := (Evo.then0 E0 e11)
    have hS55 := (Sub.trans hS (Step.up s12))
    obtain ⟨I43, m44, hI45, hp⟩ := hp
    refine loop_ 522260 (fun kq lq w47 => ∃ (X48 : List Nat) (s16 : Int), (lq = [(11, (.int .i64 s16))]) ∧ (kq = m44 s16) ∧ (Evo [] w w47) ∧ (Old X48 w47) ∧ (Sub X X48) ∧ (Sl rStr X48 w47 ar13 cr14 r9) ∧ (inR .i64 s16) ∧ (I43 s16)) (m44 (0 : Int)) [(11, (.int .i64 (0 : Int)))] (vs_cons (by kernel_rfl) vs_nil) ⟨X, (0 : Int), rfl, rfl, E54, hXo53, hS55, hr15, (by decide), hI45⟩ ?_
    rintro _ _ w47 g50 ⟨X48, s16, rfl, rfl, E56, hXo57, hS58, hr59, rs17, hI46⟩ Kl51 hA52
    replace hp := hp s16 hI46 rs17
    refine seq_ (fun _ K60 => ?_)
    refine reg_ ?_
    refine sq (o_pv (.bool (decide (s16 < (r9.length : Int)))) rfl (by kernel_rfl) ?_)
    refine nil_ ?_
    refine then_normal (K60 _ _ _ _ ?_)
    refine seq_ (fun _ K61 => ?_)
    refine cond_d (s16 < (r9.length : Int)) (by kernel_rfl) (fun h62 => ?_) (fun h62 => ?_)
    ·
      replace hp := hp.1 h62
      refine wp_skip ?_
      refine then_normal (K61 _ _ _ _ ?_)
      refine seq_ (fun _ K63 => ?_)
      refine wp_block ?_
      refine seq_ (fun _ K64 => ?_)
      refine reg_ ?_
      obtain ⟨h65, hp⟩ := hp
      obtain ⟨b66, o67, cs68, ha69, nx70, lt71, ok72, hc73⟩ := Sl.atI hr59 s16 h65
      obtain ⟨rfl, ze74⟩ := ok72
      replace hp := hp ze74
      refine sq (o_pv (.pointer (some ⟨b66, o67 + s16.toNat * 1, none⟩)) rfl (x_ixA (m := r9.length) (c := cr14) (k := .i64) (i := s16) Tryd.underlying27 Tryd.sizeOf9 (by rw [← ha69]; kernel_rfl) (by kernel_rfl) h65) ?_)
      refine sq (o_pv (.string (lget r9 s16)) rfl (x_load1 (by kernel_rfl) Tryd.isAgg9 (hc73 0 _ rfl)) ?_)
      refine sq (o_pv (.string (lget r9 s16)) rfl (by kernel_rfl) ?_)
      refine nil_ ?_
      refine then_normal (K64 _ _ _ _ ?_)
      refine seq_ (fun _ K75 => ?_)
      refine reg_ ?_
      refine sq (o_pv (.string (lget r9 s16)) rfl (by kernel_rfl) ?_)
      refine sq (o_call 57 #[(.string (lget r9 s16))] rfl (x_call Tryd.call57 (by kernel_rfl)) (path_part_w (X := []) (s := lget r9 s16) (Old.nil _) ze74 hp) ?_)
      rintro _ w77 ⟨r76, hp, e78, rfl⟩
      have s79 := Step.of0 X48 e78
      refine sq (o_pv (.bool (!r76)) rfl (by kernel_rfl) ?_)
      refine nil_ ?_
      refine then_normal (K75 _ _ _ _ ?_)
      refine cond_b (!r76) (by kernel_rfl) (fun h80 => ?_) (fun h80 => ?_)
      ·
        replace hp := hp.1 h80
        refine seq_ (fun _ K81 => ?_)
        refine reg_ ?_
        refine sq (o_pv (.int .i64 (5 : Int)) rfl (by kernel_rfl) ?_)
        refine nil_ ?_
        refine then_normal (K81 _ _ _ _ ?_)
        refine wp_ret ?_
        refine blk_ret ?_
        refine then_ret ?_
        refine then_ret ?_
        refine blk_ret ?_
        refine then_ret ?_
        have E82 := (Evo.then0 E56 e78)
        refine end_ret hQ (.int .i64 (5 : Int)) (by kernel_rfl) ?_
        exact ⟨(5 : Int), hp, E82, rfl, (by decide)⟩
      ·
        replace hp := hp.2 h80
        refine wp_skip ?_
        refine blk_normal ?_
        refine then_normal (K63 _ _ _ _ ?_)
        refine reg_ ?_
        obtain ⟨h83, hp⟩ := hp
        refine sq (o_pv (.int .i64 (s16 + (1 : Int))) rfl (x_add2 (k := .i64) (a := s16) (b := (1 : Int)) (s16 + (1 : Int)) (by kernel_rfl) (by kernel_rfl) (wrap_inR h83)) ?_)
        refine sq (o_pv (.int .i64 (s16 + (1 : Int))) rfl (by kernel_rfl) ?_)
        refine nil_ ?_
        have E84 := (Evo.then0 E56 e78)
        have hXo85 := (Old.step hXo57 s79)
        have hS86 := (Sub.trans hS58 (Step.up s79))
        have hr87 := (Sl.step hr59 s79)
        refine then_normal (hA52 _ _ _ ⟨_, [(11, (.int .i64 (s16 + (1 : Int))))], hp.2, fit_mk (AgB.mix _ _ _) (by kernel_rfl) (vs_cons (by kernel_rfl) vs_nil), ?_⟩)
        exact ⟨X48, (s16 + (1 : Int)), rfl, rfl, E84, hXo85, hS86, hr87, h83, hp.1⟩
    ·
      replace hp := hp.2 h62
      refine wp_exit ?_
      refine then_exit ?_
      refine then_exit ?_
      refine blk_exit ?_
      refine then_normal (K7 _ _ _ _ ?_)
      refine seq_ (fun _ K88 => ?_)
      refine reg_ ?_
      refine sq (o_pv (.int .i64 (0 : Int)) rfl (by kernel_rfl) ?_)
      refine nil_ ?_
      refine then_normal (K88 _ _ _ _ ?_)
      refine wp_ret ?_
      refine end_ret hQ (.int .i64 (0 : Int)) (by kernel_rfl) ?_
      exact ⟨(0 : Int), hp, E56, rfl, (by decide)⟩

/-- strings.LastIndex of one byte. -/
def strings_LastIndex_p (s substr : ByteArray) (Q : Int → Prop) : Prop := ∃ c : UInt8, substr = ByteArray.mk #[c] ∧ s.size < 4611686018427387904 ∧ (inR .i64 (Lib.lastIndexByte s (c.toNat : Int)) → Q (Lib.lastIndexByte s (c.toNat : Int)))
theorem strings_LastIndex_w {X : List Nat} {w : World} {s substr : ByteArray} {Q : Int → Prop} (_hX0 : Old X w) (_hs : s.size ≤ maxLen) (_ht : substr.size ≤ maxLen) (hp : strings_LastIndex_p s substr Q) :
    Calls Tryd.prog 59 #[(.string s), (.string substr)] w (Ret fun v w' => ∃ r0 : Int, Q r0 ∧ Evo [] w w' ∧ v = (.int .i64 r0) ∧ inR .i64 r0) := by
  obtain ⟨c, rfl, hs, hq⟩ := hp
  refine (Tryd.strings_LastIndex_one s (ByteArray.mk #[c]) rfl hs w).mono ?_
  rintro e w' ⟨rfl, rfl⟩
  have hr := lastIndexByte_inR (s := s) (c := (c.toNat : Int)) hs
  exact ⟨_, rfl, _, hq hr, RB.refl _ _ _, rfl, hr⟩

def path_Parent_p (p : ByteArray) (Q : ByteArray → Prop) : Prop :=
  ((p.size ≤ maxLen) → (strings_LastIndex_p p (ByteArray.mk #[47]) (fun (r4 : Int) => ((inR .i64 r4) → ((0 ≤ (0 : Int) ∧ (0 : Int) ≤ (max r4 (0 : Int)) ∧ (max r4 (0 : Int)) ≤ (p.size : Int)) ∧ Q (bsub p (0 : Int) (max r4 (0 : Int))))))))
set_option maxRecDepth 20000 in
set_option maxHeartbeats 4000000 in
theorem path_Parent_w {X : List Nat} {w : World} {p : ByteArray} {Q : ByteArray → Prop} (hX0 : Old X w) (zp1 : p.size ≤ maxLen) (hp : path_Parent_p p Q) :
    Calls Tryd.prog 19 #[(.string p)] w (Ret fun v w' => ∃ (r0 : ByteArray), Q r0 ∧ Evo [] w w' ∧ v = (.string r0) ∧ r0.size ≤ maxLen) := by
  have hXo := hX0
  have E0 : Evo [] w w := RB.refl _ _ _
  have hS : Sub X X := Sub.refl _
  unfold path_Parent_p at hp
  refine enter_ Tryd.func19 rfl 10 [(0, (.string p))] (by kernel_rfl) (fun Qe hQ => ?_)
  replace hp := hp zp1
  refine seq_ (fun _ K2 => ?_)
  refine reg_ ?_
  refine sq (o_pv (.string (ByteArray.mk #[])) rfl (by kernel_rfl) ?_)
  refine nil_ ?_
  refine then_normal (K2 _ _ _ _ ?_)
  refine seq_ (fun _ K3 => ?_)
  refine reg_ ?_
  refine sq (o_pv (.string p) rfl (by kernel_rfl) ?_)
  refine sq (o_call 59 #[(.string p), (.string (ByteArray.mk #[47]))] rfl (x_call Tryd.call59 (by kernel_rfl)) (strings_LastIndex_w (X := []) (s := p) (substr := (ByteArray.mk #[47])) (Old.nil _) zp1 (by decide) hp) ?_)
  rintro _ w5 ⟨r4, hp, e6, rfl, rr8⟩
  have s7 := Step.of0 X e6
  replace hp := hp rr8
  refine sq (o_pv (.int .i64 r4) rfl (by kernel_rfl) ?_)
  refine nil_ ?_
  refine then_normal (K3 _ _ _ _ ?_)
  refine seq_ (fun _ K9 => ?_)
  refine reg_ ?_
  refine sq (o_pv (.string p) rfl (by kernel_rfl) ?_)
  refine sq (o_pv (.int .i64 r4) rfl (by kernel_rfl) ?_)
  refine sq (o_pv (.int .i64 (max r4 (0 : Int))) rfl (x_max (k := .i64) (a := r4) (b := (0 : Int)) (max r4 (0 : Int)) (by kernel_rfl) (by kernel_rfl) rfl) ?_)
  obtain ⟨h10, hp⟩ := hp
  refine sq (o_pv (.string (bsub p (0 : Int) (max r4 (0 : Int)))) rfl (x_sub01 (k := .i64) (by kernel_rfl)  (by kernel_rfl) Tryd.underlying9 h10) ?_)
  refine sq (o_pv (.string (bsub p (0 : Int) (max r4 (0 : Int)))) rfl (by kernel_rfl) ?_)
  refine nil_ ?_
  refine then_normal (K9 _ _ _ _ ?_)
  refine wp_ret ?_
  have E11 := (Evo.then0 E0 e6)
  refine end_ret hQ (.string (bsub p (0 : Int) (max r4 (0 : Int)))) (by kernel_rfl) ?_
  exact ⟨(bsub p (0 : Int) (max r4 (0 : Int))), hp, E11, rfl, (bsub_le zp1 h10)⟩

def internal_stringslite_HasPrefix_p (s : ByteArray) (prefix_ : ByteArray) (Q : Bool → Prop) : Prop :=
  ((s.size ≤ maxLen) → ((prefix_.size ≤ maxLen) → (((((s.size : Int) ≥ (prefix_.size : Int)) → ((0 ≤ (0 : Int) ∧ (0 : Int) ≤ (prefix_.size : Int) ∧ (prefix_.size : Int) ≤ (s.size : Int)) ∧ True)) ∧ ((¬ ((s.size : Int) ≥ (prefix_.size : Int))) → True)) ∧ Q (decide (((s.size : Int) ≥ (prefix_.size : Int)) ∧ ((bsub s (0 : Int) (prefix_.size : Int) : ByteArray) = prefix_))))))
set_option maxRecDepth 20000 in
set_option maxHeartbeats 4000000 in
theorem internal_stringslite_HasPrefix_w {X : List Nat} {w : World} {s : ByteArray} {prefix_ : ByteArray} {Q : Bool → Prop} (hX0 : Old X w) (zs1 : s.size ≤ maxLen) (zprefix_2 : prefix_.size ≤ maxLen) (hp : internal_stringslite_HasPrefix_p s prefix_ Q) :
    Calls Tryd.prog 103 #[(.string s), (.string prefix_)] w (Ret fun v w' => ∃ (r0 : Bool), Q r0 ∧ Evo [] w w' ∧ v = (.bool r0)) := by
  have hXo := hX0
  have E0 : Evo [] w w := RB.refl _ _ _
  have hS : Sub X X := Sub.refl _
  unfold internal_stringslite_HasPrefix_p at hp
  refine enter_ Tryd.func103 rfl 18 [(0, (.string s)), (1, (.string prefix_))] (by kernel_rfl) (fun Qe hQ => ?_)
  replace hp := hp zs1
  replace hp := hp zprefix_2
  refine seq_ (fun _ K3 => ?_)
  refine reg_ ?_
  refine sq (o_pv (.bool false) rfl (by kernel_rfl) ?_)
  refine nil_ ?_
  refine then_normal (K3 _ _ _ _ ?_)
  refine seq_ (fun _ K4 => ?_)
  obtain ⟨hp, hq⟩ := hp
  refine ground_ ?_
  refine join_ 262128 (fun lq w9 => lq = [(4, (.bool (decide (((s.size : Int) ≥ (prefix_.size : Int)) ∧ ((bsub s (0 : Int) (prefix_.size : Int) : ByteArray) = prefix_)))))] ∧ w = w9) (fun Kj7 hJ8 => ?_) ?_
  ·
    refine reg_ ?_
    refine sq (o_pv (.string s) rfl (by kernel_rfl) ?_)
    refine sq (o_pv (.int .i64 (s.size : Int)) rfl (by kernel_rfl) ?_)
    refine sq (o_pv (.string prefix_) rfl (by kernel_rfl) ?_)
    refine sq (o_pv (.int .i64 (prefix_.size : Int)) rfl (by kernel_rfl) ?_)
    by_cases h11 : (s.size : Int) ≥ (prefix_.size : Int)
    ·
      replace hp := hp.1 h11
      refine sq (o_pv (.bool true) rfl (x_dt (p := (s.size : Int) ≥ (prefix_.size : Int)) (by kernel_rfl) h11) ?_)
      refine sq (o_pv (.bool true) rfl (by kernel_rfl) ?_)
      refine sq (o_pv (.string s) (by kernel_rfl) (by kernel_rfl) ?_)
      refine sq (o_pv (.string prefix_) (by kernel_rfl) (by kernel_rfl) ?_)
      refine sq (o_pv (.int .i64 (prefix_.size : Int)) (by kernel_rfl) (by kernel_rfl) ?_)
      obtain ⟨h12, hp⟩ := hp
      refine sq (o_pv (.string (bsub s (0 : Int) (prefix_.size : Int))) (by kernel_rfl) (x_sub01 (k := .i64) (by kernel_rfl)  (by kernel_rfl) Tryd.underlying9 h12) ?_)
      refine sq (o_pv (.string prefix_) (by kernel_rfl) (by kernel_rfl) ?_)
      refine sq (o_pv (.bool (decide ((bsub s (0 : Int) (prefix_.size : Int) : ByteArray) = prefix_))) (by kernel_rfl) (x_streq (by kernel_rfl) (by kernel_rfl)) ?_)
      refine sq (o_pv (.bool (decide ((bsub s (0 : Int) (prefix_.size : Int) : ByteArray) = prefix_))) rfl (by kernel_rfl) ?_)
      refine sq (o_pv (.bool (decide ((bsub s (0 : Int) (prefix_.size : Int) : ByteArray) = prefix_))) rfl (by kernel_rfl) ?_)
      refine nil_ ?_
      refine then_normal (hJ8 _ _ _ ⟨[(4, (.bool (decide (((s.size : Int) ≥ (prefix_.size : Int)) ∧ ((bsub s (0 : Int) (prefix_.size : Int) : ByteArray) = prefix_)))))], fit_mk (fun _ _ => rfl) (by kernel_rfl) (vs_cons (Eq.trans (b := (.bool (decide ((bsub s (0 : Int) (prefix_.size : Int) : ByteArray) = prefix_)))) (by kernel_rfl) (dec_d ((and_iff_right h11).trans Iff.rfl)).symm) vs_nil), rfl, rfl⟩)
    ·
      replace hp := hp.2 h11
      refine sq (o_pv (.bool false) rfl (x_df (p := (s.size : Int) ≥ (prefix_.size : Int)) (by kernel_rfl) h11) ?_)
      refine sq (o_pv (.bool false) rfl (by kernel_rfl) ?_)
      refine sq (o_not (by kernel_rfl) ?_)
      refine sq (o_not (by kernel_rfl) ?_)
      refine sq (o_not (by kernel_rfl) ?_)
      refine sq (o_not (by kernel_rfl) ?_)
      refine sq (o_not (by kernel_rfl) ?_)
      refine sq (o_not (by kernel_rfl) ?_)
      refine sq (o_pv (.bool false) rfl (by kernel_rfl) ?_)
      refine sq (o_pv (.bool false) rfl (by kernel_rfl) ?_)
      refine nil_ ?_
      refine then_normal (hJ8 _ _ _ ⟨[(4, (.bool (decide (((s.size : Int) ≥ (prefix_.size : Int)) ∧ ((bsub s (0 : Int) (prefix_.size : Int) : ByteArray) = prefix_)))))], fit_mk (fun _ _ => rfl) (by kernel_rfl) (vs_cons (Eq.trans (b := (.bool false)) (by kernel_rfl) (dec_f (iff_false_intro (fun h => h11 h.1))).symm) vs_nil), rfl, rfl⟩)
  ·
    rintro _ w9 g10 ⟨rfl, hw⟩
    subst hw
    have hp := hq
    refine then_normal (K4 _ _ _ _ ?_)
    refine wp_ret ?_
    refine end_ret hQ (.bool (decide (((s.size : Int) ≥ (prefix_.size : Int)) ∧ ((bsub s (0 : Int) (prefix_.size : Int) : ByteArray) = prefix_)))) (by kernel_rfl) ?_
    exact ⟨(decide (((s.size : Int) ≥ (prefix_.size : Int)) ∧ ((bsub s (0 : Int) (prefix_.size : Int) : ByteArray) = prefix_))), hp, E0, rfl⟩

def strings_HasPrefix_p (s : ByteArray) (prefix_ : ByteArray) (Q : Bool → Prop) : Prop :=
  ((s.size ≤ maxLen) → ((prefix_.size ≤ maxLen) → (internal_stringslite_HasPrefix_p s prefix_ (fun (r5 : Bool) => Q r5))))
set_option maxRecDepth 20000 in
set_option maxHeartbeats 4000000 in
theorem strings_HasPrefix_w {X : List Nat} {w : World} {s : ByteArray} {prefix_ : ByteArray} {Q : Bool → Prop} (hX0 : Old X w) (zs1 : s.size ≤ maxLen) (zprefix_2 : prefix_.size ≤ maxLen) (hp : strings_HasPrefix_p s prefix_ Q) :
    Calls Tryd.prog 60 #[(.string s), (.string prefix_)] w (Ret fun v w' => ∃ (r0 : Bool), Q r0 ∧ Evo [] w w' ∧ v = (.bool r0)) := by
  have hXo := hX0
  have E0 : Evo [] w w := RB.refl _ _ _
  have hS : Sub X X := Sub.refl _
  unfold strings_HasPrefix_p at hp
  refine enter_ Tryd.func60 rfl 8 [(0, (.string s)), (1, (.string prefix_))] (by kernel_rfl) (fun Qe hQ => ?_)
  replace hp := hp zs1
  replace hp := hp zprefix_2
  refine seq_ (fun _ K3 => ?_)
  refine reg_ ?_
  refine sq (o_pv (.bool false) rfl (by kernel_rfl) ?_)
  refine nil_ ?_
  refine then_normal (K3 _ _ _ _ ?_)
  refine seq_ (fun _ K4 => ?_)
  refine reg_ ?_
  refine sq (o_pv (.string s) rfl (by kernel_rfl) ?_)
  refine sq (o_pv (.string prefix_) rfl (by kernel_rfl) ?_)
  refine sq (o_call 103 #[(.string s), (.string prefix_)] rfl (x_call Tryd.call103 (by kernel_rfl)) (internal_stringslite_HasPrefix_w (X := []) (s := s) (prefix_ := prefix_) (Old.nil _) zs1 zprefix_2 hp) ?_)
  rintro _ w6 ⟨r5, hp, e7, rfl⟩
  have s8 := Step.of0 X e7
  refine sq (o_pv (.bool r5) rfl (by kernel_rfl) ?_)
  refine nil_ ?_
  refine then_normal (K4 _ _ _ _ ?_)
  refine wp_ret ?_
  have E9 := (Evo.then0 E0 e7)
  refine end_ret hQ (.bool r5) (by kernel_rfl) ?_
  exact ⟨r5, hp, E9, rfl⟩

def path_Under_p (p : ByteArray) (dir : ByteArray) (Q : Bool → Prop) : Prop :=
  ((p.size ≤ maxLen) → ((dir.size ≤ maxLen) → ((((dir : ByteArray) = (ByteArray.mk #[])) → Q (!decide ((p : ByteArray) = (ByteArray.mk #[])))) ∧ ((¬ ((dir : ByteArray) = (ByteArray.mk #[]))) → (∃ k17 : Bool → Prop, (∀ (s16 : Bool), k17 s16 → Q s16) ∧ ((inR .i64 ((dir.size : Int) + (1 : Int))) ∧ ((((p.size : Int) > ((dir.size : Int) + (1 : Int))) → (((dir ++ (ByteArray.mk #[47])).size ≤ maxLen) ∧ (strings_HasPrefix_p p (dir ++ (ByteArray.mk #[47])) (fun (r30 : Bool) => (k17 r30))))) ∧ ((¬ ((p.size : Int) > ((dir.size : Int) + (1 : Int)))) → (k17 false)))))))))
set_option maxRecDepth 20000 in
set_option maxHeartbeats 4000000 in
theorem path_Under_w {X : List Nat} {w : World} {p : ByteArray} {dir : ByteArray} {Q : Bool → Prop} (hX0 : Old X w) (zp1 : p.size ≤ maxLen) (zdir2 : dir.size ≤ maxLen) (hp : path_Under_p p dir Q) :
    Calls Tryd.prog 22 #[(.string p), (.string dir)] w (Ret fun v w' => ∃ (r0 : Bool), Q r0 ∧ Evo [] w w' ∧ v = (.bool r0)) := by
  have hXo := hX0
  have E0 : Evo [] w w := RB.refl _ _ _
  have hS : Sub X X := Sub.refl _
  unfold path_Under_p at hp
  refine enter_ Tryd.func22 rfl 21 [(0, (.string p)), (1, (.string dir))] (by kernel_rfl) (fun Qe hQ => ?_)
  replace hp := hp zp1
  replace hp := hp zdir2
  refine seq_ (fun _ K3 => ?_)
  refine reg_ ?_
  refine sq (o_pv (.bool false) rfl (by kernel_rfl) ?_)
  refine nil_ ?_
  refine then_normal (K3 _ _ _ _ ?_)
  refine seq_ (fun _ K4 => ?_)
  refine seq_ (fun _ K5 => ?_)
  refine reg_ ?_
  refine sq (o_pv (.string dir) rfl (by kernel_rfl) ?_)
  refine sq (o_pv (.bool (decide ((dir : ByteArray) = (ByteArray.mk #[])))) rfl (x_streq (by kernel_rfl) (by kernel_rfl)) ?_)
  refine nil_ ?_
  refine then_normal (K5 _ _ _ _ ?_)
  refine cond_d ((dir : ByteArray) = (ByteArray.mk #[])) (by kernel_rfl) (fun h6 => ?_) (fun h6 => ?_)
  ·
    replace hp := hp.1 h6
    refine seq_ (fun _ K7 => ?_)
    refine reg_ ?_
    refine sq (o_pv (.string p) rfl (by kernel_rfl) ?_)
    refine sq (o_pv (.bool (!decide ((p : ByteArray) = (ByteArray.mk #[])))) rfl (x_strne (by kernel_rfl) (by kernel_rfl)) ?_)
    refine sq (o_pv (.bool (!decide ((p : ByteArray) = (ByteArray.mk #[])))) rfl (by kernel_rfl) ?_)
    refine nil_ ?_
    refine then_normal (K7 _ _ _ _ ?_)
    refine wp_ret ?_
    refine then_ret ?_
    refine end_ret hQ (.bool (!decide ((p : ByteArray) = (ByteArray.mk #[])))) (by kernel_rfl) ?_
    exact ⟨(!decide ((p : ByteArray) = (ByteArray.mk #[]))), hp, E0, rfl⟩
  ·
    replace hp := hp.2 h6
    refine wp_skip ?_
    refine then_normal (K4 _ _ _ _ ?_)
    refine seq_ (fun _ K8 => ?_)
    obtain ⟨k17, hk18, hp⟩ := hp
    refine ground_ ?_
    refine join_ 2096656 (fun lq w19 => ∃ (X20 : List Nat) (s16 : Bool), (lq = [(4, (.bool s16))]) ∧ (Evo [] w w19) ∧ (Old X20 w19) ∧ (Sub X X20) ∧ (k17 s16)) (fun Kj21 hJ22 => ?_) ?_
    ·
      refine reg_ ?_
      refine sq (o_pv (.string p) rfl (by kernel_rfl) ?_)
      refine sq (o_pv (.int .i64 (p.size : Int)) rfl (by kernel_rfl) ?_)
      refine sq (o_pv (.string dir) rfl (by kernel_rfl) ?_)
      refine sq (o_pv (.int .i64 (dir.size : Int)) rfl (by kernel_rfl) ?_)
      obtain ⟨h27, hp⟩ := hp
      refine sq (o_pv (.int .i64 ((dir.size : Int) + (1 : Int))) rfl (x_add2 (k := .i64) (a := (dir.size : Int)) (b := (1 : Int)) ((dir.size : Int) + (1 : Int)) (by kernel_rfl) (by kernel_rfl) (wrap_inR h27)) ?_)
      by_cases h28 : (p.size : Int) > ((dir.size : Int) + (1 : Int))
      ·
        replace hp := hp.1 h28
        refine sq (o_pv (.bool true) rfl (x_dt (p := (p.size : Int) > ((dir.size : Int) + (1 : Int))) (by kernel_rfl) h28) ?_)
        refine sq (o_pv (.bool true) rfl (by kernel_rfl) ?_)
        refine sq (o_pv (.string p) (by kernel_rfl) (by kernel_rfl) ?_)
        refine sq (o_pv (.string dir) (by kernel_rfl) (by kernel_rfl) ?_)
        obtain ⟨h29, hp⟩ := hp
        refine sq (o_pv (.string (dir ++ (ByteArray.mk #[47]))) (by kernel_rfl) (x_cat (by kernel_rfl) (by kernel_rfl) h29) ?_)
        refine sq (o_call 60 #[(.string p), (.string (dir ++ (ByteArray.mk #[47])))] (by kernel_rfl) (x_call Tryd.call60 (by kernel_rfl)) (strings_HasPrefix_w (X := []) (s := p) (prefix_ := dir ++ (ByteArray.mk #[47])) (Old.nil _) zp1 h29 hp) ?_)
        rintro _ w31 ⟨r30, hp, e32, rfl⟩
        have s33 := Step.of0 X e32
        refine sq (o_pv (.bool r30) rfl (by kernel_rfl) ?_)
        refine sq (o_pv (.bool r30) rfl (by kernel_rfl) ?_)
        refine nil_ ?_
        have E34 := (Evo.then0 E0 e32)
        have hXo35 := (Old.step hXo s33)
        have hS36 := (Sub.trans hS (Step.up s33))
        refine then_normal (hJ22 _ _ _ ⟨[(4, (.bool r30))], fit_mk (fun _ _ => rfl) (by kernel_rfl) (vs_cons (by kernel_rfl) vs_nil), ?_⟩)
        exact ⟨X, r30, rfl, E34, hXo35, hS36, hp⟩
      ·
        replace hp := hp.2 h28
        refine sq (o_pv (.bool false) rfl (x_df (p := (p.size : Int) > ((dir.size : Int) + (1 : Int))) (by kernel_rfl) h28) ?_)
        refine sq (o_pv (.bool false) rfl (by kernel_rfl) ?_)
        refine sq (o_not (by kernel_rfl) ?_)
        refine sq (o_not (by kernel_rfl) ?_)
        refine sq (o_not (by kernel_rfl) ?_)
        refine sq (o_not (by kernel_rfl) ?_)
        refine sq (o_pv (.bool false) rfl (by kernel_rfl) ?_)
        refine sq (o_pv (.bool false) rfl (by kernel_rfl) ?_)
        refine nil_ ?_
        refine then_normal (hJ22 _ _ _ ⟨[(4, (.bool false))], fit_mk (fun _ _ => rfl) (by kernel_rfl) (vs_cons (by kernel_rfl) vs_nil), ?_⟩)
        exact ⟨X, false, rfl, E0, hXo, hS, hp⟩
    ·
      rintro _ w19 g37 ⟨X20, s16, rfl, E24, hXo25, hS26, hv23⟩
      replace hp := hk18 s16 hv23
      refine then_normal (K8 _ _ _ _ ?_)
      refine wp_ret ?_
      refine end_ret hQ (.bool s16) (by kernel_rfl) ?_
      exact ⟨s16, hp, E24, rfl⟩

def path_Clash_p (a : ByteArray) (b : ByteArray) (Q : Bool → Prop) : Prop :=
  ((a.size ≤ maxLen) → ((b.size ≤ maxLen) → (∃ k16 : Bool → Prop, (∀ (s15 : Bool), k16 s15 → Q s15) ∧ ((((a : ByteArray) = (ByteArray.mk #[])) → (k16 false)) ∧ ((¬ ((a : ByteArray) = (ByteArray.mk #[]))) → ((((b : ByteArray) = (ByteArray.mk #[])) → (k16 false)) ∧ ((¬ ((b : ByteArray) = (ByteArray.mk #[]))) → (path_Under_p a b (fun (r28 : Bool) => (((r28 = true) → (k16 true)) ∧ ((r28 = false) → (path_Under_p b a (fun (r32 : Bool) => (k16 r32))))))))))))))
set_option maxRecDepth 20000 in
set_option maxHeartbeats 4000000 in
theorem path_Clash_w {X : List Nat} {w : World} {a : ByteArray} {b : ByteArray} {Q : Bool → Prop} (hX0 : Old X w) (za1 : a.size ≤ maxLen) (zb2 : b.size ≤ maxLen) (hp : path_Clash_p a b Q) :
    Calls Tryd.prog 21 #[(.string a), (.string b)] w (Ret fun v w' => ∃ (r0 : Bool), Q r0 ∧ Evo [] w w' ∧ v = (.bool r0)) := by
  have hXo := hX0
  have E0 : Evo [] w w := RB.refl _ _ _
  have hS : Sub X X := Sub.refl _
  unfold path_Clash_p at hp
  refine enter_ Tryd.func21 rfl 21 [(0, (.string a)), (1, (.string b))] (by kernel_rfl) (fun Qe hQ => ?_)
  replace hp := hp za1
  replace hp := hp zb2
  refine seq_ (fun _ K3 => ?_)
  refine reg_ ?_
  refine sq (o_pv (.bool false) rfl (by kernel_rfl) ?_)
  refine nil_ ?_
  refine then_normal (K3 _ _ _ _ ?_)
  refine seq_ (fun _ K4 => ?_)
  obtain ⟨k16, hk17, hp⟩ := hp
  refine ground_ ?_
  refine join_ 2097136 (fun lq w18 => ∃ (X19 : List Nat) (s15 : Bool), (lq = [(4, (.bool s15))]) ∧ (Evo [] w w18) ∧ (Old X19 w18) ∧ (Sub X X19) ∧ (k16 s15)) (fun Kj20 hJ21 => ?_) ?_
  ·
    refine reg_ ?_
    refine sq (o_pv (.string a) rfl (by kernel_rfl) ?_)
    by_cases h26 : (a : ByteArray) = (ByteArray.mk #[])
    ·
      replace hp := hp.1 h26
      refine sq (o_pv (.bool false) rfl (x_ndf (p := (a : ByteArray) = (ByteArray.mk #[])) (x_strne (by kernel_rfl) (by kernel_rfl)) h26) ?_)
      refine sq (o_pv (.bool false) rfl (by kernel_rfl) ?_)
      refine sq (o_not (by kernel_rfl) ?_)
      refine sq (o_not (by kernel_rfl) ?_)
      refine sq (o_pv (.bool false) rfl (by kernel_rfl) ?_)
      refine sq (o_pv (.bool false) rfl (by kernel_rfl) ?_)
      refine sq (o_not (by kernel_rfl) ?_)
      refine sq (o_not (by kernel_rfl) ?_)
      refine sq (o_not (by kernel_rfl) ?_)
      refine sq (o_not (by kernel_rfl) ?_)
      refine sq (o_not (by kernel_rfl) ?_)
      refine sq (o_not (by kernel_rfl) ?_)
      refine sq (o_not (by kernel_rfl) ?_)
      refine sq (o_not (by kernel_rfl) ?_)
      refine sq (o_pv (.bool false) rfl (by kernel_rfl) ?_)
      refine sq (o_pv (.bool false) rfl (by kernel_rfl) ?_)
      refine nil_ ?_
      refine then_normal (hJ21 _ _ _ ⟨[(4, (.bool false))], fit_mk (fun _ _ => rfl) (by kernel_rfl) (vs_cons (by kernel_rfl) vs_nil), ?_⟩)
      exact ⟨X, false, rfl, E0, hXo, hS, hp⟩
    ·
      replace hp := hp.2 h26
      refine sq (o_pv (.bool true) rfl (x_ndt (p := (a : ByteArray) = (ByteArray.mk #[])) (x_strne (by kernel_rfl) (by kernel_rfl)) h26) ?_)
      refine sq (o_pv (.bool true) rfl (by kernel_rfl) ?_)
      refine sq (o_pv (.string b) (by kernel_rfl) (by kernel_rfl) ?_)
      by_cases h27 : (b : ByteArray) = (ByteArray.mk #[])
      ·
        replace hp := hp.1 h27
        refine sq (o_pv (.bool false) (by kernel_rfl) (x_ndf (p := (b : ByteArray) = (ByteArray.mk #[])) (x_strne (by kernel_rfl) (by kernel_rfl)) h27) ?_)
        refine sq (o_pv (.bool false) rfl (by kernel_rfl) ?_)
        refine sq (o_pv (.bool false) rfl (by kernel_rfl) ?_)
        refine sq (o_not (by kernel_rfl) ?_)
        refine sq (o_not (by kernel_rfl) ?_)
        refine sq (o_not (by kernel_rfl) ?_)
        refine sq (o_not (by kernel_rfl) ?_)
        refine sq (o_not (by kernel_rfl) ?_)
        refine sq (o_not (by kernel_rfl) ?_)
        refine sq (o_not (by kernel_rfl) ?_)
        refine sq (o_not (by kernel_rfl) ?_)
        refine sq (o_pv (.bool false) rfl (by kernel_rfl) ?_)
        refine sq (o_pv (.bool false) rfl (by kernel_rfl) ?_)
        refine nil_ ?_
        refine then_normal (hJ21 _ _ _ ⟨[(4, (.bool false))], fit_mk (fun _ _ => rfl) (by kernel_rfl) (vs_cons (by kernel_rfl) vs_nil), ?_⟩)
        exact ⟨X, false, rfl, E0, hXo, hS, hp⟩
      ·
        replace hp := hp.2 h27
        refine sq (o_pv (.bool true) (by kernel_rfl) (x_ndt (p := (b : ByteArray) = (ByteArray.mk #[])) (x_strne (by kernel_rfl) (by kernel_rfl)) h27) ?_)
        refine sq (o_pv (.bool true) rfl (by kernel_rfl) ?_)
        refine sq (o_pv (.bool true) rfl (by kernel_rfl) ?_)
        refine sq (o_pv (.string a) (by kernel_rfl) (by kernel_rfl) ?_)
        refine sq (o_pv (.string b) (by kernel_rfl) (by kernel_rfl) ?_)
        refine sq (o_call 22 #[(.string a), (.string b)] (by kernel_rfl) (x_call Tryd.call22 (by kernel_rfl)) (path_Under_w (X := []) (p := a) (dir := b) (Old.nil _) za1 zb2 hp) ?_)
        rintro _ w29 ⟨r28, hp, e30, rfl⟩
        have s31 := Step.of0 X e30
        cases r28
        ·
          replace hp := hp.2 rfl
          refine sq (o_pv (.bool false) (by kernel_rfl) (by kernel_rfl) ?_)
          refine sq (o_pv (.string b) (by kernel_rfl) (by kernel_rfl) ?_)
          refine sq (o_pv (.string a) (by kernel_rfl) (by kernel_rfl) ?_)
          refine sq (o_call 22 #[(.string b), (.string a)] (by kernel_rfl) (x_call Tryd.call22 (by kernel_rfl)) (path_Under_w (X := []) (p := b) (dir := a) (Old.nil _) zb2 za1 hp) ?_)
          rintro _ w33 ⟨r32, hp, e34, rfl⟩
          have s35 := Step.of0 X e34
          refine sq (o_pv (.bool r32) (by kernel_rfl) (by kernel_rfl) ?_)
          refine sq (o_pv (.bool r32) rfl (by kernel_rfl) ?_)
          refine sq (o_pv (.bool r32) rfl (by kernel_rfl) ?_)
          refine nil_ ?_
          have E36 := (Evo.then0 (Evo.then0 E0 e30) e34)
          have hXo37 := (Old.step (Old.step hXo s31) s35)
          have hS38 := (Sub.trans (Sub.trans hS (Step.up s31)) (Step.up s35))
          refine then_normal (hJ21 _ _ _ ⟨[(4, (.bool r32))], fit_mk (fun _ _ => rfl) (by kernel_rfl) (vs_cons (by kernel_rfl) vs_nil), ?_⟩)
          exact ⟨X, r32, rfl, E36, hXo37, hS38, hp⟩
        ·
          replace hp := hp.1 rfl
          refine sq (o_pv (.bool true) (by kernel_rfl) (by kernel_rfl) ?_)
          refine sq (o_not (by kernel_rfl) ?_)
          refine sq (o_not (by kernel_rfl) ?_)
          refine sq (o_not (by kernel_rfl) ?_)
          refine sq (o_pv (.bool true) (by kernel_rfl) (by kernel_rfl) ?_)
          refine sq (o_pv (.bool true) rfl (by kernel_rfl) ?_)
          refine sq (o_pv (.bool true) rfl (by kernel_rfl) ?_)
          refine nil_ ?_
          have E39 := (Evo.then0 E0 e30)
          have hXo40 := (Old.step hXo s31)
          have hS41 := (Sub.trans hS (Step.up s31))
          refine then_normal (hJ21 _ _ _ ⟨[(4, (.bool true))], fit_mk (fun _ _ => rfl) (by kernel_rfl) (vs_cons (by kernel_rfl) vs_nil), ?_⟩)
          exact ⟨X, true, rfl, E39, hXo40, hS41, hp⟩
  ·
    rintro _ w18 g42 ⟨X19, s15, rfl, E23, hXo24, hS25, hv22⟩
    replace hp := hk17 s15 hv22
    refine then_normal (K4 _ _ _ _ ?_)
    refine wp_ret ?_
    refine end_ret hQ (.bool s15) (by kernel_rfl) ?_
    exact ⟨s15, hp, E23, rfl⟩

def cmp_isNaN_string_p (x : ByteArray) (Q : Bool → Prop) : Prop :=
  ((x.size ≤ maxLen) → Q (!decide ((x : ByteArray) = x)))
set_option maxRecDepth 20000 in
set_option maxHeartbeats 4000000 in
theorem cmp_isNaN_string_w {X : List Nat} {w : World} {x : ByteArray} {Q : Bool → Prop} (hX0 : Old X w) (zx1 : x.size ≤ maxLen) (hp : cmp_isNaN_string_p x Q) :
    Calls Tryd.prog 104 #[(.string x)] w (Ret fun v w' => ∃ (r0 : Bool), Q r0 ∧ Evo [] w w' ∧ v = (.bool r0)) := by
  have hXo := hX0
  have E0 : Evo [] w w := RB.refl _ _ _
  have hS : Sub X X := Sub.refl _
  unfold cmp_isNaN_string_p at hp
  refine enter_ Tryd.func104 rfl 6 [(0, (.string x))] (by kernel_rfl) (fun Qe hQ => ?_)
  replace hp := hp zx1
  refine seq_ (fun _ K2 => ?_)
  refine reg_ ?_
  refine sq (o_pv (.bool false) rfl (by kernel_rfl) ?_)
  refine nil_ ?_
  refine then_normal (K2 _ _ _ _ ?_)
  refine seq_ (fun _ K3 => ?_)
  refine reg_ ?_
  refine sq (o_pv (.string x) rfl (by kernel_rfl) ?_)
  refine sq (o_pv (.string x) rfl (by kernel_rfl) ?_)
  refine sq (o_pv (.bool (!decide ((x : ByteArray) = x))) rfl (x_strne (by kernel_rfl) (by kernel_rfl)) ?_)
  refine sq (o_pv (.bool (!decide ((x : ByteArray) = x))) rfl (by kernel_rfl) ?_)
  refine nil_ ?_
  refine then_normal (K3 _ _ _ _ ?_)
  refine wp_ret ?_
  refine end_ret hQ (.bool (!decide ((x : ByteArray) = x))) (by kernel_rfl) ?_
  exact ⟨(!decide ((x : ByteArray) = x)), hp, E0, rfl⟩

def cmp_Compare_string_p (x : ByteArray) (y : ByteArray) (Q : Int → Prop) : Prop :=
  ((x.size ≤ maxLen) → ((y.size ≤ maxLen) → (cmp_isNaN_string_p x (fun (r5 : Bool) => (cmp_isNaN_string_p y (fun (r10 : Bool) => (((r5 = true) → (((r10 = true) → Q (0 : Int)) ∧ ((r10 = false) → Q (-1 : Int)))) ∧ ((r5 = false) → (((r10 = true) → Q (1 : Int)) ∧ ((r10 = false) → ((((sless x y) = true) → Q (-1 : Int)) ∧ (((sless x y) = false) → ((((!(sless x y || decide (x = y))) = true) → Q (1 : Int)) ∧ (((!(sless x y || decide (x = y))) = false) → Q (0 : Int)))))))))))))))
set_option maxRecDepth 20000 in
set_option maxHeartbeats 4000000 in
theorem cmp_Compare_string_w {X : List Nat} {w : World} {x : ByteArray} {y : ByteArray} {Q : Int → Prop} (hX0 : Old X w) (zx1 : x.size ≤ maxLen) (zy2 : y.size ≤ maxLen) (hp : cmp_Compare_string_p x y Q) :
    Calls Tryd.prog 61 #[(.string x), (.string y)] w (Ret fun v w' => ∃ (r0 : Int), Q r0 ∧ Evo [] w w' ∧ v = (.int .i64 r0) ∧ inR .i64 r0) := by
  have hXo := hX0
  have E0 : Evo [] w w := RB.refl _ _ _
  have hS : Sub X X := Sub.refl _
  unfold cmp_Compare_string_p at hp
  refine enter_ Tryd.func61 rfl 20 [(0, (.string x)), (1, (.string y))] (by kernel_rfl) (fun Qe hQ => ?_)
  replace hp := hp zx1
  replace hp := hp zy2
  refine seq_ (fun _ K3 => ?_)
  refine reg_ ?_
  refine sq (o_pv (.int .i64 (0 : Int)) rfl (by kernel_rfl) ?_)
  refine nil_ ?_
  refine then_normal (K3 _ _ _ _ ?_)
  refine seq_ (fun _ K4 => ?_)
  refine reg_ ?_
  refine sq (o_pv (.string x) rfl (by kernel_rfl) ?_)
  refine sq (o_call 104 #[(.string x)] rfl (x_call Tryd.call104 (by kernel_rfl)) (cmp_isNaN_string_w (X := []) (x := x) (Old.nil _) zx1 hp) ?_)
  rintro _ w6 ⟨r5, hp, e7, rfl⟩
  have s8 := Step.of0 X e7
  refine sq (o_pv (.bool r5) rfl (by kernel_rfl) ?_)
  refine nil_ ?_
  refine then_normal (K4 _ _ _ _ ?_)
  refine seq_ (fun _ K9 => ?_)
  refine reg_ ?_
  refine sq (o_pv (.string y) rfl (by kernel_rfl) ?_)
  refine sq (o_call 104 #[(.string y)] rfl (x_call Tryd.call104 (by kernel_rfl)) (cmp_isNaN_string_w (X := []) (x := y) (Old.nil _) zy2 hp) ?_)
  rintro _ w11 ⟨r10, hp, e12, rfl⟩
  have s13 := Step.of0 X e12
  refine sq (o_pv (.bool r10) rfl (by kernel_rfl) ?_)
  refine nil_ ?_
  refine then_normal (K9 _ _ _ _ ?_)
  refine seq_ (fun _ K14 => ?_)
  refine seq_ (fun _ K15 => ?_)
  refine reg_ ?_
  refine sq (o_pv (.bool r5) rfl (by kernel_rfl) ?_)
  refine nil_ ?_
  refine then_normal (K15 _ _ _ _ ?_)
  refine cond_b r5 (by kernel_rfl) (fun h16 => ?_) (fun h16 => ?_)
  ·
    replace hp := hp.1 h16
    refine seq_ (fun _ K17 => ?_)
    refine seq_ (fun _ K18 => ?_)
    refine reg_ ?_
    refine sq (o_pv (.bool r10) rfl (by kernel_rfl) ?_)
    refine nil_ ?_
    refine then_normal (K18 _ _ _ _ ?_)
    refine cond_b r10 (by kernel_rfl) (fun h19 => ?_) (fun h19 => ?_)
    ·
      replace hp := hp.1 h19
      refine seq_ (fun _ K20 => ?_)
      refine reg_ ?_
      refine sq (o_pv (.int .i64 (0 : Int)) rfl (by kernel_rfl) ?_)
      refine nil_ ?_
      refine then_normal (K20 _ _ _ _ ?_)
      refine wp_ret ?_
      refine then_ret ?_
      refine then_ret ?_
      have E21 := (Evo.then0 (Evo.then0 E0 e7) e12)
      refine end_ret hQ (.int .i64 (0 : Int)) (by kernel_rfl) ?_
      exact ⟨(0 : Int), hp, E21, rfl, (by decide)⟩
    ·
      replace hp := hp.2 h19
      refine wp_skip ?_
      refine then_normal (K17 _ _ _ _ ?_)
      refine seq_ (fun _ K22 => ?_)
      refine reg_ ?_
      refine sq (o_pv (.int .i64 (-1 : Int)) rfl (by kernel_rfl) ?_)
      refine nil_ ?_
      refine then_normal (K22 _ _ _ _ ?_)
      refine wp_ret ?_
      refine then_ret ?_
      have E23 := (Evo.then0 (Evo.then0 E0 e7) e12)
      refine end_ret hQ (.int .i64 (-1 : Int)) (by kernel_rfl) ?_
      exact ⟨(-1 : Int), hp, E23, rfl, (by decide)⟩
  ·
    replace hp := hp.2 h16
    refine wp_skip ?_
    refine then_normal (K14 _ _ _ _ ?_)
    refine seq_ (fun _ K24 => ?_)
    refine seq_ (fun _ K25 => ?_)
    refine reg_ ?_
    refine sq (o_pv (.bool r10) rfl (by kernel_rfl) ?_)
    refine nil_ ?_
    refine then_normal (K25 _ _ _ _ ?_)
    refine cond_b r10 (by kernel_rfl) (fun h26 => ?_) (fun h26 => ?_)
    ·
      replace hp := hp.1 h26
      refine seq_ (fun _ K27 => ?_)
      refine reg_ ?_
      refine sq (o_pv (.int .i64 (1 : Int)) rfl (by kernel_rfl) ?_)
      refine nil_ ?_
      refine then_normal (K27 _ _ _ _ ?_)
      refine wp_ret ?_
      refine then_ret ?_
      have E28 := (Evo.then0 (Evo.then0 E0 e7) e12)
      refine end_ret hQ (.int .i64 (1 : Int)) (by kernel_rfl) ?_
      exact ⟨(1 : Int), hp, E28, rfl, (by decide)⟩
    ·
      replace hp := hp.2 h26
      refine wp_skip ?_
      refine then_normal (K24 _ _ _ _ ?_)
      refine seq_ (fun _ K29 => ?_)
      refine seq_ (fun _ K30 => ?_)
      refine reg_ ?_
      refine sq (o_pv (.string x) rfl (by kernel_rfl) ?_)
      refine sq (o_pv (.string y) rfl (by kernel_rfl) ?_)
      refine sq (o_pv (.bool (sless x y)) rfl (x_strlss (by kernel_rfl) (by kernel_rfl)) ?_)
      refine nil_ ?_
      refine then_normal (K30 _ _ _ _ ?_)
      refine cond_b (sless x y) (by kernel_rfl) (fun h31 => ?_) (fun h31 => ?_)
      ·
        replace hp := hp.1 h31
        refine seq_ (fun _ K32 => ?_)
        refine reg_ ?_
        refine sq (o_pv (.int .i64 (-1 : Int)) rfl (by kernel_rfl) ?_)
        refine nil_ ?_
        refine then_normal (K32 _ _ _ _ ?_)
        refine wp_ret ?_
        refine then_ret ?_
        have E33 := (Evo.then0 (Evo.then0 E0 e7) e12)
        refine end_ret hQ (.int .i64 (-1 : Int)) (by kernel_rfl) ?_
        exact ⟨(-1 : Int), hp, E33, rfl, (by decide)⟩
      ·
        replace hp := hp.2 h31
        refine wp_skip ?_
        refine then_normal (K29 _ _ _ _ ?_)
        refine seq_ (fun _ K34 => ?_)
        refine seq_ (fun _ K35 => ?_)
        refine reg_ ?_
        refine sq (o_pv (.string x) rfl (by kernel_rfl) ?_)
        refine sq (o_pv (.string y) rfl (by kernel_rfl) ?_)
        refine sq (o_pv (.bool (!(sless x y || decide (x = y)))) rfl (x_strgtr (by kernel_rfl) (by kernel_rfl)) ?_)
        refine nil_ ?_
        refine then_normal (K35 _ _ _ _ ?_)
        refine cond_b (!(sless x y || decide (x = y))) (by kernel_rfl) (fun h36 => ?_) (fun h36 => ?_)
        ·
          replace hp := hp.1 h36
          refine seq_ (fun _ K37 => ?_)
          refine reg_ ?_
          refine sq (o_pv (.int .i64 (1 : Int)) rfl (by kernel_rfl) ?_)
          refine nil_ ?_
          refine then_normal (K37 _ _ _ _ ?_)
          refine wp_ret ?_
          refine then_ret ?_
          have E38 := (Evo.then0 (Evo.then0 E0 e7) e12)
          refine end_ret hQ (.int .i64 (1 : Int)) (by kernel_rfl) ?_
          exact ⟨(1 : Int), hp, E38, rfl, (by decide)⟩
        ·
          replace hp := hp.2 h36
          refine wp_skip ?_
          refine then_normal (K34 _ _ _ _ ?_)
          refine seq_ (fun _ K39 => ?_)
          refine reg_ ?_
          refine sq (o_pv (.int .i64 (0 : Int)) rfl (by kernel_rfl) ?_)
          refine nil_ ?_
          refine then_normal (K39 _ _ _ _ ?_)
          refine wp_ret ?_
          have E40 := (Evo.then0 (Evo.then0 E0 e7) e12)
          refine end_ret hQ (.int .i64 (0 : Int)) (by kernel_rfl) ?_
          exact ⟨(0 : Int), hp, E40, rfl, (by decide)⟩

def path_Compare_p (a : ByteArray) (b : ByteArray) (Q : Int → Prop) : Prop :=
  ((a.size ≤ maxLen) → ((b.size ≤ maxLen) → (cmp_Compare_string_p a b (fun (r5 : Int) => ((inR .i64 r5) → Q r5)))))
set_option maxRecDepth 20000 in
set_option maxHeartbeats 4000000 in
theorem path_Compare_w {X : List Nat} {w : World} {a : ByteArray} {b : ByteArray} {Q : Int → Prop} (hX0 : Old X w) (za1 : a.size ≤ maxLen) (zb2 : b.size ≤ maxLen) (hp : path_Compare_p a b Q) :
    Calls Tryd.prog 25 #[(.string a), (.string b)] w (Ret fun v w' => ∃ (r0 : Int), Q r0 ∧ Evo [] w w' ∧ v = (.int .i64 r0) ∧ inR .i64 r0) := by
  have hXo := hX0
  have E0 : Evo [] w w := RB.refl _ _ _
  have hS : Sub X X := Sub.refl _
  unfold path_Compare_p at hp
  refine enter_ Tryd.func25 rfl 8 [(0, (.string a)), (1, (.string b))] (by kernel_rfl) (fun Qe hQ => ?_)
  replace hp := hp za1
  replace hp := hp zb2
  refine seq_ (fun _ K3 => ?_)
  refine reg_ ?_
  refine sq (o_pv (.int .i64 (0 : Int)) rfl (by kernel_rfl) ?_)
  refine nil_ ?_
  refine then_normal (K3 _ _ _ _ ?_)
  refine seq_ (fun _ K4 => ?_)
  refine reg_ ?_
  refine sq (o_pv (.string a) rfl (by kernel_rfl) ?_)
  refine sq (o_pv (.string b) rfl (by kernel_rfl) ?_)
  refine sq (o_call 61 #[(.string a), (.string b)] rfl (x_call Tryd.call61 (by kernel_rfl)) (cmp_Compare_string_w (X := []) (x := a) (y := b) (Old.nil _) za1 zb2 hp) ?_)
  rintro _ w6 ⟨r5, hp, e7, rfl, rr9⟩
  have s8 := Step.of0 X e7
  replace hp := hp rr9
  refine sq (o_pv (.int .i64 r5) rfl (by kernel_rfl) ?_)
  refine nil_ ?_
  refine then_normal (K4 _ _ _ _ ?_)
  refine wp_ret ?_
  have E10 := (Evo.then0 E0 e7)
  refine end_ret hQ (.int .i64 r5) (by kernel_rfl) ?_
  exact ⟨r5, hp, E10, rfl, rr9⟩

def rectolaw1_known_p (Q : Bool → Prop) : Prop :=
  (path_Parts_p (ByteArray.mk #[97, 47, 98, 46, 99]) (fun (r3 : (List ByteArray)) => ((r3.length ≤ 9223372036854775807) → (∃ k64 : Bool → Prop, (∀ (s63 : Bool), k64 s63 → Q s63) ∧ (path_Check_p (ByteArray.mk #[97, 47, 98, 46, 99]) (fun (r77 : Int) => ((inR .i64 r77) → (((r77 = (0 : Int)) → (path_Check_p (ByteArray.mk #[97, 47, 47, 98]) (fun (r83 : Int) => ((inR .i64 r83) → (((r83 = (5 : Int)) → ((((r3.length : Int) = (2 : Int)) → ((inL r3 (1 : Int)) ∧ (((lget r3 (1 : Int)).size ≤ maxLen) → ((((lget r3 (1 : Int) : ByteArray) = (ByteArray.mk #[98, 46, 99])) → (path_Parent_p (ByteArray.mk #[97, 47, 98]) (fun (r102 : ByteArray) => ((r102.size ≤ maxLen) → ((((r102 : ByteArray) = (ByteArray.mk #[97])) → (path_Under_p (ByteArray.mk #[97, 47, 98]) (ByteArray.mk #[97]) (fun (r108 : Bool) => (((r108 = true) → (path_Under_p (ByteArray.mk #[97, 98]) (ByteArray.mk #[97]) (fun (r115 : Bool) => (((r115 = true) → (k64 false)) ∧ ((r115 = false) → (path_Clash_p (ByteArray.mk #[97]) (ByteArray.mk #[97, 47, 98]) (fun (r119 : Bool) => (((r119 = true) → (path_Clash_p (ByteArray.mk #[97]) (ByteArray.mk #[97]) (fun (r126 : Bool) => (((r126 = true) → (k64 false)) ∧ ((r126 = false) → (path_Compare_p (ByteArray.mk #[97]) (ByteArray.mk #[98]) (fun (r130 : Int) => ((inR .i64 r130) → (k64 (decide (r130 = (-1 : Int)))))))))))) ∧ ((r119 = false) → (k64 false)))))))))) ∧ ((r108 = false) → (k64 false)))))) ∧ ((¬ ((r102 : ByteArray) = (ByteArray.mk #[97]))) → (k64 false))))))) ∧ ((¬ ((lget r3 (1 : Int) : ByteArray) = (ByteArray.mk #[98, 46, 99]))) → (k64 false)))))) ∧ ((¬ ((r3.length : Int) = (2 : Int))) → (k64 false)))) ∧ ((¬ (r83 = (5 : Int))) → (k64 false))))))) ∧ ((¬ (r77 = (0 : Int))) → (k64 false))))))))))
set_option maxRecDepth 20000 in
set_option maxHeartbeats 4000000 in
theorem rectolaw1_known_w {X : List Nat} {w : World} {Q : Bool → Prop} (hX0 : Old X w) (hp : rectolaw1_known_p Q) :
    Calls Tryd.prog 13 #[] w (Ret fun v w' => ∃ (r0 : Bool), Q r0 ∧ Evo [] w w' ∧ v = (.bool r0)) := by
  have hXo := hX0
  have E0 : Evo [] w w := RB.refl _ _ _
  have hS : Sub X X := Sub.refl _
  unfold rectolaw1_known_p at hp
  refine enter_ Tryd.func13 rfl 42 [] (by kernel_rfl) (fun Qe hQ => ?_)
  refine seq_ (fun _ K1 => ?_)
  refine reg_ ?_
  refine sq (o_pv (.bool false) rfl (by kernel_rfl) ?_)
  refine nil_ ?_
  refine then_normal (K1 _ _ _ _ ?_)
  refine seq_ (fun _ K2 => ?_)
  refine reg_ ?_
  refine sq (o_call 17 #[(.string (ByteArray.mk #[97, 47, 98, 46, 99]))] rfl (x_call Tryd.call17 (by kernel_rfl)) (path_Parts_w (X := X) (p := (ByteArray.mk #[97, 47, 98, 46, 99])) hXo (by decide) hp) ?_)
  rintro _ w4 ⟨r3, hp, e5, ar7, cr8, rfl, hr9⟩
  have s6 := Step.of0 X e5
  replace hp := hp (Sl.len hr9)
  refine sq (o_pv (.slice ar7 r3.length cr8) rfl (by kernel_rfl) ?_)
  refine nil_ ?_
  refine then_normal (K2 _ _ _ _ ?_)
  refine seq_ (fun _ K10 => ?_)
  have hXo71 := (Old.step hXo s6)
  have E72 := (Evo.then0 E0 e5)
  have hS73 := (Sub.trans hS (Step.up s6))
  obtain ⟨k64, hk65, hp⟩ := hp
  refine ground_ ?_
  refine join_ 4398046511097 (fun lq w66 => ∃ (X67 : List Nat) (s63 : Bool), (lq = [(0, (.bool s63))]) ∧ (Evo [] w w66) ∧ (Old X67 w66) ∧ (Sub X X67) ∧ (k64 s63)) (fun Kj68 hJ69 => ?_) ?_
  ·
    refine reg_ ?_
    refine sq (o_call 14 #[(.string (ByteArray.mk #[97, 47, 98, 46, 99]))] rfl (x_call Tryd.call14 (by kernel_rfl)) (path_Check_w (X := []) (p := (ByteArray.mk #[97, 47, 98, 46, 99])) (Old.nil _) (by decide) hp) ?_)
    rintro _ w78 ⟨r77, hp, e79, rfl, rr81⟩
    have s80 := Step.of0 X e79
    replace hp := hp rr81
    by_cases h82 : r77 = (0 : Int)
    ·
      replace hp := hp.1 h82
      refine sq (o_pv (.bool true) rfl (x_dt (p := r77 = (0 : Int)) (by kernel_rfl) h82) ?_)
      refine sq (o_pv (.bool true) rfl (by kernel_rfl) ?_)
      refine sq (o_call 14 #[(.string (ByteArray.mk #[97, 47, 47, 98]))] (by kernel_rfl) (x_call Tryd.call14 (by kernel_rfl)) (path_Check_w (X := []) (p := (ByteArray.mk #[97, 47, 47, 98])) (Old.nil _) (by decide) hp) ?_)
      rintro _ w84 ⟨r83, hp, e85, rfl, rr87⟩
      have s86 := Step.of0 X e85
      replace hp := hp rr87
      by_cases h88 : r83 = (5 : Int)
      ·
        replace hp := hp.1 h88
        refine sq (o_pv (.bool true) (by kernel_rfl) (x_dt (p := r83 = (5 : Int)) (by kernel_rfl) h88) ?_)
        refine sq (o_pv (.bool true) rfl (by kernel_rfl) ?_)
        refine sq (o_pv (.bool true) rfl (by kernel_rfl) ?_)
        refine sq (o_pv (.slice ar7 r3.length cr8) (by kernel_rfl) (by kernel_rfl) ?_)
        refine sq (o_pv (.int .i64 (r3.length : Int)) (by kernel_rfl) (by kernel_rfl) ?_)
        by_cases h89 : (r3.length : Int) = (2 : Int)
        ·
          replace hp := hp.1 h89
          refine sq (o_pv (.bool true) (by kernel_rfl) (x_dt (p := (r3.length : Int) = (2 : Int)) (by kernel_rfl) h89) ?_)
          refine sq (o_pv (.bool true) rfl (by kernel_rfl) ?_)
          refine sq (o_pv (.bool true) rfl (by kernel_rfl) ?_)
          refine sq (o_pv (.slice ar7 r3.length cr8) (by kernel_rfl) (by kernel_rfl) ?_)
          obtain ⟨h90, hp⟩ := hp
          have hr91 := (Sl.step (Sl.step hr9 s80) s86)
          obtain ⟨b92, o93, cs94, ha95, nx96, lt97, ok98, hc99⟩ := Sl.atI hr91 (1 : Int) h90
          obtain ⟨rfl, ze100⟩ := ok98
          replace hp := hp ze100
          refine sq (o_pv (.pointer (some ⟨b92, o93 + (1 : Int).toNat * 1, none⟩)) (by kernel_rfl) (x_ixA (m := r3.length) (c := cr8) (k := .i64) (i := (1 : Int)) Tryd.underlying27 Tryd.sizeOf9 (by rw [← ha95]; kernel_rfl) (by kernel_rfl) h90) ?_)
          refine sq (o_pv (.string (lget r3 (1 : Int))) (by kernel_rfl) (x_load1 (by kernel_rfl) Tryd.isAgg9 (hc99 0 _ rfl)) ?_)
          by_cases h101 : (lget r3 (1 : Int) : ByteArray) = (ByteArray.mk #[98, 46, 99])
          ·
            replace hp := hp.1 h101
            refine sq (o_pv (.bool true) (by kernel_rfl) (x_dt (p := (lget r3 (1 : Int) : ByteArray) = (ByteArray.mk #[98, 46, 99])) (x_streq (by kernel_rfl) (by kernel_rfl)) h101) ?_)
            refine sq (o_pv (.bool true) rfl (by kernel_rfl) ?_)
            refine sq (o_pv (.bool true) rfl (by kernel_rfl) ?_)
            refine sq (o_call 19 #[(.string (ByteArray.mk #[97, 47, 98]))] (by kernel_rfl) (x_call Tryd.call19 (by kernel_rfl)) (path_Parent_w (X := []) (p := (ByteArray.mk #[97, 47, 98])) (Old.nil _) (by decide) hp) ?_)
            rintro _ w103 ⟨r102, hp, e104, rfl, zr106⟩
            have s105 := Step.of0 X e104
            replace hp := hp zr106
            by_cases h107 : (r102 : ByteArray) = (ByteArray.mk #[97])
            ·
              replace hp := hp.1 h107
              refine sq (o_pv (.bool true) (by kernel_rfl) (x_dt (p := (r102 : ByteArray) = (ByteArray.mk #[97])) (x_streq (by kernel_rfl) (by kernel_rfl)) h107) ?_)
              refine sq (o_pv (.bool true) rfl (by kernel_rfl) ?_)
              refine sq (o_pv (.bool true) rfl (by kernel_rfl) ?_)
              refine sq (o_call 22 #[(.string (ByteArray.mk #[97, 47, 98])), (.string (ByteArray.mk #[97]))] (by kernel_rfl) (x_call Tryd.call22 (by kernel_rfl)) (path_Under_w (X := []) (p := (ByteArray.mk #[97, 47, 98])) (dir := (ByteArray.mk #[97])) (Old.nil _) (by decide) (by decide) hp) ?_)
              rintro _ w109 ⟨r108, hp, e110, rfl⟩
              have s111 := Step.of0 X e110
              cases r108
              ·
                replace hp := hp.2 rfl
                refine sq (o_pv (.bool false) rfl (by kernel_rfl) ?_)
                refine sq (o_pv (.bool false) rfl (by kernel_rfl) ?_)
                refine sq (o_not (by kernel_rfl) ?_)
                refine sq (o_not (by kernel_rfl) ?_)
                refine sq (o_pv (.bool false) rfl (by kernel_rfl) ?_)
                refine sq (o_pv (.bool false) rfl (by kernel_rfl) ?_)
                refine sq (o_not (by kernel_rfl) ?_)
                refine sq (o_pv (.bool false) rfl (by kernel_rfl) ?_)
                refine sq (o_pv (.bool false) rfl (by kernel_rfl) ?_)
                refine sq (o_not (by kernel_rfl) ?_)
                refine sq (o_not (by kernel_rfl) ?_)
                refine sq (o_pv (.bool false) rfl (by kernel_rfl) ?_)
                refine sq (o_pv (.bool false) rfl (by kernel_rfl) ?_)
                refine sq (o_not (by kernel_rfl) ?_)
                refine sq (o_not (by kernel_rfl) ?_)
                refine sq (o_pv (.bool false) rfl (by kernel_rfl) ?_)
                refine sq (o_pv (.bool false) rfl (by kernel_rfl) ?_)
                refine nil_ ?_
                have E112 := (Evo.then0 (Evo.then0 (Evo.then0 (Evo.then0 E72 e79) e85) e104) e110)
                have hXo113 := (Old.step (Old.step (Old.step (Old.step hXo71 s80) s86) s105) s111)
                have hS114 := (Sub.trans (Sub.trans (Sub.trans (Sub.trans hS73 (Step.up s80)) (Step.up s86)) (Step.up s105)) (Step.up s111))
                refine then_normal (hJ69 _ _ _ ⟨[(0, (.bool false))], fit_mk (fun _ _ => rfl) (by kernel_rfl) (vs_cons (by kernel_rfl) vs_nil), ?_⟩)
                exact ⟨X, false, rfl, E112, hXo113, hS114, hp⟩
              ·
                replace hp := hp.1 rfl
                refine sq (o_pv (.bool true) rfl (by kernel_rfl) ?_)
                refine sq (o_pv (.bool true) rfl (by kernel_rfl) ?_)
                refine sq (o_call 22 #[(.string (ByteArray.mk #[97, 98])), (.string (ByteArray.mk #[97]))] (by kernel_rfl) (x_call Tryd.call22 (by kernel_rfl)) (path_Under_w (X := []) (p := (ByteArray.mk #[97, 98])) (dir := (ByteArray.mk #[97])) (Old.nil _) (by decide) (by decide) hp) ?_)
                rintro _ w116 ⟨r115, hp, e117, rfl⟩
                have s118 := Step.of0 X e117
                cases r115
                ·
                  replace hp := hp.2 rfl
                  refine sq (o_pv (.bool true) (by kernel_rfl) (by kernel_rfl) ?_)
                  refine sq (o_pv (.bool true) rfl (by kernel_rfl) ?_)
                  refine sq (o_pv (.bool true) rfl (by kernel_rfl) ?_)
                  refine sq (o_call 21 #[(.string (ByteArray.mk #[97])), (.string (ByteArray.mk #[97, 47, 98]))] (by kernel_rfl) (x_call Tryd.call21 (by kernel_rfl)) (path_Clash_w (X := []) (a := (ByteArray.mk #[97])) (b := (ByteArray.mk #[97, 47, 98])) (Old.nil _) (by decide) (by decide) hp) ?_)
                  rintro _ w120 ⟨r119, hp, e121, rfl⟩
                  have s122 := Step.of0 X e121
                  cases r119
                  ·
                    replace hp := hp.2 rfl
                    refine sq (o_pv (.bool false) rfl (by kernel_rfl) ?_)
                    refine sq (o_pv (.bool false) rfl (by kernel_rfl) ?_)
                    refine sq (o_not (by kernel_rfl) ?_)
                    refine sq (o_not (by kernel_rfl) ?_)
                    refine sq (o_pv (.bool false) rfl (by kernel_rfl) ?_)
                    refine sq (o_pv (.bool false) rfl (by kernel_rfl) ?_)
                    refine sq (o_not (by kernel_rfl) ?_)
                    refine sq (o_not (by kernel_rfl) ?_)
                    refine sq (o_pv (.bool false) rfl (by kernel_rfl) ?_)
                    refine sq (o_pv (.bool false) rfl (by kernel_rfl) ?_)
                    refine nil_ ?_
                    have E123 := (Evo.then0 (Evo.then0 (Evo.then0 (Evo.then0 (Evo.then0 (Evo.then0 E72 e79) e85) e104) e110) e117) e121)
                    have hXo124 := (Old.step (Old.step (Old.step (Old.step (Old.step (Old.step hXo71 s80) s86) s105) s111) s118) s122)
                    have hS125 := (Sub.trans (Sub.trans (Sub.trans (Sub.trans (Sub.trans (Sub.trans hS73 (Step.up s80)) (Step.up s86)) (Step.up s105)) (Step.up s111)) (Step.up s118)) (Step.up s122))
                    refine then_normal (hJ69 _ _ _ ⟨[(0, (.bool false))], fit_mk (fun _ _ => rfl) (by kernel_rfl) (vs_cons (by kernel_rfl) vs_nil), ?_⟩)
                    exact ⟨X, false, rfl, E123, hXo124, hS125, hp⟩
                  ·
                    replace hp := hp.1 rfl
                    refine sq (o_pv (.bool true) rfl (by kernel_rfl) ?_)
                    refine sq (o_pv (.bool true) rfl (by kernel_rfl) ?_)
                    refine sq (o_call 21 #[(.string (ByteArray.mk #[97])), (.string (ByteArray.mk #[97]))] (by kernel_rfl) (x_call Tryd.call21 (by kernel_rfl)) (path_Clash_w (X := []) (a := (ByteArray.mk #[97])) (b := (ByteArray.mk #[97])) (Old.nil _) (by decide) (by decide) hp) ?_)
                    rintro _ w127 ⟨r126, hp, e128, rfl⟩
                    have s129 := Step.of0 X e128
                    cases r126
                    ·
                      replace hp := hp.2 rfl
                      refine sq (o_pv (.bool true) (by kernel_rfl) (by kernel_rfl) ?_)
                      refine sq (o_pv (.bool true) rfl (by kernel_rfl) ?_)
                      refine sq (o_pv (.bool true) rfl (by kernel_rfl) ?_)
                      refine sq (o_call 25 #[(.string (ByteArray.mk #[97])), (.string (ByteArray.mk #[98]))] (by kernel_rfl) (x_call Tryd.call25 (by kernel_rfl)) (path_Compare_w (X := []) (a := (ByteArray.mk #[97])) (b := (ByteArray.mk #[98])) (Old.nil _) (by decide) (by decide) hp) ?_)
                      rintro _ w131 ⟨r130, hp, e132, rfl, rr134⟩
                      have s133 := Step.of0 X e132
                      replace hp := hp rr134
                      refine sq (o_pv (.bool (decide (r130 = (-1 : Int)))) (by kernel_rfl) (by kernel_rfl) ?_)
                      refine sq (o_pv (.bool (decide (r130 = (-1 : Int)))) rfl (by kernel_rfl) ?_)
                      refine sq (o_pv (.bool (decide (r130 = (-1 : Int)))) rfl (by kernel_rfl) ?_)
                      refine nil_ ?_
                      have E135 := (Evo.then0 (Evo.then0 (Evo.then0 (Evo.then0 (Evo.then0 (Evo.then0 (Evo.then0 (Evo.then0 E72 e79) e85) e104) e110) e117) e121) e128) e132)
                      have hXo136 := (Old.step (Old.step (Old.step (Old.step (Old.step (Old.step (Old.step (Old.step hXo71 s80) s86) s105) s111) s118) s122) s129) s133)
                      have hS137 := (Sub.trans (Sub.trans (Sub.trans (Sub.trans (Sub.trans (Sub.trans (Sub.trans (Sub.trans hS73 (Step.up s80)) (Step.up s86)) (Step.up s105)) (Step.up s111)) (Step.up s118)) (Step.up s122)) (Step.up s129)) (Step.up s133))
                      refine then_normal (hJ69 _ _ _ ⟨[(0, (.bool (decide (r130 = (-1 : Int)))))], fit_mk (fun _ _ => rfl) (by kernel_rfl) (vs_cons (by kernel_rfl) vs_nil), ?_⟩)
                      exact ⟨X, (decide (r130 = (-1 : Int))), rfl, E135, hXo136, hS137, hp⟩
                    ·
                      replace hp := hp.1 rfl
                      refine sq (o_pv (.bool false) (by kernel_rfl) (by kernel_rfl) ?_)
                      refine sq (o_pv (.bool false) rfl (by kernel_rfl) ?_)
                      refine sq (o_pv (.bool false) rfl (by kernel_rfl) ?_)
                      refine sq (o_not (by kernel_rfl) ?_)
                      refine sq (o_not (by kernel_rfl) ?_)
                      refine sq (o_pv (.bool false) rfl (by kernel_rfl) ?_)
                      refine sq (o_pv (.bool false) rfl (by kernel_rfl) ?_)
                      refine nil_ ?_
                      have E138 := (Evo.then0 (Evo.then0 (Evo.then0 (Evo.then0 (Evo.then0 (Evo.then0 (Evo.then0 E72 e79) e85) e104) e110) e117) e121) e128)
                      have hXo139 := (Old.step (Old.step (Old.step (Old.step (Old.step (Old.step (Old.step hXo71 s80) s86) s105) s111) s118) s122) s129)
                      have hS140 := (Sub.trans (Sub.trans (Sub.trans (Sub.trans (Sub.trans (Sub.trans (Sub.trans hS73 (Step.up s80)) (Step.up s86)) (Step.up s105)) (Step.up s111)) (Step.up s118)) (Step.up s122)) (Step.up s129))
                      refine then_normal (hJ69 _ _ _ ⟨[(0, (.bool false))], fit_mk (fun _ _ => rfl) (by kernel_rfl) (vs_cons (by kernel_rfl) vs_nil), ?_⟩)
                      exact ⟨X, false, rfl, E138, hXo139, hS140, hp⟩
                ·
                  replace hp := hp.1 rfl
                  refine sq (o_pv (.bool false) (by kernel_rfl) (by kernel_rfl) ?_)
                  refine sq (o_pv (.bool false) rfl (by kernel_rfl) ?_)
                  refine sq (o_pv (.bool false) rfl (by kernel_rfl) ?_)
                  refine sq (o_not (by kernel_rfl) ?_)
                  refine sq (o_pv (.bool false) rfl (by kernel_rfl) ?_)
                  refine sq (o_pv (.bool false) rfl (by kernel_rfl) ?_)
                  refine sq (o_not (by kernel_rfl) ?_)
                  refine sq (o_not (by kernel_rfl) ?_)
                  refine sq (o_pv (.bool false) rfl (by kernel_rfl) ?_)
                  refine sq (o_pv (.bool false) rfl (by kernel_rfl) ?_)
                  refine sq (o_not (by kernel_rfl) ?_)
                  refine sq (o_not (by kernel_rfl) ?_)
                  refine sq (o_pv (.bool false) rfl (by kernel_rfl) ?_)
                  refine sq (o_pv (.bool false) rfl (by kernel_rfl) ?_)
                  refine nil_ ?_
                  have E141 := (Evo.then0 (Evo.then0 (Evo.then0 (Evo.then0 (Evo.then0 E72 e79) e85) e104) e110) e117)
                  have hXo142 := (Old.step (Old.step (Old.step (Old.step (Old.step hXo71 s80) s86) s105) s111) s118)
                  have hS143 := (Sub.trans (Sub.trans (Sub.trans (Sub.trans (Sub.trans hS73 (Step.up s80)) (Step.up s86)) (Step.up s105)) (Step.up s111)) (Step.up s118))
                  refine then_normal (hJ69 _ _ _ ⟨[(0, (.bool false))], fit_mk (fun _ _ => rfl) (by kernel_rfl) (vs_cons (by kernel_rfl) vs_nil), ?_⟩)
                  exact ⟨X, false, rfl, E141, hXo142, hS143, hp⟩
            ·
              replace hp := hp.2 h107
              refine sq (o_pv (.bool false) (by kernel_rfl) (x_df (p := (r102 : ByteArray) = (ByteArray.mk #[97])) (x_streq (by kernel_rfl) (by kernel_rfl)) h107) ?_)
              refine sq (o_pv (.bool false) rfl (by kernel_rfl) ?_)
              refine sq (o_pv (.bool false) rfl (by kernel_rfl) ?_)
              refine sq (o_not (by kernel_rfl) ?_)
              refine sq (o_pv (.bool false) rfl (by kernel_rfl) ?_)
              refine sq (o_pv (.bool false) rfl (by kernel_rfl) ?_)
              refine sq (o_not (by kernel_rfl) ?_)
              refine sq (o_not (by kernel_rfl) ?_)
              refine sq (o_pv (.bool false) rfl (by kernel_rfl) ?_)
              refine sq (o_pv (.bool false) rfl (by kernel_rfl) ?_)
              refine sq (o_not (by kernel_rfl) ?_)
              refine sq (o_pv (.bool false) rfl (by kernel_rfl) ?_)
              refine sq (o_pv (.bool false) rfl (by kernel_rfl) ?_)
              refine sq (o_not (by kernel_rfl) ?_)
              refine sq (o_not (by kernel_rfl) ?_)
              refine sq (o_pv (.bool false) rfl (by kernel_rfl) ?_)
              refine sq (o_pv (.bool false) rfl (by kernel_rfl) ?_)
              refine sq (o_not (by kernel_rfl) ?_)
              refine sq (o_not (by kernel_rfl) ?_)
              refine sq (o_pv (.bool false) rfl (by kernel_rfl) ?_)
              refine sq (o_pv (.bool false) rfl (by kernel_rfl) ?_)
              refine nil_ ?_
              have E144 := (Evo.then0 (Evo.then0 (Evo.then0 E72 e79) e85) e104)
              have hXo145 := (Old.step (Old.step (Old.step hXo71 s80) s86) s105)
              have hS146 := (Sub.trans (Sub.trans (Sub.trans hS73 (Step.up s80)) (Step.up s86)) (Step.up s105))
              refine then_normal (hJ69 _ _ _ ⟨[(0, (.bool false))], fit_mk (fun _ _ => rfl) (by kernel_rfl) (vs_cons (by kernel_rfl) vs_nil), ?_⟩)
              exact ⟨X, false, rfl, E144, hXo145, hS146, hp⟩
          ·
            replace hp := hp.2 h101
            refine sq (o_pv (.bool false) (by kernel_rfl) (x_df (p := (lget r3 (1 : Int) : ByteArray) = (ByteArray.mk #[98, 46, 99])) (x_streq (by kernel_rfl) (by kernel_rfl)) h101) ?_)
            refine sq (o_pv (.bool false) rfl (by kernel_rfl) ?_)
            refine sq (o_pv (.bool false) rfl (by kernel_rfl) ?_)
            refine sq (o_not (by kernel_rfl) ?_)
            refine sq (o_not (by kernel_rfl) ?_)
            refine sq (o_pv (.bool false) rfl (by kernel_rfl) ?_)
            refine sq (o_pv (.bool false) rfl (by kernel_rfl) ?_)
            refine sq (o_not (by kernel_rfl) ?_)
            refine sq (o_pv (.bool false) rfl (by kernel_rfl) ?_)
            refine sq (o_pv (.bool false) rfl (by kernel_rfl) ?_)
            refine sq (o_not (by kernel_rfl) ?_)
            refine sq (o_not (by kernel_rfl) ?_)
            refine sq (o_pv (.bool false) rfl (by kernel_rfl) ?_)
            refine sq (o_pv (.bool false) rfl (by kernel_rfl) ?_)
            refine sq (o_not (by kernel_rfl) ?_)
            refine sq (o_pv (.bool false) rfl (by kernel_rfl) ?_)
            refine sq (o_pv (.bool false) rfl (by kernel_rfl) ?_)
            refine sq (o_not (by kernel_rfl) ?_)
            refine sq (o_not (by kernel_rfl) ?_)
            refine sq (o_pv (.bool false) rfl (by kernel_rfl) ?_)
            refine sq (o_pv (.bool false) rfl (by kernel_rfl) ?_)
            refine sq (o_not (by kernel_rfl) ?_)
            refine sq (o_not (by kernel_rfl) ?_)
            refine sq (o_pv (.bool false) rfl (by kernel_rfl) ?_)
            refine sq (o_pv (.bool false) rfl (by kernel_rfl) ?_)
            refine nil_ ?_
            have E147 := (Evo.then0 (Evo.then0 E72 e79) e85)
            have hXo148 := (Old.step (Old.step hXo71 s80) s86)
            have hS149 := (Sub.trans (Sub.trans hS73 (Step.up s80)) (Step.up s86))
            refine then_normal (hJ69 _ _ _ ⟨[(0, (.bool false))], fit_mk (fun _ _ => rfl) (by kernel_rfl) (vs_cons (by kernel_rfl) vs_nil), ?_⟩)
            exact ⟨X, false, rfl, E147, hXo148, hS149, hp⟩
        ·
          replace hp := hp.2 h89
          refine sq (o_pv (.bool false) (by kernel_rfl) (x_df (p := (r3.length : Int) = (2 : Int)) (by kernel_rfl) h89) ?_)
          refine sq (o_pv (.bool false) rfl (by kernel_rfl) ?_)
          refine sq (o_pv (.bool false) rfl (by kernel_rfl) ?_)
          refine sq (o_not (by kernel_rfl) ?_)
          refine sq (o_not (by kernel_rfl) ?_)
          refine sq (o_not (by kernel_rfl) ?_)
          refine sq (o_not (by kernel_rfl) ?_)
          refine sq (o_pv (.bool false) rfl (by kernel_rfl) ?_)
          refine sq (o_pv (.bool false) rfl (by kernel_rfl) ?_)
          refine sq (o_not (by kernel_rfl) ?_)
          refine sq (o_not (by kernel_rfl) ?_)
          refine sq (o_pv (.bool false) rfl (by kernel_rfl) ?_)
          refine sq (o_pv (.bool false) rfl (by kernel_rfl) ?_)
          refine sq (o_not (by kernel_rfl) ?_)
          refine sq (o_pv (.bool false) rfl (by kernel_rfl) ?_)
          refine sq (o_pv (.bool false) rfl (by kernel_rfl) ?_)
          refine sq (o_not (by kernel_rfl) ?_)
          refine sq (o_not (by kernel_rfl) ?_)
          refine sq (o_pv (.bool false) rfl (by kernel_rfl) ?_)
          refine sq (o_pv (.bool false) rfl (by kernel_rfl) ?_)
          refine sq (o_not (by kernel_rfl) ?_)
          refine sq (o_pv (.bool false) rfl (by kernel_rfl) ?_)
          refine sq (o_pv (.bool false) rfl (by kernel_rfl) ?_)
          refine sq (o_not (by kernel_rfl) ?_)
          refine sq (o_not (by kernel_rfl) ?_)
          refine sq (o_pv (.bool false) rfl (by kernel_rfl) ?_)
          refine sq (o_pv (.bool false) rfl (by kernel_rfl) ?_)
          refine sq (o_not (by kernel_rfl) ?_)
          refine sq (o_not (by kernel_rfl) ?_)
          refine sq (o_pv (.bool false) rfl (by kernel_rfl) ?_)
          refine sq (o_pv (.bool false) rfl (by kernel_rfl) ?_)
          refine nil_ ?_
          have E150 := (Evo.then0 (Evo.then0 E72 e79) e85)
          have hXo151 := (Old.step (Old.step hXo71 s80) s86)
          have hS152 := (Sub.trans (Sub.trans hS73 (Step.up s80)) (Step.up s86))
          refine then_normal (hJ69 _ _ _ ⟨[(0, (.bool false))], fit_mk (fun _ _ => rfl) (by kernel_rfl) (vs_cons (by kernel_rfl) vs_nil), ?_⟩)
          exact ⟨X, false, rfl, E150, hXo151, hS152, hp⟩
      ·
        replace hp := hp.2 h88
        refine sq (o_pv (.bool false) (by kernel_rfl) (x_df (p := r83 = (5 : Int)) (by kernel_rfl) h88) ?_)
        refine sq (o_pv (.bool false) rfl (by kernel_rfl) ?_)
        refine sq (o_pv (.bool false) rfl (by kernel_rfl) ?_)
        refine sq (o_not (by kernel_rfl) ?_)
        refine sq (o_not (by kernel_rfl) ?_)
        refine sq (o_not (by kernel_rfl) ?_)
        refine sq (o_pv (.bool false) rfl (by kernel_rfl) ?_)
        refine sq (o_pv (.bool false) rfl (by kernel_rfl) ?_)
        refine sq (o_not (by kernel_rfl) ?_)
        refine sq (o_not (by kernel_rfl) ?_)
        refine sq (o_not (by kernel_rfl) ?_)
        refine sq (o_not (by kernel_rfl) ?_)
        refine sq (o_pv (.bool false) rfl (by kernel_rfl) ?_)
        refine sq (o_pv (.bool false) rfl (by kernel_rfl) ?_)
        refine sq (o_not (by kernel_rfl) ?_)
        refine sq (o_not (by kernel_rfl) ?_)
        refine sq (o_pv (.bool false) rfl (by kernel_rfl) ?_)
        refine sq (o_pv (.bool false) rfl (by kernel_rfl) ?_)
        refine sq (o_not (by kernel_rfl) ?_)
        refine sq (o_pv (.bool false) rfl (by kernel_rfl) ?_)
        refine sq (o_pv (.bool false) rfl (by kernel_rfl) ?_)
        refine sq (o_not (by kernel_rfl) ?_)
        refine sq (o_not (by kernel_rfl) ?_)
        refine sq (o_pv (.bool false) rfl (by kernel_rfl) ?_)
        refine sq (o_pv (.bool false) rfl (by kernel_rfl) ?_)
        refine sq (o_not (by kernel_rfl) ?_)
        refine sq (o_pv (.bool false) rfl (by kernel_rfl) ?_)
        refine sq (o_pv (.bool false) rfl (by kernel_rfl) ?_)
        refine sq (o_not (by kernel_rfl) ?_)
        refine sq (o_not (by kernel_rfl) ?_)
        refine sq (o_pv (.bool false) rfl (by kernel_rfl) ?_)
        refine sq (o_pv (.bool false) rfl (by kernel_rfl) ?_)
        refine sq (o_not (by kernel_rfl) ?_)
        refine sq (o_not (by kernel_rfl) ?_)
        refine sq (o_pv (.bool false) rfl (by kernel_rfl) ?_)
        refine sq (o_pv (.bool false) rfl (by kernel_rfl) ?_)
        refine nil_ ?_
        have E153 := (Evo.then0 (Evo.then0 E72 e79) e85)
        have hXo154 := (Old.step (Old.step hXo71 s80) s86)
        have hS155 := (Sub.trans (Sub.trans hS73 (Step.up s80)) (Step.up s86))
        refine then_normal (hJ69 _ _ _ ⟨[(0, (.bool false))], fit_mk (fun _ _ => rfl) (by kernel_rfl) (vs_cons (by kernel_rfl) vs_nil), ?_⟩)
        exact ⟨X, false, rfl, E153, hXo154, hS155, hp⟩
    ·
      replace hp := hp.2 h82
      refine sq (o_pv (.bool false) rfl (x_df (p := r77 = (0 : Int)) (by kernel_rfl) h82) ?_)
      refine sq (o_pv (.bool false) rfl (by kernel_rfl) ?_)
      refine sq (o_not (by kernel_rfl) ?_)
      refine sq (o_not (by kernel_rfl) ?_)
      refine sq (o_pv (.bool false) rfl (by kernel_rfl) ?_)
      refine sq (o_pv (.bool false) rfl (by kernel_rfl) ?_)
      refine sq (o_not (by kernel_rfl) ?_)
      refine sq (o_not (by kernel_rfl) ?_)
      refine sq (o_not (by kernel_rfl) ?_)
      refine sq (o_pv (.bool false) rfl (by kernel_rfl) ?_)
      refine sq (o_pv (.bool false) rfl (by kernel_rfl) ?_)
      refine sq (o_not (by kernel_rfl) ?_)
      refine sq (o_not (by kernel_rfl) ?_)
      refine sq (o_not (by kernel_rfl) ?_)
      refine sq (o_not (by kernel_rfl) ?_)
      refine sq (o_pv (.bool false) rfl (by kernel_rfl) ?_)
      refine sq (o_pv (.bool false) rfl (by kernel_rfl) ?_)
      refine sq (o_not (by kernel_rfl) ?_)
      refine sq (o_not (by kernel_rfl) ?_)
      refine sq (o_pv (.bool false) rfl (by kernel_rfl) ?_)
      refine sq (o_pv (.bool false) rfl (by kernel_rfl) ?_)
      refine sq (o_not (by kernel_rfl) ?_)
      refine sq (o_pv (.bool false) rfl (by kernel_rfl) ?_)
      refine sq (o_pv (.bool false) rfl (by kernel_rfl) ?_)
      refine sq (o_not (by kernel_rfl) ?_)
      refine sq (o_not (by kernel_rfl) ?_)
      refine sq (o_pv (.bool false) rfl (by kernel_rfl) ?_)
      refine sq (o_pv (.bool false) rfl (by kernel_rfl) ?_)
      refine sq (o_not (by kernel_rfl) ?_)
      refine sq (o_pv (.bool false) rfl (by kernel_rfl) ?_)
      refine sq (o_pv (.bool false) rfl (by kernel_rfl) ?_)
      refine sq (o_not (by kernel_rfl) ?_)
      refine sq (o_not (by kernel_rfl) ?_)
      refine sq (o_pv (.bool false) rfl (by kernel_rfl) ?_)
      refine sq (o_pv (.bool false) rfl (by kernel_rfl) ?_)
      refine sq (o_not (by kernel_rfl) ?_)
      refine sq (o_not (by kernel_rfl) ?_)
      refine sq (o_pv (.bool false) rfl (by kernel_rfl) ?_)
      refine sq (o_pv (.bool false) rfl (by kernel_rfl) ?_)
      refine nil_ ?_
      have E156 := (Evo.then0 E72 e79)
      have hXo157 := (Old.step hXo71 s80)
      have hS158 := (Sub.trans hS73 (Step.up s80))
      refine then_normal (hJ69 _ _ _ ⟨[(0, (.bool false))], fit_mk (fun _ _ => rfl) (by kernel_rfl) (vs_cons (by kernel_rfl) vs_nil), ?_⟩)
      exact ⟨X, false, rfl, E156, hXo157, hS158, hp⟩
  ·
    rintro _ w66 g159 ⟨X67, s63, rfl, E74, hXo75, hS76, hv70⟩
    replace hp := hk65 s63 hv70
    refine then_normal (K10 _ _ _ _ ?_)
    refine wp_ret ?_
    refine end_ret hQ (.bool s63) (by kernel_rfl) ?_
    exact ⟨s63, hp, E74, rfl⟩

def rectoref1_Parts_p (p : ByteArray) (Q : (List ByteArray) → Prop) : Prop :=
  ((p.size ≤ maxLen) → ((((p : ByteArray) = (ByteArray.mk #[])) → Q ([] : List ByteArray)) ∧ ((¬ ((p : ByteArray) = (ByteArray.mk #[]))) → (∃ (I341 : (List ByteArray) → Int → Prop) (m342 : (List ByteArray) → Int → Nat), (I341 ([(ByteArray.mk #[])]) (0 : Int)) ∧ ∀ (out176 : (List ByteArray)) (i181 : Int), (I341 out176 i181) → (out176.length ≤ 9223372036854775807) → (inR .i64 i181) → (((i181 < (p.size : Int)) → (∃ k428 : (List ByteArray) → Prop, (∀ (out423 : (List ByteArray)), k428 out423 → (out423.length ≤ 9223372036854775807) → ((inR .i64 (i181 + (1 : Int))) ∧ ((I341 out423 (i181 + (1 : Int))) ∧ m342 out423 (i181 + (1 : Int)) < m342 out176 i181))) ∧ ((0 ≤ i181 ∧ i181 < (p.size : Int)) ∧ ((((bget p i181) = (47 : Int)) → (((out176.length + ([(ByteArray.mk #[])]).length) * 16 ≤ 140737488355328) ∧ (k428 (out176 ++ ([(ByteArray.mk #[])]))))) ∧ ((¬ ((bget p i181) = (47 : Int))) → ((inR .i64 ((out176.length : Int) - (1 : Int))) ∧ ((inR .i64 ((out176.length : Int) - (1 : Int))) ∧ ((inL out176 ((out176.length : Int) - (1 : Int))) ∧ (((lget out176 ((out176.length : Int) - (1 : Int))).size ≤ maxLen) → ((inR .i64 (i181 + (1 : Int))) ∧ ((0 ≤ i181 ∧ i181 ≤ (i181 + (1 : Int)) ∧ (i181 + (1 : Int)) ≤ (p.size : Int)) ∧ ((((lget out176 ((out176.length : Int) - (1 : Int))) ++ (bsub p i181 (i181 + (1 : Int)))).size ≤ maxLen) ∧ ((inL out176 ((out176.length : Int) - (1 : Int))) ∧ (((lget out176 ((out176.length : Int) - (1 : Int))).size ≤ maxLen) → (∀ l502 : List ByteArray, l502 = (lset out176 ((out176.length : Int) - (1 : Int)) ((lget out176 ((out176.length : Int) - (1 : Int))) ++ (bsub p i181 (i181 + (1 : Int))))) → (k428 l502)))))))))))))))) ∧ ((¬ (i181 < (p.size : Int))) → Q out176))))))
set_option maxRecDepth 20000 in
set_option maxHeartbeats 4000000 in
theorem rectoref1_Parts_w {X : List Nat} {w : World} {p : ByteArray} {Q : (List ByteArray) → Prop} (hX0 : Old X w) (zp1 : p.size ≤ maxLen) (hp : rectoref1_Parts_p p Q) :
    Calls Tryd.prog 18 #[(.string p)] w (Ret fun v w' => ∃ (r0 : (List ByteArray)), Q r0 ∧ Evo [] w w' ∧ ∃ (aq01 : Option Addr) (cq02 : Nat), v = (.slice aq01 r0.length cq02) ∧ Sl rStr X w' aq01 cq02 r0) := by
  have hXo := hX0
  have E0 : Evo [] w w := RB.refl _ _ _
  have hS : Sub X X := Sub.refl _
  unfold rectoref1_Parts_p at hp
  refine enter_ Tryd.func18 rfl 39 [(0, (.string p))] (by kernel_rfl) (fun Qe hQ => ?_)
  replace hp := hp zp1
  refine seq_ (fun _ K2 => ?_)
  refine reg_ ?_
  refine sq (o_pv (.slice none 0 0) rfl (by kernel_rfl) ?_)
  refine nil_ ?_
  refine then_normal (K2 _ _ _ _ ?_)
  refine seq_ (fun _ K3 => ?_)
  refine seq_ (fun _ K4 => ?_)
  refine reg_ ?_
  refine sq (o_pv (.string p) rfl (by kernel_rfl) ?_)
  refine sq (o_pv (.bool (decide ((p : ByteArray) = (ByteArray.mk #[])))) rfl (x_streq (by kernel_rfl) (by kernel_rfl)) ?_)
  refine nil_ ?_
  refine then_normal (K4 _ _ _ _ ?_)
  refine cond_d ((p : ByteArray) = (ByteArray.mk #[])) (by kernel_rfl) (fun h5 => ?_) (fun h5 => ?_)
  ·
    replace hp := hp.1 h5
    refine seq_ (fun _ K6 => ?_)
    refine reg_ ?_
    refine sq (o_pv (.slice none 0 0) rfl (by kernel_rfl) ?_)
    refine nil_ ?_
    refine then_normal (K6 _ _ _ _ ?_)
    refine wp_ret ?_
    refine then_ret ?_
    refine end_ret hQ (.slice none 0 0) (by kernel_rfl) ?_
    exact ⟨([] : List ByteArray), hp, E0, none, 0, rfl, Sl.nil⟩
  ·
    replace hp := hp.2 h5
    refine wp_skip ?_
    refine then_normal (K3 _ _ _ _ ?_)
    refine seq_ (fun _ K7 => ?_)
    refine reg_ ?_
    refine sq (o_rowX (R := rStr) [(.string (ByteArray.mk #[]))] [(ByteArray.mk #[])] 9 1 (X := X) (B := w.heap.size) E0.size rfl (by kernel_rfl) (Flat.cons (cs := [(.string (ByteArray.mk #[]))]) (rStr_mk (by decide)) Flat.nil) rfl (by decide) ?_)
    intro b8 w9 X10 s11 O12 n13
    refine sq (o_pv (.slice (some ⟨b8, 0, none⟩) 1 1) rfl (by kernel_rfl) ?_)
    refine nil_ ?_
    refine then_normal (K7 _ _ _ _ ?_)
    refine seq_ (fun _ K14 => ?_)
    refine seq_ (fun _ K15 => ?_)
    refine reg_ ?_
    refine sq (o_pv (.int .i64 (0 : Int)) rfl (by kernel_rfl) ?_)
    refine nil_ ?_
    refine then_normal (K15 _ _ _ _ ?_)
    refine wp_block ?_
    have hXo351 := (Old.step hXo s11)
    have E352 := (Evo.then0 E0 (Step.evo s11))
    have hS353 := (Sub.trans hS (Step.up s11))
    obtain ⟨I341, m342, hI343, hp⟩ := hp
    refine loop_ 274877906712 (fun kq lq w345 => ∃ (X346 : List Nat) (out176 : (List ByteArray)) (i181 : Int) (a177 : Option Addr) (n178 : Nat) (c179 : Nat), (lq = [(3, (.slice a177 n178 c179)), (4, (.int .i64 i181))]) ∧ (kq = m342 out176 i181) ∧ (Evo [] w w345) ∧ (Old X346 w345) ∧ (Sub X X346) ∧ (OS rStr ([]) w.heap.size X346 w345 9 a177 n178 c179 out176) ∧ (inR .i64 i181) ∧ (I341 out176 i181)) (m342 ([(ByteArray.mk #[])]) (0 : Int)) [(3, (.slice (some ⟨b8, 0, none⟩) 1 1)), (4, (.int .i64 (0 : Int)))] (vs_cons (by kernel_rfl) (vs_cons (by kernel_rfl) vs_nil)) ⟨X10, ([(ByteArray.mk #[])]), (0 : Int), (some ⟨b8, 0, none⟩), 1, 1, rfl, rfl, E352, hXo351, hS353, O12, (by decide), hI343⟩ ?_
    rintro _ _ w345 g348 ⟨X346, out176, i181, a177, n178, c179, rfl, rfl, E354, hXo355, hS356, O180, ri182, hI344⟩ Kl349 hA350
    replace hp := hp out176 i181 hI344 (OS.len O180) ri182
    refine seq_ (fun _ K357 => ?_)
    refine seq_ (fun _ K358 => ?_)
    refine reg_ ?_
    refine sq (o_pv (.int .i64 i181) rfl (by kernel_rfl) ?_)
    refine sq (o_pv (.string p) rfl (by kernel_rfl) ?_)
    refine sq (o_pv (.int .i64 (p.size : Int)) rfl (by kernel_rfl) ?_)
    refine sq (o_pv (.bool (decide (i181 < (p.size : Int)))) rfl (by kernel_rfl) ?_)
    refine nil_ ?_
    refine then_normal (K358 _ _ _ _ ?_)
    refine cond_d (i181 < (p.size : Int)) (by kernel_rfl) (fun h359 => ?_) (fun h359 => ?_)
    ·
      replace hp := hp.1 h359
      refine wp_skip ?_
      refine then_normal (K357 _ _ _ _ ?_)
      refine seq_ (fun _ K360 => ?_)
      obtain ⟨k428, hk429, hp⟩ := hp
      refine ground_ ?_
      refine join_ 274877890568 (fun lq w430 => ∃ (X431 : List Nat) (out423 : (List ByteArray)) (a424 : Option Addr) (n425 : Nat) (c426 : Nat), (lq = [(3, (.slice a424 n425 c426))]) ∧ (Evo [] w w430) ∧ (Old X431 w430) ∧ (Sub X X431) ∧ (OS rStr ([]) w.heap.size X431 w430 9 a424 n425 c426 out423) ∧ (k428 out423)) (fun Kj432 hJ433 => ?_) ?_
      ·
        refine wp_block ?_
        refine seq_ (fun _ K438 => ?_)
        refine seq_ (fun _ K439 => ?_)
        refine reg_ ?_
        refine sq (o_pv (.string p) rfl (by kernel_rfl) ?_)
        refine sq (o_pv (.int .i64 i181) rfl (by kernel_rfl) ?_)
        obtain ⟨h440, hp⟩ := hp
        refine sq (o_pv (.int .u8 (bget p i181)) rfl (x_bget (k := .i64) (by kernel_rfl) (by kernel_rfl) Tryd.underlying9 h440) ?_)
        refine sq (o_pv (.bool (decide ((bget p i181) = (47 : Int)))) rfl (by kernel_rfl) ?_)
        refine nil_ ?_
        refine then_normal (K439 _ _ _ _ ?_)
        refine cond_d ((bget p i181) = (47 : Int)) (by kernel_rfl) (fun h441 => ?_) (fun h441 => ?_)
        ·
          replace hp := hp.1 h441
          refine seq_ (fun _ K442 => ?_)
          refine reg_ ?_
          refine sq (o_pv (.slice a177 n178 c179) rfl (by kernel_rfl) ?_)
          refine sq (o_rowX (R := rStr) [(.string (ByteArray.mk #[]))] [(ByteArray.mk #[])] 9 1 (X := X346) (B := w.heap.size) E354.size rfl (by kernel_rfl) (Flat.cons (cs := [(.string (ByteArray.mk #[]))]) (rStr_mk (by decide)) Flat.nil) rfl (by decide) ?_)
          intro b443 w444 X445 s446 O447 n448
          have p449 := n448 _ (OS.old O180)
          obtain ⟨h450, hp⟩ := hp
          have O451 := (OS.step0 O180 s446)
          have E452 := (Evo.then0 E354 (Step.evo s446))
          refine sq (o_appX (R := rStr) (X := X445) (B := w.heap.size) (L := out176) (M := [(ByteArray.mk #[])]) rfl elT27 rfl E452.size O451 (OS.src O447) O447.1 (by kernel_rfl) (by kernel_rfl) h450 ?_)
          intro a453 n454 c455 w456 X457 s458 O459 gr460
          refine sq (o_pv (.slice a453 n454 c455) rfl (by kernel_rfl) ?_)
          refine nil_ ?_
          refine then_normal (K442 _ _ _ _ ?_)
          refine wp_exit ?_
          refine then_exit ?_
          refine blk_exit ?_
          have E461 := (Evo.thenW E452 (Step.evo s458) O451.2.2)
          have hXo462 := (Old.step (Old.step hXo355 s446) s458)
          have hS463 := (Sub.trans (Sub.trans hS356 (Step.up s446)) (Step.up s458))
          refine then_normal (hJ433 _ _ _ ⟨[(3, (.slice a453 n454 c455))], fit_mk (fun _ _ => rfl) (by kernel_rfl) (vs_cons (by kernel_rfl) vs_nil), ?_⟩)
          exact ⟨X457, (out176 ++ ([(ByteArray.mk #[])])), a453, n454, c455, rfl, E461, hXo462, hS463, O459, hp⟩
        ·
          replace hp := hp.2 h441
          refine wp_skip ?_
          refine then_normal (K438 _ _ _ _ ?_)
          refine reg_drawn (RB w345.heap.size []) 17 (by kernel_rfl) (fun w464 hd465 => ?_)
          have e466 := Evo.of_drew hd465
          have z467 : w464.heap.size = w345.heap.size := by rw [hd465]
          clear hd465
          have s469 := Step.of0 X346 e466
          have er468 := RB.refl w345.heap.size [] w464
          have E470 := (Evo.then0 E354 (Step.evo s469))
          have hXo471 := (Old.step hXo355 s469)
          have hS472 := (Sub.trans hS356 (Step.up s469))
          have O473 := (OS.step0 O180 s469)
          refine r_take 0 (.slice a177 n178 c179) (RB.pre _ _) rfl (by kernel_rfl) (fun _ _ _ h => hQ.panic _ _ _ _ _ h) (.inl ⟨rfl, fun wq hq => (by kernel_rfl)⟩) ?_
          refine r_take 1 (.slice a177 n178 c179) (RB.pre _ _) rfl (by kernel_rfl) (fun _ _ _ h => hQ.panic _ _ _ _ _ h) (.inl ⟨rfl, fun wq hq => (by kernel_rfl)⟩) ?_
          refine r_take 2 (.int .i64 (out176.length : Int)) (RB.pre _ _) rfl (by kernel_rfl) (fun _ _ _ h => hQ.panic _ _ _ _ _ h) (.inl ⟨rfl, fun wq hq => (by rw [← show n178 = out176.length from O473.1]; kernel_rfl)⟩) ?_
          obtain ⟨h474, hp⟩ := hp
          refine r_take 3 (.int .i64 ((out176.length : Int) - (1 : Int))) (RB.pre _ _) rfl (by kernel_rfl) (fun _ _ _ h => hQ.panic _ _ _ _ _ h) (.inl ⟨rfl, fun wq hq => (x_sub2 (k := .i64) (a := (out176.length : Int)) (b := (1 : Int)) ((out176.length : Int) - (1 : Int)) (by kernel_rfl) (by kernel_rfl) (wrap_inR h474))⟩) ?_
          refine r_take 4 (.slice a177 n178 c179) (RB.pre _ _) rfl (by kernel_rfl) (fun _ _ _ h => hQ.panic _ _ _ _ _ h) (.inl ⟨rfl, fun wq hq => (by kernel_rfl)⟩) ?_
          refine r_take 5 (.slice a177 n178 c179) (RB.pre _ _) rfl (by kernel_rfl) (fun _ _ _ h => hQ.panic _ _ _ _ _ h) (.inl ⟨rfl, fun wq hq => (by kernel_rfl)⟩) ?_
          refine r_take 6 (.int .i64 (out176.length : Int)) (RB.pre _ _) rfl (by kernel_rfl) (fun _ _ _ h => hQ.panic _ _ _ _ _ h) (.inl ⟨rfl, fun wq hq => (by rw [← show n178 = out176.length from O473.1]; kernel_rfl)⟩) ?_
          obtain ⟨h475, hp⟩ := hp
          refine r_take 7 (.int .i64 ((out176.length : Int) - (1 : Int))) (RB.pre _ _) rfl (by kernel_rfl) (fun _ _ _ h => hQ.panic _ _ _ _ _ h) (.inl ⟨rfl, fun wq hq => (x_sub2 (k := .i64) (a := (out176.length : Int)) (b := (1 : Int)) ((out176.length : Int) - (1 : Int)) (by kernel_rfl) (by kernel_rfl) (wrap_inR h475))⟩) ?_
          obtain ⟨h476, hp⟩ := hp
          obtain ⟨b477, o478, cs479, ha480, nx481, lt482, ok483, hc484⟩ := Sl.atI (OS.rd O473) ((out176.length : Int) - (1 : Int)) h476
          obtain ⟨rfl, ze485⟩ := ok483
          replace hp := hp ze485
          refine r_take 8 (.pointer (some ⟨b477, o478 + ((out176.length : Int) - (1 : Int)).toNat * 1, none⟩)) (RB.pre _ _) rfl (by kernel_rfl) (fun _ _ _ h => hQ.panic _ _ _ _ _ h) (.inl ⟨rfl, fun wq hq => (x_ixA (m := n178) (c := c179) (k := .i64) (i := (out176.length : Int) - (1 : Int)) Tryd.underlying27 Tryd.sizeOf9 (by rw [← ha480]; kernel_rfl) (by kernel_rfl) ⟨h476.1, by rw [O473.1]; exact h476.2⟩)⟩) ?_
          refine r_take 9 (.string (lget out176 ((out176.length : Int) - (1 : Int)))) (RB.pre _ _) rfl (by kernel_rfl) (fun _ _ _ h => hQ.panic _ _ _ _ _ h) (.inl ⟨rfl, fun wq hq => (x_load1 (by kernel_rfl) Tryd.isAgg9 ((CellsAt.rb hc484 (RB.trans er468 hq) (Nat.lt_of_lt_of_eq lt482 z467) (fun h => by cases h)) 0 _ rfl))⟩) ?_
          refine r_take 10 (.string p) (RB.pre _ _) rfl (by kernel_rfl) (fun _ _ _ h => hQ.panic _ _ _ _ _ h) (.inl ⟨rfl, fun wq hq => (by kernel_rfl)⟩) ?_
          refine r_take 11 (.int .i64 i181) (RB.pre _ _) rfl (by kernel_rfl) (fun _ _ _ h => hQ.panic _ _ _ _ _ h) (.inl ⟨rfl, fun wq hq => (by kernel_rfl)⟩) ?_
          refine r_take 12 (.int .i64 i181) (RB.pre _ _) rfl (by kernel_rfl) (fun _ _ _ h => hQ.panic _ _ _ _ _ h) (.inl ⟨rfl, fun wq hq => (by kernel_rfl)⟩) ?_
          obtain ⟨h486, hp⟩ := hp
          refine r_take 13 (.int .i64 (i181 + (1 : Int))) (RB.pre _ _) rfl (by kernel_rfl) (fun _ _ _ h => hQ.panic _ _ _ _ _ h) (.inl ⟨rfl, fun wq hq => (x_add2 (k := .i64) (a := i181) (b := (1 : Int)) (i181 + (1 : Int)) (by kernel_rfl) (by kernel_rfl) (wrap_inR h486))⟩) ?_
          obtain ⟨h487, hp⟩ := hp
          refine r_take 14 (.string (bsub p i181 (i181 + (1 : Int)))) (RB.pre _ _) rfl (by kernel_rfl) (fun _ _ _ h => hQ.panic _ _ _ _ _ h) (.inl ⟨rfl, fun wq hq => (x_sub11 (k := .i64) (k' := .i64) (by kernel_rfl) (by kernel_rfl) (by kernel_rfl) Tryd.underlying9 h487)⟩) ?_
          obtain ⟨h488, hp⟩ := hp
          refine r_take 15 (.string ((lget out176 ((out176.length : Int) - (1 : Int))) ++ (bsub p i181 (i181 + (1 : Int))))) (RB.pre _ _) rfl (by kernel_rfl) (fun _ _ _ h => hQ.panic _ _ _ _ _ h) (.inl ⟨rfl, fun wq hq => (x_cat (by kernel_rfl) (by kernel_rfl) h488)⟩) ?_
          obtain ⟨h489, hp⟩ := hp
          obtain ⟨b490, o491, cs492, ha493, nx494, lt495, ok496, hc497⟩ := Sl.atI (OS.rd O473) ((out176.length : Int) - (1 : Int)) h489
          obtain ⟨rfl, ze498⟩ := ok496
          replace hp := hp ze498
          refine r_take 16 (.pointer (some ⟨b490, o491 + ((out176.length : Int) - (1 : Int)).toNat * 1, none⟩)) (RB.pre _ _) rfl (by kernel_rfl) (fun _ _ _ h => hQ.panic _ _ _ _ _ h) (.inl ⟨rfl, fun wq hq => (x_ixA (m := n178) (c := c179) (k := .i64) (i := (out176.length : Int) - (1 : Int)) Tryd.underlying27 Tryd.sizeOf9 (by rw [← ha493]; kernel_rfl) (by kernel_rfl) ⟨h489.1, by rw [O473.1]; exact h489.2⟩)⟩) ?_
          refine r_ready [17] (by kernel_rfl) rfl (all_cons ⟨_, _, _, _, _, _, rfl, ?_⟩ all_nil)
          refine o_stS (o := o491) (v := (.string ((lget out176 ((out176.length : Int) - (1 : Int))) ++ (bsub p i181 (i181 + (1 : Int)))))) ((out176.length : Int) - (1 : Int)) ((lget out176 ((out176.length : Int) - (1 : Int))) ++ (bsub p i181 (i181 + (1 : Int)))) rfl O473 ha493 (h489) (by kernel_rfl) (by kernel_rfl) Tryd.sizeOf9 (fun _ => (rStr_mk h488)) ?_
          intro w499 s500 O501
          refine ⟨fun h => absurd h (by decide), ?_⟩
          obtain ⟨l502, ql502⟩ : ∃ y, y = (lset out176 ((out176.length : Int) - (1 : Int)) ((lget out176 ((out176.length : Int) - (1 : Int))) ++ (bsub p i181 (i181 + (1 : Int))))) := ⟨_, rfl⟩
          replace hp := hp l502 ql502
          rw [← ql502] at O501
          refine r_done (by kernel_rfl) ?_
          refine blk_normal ?_
          have E503 := (Evo.thenW E470 (Step.evo s500) O473.2.2)
          have hXo504 := (Old.step hXo471 s500)
          have hS505 := (Sub.trans hS472 (Step.up s500))
          refine then_normal (hJ433 _ _ _ ⟨[(3, (.slice a177 n178 c179))], fit_mk (fun _ _ => rfl) (by kernel_rfl) (vs_cons (by kernel_rfl) vs_nil), ?_⟩)
          exact ⟨X346, l502, a177, n178, c179, rfl, E503, hXo504, hS505, O501, hp⟩
      ·
        rintro _ w430 g506 ⟨X431, out423, a424, n425, c426, rfl, E435, hXo436, hS437, O427, hv434⟩
        replace hp := hk429 out423 hv434 (OS.len O427)
        refine then_normal (K360 _ _ _ _ ?_)
        refine reg_ ?_
        refine sq (o_pv (.int .i64 i181) rfl (by kernel_rfl) ?_)
        obtain ⟨h507, hp⟩ := hp
        refine sq (o_pv (.int .i64 (i181 + (1 : Int))) rfl (x_add2 (k := .i64) (a := i181) (b := (1 : Int)) (i181 + (1 : Int)) (by kernel_rfl) (by kernel_rfl) (wrap_inR h507)) ?_)
        refine sq (o_pv (.int .i64 (i181 + (1 : Int))) rfl (by kernel_rfl) ?_)
        refine nil_ ?_
        refine then_normal (hA350 _ _ _ ⟨_, [(3, (.slice a424 n425 c426)), (4, (.int .i64 (i181 + (1 : Int))))], hp.2, fit_mk (AgB.nest (AgB.look (AgB.mix _ _ _) (by kernel_rfl)) (by kernel_rfl) (by kernel_rfl)) (by kernel_rfl) (vs_cons (by kernel_rfl) (vs_cons (by kernel_rfl) vs_nil)), ?_⟩)
        exact ⟨X431, out423, (i181 + (1 : Int)), a424, n425, c426, rfl, rfl, E435, hXo436, hS437, O427, h507, hp.1⟩
    ·
      replace hp := hp.2 h359
      refine wp_exit ?_
      refine then_exit ?_
      refine then_exit ?_
      refine blk_exit ?_
      refine then_normal (K14 _ _ _ _ ?_)
      refine seq_ (fun _ K508 => ?_)
      refine reg_ ?_
      refine sq (o_pv (.slice a177 n178 c179) rfl (by kernel_rfl) ?_)
      refine sq (o_pv (.slice a177 n178 c179) rfl (by kernel_rfl) ?_)
      refine nil_ ?_
      refine then_normal (K508 _ _ _ _ ?_)
      refine wp_ret ?_
      refine end_ret hQ (.slice a177 n178 c179) (by kernel_rfl) ?_
      exact ⟨out176, hp, E354, a177, c179, by rw [show n178 = out176.length from O180.1], (OS.out O180 hS356 hX0)⟩

end Go.Proofs.YtcgfjmfbfildpaaRDoor
