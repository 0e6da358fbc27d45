/- Walks of functions: what each asks and computes, as a plain predicate, and the contract from it. -/
import Derived.Test.YtnnbnljofklieaaDoorChecked
import Derived.Test.YtnnbnljofklieaaDoorPq3
import Derived.Test.YtnnbnljofklieaaDoorTab
namespace Go.Proofs.YtnnbnljofklieaaDoor
open Go


def rectoref11_long_p (a : (List ByteArray)) (b : (List ByteArray)) (Q : S_rectoref3_Wrong → Prop) : Prop :=
  ((a.length ≤ 9223372036854775807) → ((b.length ≤ 9223372036854775807) → ((((a.length : Int) > (256 : Int)) → (rectoref3_At_p (ByteArray.mk #[108, 105, 110, 101, 115]) (0 : Int) (4 : Int) (fun (r19 : S_rectoref3_Wrong) => ((r19.Parts.length ≤ 9223372036854775807) → ((inR .i64 r19.Err) → Q r19))))) ∧ ((¬ ((a.length : Int) > (256 : Int))) → ((((b.length : Int) > (256 : Int)) → (rectoref3_At_p (ByteArray.mk #[108, 105, 110, 101, 115]) (1 : Int) (4 : Int) (fun (r40 : S_rectoref3_Wrong) => ((r40.Parts.length ≤ 9223372036854775807) → ((inR .i64 r40.Err) → Q r40))))) ∧ ((¬ ((b.length : Int) > (256 : Int))) → Q (S_rectoref3_Wrong.mk ([] : List S_rectoref3_Part) (0 : Int))))))))
set_option maxRecDepth 20000 in
set_option maxHeartbeats 4000000 in
theorem rectoref11_long_w {X : List Nat} {w : World} {a : (List ByteArray)} {b : (List ByteArray)} {aa1 : Option Addr} {ca2 : Nat} {ab4 : Option Addr} {cb5 : Nat} {Q : S_rectoref3_Wrong → Prop} (hX0 : Old X w) (ha3 : Sl rStr X w aa1 ca2 a) (hb6 : Sl rStr X w ab4 cb5 b) (hp : rectoref11_long_p a b Q) :
    Calls Tryd.prog 18 #[(.slice aa1 a.length ca2), (.slice ab4 b.length cb5)] w (Ret fun v w' => ∃ (r0 : S_rectoref3_Wrong), Q r0 ∧ Evo [] w w' ∧ ∃ (aq0Parts1 : Option Addr) (cq0Parts2 : Nat), v = (.agg #[(.slice aq0Parts1 r0.Parts.length cq0Parts2), (.int .i64 r0.Err)]) ∧ Sl r_rectoref3_Part X w' aq0Parts1 cq0Parts2 r0.Parts ∧ inR .i64 r0.Err) := by
  have hXo := hX0
  have E0 : Evo [] w w := RB.refl _ _ _
  have hS : Sub X X := Sub.refl _
  unfold rectoref11_long_p at hp
  refine enter_ Tryd.func18 rfl 14 [(0, (.slice aa1 a.length ca2)), (1, (.slice ab4 b.length cb5))] (by kernel_rfl) (fun Qe hQ => ?_)
  replace hp := hp (Sl.len ha3)
  replace hp := hp (Sl.len hb6)
  refine seq_ (fun _ K7 => ?_)
  refine reg_ ?_
  refine sq (o_newX [(.slice none 0 0), (.int .i64 (0 : Int))] 28 (X := X) (B := w.heap.size) E0.size rfl (by kernel_rfl) ?_)
  intro b8 w9 X10 s11 k12 n13
  refine nil_ ?_
  refine then_normal (K7 _ _ _ _ ?_)
  refine seq_ (fun _ K14 => ?_)
  refine seq_ (fun _ K15 => ?_)
  refine reg_ ?_
  refine sq (o_pv (.slice aa1 a.length ca2) rfl (by kernel_rfl) ?_)
  refine sq (o_pv (.int .i64 (a.length : Int)) rfl (by kernel_rfl) ?_)
  refine sq (o_pv (.bool (decide ((a.length : Int) > (256 : Int)))) rfl (by kernel_rfl) ?_)
  refine nil_ ?_
  refine then_normal (K15 _ _ _ _ ?_)
  refine cond_d ((a.length : Int) > (256 : Int)) (by kernel_rfl) (fun h16 => ?_) (fun h16 => ?_)
  ·
    replace hp := hp.1 h16
    refine seq_ (fun _ K17 => ?_)
    refine reg_ ?_
    have hXo18 := (Old.step hXo s11)
    refine sq (o_call 34 #[(.string (ByteArray.mk #[108, 105, 110, 101, 115])), (.int .i64 (0 : Int)), (.int .i64 (4 : Int))] rfl (x_call Tryd.call34 (by kernel_rfl)) (rectoref3_At_w (X := X10) (word := (ByteArray.mk #[108, 105, 110, 101, 115])) (at_ := (0 : Int)) (e := (4 : Int)) hXo18 (by decide : (ByteArray.mk #[108, 105, 110, 101, 115]).size ≤ maxLen) (by decide : inR .i64 (0 : Int)) (by decide : inR .i64 (4 : Int)) hp) ?_)
    rintro _ w20 ⟨r19, hp, e21, arParts23, crParts24, rfl, hrParts25, rrErr26⟩
    have s22 := Step.of0 X10 e21
    replace hp := hp (Sl.len hrParts25)
    replace hp := hp rrErr26
    have k27 := (OB.step0 k12 s22)
    have E28 := (Evo.then0 (Evo.then0 E0 (Step.evo s11)) e21)
    refine sq (o_stB (o := 0) (v := (.agg #[(.slice arParts23 r19.Parts.length crParts24), (.int .i64 r19.Err)])) [(.slice arParts23 r19.Parts.length crParts24), (.int .i64 r19.Err)] rfl k27 (by kernel_rfl) (by kernel_rfl) Tryd.sizeOf28 rfl rfl rfl ?_)
    intro w29 s30 k31
    refine nil_ ?_
    refine then_normal (K17 _ _ _ _ ?_)
    refine wp_ret ?_
    refine then_ret ?_
    have hrParts32 := (Sl.step hrParts25 s30)
    have hS33 := (Sub.trans (Sub.trans (Sub.trans hS (Step.up s11)) (Step.up s22)) (Step.up s30))
    have E34 := (Evo.thenW E28 (Step.evo s30) k27.2.2)
    refine end_ret hQ (.agg #[(.slice arParts23 r19.Parts.length crParts24), (.int .i64 r19.Err)]) (rs_single Tryd.results18 (rs_agg [(.slice arParts23 r19.Parts.length crParts24), (.int .i64 r19.Err)] (by kernel_rfl) Tryd.isAgg28 Tryd.sizeOf28 (k31.2.1.cells' 0 rfl))) ?_
    exact ⟨r19, hp, E34, arParts23, crParts24, rfl, (Sl.less hrParts32 hS33), rrErr26⟩
  ·
    replace hp := hp.2 h16
    refine wp_skip ?_
    refine then_normal (K14 _ _ _ _ ?_)
    refine seq_ (fun _ K35 => ?_)
    refine seq_ (fun _ K36 => ?_)
    refine reg_ ?_
    refine sq (o_pv (.slice ab4 b.length cb5) rfl (by kernel_rfl) ?_)
    refine sq (o_pv (.int .i64 (b.length : Int)) rfl (by kernel_rfl) ?_)
    refine sq (o_pv (.bool (decide ((b.length : Int) > (256 : Int)))) rfl (by kernel_rfl) ?_)
    refine nil_ ?_
    refine then_normal (K36 _ _ _ _ ?_)
    refine cond_d ((b.length : Int) > (256 : Int)) (by kernel_rfl) (fun h37 => ?_) (fun h37 => ?_)
    ·
      replace hp := hp.1 h37
      refine seq_ (fun _ K38 => ?_)
      refine reg_ ?_
      have hXo39 := (Old.step hXo s11)
      refine sq (o_call 34 #[(.string (ByteArray.mk #[108, 105, 110, 101, 115])), (.int .i64 (1 : Int)), (.int .i64 (4 : Int))] rfl (x_call Tryd.call34 (by kernel_rfl)) (rectoref3_At_w (X := X10) (word := (ByteArray.mk #[108, 105, 110, 101, 115])) (at_ := (1 : Int)) (e := (4 : Int)) hXo39 (by decide : (ByteArray.mk #[108, 105, 110, 101, 115]).size ≤ maxLen) (by decide : inR .i64 (1 : Int)) (by decide : inR .i64 (4 : Int)) hp) ?_)
      rintro _ w41 ⟨r40, hp, e42, arParts44, crParts45, rfl, hrParts46, rrErr47⟩
      have s43 := Step.of0 X10 e42
      replace hp := hp (Sl.len hrParts46)
      replace hp := hp rrErr47
      have k48 := (OB.step0 k12 s43)
      have E49 := (Evo.then0 (Evo.then0 E0 (Step.evo s11)) e42)
      refine sq (o_stB (o := 0) (v := (.agg #[(.slice arParts44 r40.Parts.length crParts45), (.int .i64 r40.Err)])) [(.slice arParts44 r40.Parts.length crParts45), (.int .i64 r40.Err)] rfl k48 (by kernel_rfl) (by kernel_rfl) Tryd.sizeOf28 rfl rfl rfl ?_)
      intro w50 s51 k52
      refine nil_ ?_
      refine then_normal (K38 _ _ _ _ ?_)
      refine wp_ret ?_
      refine then_ret ?_
      have hrParts53 := (Sl.step hrParts46 s51)
      have hS54 := (Sub.trans (Sub.trans (Sub.trans hS (Step.up s11)) (Step.up s43)) (Step.up s51))
      have E55 := (Evo.thenW E49 (Step.evo s51) k48.2.2)
      refine end_ret hQ (.agg #[(.slice arParts44 r40.Parts.length crParts45), (.int .i64 r40.Err)]) (rs_single Tryd.results18 (rs_agg [(.slice arParts44 r40.Parts.length crParts45), (.int .i64 r40.Err)] (by kernel_rfl) Tryd.isAgg28 Tryd.sizeOf28 (k52.2.1.cells' 0 rfl))) ?_
      exact ⟨r40, hp, E55, arParts44, crParts45, rfl, (Sl.less hrParts53 hS54), rrErr47⟩
    ·
      replace hp := hp.2 h37
      refine wp_skip ?_
      refine then_normal (K35 _ _ _ _ ?_)
      refine seq_ (fun _ K56 => ?_)
      refine reg_ ?_
      refine sq (o_pv (.agg #[(.slice none 0 0), (.int .i64 (0 : Int))]) rfl (by kernel_rfl) ?_)
      have E57 := (Evo.then0 E0 (Step.evo s11))
      refine sq (o_stB (o := 0) (v := (.agg #[(.slice none 0 0), (.int .i64 (0 : Int))])) [(.slice none 0 0), (.int .i64 (0 : Int))] rfl k12 (by kernel_rfl) (by kernel_rfl) Tryd.sizeOf28 rfl rfl rfl ?_)
      intro w58 s59 k60
      refine nil_ ?_
      refine then_normal (K56 _ _ _ _ ?_)
      refine wp_ret ?_
      have E61 := (Evo.thenW E57 (Step.evo s59) k12.2.2)
      refine end_ret hQ (.agg #[(.slice none 0 0), (.int .i64 (0 : Int))]) (rs_single Tryd.results18 (rs_agg [(.slice none 0 0), (.int .i64 (0 : Int))] (by kernel_rfl) Tryd.isAgg28 Tryd.sizeOf28 (k60.2.1.cells' 0 rfl))) ?_
      exact ⟨(S_rectoref3_Wrong.mk ([] : List S_rectoref3_Part) (0 : Int)), hp, E61, none, 0, rfl, Sl.nil, (by decide : inR .i64 (0 : Int))⟩

def rectoref11_common_p (a : (List ByteArray)) (b : (List ByteArray)) (Q : (List (List Int)) → Prop) : Prop :=
  ((a.length ≤ 9223372036854775807) → ((b.length ≤ 9223372036854775807) → ((inR .i64 ((a.length : Int) + (1 : Int))) ∧ ((0 ≤ ((a.length : Int) + (1 : Int)) ∧ (24 : Int) * ((a.length : Int) + (1 : Int)) ≤ 281474976710656) ∧ (∃ (I5638 : Int → (List (List Int)) → Prop) (m5639 : Int → (List (List Int)) → Nat), (I5638 (a.length : Int) (List.replicate ((a.length : Int) + (1 : Int)).toNat ([] : List Int))) ∧ (∀ (i2809 : Int) (o2811 : (List (List Int))), (I5638 i2809 o2811) → (inR .i64 i2809) → (((i2809 ≥ (0 : Int)) → ((inR .i64 ((b.length : Int) + (1 : Int))) ∧ ((0 ≤ ((b.length : Int) + (1 : Int)) ∧ (8 : Int) * ((b.length : Int) + (1 : Int)) ≤ 281474976710656) ∧ (((0 ≤ i2809 ∧ i2809 < (a.length : Int) + (1 : Int)) ∧ inL o2811 i2809) ∧ (∀ l5685 : (List (List Int)), l5685 = (lset o2811 i2809 (List.replicate ((b.length : Int) + (1 : Int)).toNat (default : Int))) → ((inR .i64 ((b.length : Int) - (1 : Int))) ∧ (∃ (I7539 : Int → (List (List Int)) → Prop) (m7540 : Int → (List (List Int)) → Nat), (I7539 ((b.length : Int) - (1 : Int)) l5685) ∧ (∀ (j6612 : Int) (o6614 : (List (List Int))), (I7539 j6612 o6614) → (inR .i64 j6612) → (∃ k7563 : Bool → Prop, (∀ (s7562 : Bool), k7563 s7562 → (((s7562 = true) → (∃ k8020 : (List (List Int)) → Prop, (∀ (o8017 : (List (List Int))), k8020 o8017 → ((inR .i64 (j6612 - (1 : Int))) ∧ ((I7539 (j6612 - (1 : Int)) o8017) ∧ m7540 (j6612 - (1 : Int)) o8017 < m7540 j6612 o6614))) ∧ (((0 ≤ i2809 ∧ i2809 < (a.length : Int) + (1 : Int)) ∧ inL o6614 i2809) ∧ ((inR .i64 (i2809 + (1 : Int))) ∧ (((0 ≤ i2809 + (1 : Int) ∧ i2809 + (1 : Int) < (a.length : Int) + (1 : Int)) ∧ inL o6614 (i2809 + (1 : Int))) ∧ ((inL (lget o6614 (i2809 + (1 : Int))) j6612) ∧ ((inR .i64 (lget (lget o6614 (i2809 + (1 : Int))) j6612)) → ((inL (lget o6614 i2809) j6612) ∧ ((inR .i64 (lget (lget o6614 i2809) j6612)) → (∀ l8081 : (List (List Int)), l8081 = (lset o6614 i2809 (lset (lget o6614 i2809) j6612 (lget (lget o6614 (i2809 + (1 : Int))) j6612))) → (((0 ≤ i2809 ∧ i2809 < (a.length : Int) + (1 : Int)) ∧ inL l8081 i2809) ∧ ((inR .i64 (j6612 + (1 : Int))) ∧ ((inL (lget l8081 i2809) (j6612 + (1 : Int))) ∧ ((inR .i64 (lget (lget l8081 i2809) (j6612 + (1 : Int)))) → (((0 ≤ i2809 ∧ i2809 < (a.length : Int) + (1 : Int)) ∧ inL l8081 i2809) ∧ ((inL (lget l8081 i2809) j6612) ∧ ((inR .i64 (lget (lget l8081 i2809) j6612)) → (∃ k8189 : (List (List Int)) → Prop, (∀ (o8186 : (List (List Int))), k8189 o8186 → (∃ k8331 : Bool → Prop, (∀ (s8330 : Bool), k8331 s8330 → (((s8330 = true) → (((0 ≤ i2809 ∧ i2809 < (a.length : Int) + (1 : Int)) ∧ inL o8186 i2809) ∧ ((inR .i64 (i2809 + (1 : Int))) ∧ (((0 ≤ i2809 + (1 : Int) ∧ i2809 + (1 : Int) < (a.length : Int) + (1 : Int)) ∧ inL o8186 (i2809 + (1 : Int))) ∧ ((inR .i64 (j6612 + (1 : Int))) ∧ ((inL (lget o8186 (i2809 + (1 : Int))) (j6612 + (1 : Int))) ∧ ((inR .i64 (lget (lget o8186 (i2809 + (1 : Int))) (j6612 + (1 : Int)))) → ((inR .i64 ((lget (lget o8186 (i2809 + (1 : Int))) (j6612 + (1 : Int))) + (1 : Int))) ∧ (∀ y8453 : Int, y8453 = ((lget (lget o8186 (i2809 + (1 : Int))) (j6612 + (1 : Int))) + (1 : Int)) → ((inL (lget o8186 i2809) j6612) ∧ ((inR .i64 (lget (lget o8186 i2809) j6612)) → (∀ l8468 : (List (List Int)), l8468 = (lset o8186 i2809 (lset (lget o8186 i2809) j6612 y8453)) → (k8020 l8468))))))))))))) ∧ ((s8330 = false) → (k8020 o8186)))) ∧ ((inL a i2809) ∧ (((lget a i2809).size ≤ maxLen) → ((inL b j6612) ∧ (((lget b j6612).size ≤ maxLen) → ((((lget a i2809 : ByteArray) = lget b j6612) → ((inR .i64 (i2809 + (1 : Int))) ∧ (((0 ≤ i2809 + (1 : Int) ∧ i2809 + (1 : Int) < (a.length : Int) + (1 : Int)) ∧ inL o8186 (i2809 + (1 : Int))) ∧ ((inR .i64 (j6612 + (1 : Int))) ∧ ((inL (lget o8186 (i2809 + (1 : Int))) (j6612 + (1 : Int))) ∧ ((inR .i64 (lget (lget o8186 (i2809 + (1 : Int))) (j6612 + (1 : Int)))) → ((inR .i64 ((lget (lget o8186 (i2809 + (1 : Int))) (j6612 + (1 : Int))) + (1 : Int))) ∧ (∀ y8396 : Int, y8396 = ((lget (lget o8186 (i2809 + (1 : Int))) (j6612 + (1 : Int))) + (1 : Int)) → (((0 ≤ i2809 ∧ i2809 < (a.length : Int) + (1 : Int)) ∧ inL o8186 i2809) ∧ ((inL (lget o8186 i2809) j6612) ∧ ((inR .i64 (lget (lget o8186 i2809) j6612)) → (k8331 (decide (y8396 > (lget (lget o8186 i2809) j6612))))))))))))))) ∧ ((¬ ((lget a i2809 : ByteArray) = lget b j6612)) → (k8331 false))))))))) ∧ ((((lget (lget l8081 i2809) (j6612 + (1 : Int))) > (lget (lget l8081 i2809) j6612)) → (((0 ≤ i2809 ∧ i2809 < (a.length : Int) + (1 : Int)) ∧ inL l8081 i2809) ∧ (((0 ≤ i2809 ∧ i2809 < (a.length : Int) + (1 : Int)) ∧ inL l8081 i2809) ∧ ((inR .i64 (j6612 + (1 : Int))) ∧ ((inL (lget l8081 i2809) (j6612 + (1 : Int))) ∧ ((inR .i64 (lget (lget l8081 i2809) (j6612 + (1 : Int)))) → ((inL (lget l8081 i2809) j6612) ∧ ((inR .i64 (lget (lget l8081 i2809) j6612)) → (∀ l8252 : (List (List Int)), l8252 = (lset l8081 i2809 (lset (lget l8081 i2809) j6612 (lget (lget l8081 i2809) (j6612 + (1 : Int))))) → (k8189 l8252)))))))))) ∧ ((¬ ((lget (lget l8081 i2809) (j6612 + (1 : Int))) > (lget (lget l8081 i2809) j6612))) → (k8189 l8081))))))))))))))))))))) ∧ ((s7562 = false) → ((inR .i64 (i2809 - (1 : Int))) ∧ ((I5638 (i2809 - (1 : Int)) o6614) ∧ m5639 (i2809 - (1 : Int)) o6614 < m5639 i2809 o2811))))) ∧ (((j6612 ≥ (0 : Int)) → (k7563 (decide (i2809 < (a.length : Int))))) ∧ ((¬ (j6612 ≥ (0 : Int))) → (k7563 false)))))))))))) ∧ ((¬ (i2809 ≥ (0 : Int))) → (((o2811.length : Int) = (a.length : Int) + (1 : Int)) ∧ Q o2811)))))))))
set_option maxRecDepth 20000 in
set_option maxHeartbeats 4000000 in
theorem rectoref11_common_w {X : List Nat} {w : World} {a : (List ByteArray)} {b : (List ByteArray)} {aa1 : Option Addr} {ca2 : Nat} {ab4 : Option Addr} {cb5 : Nat} {Q : (List (List Int)) → Prop} (hX0 : Old X w) (ha3 : Sl rStr X w aa1 ca2 a) (hb6 : Sl rStr X w ab4 cb5 b) (hp : rectoref11_common_p a b Q) :
    Calls Tryd.prog 19 #[(.slice aa1 a.length ca2), (.slice ab4 b.length cb5)] w (Ret fun v w' => ∃ (r0 : (List (List Int))), Q r0 ∧ Evo [] w w' ∧ ∃ (aq01 : Option Addr) (cq02 : Nat), v = (.slice aq01 r0.length cq02) ∧ Sl (rSl (rInt .i64)) X w' aq01 cq02 r0) := by
  have hXo := hX0
  have E0 : Evo [] w w := RB.refl _ _ _
  have hS : Sub X X := Sub.refl _
  unfold rectoref11_common_p at hp
  refine enter_ Tryd.func19 rfl 128 [(0, (.slice aa1 a.length ca2)), (1, (.slice ab4 b.length cb5))] (by kernel_rfl) (fun Qe hQ => ?_)
  replace hp := hp (Sl.len ha3)
  replace hp := hp (Sl.len hb6)
  refine seq_ (fun _ K7 => ?_)
  refine reg_ ?_
  refine sq (o_pv (.slice none 0 0) rfl (by kernel_rfl) ?_)
  refine nil_ ?_
  refine then_normal (K7 _ _ _ _ ?_)
  refine seq_ (fun _ K8 => ?_)
  refine reg_ ?_
  refine sq (o_pv (.slice aa1 a.length ca2) rfl (by kernel_rfl) ?_)
  refine sq (o_pv (.int .i64 (a.length : Int)) rfl (by kernel_rfl) ?_)
  obtain ⟨h9, hp⟩ := hp
  refine sq (o_pv (.int .i64 ((a.length : Int) + (1 : Int))) rfl (x_add2 (k := .i64) (a := (a.length : Int)) (b := (1 : Int)) ((a.length : Int) + (1 : Int)) (by kernel_rfl) (by kernel_rfl) (wrap_inR h9)) ?_)
  obtain ⟨h10, hp⟩ := hp
  refine sq (o_mkrows (R := (rInt .i64)) (tr := 3) (kl := .i64) (kc := .i64) (X := X) (B := w.heap.size) ((a.length : Int) + (1 : Int)) E0.size rfl Tryd.underlying52 (by kernel_rfl) (by kernel_rfl) (by kernel_rfl) h10 h9 ?_)
  intro b11 w12 X13 s14 m15 n16
  refine sq (o_pv (.slice (some ⟨b11, 0, none⟩) ((a.length : Int) + (1 : Int)).toNat ((a.length : Int) + (1 : Int)).toNat) rfl (by kernel_rfl) ?_)
  refine nil_ ?_
  refine then_normal (K8 _ _ _ _ ?_)
  refine seq_ (fun _ K17 => ?_)
  refine seq_ (fun _ K18 => ?_)
  refine reg_ ?_
  refine sq (o_pv (.slice aa1 a.length ca2) rfl (by kernel_rfl) ?_)
  refine sq (o_pv (.int .i64 (a.length : Int)) rfl (by kernel_rfl) ?_)
  refine sq (o_pv (.int .i64 (a.length : Int)) rfl (by kernel_rfl) ?_)
  refine nil_ ?_
  refine then_normal (K18 _ _ _ _ ?_)
  refine wp_block ?_
  have ha5648 := (Sl.step ha3 s14)
  have hb5649 := (Sl.step hb6 s14)
  have hXo5650 := (Old.step hXo s14)
  have E5651 := (Evo.then0 E0 (Step.evo s14))
  have hS5652 := (Sub.trans hS (Step.up s14))
  obtain ⟨I5638, m5639, hI5640, hp⟩ := hp
  refine loop_ 170141183460469231731687303715884089536 (fun kq lq w5642 => ∃ (X5643 : List Nat) (i2809 : Int) (o2811 : (List (List Int))) (F2812 : List Nat), (lq = [(6, (.int .i64 i2809))]) ∧ (kq = m5639 i2809 o2811) ∧ (Evo [] w w5642) ∧ (Old X5643 w5642) ∧ (Sub X X5643) ∧ (Sl rStr X5643 w5642 aa1 ca2 a) ∧ (Sl rStr X5643 w5642 ab4 cb5 b) ∧ (MO (oRows (rInt .i64) 3) 55 ([]) w.heap.size X5643 w5642 F2812 b11 o2811) ∧ (inR .i64 i2809) ∧ (I5638 i2809 o2811)) (m5639 (a.length : Int) (List.replicate ((a.length : Int) + (1 : Int)).toNat ([] : List Int))) [(6, (.int .i64 (a.length : Int)))] (vs_cons (by kernel_rfl) vs_nil) ⟨X13, (a.length : Int), (List.replicate ((a.length : Int) + (1 : Int)).toNat ([] : List Int)), ([b11]), rfl, rfl, E5651, hXo5650, hS5652, ha5648, hb5649, m15, (inR_len (Sl.len ha3)), hI5640⟩ ?_
  rintro _ _ w5642 g5645 ⟨X5643, i2809, o2811, F2812, rfl, rfl, E5653, hXo5654, hS5655, ha5656, hb5657, m2813, ri2810, hI5641⟩ Kl5646 hA5647
  replace hp := hp i2809 o2811 hI5641 ri2810
  refine seq_ (fun _ K5658 => ?_)
  refine seq_ (fun _ K5659 => ?_)
  refine reg_ ?_
  refine sq (o_pv (.int .i64 i2809) rfl (by kernel_rfl) ?_)
  refine sq (o_pv (.bool (decide (i2809 ≥ (0 : Int)))) rfl (by kernel_rfl) ?_)
  refine nil_ ?_
  refine then_normal (K5659 _ _ _ _ ?_)
  refine cond_d (i2809 ≥ (0 : Int)) (by kernel_rfl) (fun h5660 => ?_) (fun h5660 => ?_)
  ·
    replace hp := hp.1 h5660
    refine wp_skip ?_
    refine then_normal (K5658 _ _ _ _ ?_)
    refine seq_ (fun _ K5661 => ?_)
    refine wp_block ?_
    refine seq_ (fun _ K5662 => ?_)
    refine reg_ ?_
    refine sq (o_pv (.slice (some ⟨b11, 0, none⟩) ((a.length : Int) + (1 : Int)).toNat ((a.length : Int) + (1 : Int)).toNat) rfl (by kernel_rfl) ?_)
    refine sq (o_pv (.int .i64 i2809) rfl (by kernel_rfl) ?_)
    refine sq (o_pv (.slice ab4 b.length cb5) rfl (by kernel_rfl) ?_)
    refine sq (o_pv (.int .i64 (b.length : Int)) rfl (by kernel_rfl) ?_)
    obtain ⟨h5663, hp⟩ := hp
    refine sq (o_pv (.int .i64 ((b.length : Int) + (1 : Int))) rfl (x_add2 (k := .i64) (a := (b.length : Int)) (b := (1 : Int)) ((b.length : Int) + (1 : Int)) (by kernel_rfl) (by kernel_rfl) (wrap_inR h5663)) ?_)
    obtain ⟨h5664, hp⟩ := hp
    refine sq (o_makeX (R := (rInt .i64)) (kl := .i64) (kc := .i64) (X := X5643) (B := w.heap.size) (.int .i64 (0 : Int)) ((b.length : Int) + (1 : Int)) E5653.size rfl Tryd.underlying55 (by kernel_rfl) rfl rfl (fun _ _ => ⟨rfl, by decide⟩) (by kernel_rfl) (by kernel_rfl) h5664 h5663 ?_)
    intro a5665 n5666 w5667 X5668 s5669 O5670 n5671
    have p5672 := n5671 _ (MO.old m2813)
    obtain ⟨h5673, hp⟩ := hp
    have m5674 := (MO.step0 m2813 s5669)
    obtain ⟨ar5675, cr5676, lt5677, hc5678, hS5679⟩ := MO.rowI m5674 h5673.2
    refine sq (o_pv (.pointer (some ⟨b11, 0 + i2809.toNat * 1, none⟩)) rfl (x_ixA (m := ((a.length : Int) + (1 : Int)).toNat) (c := ((a.length : Int) + (1 : Int)).toNat) (k := .i64) (i := i2809) Tryd.underlying52 Tryd.sizeOf55 (by kernel_rfl) (by kernel_rfl) (by have := h5673.1; omega)) ?_)
    refine sq (o_strow (X := X5668) (M := List.replicate ((b.length : Int) + (1 : Int)).toNat (default : Int)) i2809 rfl m5674 O5670 p5672 (OS.wr O5670) h5673.2 (by kernel_rfl) (by kernel_rfl) Tryd.sizeOf55 ?_)
    intro w5680 F5681 s5682 m5683 n5684
    obtain ⟨l5685, ql5685⟩ : ∃ y, y = (lset o2811 i2809 (List.replicate ((b.length : Int) + (1 : Int)).toNat (default : Int))) := ⟨_, rfl⟩
    replace hp := hp l5685 ql5685
    rw [← ql5685] at m5683
    refine nil_ ?_
    refine then_normal (K5662 _ _ _ _ ?_)
    refine seq_ (fun _ K5686 => ?_)
    refine reg_ ?_
    refine sq (o_pv (.slice ab4 b.length cb5) rfl (by kernel_rfl) ?_)
    refine sq (o_pv (.int .i64 (b.length : Int)) rfl (by kernel_rfl) ?_)
    obtain ⟨h5687, hp⟩ := hp
    refine sq (o_pv (.int .i64 ((b.length : Int) - (1 : Int))) rfl (x_sub2 (k := .i64) (a := (b.length : Int)) (b := (1 : Int)) ((b.length : Int) - (1 : Int)) (by kernel_rfl) (by kernel_rfl) (wrap_inR h5687)) ?_)
    refine sq (o_pv (.int .i64 ((b.length : Int) - (1 : Int))) rfl (by kernel_rfl) ?_)
    refine nil_ ?_
    refine then_normal (K5686 _ _ _ _ ?_)
    refine wp_block ?_
    have E7549 := (Evo.thenW (Evo.then0 E5653 (Step.evo s5669)) (Step.evo s5682) (MO.wr m5674))
    have hXo7550 := (Old.step (Old.step hXo5654 s5669) s5682)
    have hS7551 := (Sub.trans (Sub.trans hS5655 (Step.up s5669)) (Step.up s5682))
    have ha7552 := (Sl.step (Sl.step ha5656 s5669) s5682)
    have hb7553 := (Sl.step (Sl.step hb5657 s5669) s5682)
    obtain ⟨I7539, m7540, hI7541, hp⟩ := hp
    refine loop_ 170141183460469231731687303715615670400 (fun kq lq w7543 => ∃ (X7544 : List Nat) (j6612 : Int) (o6614 : (List (List Int))) (F6615 : List Nat), (lq = [(7, (.int .i64 j6612))]) ∧ (kq = m7540 j6612 o6614) ∧ (Evo [] w w7543) ∧ (Old X7544 w7543) ∧ (Sub X X7544) ∧ (Sl rStr X7544 w7543 aa1 ca2 a) ∧ (Sl rStr X7544 w7543 ab4 cb5 b) ∧ (MO (oRows (rInt .i64) 3) 55 ([]) w.heap.size X7544 w7543 F6615 b11 o6614) ∧ (inR .i64 j6612) ∧ (I7539 j6612 o6614)) (m7540 ((b.length : Int) - (1 : Int)) l5685) [(7, (.int .i64 ((b.length : Int) - (1 : Int))))] (vs_cons (by kernel_rfl) vs_nil) ⟨X5668, ((b.length : Int) - (1 : Int)), l5685, F5681, rfl, rfl, E7549, hXo7550, hS7551, ha7552, hb7553, m5683, h5687, hI7541⟩ ?_
    rintro _ _ w7543 g7546 ⟨X7544, j6612, o6614, F6615, rfl, rfl, E7554, hXo7555, hS7556, ha7557, hb7558, m6616, rj6613, hI7542⟩ Kl7547 hA7548
    replace hp := hp j6612 o6614 hI7542 rj6613
    refine seq_ (fun _ K7559 => ?_)
    refine seq_ (fun _ K7560 => ?_)
    obtain ⟨k7563, hk7564, hp⟩ := hp
    refine ground_ ?_
    refine join_ 68451041280 (fun lq w7565 => ∃ (X7566 : List Nat) (s7562 : Bool), (lq = [(35, (.bool s7562))]) ∧ (Evo [] w w7565) ∧ (Old X7566 w7565) ∧ (Sub X X7566) ∧ (Sl rStr X7566 w7565 aa1 ca2 a) ∧ (Sl rStr X7566 w7565 ab4 cb5 b) ∧ (MO (oRows (rInt .i64) 3) 55 ([]) w.heap.size X7566 w7565 F6615 b11 o6614) ∧ (k7563 s7562)) (fun Kj7567 hJ7568 => ?_) ?_
    ·
      refine reg_ ?_
      refine sq (o_pv (.int .i64 j6612) rfl (by kernel_rfl) ?_)
      by_cases h7576 : j6612 ≥ (0 : Int)
      ·
        replace hp := hp.1 h7576
        refine sq (o_pv (.bool true) rfl (x_dt (p := j6612 ≥ (0 : Int)) (by kernel_rfl) h7576) ?_)
        refine sq (o_pv (.bool true) rfl (by kernel_rfl) ?_)
        refine sq (o_pv (.int .i64 i2809) (by kernel_rfl) (by kernel_rfl) ?_)
        refine sq (o_pv (.slice aa1 a.length ca2) (by kernel_rfl) (by kernel_rfl) ?_)
        refine sq (o_pv (.int .i64 (a.length : Int)) (by kernel_rfl) (by kernel_rfl) ?_)
        refine sq (o_pv (.bool (decide (i2809 < (a.length : Int)))) (by kernel_rfl) (by kernel_rfl) ?_)
        refine sq (o_pv (.bool (decide (i2809 < (a.length : Int)))) rfl (by kernel_rfl) ?_)
        refine nil_ ?_
        refine then_normal (hJ7568 _ _ _ ⟨[(35, (.bool (decide (i2809 < (a.length : Int)))))], fit_mk (fun _ _ => rfl) (by kernel_rfl) (vs_cons (by kernel_rfl) vs_nil), ?_⟩)
        exact ⟨X7544, (decide (i2809 < (a.length : Int))), rfl, E7554, hXo7555, hS7556, ha7557, hb7558, m6616, hp⟩
      ·
        replace hp := hp.2 h7576
        refine sq (o_pv (.bool false) rfl (x_df (p := j6612 ≥ (0 : Int)) (by kernel_rfl) h7576) ?_)
        refine sq (o_pv (.bool false) rfl (by kernel_rfl) ?_)
        refine sq (o_not (by kernel_rfl) ?_)
        refine sq (o_not (by kernel_rfl) ?_)
        refine sq (o_not (by kernel_rfl) ?_)
        refine sq (o_not (by kernel_rfl) ?_)
        refine sq (o_pv (.bool false) rfl (by kernel_rfl) ?_)
        refine nil_ ?_
        refine then_normal (hJ7568 _ _ _ ⟨[(35, (.bool false))], fit_mk (fun _ _ => rfl) (by kernel_rfl) (vs_cons (by kernel_rfl) vs_nil), ?_⟩)
        exact ⟨X7544, false, rfl, E7554, hXo7555, hS7556, ha7557, hb7558, m6616, hp⟩
    ·
      rintro _ w7565 g7577 ⟨X7566, s7562, rfl, E7570, hXo7571, hS7572, ha7573, hb7574, m7575, hv7569⟩
      replace hp := hk7564 s7562 hv7569
      refine then_normal (K7560 _ _ _ _ ?_)
      refine cond_b s7562 (by kernel_rfl) (fun h7578 => ?_) (fun h7578 => ?_)
      ·
        replace hp := hp.1 h7578
        refine wp_skip ?_
        refine then_normal (K7559 _ _ _ _ ?_)
        refine seq_ (fun _ K7579 => ?_)
        obtain ⟨k8020, hk8021, hp⟩ := hp
        refine ground_ ?_
        refine join_ 170141183460469231731687303441006198784 (fun lq w8022 => ∃ (X8023 : List Nat) (o8017 : (List (List Int))) (F8018 : List Nat), (lq = []) ∧ (Evo [] w w8022) ∧ (Old X8023 w8022) ∧ (Sub X X8023) ∧ (Sl rStr X8023 w8022 aa1 ca2 a) ∧ (Sl rStr X8023 w8022 ab4 cb5 b) ∧ (MO (oRows (rInt .i64) 3) 55 ([]) w.heap.size X8023 w8022 F8018 b11 o8017) ∧ (k8020 o8017)) (fun Kj8024 hJ8025 => ?_) ?_
        ·
          refine wp_block ?_
          refine seq_ (fun _ K8032 => ?_)
          refine reg_drawn (RB w7565.heap.size []) 14 (by kernel_rfl) (fun w8033 hd8034 => ?_)
          have e8035 := Evo.of_drew hd8034
          have z8036 : w8033.heap.size = w7565.heap.size := by rw [hd8034]
          clear hd8034
          have s8038 := Step.of0 X7566 e8035
          have er8037 := RB.refl w7565.heap.size [] w8033
          have E8039 := (Evo.then0 E7570 (Step.evo s8038))
          have hXo8040 := (Old.step hXo7571 s8038)
          have hS8041 := (Sub.trans hS7572 (Step.up s8038))
          have ha8042 := (Sl.step ha7573 s8038)
          have hb8043 := (Sl.step hb7574 s8038)
          have m8044 := (MO.step0 m7575 s8038)
          refine r_take 0 (.slice (some ⟨b11, 0, none⟩) ((a.length : Int) + (1 : Int)).toNat ((a.length : Int) + (1 : Int)).toNat) (RB.pre _ _) rfl (by kernel_rfl) (fun _ _ _ h => hQ.panic _ _ _ _ _ h) (.inl ⟨rfl, fun wq hq => (by kernel_rfl)⟩) ?_
          refine r_take 1 (.int .i64 i2809) (RB.pre _ _) rfl (by kernel_rfl) (fun _ _ _ h => hQ.panic _ _ _ _ _ h) (.inl ⟨rfl, fun wq hq => (by kernel_rfl)⟩) ?_
          obtain ⟨h8045, hp⟩ := hp
          obtain ⟨ar8046, cr8047, lt8048, hc8049, hS8050⟩ := MO.rowI m8044 h8045.2
          refine r_take 2 (.pointer (some ⟨b11, 0 + i2809.toNat * 1, none⟩)) (RB.pre _ _) rfl (by kernel_rfl) (fun _ _ _ h => hQ.panic _ _ _ _ _ h) (.inl ⟨rfl, fun wq hq => (x_ixA (m := ((a.length : Int) + (1 : Int)).toNat) (c := ((a.length : Int) + (1 : Int)).toNat) (k := .i64) (i := i2809) Tryd.underlying52 Tryd.sizeOf55 (by kernel_rfl) (by kernel_rfl) (by have := h8045.1; omega))⟩) ?_
          refine r_take 3 (.slice ar8046 ((lget o6614 i2809).length) cr8047) (RB.pre _ _) rfl (by kernel_rfl) (fun _ _ _ h => hQ.panic _ _ _ _ _ h) (.inl ⟨rfl, fun wq hq => (x_load1 (by kernel_rfl) Tryd.isAgg55 ((CellsAt.rb hc8049 (RB.trans er8037 hq) (Nat.lt_of_lt_of_eq lt8048 z8036) (fun h => by cases h)) 0 _ rfl))⟩) ?_
          refine r_take 4 (.int .i64 j6612) (RB.pre _ _) rfl (by kernel_rfl) (fun _ _ _ h => hQ.panic _ _ _ _ _ h) (.inl ⟨rfl, fun wq hq => (by kernel_rfl)⟩) ?_
          refine r_take 5 (.slice (some ⟨b11, 0, none⟩) ((a.length : Int) + (1 : Int)).toNat ((a.length : Int) + (1 : Int)).toNat) (RB.pre _ _) rfl (by kernel_rfl) (fun _ _ _ h => hQ.panic _ _ _ _ _ h) (.inl ⟨rfl, fun wq hq => (by kernel_rfl)⟩) ?_
          refine r_take 6 (.int .i64 i2809) (RB.pre _ _) rfl (by kernel_rfl) (fun _ _ _ h => hQ.panic _ _ _ _ _ h) (.inl ⟨rfl, fun wq hq => (by kernel_rfl)⟩) ?_
          obtain ⟨h8051, hp⟩ := hp
          refine r_take 7 (.int .i64 (i2809 + (1 : Int))) (RB.pre _ _) rfl (by kernel_rfl) (fun _ _ _ h => hQ.panic _ _ _ _ _ h) (.inl ⟨rfl, fun wq hq => (x_add2 (k := .i64) (a := i2809) (b := (1 : Int)) (i2809 + (1 : Int)) (by kernel_rfl) (by kernel_rfl) (wrap_inR h8051))⟩) ?_
          obtain ⟨h8052, hp⟩ := hp
          obtain ⟨ar8053, cr8054, lt8055, hc8056, hS8057⟩ := MO.rowI m8044 h8052.2
          refine r_take 8 (.pointer (some ⟨b11, 0 + (i2809 + (1 : Int)).toNat * 1, none⟩)) (RB.pre _ _) rfl (by kernel_rfl) (fun _ _ _ h => hQ.panic _ _ _ _ _ h) (.inl ⟨rfl, fun wq hq => (x_ixA (m := ((a.length : Int) + (1 : Int)).toNat) (c := ((a.length : Int) + (1 : Int)).toNat) (k := .i64) (i := i2809 + (1 : Int)) Tryd.underlying52 Tryd.sizeOf55 (by kernel_rfl) (by kernel_rfl) (by have := h8052.1; omega))⟩) ?_
          refine r_take 9 (.slice ar8053 ((lget o6614 (i2809 + (1 : Int))).length) cr8054) (RB.pre _ _) rfl (by kernel_rfl) (fun _ _ _ h => hQ.panic _ _ _ _ _ h) (.inl ⟨rfl, fun wq hq => (x_load1 (by kernel_rfl) Tryd.isAgg55 ((CellsAt.rb hc8056 (RB.trans er8037 hq) (Nat.lt_of_lt_of_eq lt8055 z8036) (fun h => by cases h)) 0 _ rfl))⟩) ?_
          refine r_take 10 (.int .i64 j6612) (RB.pre _ _) rfl (by kernel_rfl) (fun _ _ _ h => hQ.panic _ _ _ _ _ h) (.inl ⟨rfl, fun wq hq => (by kernel_rfl)⟩) ?_
          obtain ⟨h8058, hp⟩ := hp
          obtain ⟨b8059, o8060, cs8061, ha8062, nx8063, lt8064, ok8065, hc8066⟩ := Sl.atI hS8057 j6612 h8058
          obtain ⟨rfl, re8067⟩ := ok8065
          replace hp := hp re8067
          refine r_take 11 (.pointer (some ⟨b8059, o8060 + j6612.toNat * 1, none⟩)) (RB.pre _ _) rfl (by kernel_rfl) (fun _ _ _ h => hQ.panic _ _ _ _ _ h) (.inl ⟨rfl, fun wq hq => (x_ixA (m := (lget o6614 (i2809 + (1 : Int))).length) (c := cr8054) (k := .i64) (i := j6612) Tryd.underlying55 Tryd.sizeOf3 (by rw [← ha8062]; kernel_rfl) (by kernel_rfl) h8058)⟩) ?_
          refine r_take 12 (.int .i64 (lget (lget o6614 (i2809 + (1 : Int))) j6612)) (RB.pre _ _) rfl (by kernel_rfl) (fun _ _ _ h => hQ.panic _ _ _ _ _ h) (.inl ⟨rfl, fun wq hq => (x_load1 (by kernel_rfl) Tryd.isAgg3 ((CellsAt.rb hc8066 (RB.trans er8037 hq) (Nat.lt_of_lt_of_eq lt8064 z8036) (fun h => by cases h)) 0 _ rfl))⟩) ?_
          obtain ⟨h8068, hp⟩ := hp
          obtain ⟨b8069, o8070, cs8071, ha8072, nx8073, lt8074, ok8075, hc8076⟩ := Sl.atI hS8050 j6612 h8068
          obtain ⟨rfl, re8077⟩ := ok8075
          replace hp := hp re8077
          refine r_take 13 (.pointer (some ⟨b8069, o8070 + j6612.toNat * 1, none⟩)) (RB.pre _ _) rfl (by kernel_rfl) (fun _ _ _ h => hQ.panic _ _ _ _ _ h) (.inl ⟨rfl, fun wq hq => (x_ixA (m := (lget o6614 i2809).length) (c := cr8047) (k := .i64) (i := j6612) Tryd.underlying55 Tryd.sizeOf3 (by rw [← ha8072]; kernel_rfl) (by kernel_rfl) h8068)⟩) ?_
          refine r_ready [14] (by kernel_rfl) rfl (all_cons ⟨_, _, _, _, _, _, rfl, ?_⟩ all_nil)
          refine o_stcell (X := X7566) (R := (rInt .i64)) (o := o8070) (v := (.int .i64 (lget (lget o6614 (i2809 + (1 : Int))) j6612))) i2809 j6612 (lget (lget o6614 (i2809 + (1 : Int))) j6612) rfl m8044 h8045.2 hc8049 ha8072 h8068 (by kernel_rfl) (by kernel_rfl) Tryd.sizeOf3 (fun _ => (rInt_mk re8067)) ?_
          intro w8078 s8079 m8080
          refine ⟨fun h => absurd h (by decide), ?_⟩
          obtain ⟨l8081, ql8081⟩ : ∃ y, y = (lset o6614 i2809 (lset (lget o6614 i2809) j6612 (lget (lget o6614 (i2809 + (1 : Int))) j6612))) := ⟨_, rfl⟩
          replace hp := hp l8081 ql8081
          rw [← ql8081] at m8080
          refine r_done (by kernel_rfl) ?_
          refine then_normal (K8032 _ _ _ _ ?_)
          refine seq_ (fun _ K8082 => ?_)
          refine seq_ (fun _ K8083 => ?_)
          have E8084 := (Evo.thenW E8039 (Step.evo s8079) (MO.wr m8044))
          have hXo8085 := (Old.step hXo8040 s8079)
          have hS8086 := (Sub.trans hS8041 (Step.up s8079))
          have ha8087 := (Sl.step ha8042 s8079)
          have hb8088 := (Sl.step hb8043 s8079)
          refine reg_drawn (RB w8078.heap.size []) 16 (by kernel_rfl) (fun w8089 hd8090 => ?_)
          have e8091 := Evo.of_drew hd8090
          have z8092 : w8089.heap.size = w8078.heap.size := by rw [hd8090]
          clear hd8090
          have s8094 := Step.of0 X7566 e8091
          have er8093 := RB.refl w8078.heap.size [] w8089
          have E8095 := (Evo.then0 E8084 (Step.evo s8094))
          have hXo8096 := (Old.step hXo8085 s8094)
          have hS8097 := (Sub.trans hS8086 (Step.up s8094))
          have ha8098 := (Sl.step ha8087 s8094)
          have hb8099 := (Sl.step hb8088 s8094)
          have m8100 := (MO.step0 m8080 s8094)
          refine r_take 0 (.slice (some ⟨b11, 0, none⟩) ((a.length : Int) + (1 : Int)).toNat ((a.length : Int) + (1 : Int)).toNat) (RB.pre _ _) rfl (by kernel_rfl) (fun _ _ _ h => hQ.panic _ _ _ _ _ h) (.inl ⟨rfl, fun wq hq => (by kernel_rfl)⟩) ?_
          refine r_take 1 (.int .i64 i2809) (RB.pre _ _) rfl (by kernel_rfl) (fun _ _ _ h => hQ.panic _ _ _ _ _ h) (.inl ⟨rfl, fun wq hq => (by kernel_rfl)⟩) ?_
          obtain ⟨h8101, hp⟩ := hp
          obtain ⟨ar8102, cr8103, lt8104, hc8105, hS8106⟩ := MO.rowI m8100 h8101.2
          refine r_take 2 (.pointer (some ⟨b11, 0 + i2809.toNat * 1, none⟩)) (RB.pre _ _) rfl (by kernel_rfl) (fun _ _ _ h => hQ.panic _ _ _ _ _ h) (.inl ⟨rfl, fun wq hq => (x_ixA (m := ((a.length : Int) + (1 : Int)).toNat) (c := ((a.length : Int) + (1 : Int)).toNat) (k := .i64) (i := i2809) Tryd.underlying52 Tryd.sizeOf55 (by kernel_rfl) (by kernel_rfl) (by have := h8101.1; omega))⟩) ?_
          refine r_take 3 (.slice ar8102 ((lget l8081 i2809).length) cr8103) (RB.pre _ _) rfl (by kernel_rfl) (fun _ _ _ h => hQ.panic _ _ _ _ _ h) (.inl ⟨rfl, fun wq hq => (x_load1 (by kernel_rfl) Tryd.isAgg55 ((CellsAt.rb hc8105 (RB.trans er8093 hq) (Nat.lt_of_lt_of_eq lt8104 z8092) (fun h => by cases h)) 0 _ rfl))⟩) ?_
          refine r_take 4 (.int .i64 j6612) (RB.pre _ _) rfl (by kernel_rfl) (fun _ _ _ h => hQ.panic _ _ _ _ _ h) (.inl ⟨rfl, fun wq hq => (by kernel_rfl)⟩) ?_
          obtain ⟨h8107, hp⟩ := hp
          refine r_take 5 (.int .i64 (j6612 + (1 : Int))) (RB.pre _ _) rfl (by kernel_rfl) (fun _ _ _ h => hQ.panic _ _ _ _ _ h) (.inl ⟨rfl, fun wq hq => (x_add2 (k := .i64) (a := j6612) (b := (1 : Int)) (j6612 + (1 : Int)) (by kernel_rfl) (by kernel_rfl) (wrap_inR h8107))⟩) ?_
          obtain ⟨h8108, hp⟩ := hp
          obtain ⟨b8109, o8110, cs8111, ha8112, nx8113, lt8114, ok8115, hc8116⟩ := Sl.atI hS8106 (j6612 + (1 : Int)) h8108
          obtain ⟨rfl, re8117⟩ := ok8115
          replace hp := hp re8117
          refine r_take 6 (.pointer (some ⟨b8109, o8110 + (j6612 + (1 : Int)).toNat * 1, none⟩)) (RB.pre _ _) rfl (by kernel_rfl) (fun _ _ _ h => hQ.panic _ _ _ _ _ h) (.inl ⟨rfl, fun wq hq => (x_ixA (m := (lget l8081 i2809).length) (c := cr8103) (k := .i64) (i := j6612 + (1 : Int)) Tryd.underlying55 Tryd.sizeOf3 (by rw [← ha8112]; kernel_rfl) (by kernel_rfl) h8108)⟩) ?_
          refine r_take 7 (.int .i64 (lget (lget l8081 i2809) (j6612 + (1 : Int)))) (RB.pre _ _) rfl (by kernel_rfl) (fun _ _ _ h => hQ.panic _ _ _ _ _ h) (.inl ⟨rfl, fun wq hq => (x_load1 (by kernel_rfl) Tryd.isAgg3 ((CellsAt.rb hc8116 (RB.trans er8093 hq) (Nat.lt_of_lt_of_eq lt8114 z8092) (fun h => by cases h)) 0 _ rfl))⟩) ?_
          refine r_take 8 (.slice (some ⟨b11, 0, none⟩) ((a.length : Int) + (1 : Int)).toNat ((a.length : Int) + (1 : Int)).toNat) (RB.pre _ _) rfl (by kernel_rfl) (fun _ _ _ h => hQ.panic _ _ _ _ _ h) (.inl ⟨rfl, fun wq hq => (by kernel_rfl)⟩) ?_
          refine r_take 9 (.int .i64 i2809) (RB.pre _ _) rfl (by kernel_rfl) (fun _ _ _ h => hQ.panic _ _ _ _ _ h) (.inl ⟨rfl, fun wq hq => (by kernel_rfl)⟩) ?_
          obtain ⟨h8118, hp⟩ := hp
          obtain ⟨ar8119, cr8120, lt8121, hc8122, hS8123⟩ := MO.rowI m8100 h8118.2
          refine r_take 10 (.pointer (some ⟨b11, 0 + i2809.toNat * 1, none⟩)) (RB.pre _ _) rfl (by kernel_rfl) (fun _ _ _ h => hQ.panic _ _ _ _ _ h) (.inl ⟨rfl, fun wq hq => (x_ixA (m := ((a.length : Int) + (1 : Int)).toNat) (c := ((a.length : Int) + (1 : Int)).toNat) (k := .i64) (i := i2809) Tryd.underlying52 Tryd.sizeOf55 (by kernel_rfl) (by kernel_rfl) (by have := h8118.1; omega))⟩) ?_
          refine r_take 11 (.slice ar8119 ((lget l8081 i2809).length) cr8120) (RB.pre _ _) rfl (by kernel_rfl) (fun _ _ _ h => hQ.panic _ _ _ _ _ h) (.inl ⟨rfl, fun wq hq => (x_load1 (by kernel_rfl) Tryd.isAgg55 ((CellsAt.rb hc8122 (RB.trans er8093 hq) (Nat.lt_of_lt_of_eq lt8121 z8092) (fun h => by cases h)) 0 _ rfl))⟩) ?_
          refine r_take 12 (.int .i64 j6612) (RB.pre _ _) rfl (by kernel_rfl) (fun _ _ _ h => hQ.panic _ _ _ _ _ h) (.inl ⟨rfl, fun wq hq => (by kernel_rfl)⟩) ?_
          obtain ⟨h8124, hp⟩ := hp
          obtain ⟨b8125, o8126, cs8127, ha8128, nx8129, lt8130, ok8131, hc8132⟩ := Sl.atI hS8123 j6612 h8124
          obtain ⟨rfl, re8133⟩ := ok8131
          replace hp := hp re8133
          refine r_take 13 (.pointer (some ⟨b8125, o8126 + j6612.toNat * 1, none⟩)) (RB.pre _ _) rfl (by kernel_rfl) (fun _ _ _ h => hQ.panic _ _ _ _ _ h) (.inl ⟨rfl, fun wq hq => (x_ixA (m := (lget l8081 i2809).length) (c := cr8120) (k := .i64) (i := j6612) Tryd.underlying55 Tryd.sizeOf3 (by rw [← ha8128]; kernel_rfl) (by kernel_rfl) h8124)⟩) ?_
          refine r_take 14 (.int .i64 (lget (lget l8081 i2809) j6612)) (RB.pre _ _) rfl (by kernel_rfl) (fun _ _ _ h => hQ.panic _ _ _ _ _ h) (.inl ⟨rfl, fun wq hq => (x_load1 (by kernel_rfl) Tryd.isAgg3 ((CellsAt.rb hc8132 (RB.trans er8093 hq) (Nat.lt_of_lt_of_eq lt8130 z8092) (fun h => by cases h)) 0 _ rfl))⟩) ?_
          refine r_take 15 (.bool (decide ((lget (lget l8081 i2809) (j6612 + (1 : Int))) > (lget (lget l8081 i2809) j6612)))) (RB.pre _ _) rfl (by kernel_rfl) (fun _ _ _ h => hQ.panic _ _ _ _ _ h) (.inl ⟨rfl, fun wq hq => (by kernel_rfl)⟩) ?_
          refine r_done (by kernel_rfl) ?_
          refine then_normal (K8083 _ _ _ _ ?_)
          obtain ⟨k8189, hk8190, hp⟩ := hp
          refine ground_ ?_
          refine join_ 4835408130553337345998848 (fun lq w8191 => ∃ (X8192 : List Nat) (o8186 : (List (List Int))) (F8187 : List Nat), (lq = []) ∧ (Evo [] w w8191) ∧ (Old X8192 w8191) ∧ (Sub X X8192) ∧ (Sl rStr X8192 w8191 aa1 ca2 a) ∧ (Sl rStr X8192 w8191 ab4 cb5 b) ∧ (MO (oRows (rInt .i64) 3) 55 ([]) w.heap.size X8192 w8191 F8187 b11 o8186) ∧ (k8189 o8186)) (fun Kj8193 hJ8194 => ?_) ?_
          ·
            refine cond_d ((lget (lget l8081 i2809) (j6612 + (1 : Int))) > (lget (lget l8081 i2809) j6612)) (by kernel_rfl) (fun h8201 => ?_) (fun h8201 => ?_)
            ·
              replace hp := hp.1 h8201
              refine reg_drawn (RB w8089.heap.size []) 14 (by kernel_rfl) (fun w8202 hd8203 => ?_)
              have e8204 := Evo.of_drew hd8203
              have z8205 : w8202.heap.size = w8089.heap.size := by rw [hd8203]
              clear hd8203
              have s8207 := Step.of0 X7566 e8204
              have er8206 := RB.refl w8089.heap.size [] w8202
              have E8208 := (Evo.then0 E8095 (Step.evo s8207))
              have hXo8209 := (Old.step hXo8096 s8207)
              have hS8210 := (Sub.trans hS8097 (Step.up s8207))
              have ha8211 := (Sl.step ha8098 s8207)
              have hb8212 := (Sl.step hb8099 s8207)
              have m8213 := (MO.step0 m8100 s8207)
              have hS8214 := (Sl.evo0 hS8106 (Step.evo s8207))
              have hS8215 := (Sl.evo0 hS8123 (Step.evo s8207))
              refine r_take 0 (.slice (some ⟨b11, 0, none⟩) ((a.length : Int) + (1 : Int)).toNat ((a.length : Int) + (1 : Int)).toNat) (RB.pre _ _) rfl (by kernel_rfl) (fun _ _ _ h => hQ.panic _ _ _ _ _ h) (.inl ⟨rfl, fun wq hq => (by kernel_rfl)⟩) ?_
              refine r_take 1 (.int .i64 i2809) (RB.pre _ _) rfl (by kernel_rfl) (fun _ _ _ h => hQ.panic _ _ _ _ _ h) (.inl ⟨rfl, fun wq hq => (by kernel_rfl)⟩) ?_
              obtain ⟨h8216, hp⟩ := hp
              obtain ⟨ar8217, cr8218, lt8219, hc8220, hS8221⟩ := MO.rowI m8213 h8216.2
              refine r_take 2 (.pointer (some ⟨b11, 0 + i2809.toNat * 1, none⟩)) (RB.pre _ _) rfl (by kernel_rfl) (fun _ _ _ h => hQ.panic _ _ _ _ _ h) (.inl ⟨rfl, fun wq hq => (x_ixA (m := ((a.length : Int) + (1 : Int)).toNat) (c := ((a.length : Int) + (1 : Int)).toNat) (k := .i64) (i := i2809) Tryd.underlying52 Tryd.sizeOf55 (by kernel_rfl) (by kernel_rfl) (by have := h8216.1; omega))⟩) ?_
              refine r_take 3 (.slice ar8217 ((lget l8081 i2809).length) cr8218) (RB.pre _ _) rfl (by kernel_rfl) (fun _ _ _ h => hQ.panic _ _ _ _ _ h) (.inl ⟨rfl, fun wq hq => (x_load1 (by kernel_rfl) Tryd.isAgg55 ((CellsAt.rb hc8220 (RB.trans er8206 hq) (Nat.lt_of_lt_of_eq lt8219 z8205) (fun h => by cases h)) 0 _ rfl))⟩) ?_
              refine r_take 4 (.int .i64 j6612) (RB.pre _ _) rfl (by kernel_rfl) (fun _ _ _ h => hQ.panic _ _ _ _ _ h) (.inl ⟨rfl, fun wq hq => (by kernel_rfl)⟩) ?_
              refine r_take 5 (.slice (some ⟨b11, 0, none⟩) ((a.length : Int) + (1 : Int)).toNat ((a.length : Int) + (1 : Int)).toNat) (RB.pre _ _) rfl (by kernel_rfl) (fun _ _ _ h => hQ.panic _ _ _ _ _ h) (.inl ⟨rfl, fun wq hq => (by kernel_rfl)⟩) ?_
              refine r_take 6 (.int .i64 i2809) (RB.pre _ _) rfl (by kernel_rfl) (fun _ _ _ h => hQ.panic _ _ _ _ _ h) (.inl ⟨rfl, fun wq hq => (by kernel_rfl)⟩) ?_
              obtain ⟨h8222, hp⟩ := hp
              obtain ⟨ar8223, cr8224, lt8225, hc8226, hS8227⟩ := MO.rowI m8213 h8222.2
              refine r_take 7 (.pointer (some ⟨b11, 0 + i2809.toNat * 1, none⟩)) (RB.pre _ _) rfl (by kernel_rfl) (fun _ _ _ h => hQ.panic _ _ _ _ _ h) (.inl ⟨rfl, fun wq hq => (x_ixA (m := ((a.length : Int) + (1 : Int)).toNat) (c := ((a.length : Int) + (1 : Int)).toNat) (k := .i64) (i := i2809) Tryd.underlying52 Tryd.sizeOf55 (by kernel_rfl) (by kernel_rfl) (by have := h8222.1; omega))⟩) ?_
              refine r_take 8 (.slice ar8223 ((lget l8081 i2809).length) cr8224) (RB.pre _ _) rfl (by kernel_rfl) (fun _ _ _ h => hQ.panic _ _ _ _ _ h) (.inl ⟨rfl, fun wq hq => (x_load1 (by kernel_rfl) Tryd.isAgg55 ((CellsAt.rb hc8226 (RB.trans er8206 hq) (Nat.lt_of_lt_of_eq lt8225 z8205) (fun h => by cases h)) 0 _ rfl))⟩) ?_
              refine r_take 9 (.int .i64 j6612) (RB.pre _ _) rfl (by kernel_rfl) (fun _ _ _ h => hQ.panic _ _ _ _ _ h) (.inl ⟨rfl, fun wq hq => (by kernel_rfl)⟩) ?_
              obtain ⟨h8228, hp⟩ := hp
              refine r_take 10 (.int .i64 (j6612 + (1 : Int))) (RB.pre _ _) rfl (by kernel_rfl) (fun _ _ _ h => hQ.panic _ _ _ _ _ h) (.inl ⟨rfl, fun wq hq => (x_add2 (k := .i64) (a := j6612) (b := (1 : Int)) (j6612 + (1 : Int)) (by kernel_rfl) (by kernel_rfl) (wrap_inR h8228))⟩) ?_
              obtain ⟨h8229, hp⟩ := hp
              obtain ⟨b8230, o8231, cs8232, ha8233, nx8234, lt8235, ok8236, hc8237⟩ := Sl.atI hS8227 (j6612 + (1 : Int)) h8229
              obtain ⟨rfl, re8238⟩ := ok8236
              replace hp := hp re8238
              refine r_take 11 (.pointer (some ⟨b8230, o8231 + (j6612 + (1 : Int)).toNat * 1, none⟩)) (RB.pre _ _) rfl (by kernel_rfl) (fun _ _ _ h => hQ.panic _ _ _ _ _ h) (.inl ⟨rfl, fun wq hq => (x_ixA (m := (lget l8081 i2809).length) (c := cr8224) (k := .i64) (i := j6612 + (1 : Int)) Tryd.underlying55 Tryd.sizeOf3 (by rw [← ha8233]; kernel_rfl) (by kernel_rfl) h8229)⟩) ?_
              refine r_take 12 (.int .i64 (lget (lget l8081 i2809) (j6612 + (1 : Int)))) (RB.pre _ _) rfl (by kernel_rfl) (fun _ _ _ h => hQ.panic _ _ _ _ _ h) (.inl ⟨rfl, fun wq hq => (x_load1 (by kernel_rfl) Tryd.isAgg3 ((CellsAt.rb hc8237 (RB.trans er8206 hq) (Nat.lt_of_lt_of_eq lt8235 z8205) (fun h => by cases h)) 0 _ rfl))⟩) ?_
              obtain ⟨h8239, hp⟩ := hp
              obtain ⟨b8240, o8241, cs8242, ha8243, nx8244, lt8245, ok8246, hc8247⟩ := Sl.atI hS8221 j6612 h8239
              obtain ⟨rfl, re8248⟩ := ok8246
              replace hp := hp re8248
              refine r_take 13 (.pointer (some ⟨b8240, o8241 + j6612.toNat * 1, none⟩)) (RB.pre _ _) rfl (by kernel_rfl) (fun _ _ _ h => hQ.panic _ _ _ _ _ h) (.inl ⟨rfl, fun wq hq => (x_ixA (m := (lget l8081 i2809).length) (c := cr8218) (k := .i64) (i := j6612) Tryd.underlying55 Tryd.sizeOf3 (by rw [← ha8243]; kernel_rfl) (by kernel_rfl) h8239)⟩) ?_
              refine r_ready [14] (by kernel_rfl) rfl (all_cons ⟨_, _, _, _, _, _, rfl, ?_⟩ all_nil)
              refine o_stcell (X := X7566) (R := (rInt .i64)) (o := o8241) (v := (.int .i64 (lget (lget l8081 i2809) (j6612 + (1 : Int))))) i2809 j6612 (lget (lget l8081 i2809) (j6612 + (1 : Int))) rfl m8213 h8216.2 hc8220 ha8243 h8239 (by kernel_rfl) (by kernel_rfl) Tryd.sizeOf3 (fun _ => (rInt_mk re8238)) ?_
              intro w8249 s8250 m8251
              refine ⟨fun h => absurd h (by decide), ?_⟩
              obtain ⟨l8252, ql8252⟩ : ∃ y, y = (lset l8081 i2809 (lset (lget l8081 i2809) j6612 (lget (lget l8081 i2809) (j6612 + (1 : Int))))) := ⟨_, rfl⟩
              replace hp := hp l8252 ql8252
              rw [← ql8252] at m8251
              refine r_done (by kernel_rfl) ?_
              have E8253 := (Evo.thenW E8208 (Step.evo s8250) (MO.wr m8213))
              have hXo8254 := (Old.step hXo8209 s8250)
              have hS8255 := (Sub.trans hS8210 (Step.up s8250))
              have ha8256 := (Sl.step ha8211 s8250)
              have hb8257 := (Sl.step hb8212 s8250)
              refine then_normal (hJ8194 _ _ _ ⟨[], fit_mk (fun _ _ => rfl) (by kernel_rfl) vs_nil, ?_⟩)
              exact ⟨X7566, l8252, F6615, rfl, E8253, hXo8254, hS8255, ha8256, hb8257, m8251, hp⟩
            ·
              replace hp := hp.2 h8201
              refine wp_skip ?_
              refine then_normal (hJ8194 _ _ _ ⟨[], fit_mk (fun _ _ => rfl) (by kernel_rfl) vs_nil, ?_⟩)
              exact ⟨X7566, l8081, F6615, rfl, E8095, hXo8096, hS8097, ha8098, hb8099, m8100, hp⟩
          ·
            rintro _ w8191 g8258 ⟨X8192, o8186, F8187, rfl, E8196, hXo8197, hS8198, ha8199, hb8200, m8188, hv8195⟩
            replace hp := hk8190 o8186 hv8195
            refine then_normal (K8082 _ _ _ _ ?_)
            refine seq_ (fun _ K8259 => ?_)
            obtain ⟨k8331, hk8332, hp⟩ := hp
            refine ground_ ?_
            refine join_ 2596148424431710535806731465785344 (fun lq w8333 => ∃ (X8334 : List Nat) (s8330 : Bool), (lq = [(110, (.bool s8330))]) ∧ (Evo [] w w8333) ∧ (Old X8334 w8333) ∧ (Sub X X8334) ∧ (Sl rStr X8334 w8333 aa1 ca2 a) ∧ (Sl rStr X8334 w8333 ab4 cb5 b) ∧ (MO (oRows (rInt .i64) 3) 55 ([]) w.heap.size X8334 w8333 F8187 b11 o8186) ∧ (k8331 s8330)) (fun Kj8335 hJ8336 => ?_) ?_
            ·
              refine reg_drawn (RB w8191.heap.size []) 29 (by kernel_rfl) (fun w8344 hd8345 => ?_)
              have e8346 := Evo.of_drew hd8345
              have z8347 : w8344.heap.size = w8191.heap.size := by rw [hd8345]
              clear hd8345
              have s8349 := Step.of0 X8192 e8346
              have er8348 := RB.refl w8191.heap.size [] w8344
              have E8350 := (Evo.then0 E8196 (Step.evo s8349))
              have hXo8351 := (Old.step hXo8197 s8349)
              have hS8352 := (Sub.trans hS8198 (Step.up s8349))
              have ha8353 := (Sl.step ha8199 s8349)
              have hb8354 := (Sl.step hb8200 s8349)
              have m8355 := (MO.step0 m8188 s8349)
              refine r_take 0 (.slice aa1 a.length ca2) (RB.pre _ _) rfl (by kernel_rfl) (fun _ _ _ h => hQ.panic _ _ _ _ _ h) (.inl ⟨rfl, fun wq hq => (by kernel_rfl)⟩) ?_
              refine r_take 1 (.int .i64 i2809) (RB.pre _ _) rfl (by kernel_rfl) (fun _ _ _ h => hQ.panic _ _ _ _ _ h) (.inl ⟨rfl, fun wq hq => (by kernel_rfl)⟩) ?_
              obtain ⟨h8356, hp⟩ := hp
              obtain ⟨b8357, o8358, cs8359, ha8360, nx8361, lt8362, ok8363, hc8364⟩ := Sl.atI ha8353 i2809 h8356
              obtain ⟨rfl, ze8365⟩ := ok8363
              replace hp := hp ze8365
              refine r_take 2 (.pointer (some ⟨b8357, o8358 + i2809.toNat * 1, none⟩)) (RB.pre _ _) rfl (by kernel_rfl) (fun _ _ _ h => hQ.panic _ _ _ _ _ h) (.inl ⟨rfl, fun wq hq => (x_ixA (m := a.length) (c := ca2) (k := .i64) (i := i2809) Tryd.underlying22 Tryd.sizeOf9 (by rw [← ha8360]; kernel_rfl) (by kernel_rfl) h8356)⟩) ?_
              refine r_take 3 (.string (lget a i2809)) (RB.pre _ _) rfl (by kernel_rfl) (fun _ _ _ h => hQ.panic _ _ _ _ _ h) (.inl ⟨rfl, fun wq hq => (x_load1 (by kernel_rfl) Tryd.isAgg9 ((CellsAt.rb hc8364 (RB.trans er8348 hq) (Nat.lt_of_lt_of_eq lt8362 z8347) (fun h => by cases h)) 0 _ rfl))⟩) ?_
              refine r_take 4 (.slice ab4 b.length cb5) (RB.pre _ _) rfl (by kernel_rfl) (fun _ _ _ h => hQ.panic _ _ _ _ _ h) (.inl ⟨rfl, fun wq hq => (by kernel_rfl)⟩) ?_
              refine r_take 5 (.int .i64 j6612) (RB.pre _ _) rfl (by kernel_rfl) (fun _ _ _ h => hQ.panic _ _ _ _ _ h) (.inl ⟨rfl, fun wq hq => (by kernel_rfl)⟩) ?_
              obtain ⟨h8366, hp⟩ := hp
              obtain ⟨b8367, o8368, cs8369, ha8370, nx8371, lt8372, ok8373, hc8374⟩ := Sl.atI hb8354 j6612 h8366
              obtain ⟨rfl, ze8375⟩ := ok8373
              replace hp := hp ze8375
              refine r_take 6 (.pointer (some ⟨b8367, o8368 + j6612.toNat * 1, none⟩)) (RB.pre _ _) rfl (by kernel_rfl) (fun _ _ _ h => hQ.panic _ _ _ _ _ h) (.inl ⟨rfl, fun wq hq => (x_ixA (m := b.length) (c := cb5) (k := .i64) (i := j6612) Tryd.underlying22 Tryd.sizeOf9 (by rw [← ha8370]; kernel_rfl) (by kernel_rfl) h8366)⟩) ?_
              refine r_take 7 (.string (lget b j6612)) (RB.pre _ _) rfl (by kernel_rfl) (fun _ _ _ h => hQ.panic _ _ _ _ _ h) (.inl ⟨rfl, fun wq hq => (x_load1 (by kernel_rfl) Tryd.isAgg9 ((CellsAt.rb hc8374 (RB.trans er8348 hq) (Nat.lt_of_lt_of_eq lt8372 z8347) (fun h => by cases h)) 0 _ rfl))⟩) ?_
              by_cases h8376 : (lget a i2809 : ByteArray) = lget b j6612
              ·
                replace hp := hp.1 h8376
                refine r_take 8 (.bool true) (RB.pre _ _) rfl (by kernel_rfl) (fun _ _ _ h => hQ.panic _ _ _ _ _ h) (.inl ⟨rfl, fun wq hq => (x_dt (p := (lget a i2809 : ByteArray) = lget b j6612) (x_streq (by kernel_rfl) (by kernel_rfl)) h8376)⟩) ?_
                refine r_take 9 (.bool true) (RB.pre _ _) rfl (by kernel_rfl) (fun _ _ _ h => hQ.panic _ _ _ _ _ h) (.inl ⟨rfl, fun wq hq => (by kernel_rfl)⟩) ?_
                refine r_take 10 (.slice (some ⟨b11, 0, none⟩) ((a.length : Int) + (1 : Int)).toNat ((a.length : Int) + (1 : Int)).toNat) (RB.pre _ _) rfl (by kernel_rfl) (fun _ _ _ h => hQ.panic _ _ _ _ _ h) (.inl ⟨(by kernel_rfl), fun wq hq => (by kernel_rfl)⟩) ?_
                refine r_take 11 (.int .i64 i2809) (RB.pre _ _) rfl (by kernel_rfl) (fun _ _ _ h => hQ.panic _ _ _ _ _ h) (.inl ⟨(by kernel_rfl), fun wq hq => (by kernel_rfl)⟩) ?_
                obtain ⟨h8377, hp⟩ := hp
                refine r_take 12 (.int .i64 (i2809 + (1 : Int))) (RB.pre _ _) rfl (by kernel_rfl) (fun _ _ _ h => hQ.panic _ _ _ _ _ h) (.inl ⟨(by kernel_rfl), fun wq hq => (x_add2 (k := .i64) (a := i2809) (b := (1 : Int)) (i2809 + (1 : Int)) (by kernel_rfl) (by kernel_rfl) (wrap_inR h8377))⟩) ?_
                obtain ⟨h8378, hp⟩ := hp
                obtain ⟨ar8379, cr8380, lt8381, hc8382, hS8383⟩ := MO.rowI m8355 h8378.2
                refine r_take 13 (.pointer (some ⟨b11, 0 + (i2809 + (1 : Int)).toNat * 1, none⟩)) (RB.pre _ _) rfl (by kernel_rfl) (fun _ _ _ h => hQ.panic _ _ _ _ _ h) (.inl ⟨(by kernel_rfl), fun wq hq => (x_ixA (m := ((a.length : Int) + (1 : Int)).toNat) (c := ((a.length : Int) + (1 : Int)).toNat) (k := .i64) (i := i2809 + (1 : Int)) Tryd.underlying52 Tryd.sizeOf55 (by kernel_rfl) (by kernel_rfl) (by have := h8378.1; omega))⟩) ?_
                refine r_take 14 (.slice ar8379 ((lget o8186 (i2809 + (1 : Int))).length) cr8380) (RB.pre _ _) rfl (by kernel_rfl) (fun _ _ _ h => hQ.panic _ _ _ _ _ h) (.inl ⟨(by kernel_rfl), fun wq hq => (x_load1 (by kernel_rfl) Tryd.isAgg55 ((CellsAt.rb hc8382 (RB.trans er8348 hq) (Nat.lt_of_lt_of_eq lt8381 z8347) (fun h => by cases h)) 0 _ rfl))⟩) ?_
                refine r_take 15 (.int .i64 j6612) (RB.pre _ _) rfl (by kernel_rfl) (fun _ _ _ h => hQ.panic _ _ _ _ _ h) (.inl ⟨(by kernel_rfl), fun wq hq => (by kernel_rfl)⟩) ?_
                obtain ⟨h8384, hp⟩ := hp
                refine r_take 16 (.int .i64 (j6612 + (1 : Int))) (RB.pre _ _) rfl (by kernel_rfl) (fun _ _ _ h => hQ.panic _ _ _ _ _ h) (.inl ⟨(by kernel_rfl), fun wq hq => (x_add2 (k := .i64) (a := j6612) (b := (1 : Int)) (j6612 + (1 : Int)) (by kernel_rfl) (by kernel_rfl) (wrap_inR h8384))⟩) ?_
                obtain ⟨h8385, hp⟩ := hp
                obtain ⟨b8386, o8387, cs8388, ha8389, nx8390, lt8391, ok8392, hc8393⟩ := Sl.atI hS8383 (j6612 + (1 : Int)) h8385
                obtain ⟨rfl, re8394⟩ := ok8392
                replace hp := hp re8394
                refine r_take 17 (.pointer (some ⟨b8386, o8387 + (j6612 + (1 : Int)).toNat * 1, none⟩)) (RB.pre _ _) rfl (by kernel_rfl) (fun _ _ _ h => hQ.panic _ _ _ _ _ h) (.inl ⟨(by kernel_rfl), fun wq hq => (x_ixA (m := (lget o8186 (i2809 + (1 : Int))).length) (c := cr8380) (k := .i64) (i := j6612 + (1 : Int)) Tryd.underlying55 Tryd.sizeOf3 (by rw [← ha8389]; kernel_rfl) (by kernel_rfl) h8385)⟩) ?_
                refine r_take 18 (.int .i64 (lget (lget o8186 (i2809 + (1 : Int))) (j6612 + (1 : Int)))) (RB.pre _ _) rfl (by kernel_rfl) (fun _ _ _ h => hQ.panic _ _ _ _ _ h) (.inl ⟨(by kernel_rfl), fun wq hq => (x_load1 (by kernel_rfl) Tryd.isAgg3 ((CellsAt.rb hc8393 (RB.trans er8348 hq) (Nat.lt_of_lt_of_eq lt8391 z8347) (fun h => by cases h)) 0 _ rfl))⟩) ?_
                obtain ⟨h8395, hp⟩ := hp
                obtain ⟨y8396, qy8396⟩ : ∃ y, y = ((lget (lget o8186 (i2809 + (1 : Int))) (j6612 + (1 : Int))) + (1 : Int)) := ⟨_, rfl⟩
                replace hp := hp y8396 qy8396
                have r8397 : inR .i64 y8396 := by rw [qy8396]; exact h8395
                refine r_take 19 (.int .i64 y8396) (RB.pre _ _) rfl (by kernel_rfl) (fun _ _ _ h => hQ.panic _ _ _ _ _ h) (.inl ⟨(by kernel_rfl), fun wq hq => (by rw [qy8396]; exact (x_add2 (k := .i64) (a := lget (lget o8186 (i2809 + (1 : Int))) (j6612 + (1 : Int))) (b := (1 : Int)) ((lget (lget o8186 (i2809 + (1 : Int))) (j6612 + (1 : Int))) + (1 : Int)) (by kernel_rfl) (by kernel_rfl) (wrap_inR h8395)))⟩) ?_
                refine r_take 20 (.slice (some ⟨b11, 0, none⟩) ((a.length : Int) + (1 : Int)).toNat ((a.length : Int) + (1 : Int)).toNat) (RB.pre _ _) rfl (by kernel_rfl) (fun _ _ _ h => hQ.panic _ _ _ _ _ h) (.inl ⟨(by kernel_rfl), fun wq hq => (by kernel_rfl)⟩) ?_
                refine r_take 21 (.int .i64 i2809) (RB.pre _ _) rfl (by kernel_rfl) (fun _ _ _ h => hQ.panic _ _ _ _ _ h) (.inl ⟨(by kernel_rfl), fun wq hq => (by kernel_rfl)⟩) ?_
                obtain ⟨h8398, hp⟩ := hp
                obtain ⟨ar8399, cr8400, lt8401, hc8402, hS8403⟩ := MO.rowI m8355 h8398.2
                refine r_take 22 (.pointer (some ⟨b11, 0 + i2809.toNat * 1, none⟩)) (RB.pre _ _) rfl (by kernel_rfl) (fun _ _ _ h => hQ.panic _ _ _ _ _ h) (.inl ⟨(by kernel_rfl), fun wq hq => (x_ixA (m := ((a.length : Int) + (1 : Int)).toNat) (c := ((a.length : Int) + (1 : Int)).toNat) (k := .i64) (i := i2809) Tryd.underlying52 Tryd.sizeOf55 (by kernel_rfl) (by kernel_rfl) (by have := h8398.1; omega))⟩) ?_
                refine r_take 23 (.slice ar8399 ((lget o8186 i2809).length) cr8400) (RB.pre _ _) rfl (by kernel_rfl) (fun _ _ _ h => hQ.panic _ _ _ _ _ h) (.inl ⟨(by kernel_rfl), fun wq hq => (x_load1 (by kernel_rfl) Tryd.isAgg55 ((CellsAt.rb hc8402 (RB.trans er8348 hq) (Nat.lt_of_lt_of_eq lt8401 z8347) (fun h => by cases h)) 0 _ rfl))⟩) ?_
                refine r_take 24 (.int .i64 j6612) (RB.pre _ _) rfl (by kernel_rfl) (fun _ _ _ h => hQ.panic _ _ _ _ _ h) (.inl ⟨(by kernel_rfl), fun wq hq => (by kernel_rfl)⟩) ?_
                obtain ⟨h8404, hp⟩ := hp
                obtain ⟨b8405, o8406, cs8407, ha8408, nx8409, lt8410, ok8411, hc8412⟩ := Sl.atI hS8403 j6612 h8404
                obtain ⟨rfl, re8413⟩ := ok8411
                replace hp := hp re8413
                refine r_take 25 (.pointer (some ⟨b8405, o8406 + j6612.toNat * 1, none⟩)) (RB.pre _ _) rfl (by kernel_rfl) (fun _ _ _ h => hQ.panic _ _ _ _ _ h) (.inl ⟨(by kernel_rfl), fun wq hq => (x_ixA (m := (lget o8186 i2809).length) (c := cr8400) (k := .i64) (i := j6612) Tryd.underlying55 Tryd.sizeOf3 (by rw [← ha8408]; kernel_rfl) (by kernel_rfl) h8404)⟩) ?_
                refine r_take 26 (.int .i64 (lget (lget o8186 i2809) j6612)) (RB.pre _ _) rfl (by kernel_rfl) (fun _ _ _ h => hQ.panic _ _ _ _ _ h) (.inl ⟨(by kernel_rfl), fun wq hq => (x_load1 (by kernel_rfl) Tryd.isAgg3 ((CellsAt.rb hc8412 (RB.trans er8348 hq) (Nat.lt_of_lt_of_eq lt8410 z8347) (fun h => by cases h)) 0 _ rfl))⟩) ?_
                refine r_take 27 (.bool (decide (y8396 > (lget (lget o8186 i2809) j6612)))) (RB.pre _ _) rfl (by kernel_rfl) (fun _ _ _ h => hQ.panic _ _ _ _ _ h) (.inl ⟨(by kernel_rfl), fun wq hq => (by kernel_rfl)⟩) ?_
                refine r_take 28 (.bool (decide (y8396 > (lget (lget o8186 i2809) j6612)))) (RB.pre _ _) rfl (by kernel_rfl) (fun _ _ _ h => hQ.panic _ _ _ _ _ h) (.inl ⟨rfl, fun wq hq => (by kernel_rfl)⟩) ?_
                refine r_done (by kernel_rfl) ?_
                refine then_normal (hJ8336 _ _ _ ⟨[(110, (.bool (decide (y8396 > (lget (lget o8186 i2809) j6612)))))], fit_mk (fun _ _ => rfl) (by kernel_rfl) (vs_cons (by kernel_rfl) vs_nil), ?_⟩)
                exact ⟨X8192, (decide (y8396 > (lget (lget o8186 i2809) j6612))), rfl, E8350, hXo8351, hS8352, ha8353, hb8354, m8355, hp⟩
              ·
                replace hp := hp.2 h8376
                refine r_take 8 (.bool false) (RB.pre _ _) rfl (by kernel_rfl) (fun _ _ _ h => hQ.panic _ _ _ _ _ h) (.inl ⟨rfl, fun wq hq => (x_df (p := (lget a i2809 : ByteArray) = lget b j6612) (x_streq (by kernel_rfl) (by kernel_rfl)) h8376)⟩) ?_
                refine r_take 9 (.bool false) (RB.pre _ _) rfl (by kernel_rfl) (fun _ _ _ h => hQ.panic _ _ _ _ _ h) (.inl ⟨rfl, fun wq hq => (by kernel_rfl)⟩) ?_
                refine r_take 10 undef (RB.pre _ _) rfl (by kernel_rfl) (fun _ _ _ h => hQ.panic _ _ _ _ _ h) (.inr ⟨by kernel_rfl, rfl⟩) ?_
                refine r_take 11 undef (RB.pre _ _) rfl (by kernel_rfl) (fun _ _ _ h => hQ.panic _ _ _ _ _ h) (.inr ⟨by kernel_rfl, rfl⟩) ?_
                refine r_take 12 undef (RB.pre _ _) rfl (by kernel_rfl) (fun _ _ _ h => hQ.panic _ _ _ _ _ h) (.inr ⟨by kernel_rfl, rfl⟩) ?_
                refine r_take 13 undef (RB.pre _ _) rfl (by kernel_rfl) (fun _ _ _ h => hQ.panic _ _ _ _ _ h) (.inr ⟨by kernel_rfl, rfl⟩) ?_
                refine r_take 14 undef (RB.pre _ _) rfl (by kernel_rfl) (fun _ _ _ h => hQ.panic _ _ _ _ _ h) (.inr ⟨by kernel_rfl, rfl⟩) ?_
                refine r_take 15 undef (RB.pre _ _) rfl (by kernel_rfl) (fun _ _ _ h => hQ.panic _ _ _ _ _ h) (.inr ⟨by kernel_rfl, rfl⟩) ?_
                refine r_take 16 undef (RB.pre _ _) rfl (by kernel_rfl) (fun _ _ _ h => hQ.panic _ _ _ _ _ h) (.inr ⟨by kernel_rfl, rfl⟩) ?_
                refine r_take 17 undef (RB.pre _ _) rfl (by kernel_rfl) (fun _ _ _ h => hQ.panic _ _ _ _ _ h) (.inr ⟨by kernel_rfl, rfl⟩) ?_
                refine r_take 18 undef (RB.pre _ _) rfl (by kernel_rfl) (fun _ _ _ h => hQ.panic _ _ _ _ _ h) (.inr ⟨by kernel_rfl, rfl⟩) ?_
                refine r_take 19 undef (RB.pre _ _) rfl (by kernel_rfl) (fun _ _ _ h => hQ.panic _ _ _ _ _ h) (.inr ⟨by kernel_rfl, rfl⟩) ?_
                refine r_take 20 undef (RB.pre _ _) rfl (by kernel_rfl) (fun _ _ _ h => hQ.panic _ _ _ _ _ h) (.inr ⟨by kernel_rfl, rfl⟩) ?_
                refine r_take 21 undef (RB.pre _ _) rfl (by kernel_rfl) (fun _ _ _ h => hQ.panic _ _ _ _ _ h) (.inr ⟨by kernel_rfl, rfl⟩) ?_
                refine r_take 22 undef (RB.pre _ _) rfl (by kernel_rfl) (fun _ _ _ h => hQ.panic _ _ _ _ _ h) (.inr ⟨by kernel_rfl, rfl⟩) ?_
                refine r_take 23 undef (RB.pre _ _) rfl (by kernel_rfl) (fun _ _ _ h => hQ.panic _ _ _ _ _ h) (.inr ⟨by kernel_rfl, rfl⟩) ?_
                refine r_take 24 undef (RB.pre _ _) rfl (by kernel_rfl) (fun _ _ _ h => hQ.panic _ _ _ _ _ h) (.inr ⟨by kernel_rfl, rfl⟩) ?_
                refine r_take 25 undef (RB.pre _ _) rfl (by kernel_rfl) (fun _ _ _ h => hQ.panic _ _ _ _ _ h) (.inr ⟨by kernel_rfl, rfl⟩) ?_
                refine r_take 26 undef (RB.pre _ _) rfl (by kernel_rfl) (fun _ _ _ h => hQ.panic _ _ _ _ _ h) (.inr ⟨by kernel_rfl, rfl⟩) ?_
                refine r_take 27 undef (RB.pre _ _) rfl (by kernel_rfl) (fun _ _ _ h => hQ.panic _ _ _ _ _ h) (.inr ⟨by kernel_rfl, rfl⟩) ?_
                refine r_take 28 (.bool false) (RB.pre _ _) rfl (by kernel_rfl) (fun _ _ _ h => hQ.panic _ _ _ _ _ h) (.inl ⟨rfl, fun wq hq => (by kernel_rfl)⟩) ?_
                refine r_done (by kernel_rfl) ?_
                refine then_normal (hJ8336 _ _ _ ⟨[(110, (.bool false))], fit_mk (fun _ _ => rfl) (by kernel_rfl) (vs_cons (by kernel_rfl) vs_nil), ?_⟩)
                exact ⟨X8192, false, rfl, E8350, hXo8351, hS8352, ha8353, hb8354, m8355, hp⟩
            ·
              rintro _ w8333 g8414 ⟨X8334, s8330, rfl, E8338, hXo8339, hS8340, ha8341, hb8342, m8343, hv8337⟩
              replace hp := hk8332 s8330 hv8337
              refine then_normal (K8259 _ _ _ _ ?_)
              refine cond_b s8330 (by kernel_rfl) (fun h8415 => ?_) (fun h8415 => ?_)
              ·
                replace hp := hp.1 h8415
                refine reg_drawn (RB w8333.heap.size []) 16 (by kernel_rfl) (fun w8416 hd8417 => ?_)
                have e8418 := Evo.of_drew hd8417
                have z8419 : w8416.heap.size = w8333.heap.size := by rw [hd8417]
                clear hd8417
                have s8421 := Step.of0 X8334 e8418
                have er8420 := RB.refl w8333.heap.size [] w8416
                have E8422 := (Evo.then0 E8338 (Step.evo s8421))
                have hXo8423 := (Old.step hXo8339 s8421)
                have hS8424 := (Sub.trans hS8340 (Step.up s8421))
                have ha8425 := (Sl.step ha8341 s8421)
                have hb8426 := (Sl.step hb8342 s8421)
                have m8427 := (MO.step0 m8343 s8421)
                refine r_take 0 (.slice (some ⟨b11, 0, none⟩) ((a.length : Int) + (1 : Int)).toNat ((a.length : Int) + (1 : Int)).toNat) (RB.pre _ _) rfl (by kernel_rfl) (fun _ _ _ h => hQ.panic _ _ _ _ _ h) (.inl ⟨rfl, fun wq hq => (by kernel_rfl)⟩) ?_
                refine r_take 1 (.int .i64 i2809) (RB.pre _ _) rfl (by kernel_rfl) (fun _ _ _ h => hQ.panic _ _ _ _ _ h) (.inl ⟨rfl, fun wq hq => (by kernel_rfl)⟩) ?_
                obtain ⟨h8428, hp⟩ := hp
                obtain ⟨ar8429, cr8430, lt8431, hc8432, hS8433⟩ := MO.rowI m8427 h8428.2
                refine r_take 2 (.pointer (some ⟨b11, 0 + i2809.toNat * 1, none⟩)) (RB.pre _ _) rfl (by kernel_rfl) (fun _ _ _ h => hQ.panic _ _ _ _ _ h) (.inl ⟨rfl, fun wq hq => (x_ixA (m := ((a.length : Int) + (1 : Int)).toNat) (c := ((a.length : Int) + (1 : Int)).toNat) (k := .i64) (i := i2809) Tryd.underlying52 Tryd.sizeOf55 (by kernel_rfl) (by kernel_rfl) (by have := h8428.1; omega))⟩) ?_
                refine r_take 3 (.slice ar8429 ((lget o8186 i2809).length) cr8430) (RB.pre _ _) rfl (by kernel_rfl) (fun _ _ _ h => hQ.panic _ _ _ _ _ h) (.inl ⟨rfl, fun wq hq => (x_load1 (by kernel_rfl) Tryd.isAgg55 ((CellsAt.rb hc8432 (RB.trans er8420 hq) (Nat.lt_of_lt_of_eq lt8431 z8419) (fun h => by cases h)) 0 _ rfl))⟩) ?_
                refine r_take 4 (.int .i64 j6612) (RB.pre _ _) rfl (by kernel_rfl) (fun _ _ _ h => hQ.panic _ _ _ _ _ h) (.inl ⟨rfl, fun wq hq => (by kernel_rfl)⟩) ?_
                refine r_take 5 (.slice (some ⟨b11, 0, none⟩) ((a.length : Int) + (1 : Int)).toNat ((a.length : Int) + (1 : Int)).toNat) (RB.pre _ _) rfl (by kernel_rfl) (fun _ _ _ h => hQ.panic _ _ _ _ _ h) (.inl ⟨rfl, fun wq hq => (by kernel_rfl)⟩) ?_
                refine r_take 6 (.int .i64 i2809) (RB.pre _ _) rfl (by kernel_rfl) (fun _ _ _ h => hQ.panic _ _ _ _ _ h) (.inl ⟨rfl, fun wq hq => (by kernel_rfl)⟩) ?_
                obtain ⟨h8434, hp⟩ := hp
                refine r_take 7 (.int .i64 (i2809 + (1 : Int))) (RB.pre _ _) rfl (by kernel_rfl) (fun _ _ _ h => hQ.panic _ _ _ _ _ h) (.inl ⟨rfl, fun wq hq => (x_add2 (k := .i64) (a := i2809) (b := (1 : Int)) (i2809 + (1 : Int)) (by kernel_rfl) (by kernel_rfl) (wrap_inR h8434))⟩) ?_
                obtain ⟨h8435, hp⟩ := hp
                obtain ⟨ar8436, cr8437, lt8438, hc8439, hS8440⟩ := MO.rowI m8427 h8435.2
                refine r_take 8 (.pointer (some ⟨b11, 0 + (i2809 + (1 : Int)).toNat * 1, none⟩)) (RB.pre _ _) rfl (by kernel_rfl) (fun _ _ _ h => hQ.panic _ _ _ _ _ h) (.inl ⟨rfl, fun wq hq => (x_ixA (m := ((a.length : Int) + (1 : Int)).toNat) (c := ((a.length : Int) + (1 : Int)).toNat) (k := .i64) (i := i2809 + (1 : Int)) Tryd.underlying52 Tryd.sizeOf55 (by kernel_rfl) (by kernel_rfl) (by have := h8435.1; omega))⟩) ?_
                refine r_take 9 (.slice ar8436 ((lget o8186 (i2809 + (1 : Int))).length) cr8437) (RB.pre _ _) rfl (by kernel_rfl) (fun _ _ _ h => hQ.panic _ _ _ _ _ h) (.inl ⟨rfl, fun wq hq => (x_load1 (by kernel_rfl) Tryd.isAgg55 ((CellsAt.rb hc8439 (RB.trans er8420 hq) (Nat.lt_of_lt_of_eq lt8438 z8419) (fun h => by cases h)) 0 _ rfl))⟩) ?_
                refine r_take 10 (.int .i64 j6612) (RB.pre _ _) rfl (by kernel_rfl) (fun _ _ _ h => hQ.panic _ _ _ _ _ h) (.inl ⟨rfl, fun wq hq => (by kernel_rfl)⟩) ?_
                obtain ⟨h8441, hp⟩ := hp
                refine r_take 11 (.int .i64 (j6612 + (1 : Int))) (RB.pre _ _) rfl (by kernel_rfl) (fun _ _ _ h => hQ.panic _ _ _ _ _ h) (.inl ⟨rfl, fun wq hq => (x_add2 (k := .i64) (a := j6612) (b := (1 : Int)) (j6612 + (1 : Int)) (by kernel_rfl) (by kernel_rfl) (wrap_inR h8441))⟩) ?_
                obtain ⟨h8442, hp⟩ := hp
                obtain ⟨b8443, o8444, cs8445, ha8446, nx8447, lt8448, ok8449, hc8450⟩ := Sl.atI hS8440 (j6612 + (1 : Int)) h8442
                obtain ⟨rfl, re8451⟩ := ok8449
                replace hp := hp re8451
                refine r_take 12 (.pointer (some ⟨b8443, o8444 + (j6612 + (1 : Int)).toNat * 1, none⟩)) (RB.pre _ _) rfl (by kernel_rfl) (fun _ _ _ h => hQ.panic _ _ _ _ _ h) (.inl ⟨rfl, fun wq hq => (x_ixA (m := (lget o8186 (i2809 + (1 : Int))).length) (c := cr8437) (k := .i64) (i := j6612 + (1 : Int)) Tryd.underlying55 Tryd.sizeOf3 (by rw [← ha8446]; kernel_rfl) (by kernel_rfl) h8442)⟩) ?_
                refine r_take 13 (.int .i64 (lget (lget o8186 (i2809 + (1 : Int))) (j6612 + (1 : Int)))) (RB.pre _ _) rfl (by kernel_rfl) (fun _ _ _ h => hQ.panic _ _ _ _ _ h) (.inl ⟨rfl, fun wq hq => (x_load1 (by kernel_rfl) Tryd.isAgg3 ((CellsAt.rb hc8450 (RB.trans er8420 hq) (Nat.lt_of_lt_of_eq lt8448 z8419) (fun h => by cases h)) 0 _ rfl))⟩) ?_
                obtain ⟨h8452, hp⟩ := hp
                obtain ⟨y8453, qy8453⟩ : ∃ y, y = ((lget (lget o8186 (i2809 + (1 : Int))) (j6612 + (1 : Int))) + (1 : Int)) := ⟨_, rfl⟩
                replace hp := hp y8453 qy8453
                have r8454 : inR .i64 y8453 := by rw [qy8453]; exact h8452
                refine r_take 14 (.int .i64 y8453) (RB.pre _ _) rfl (by kernel_rfl) (fun _ _ _ h => hQ.panic _ _ _ _ _ h) (.inl ⟨rfl, fun wq hq => (by rw [qy8453]; exact (x_add2 (k := .i64) (a := lget (lget o8186 (i2809 + (1 : Int))) (j6612 + (1 : Int))) (b := (1 : Int)) ((lget (lget o8186 (i2809 + (1 : Int))) (j6612 + (1 : Int))) + (1 : Int)) (by kernel_rfl) (by kernel_rfl) (wrap_inR h8452)))⟩) ?_
                obtain ⟨h8455, hp⟩ := hp
                obtain ⟨b8456, o8457, cs8458, ha8459, nx8460, lt8461, ok8462, hc8463⟩ := Sl.atI hS8433 j6612 h8455
                obtain ⟨rfl, re8464⟩ := ok8462
                replace hp := hp re8464
                refine r_take 15 (.pointer (some ⟨b8456, o8457 + j6612.toNat * 1, none⟩)) (RB.pre _ _) rfl (by kernel_rfl) (fun _ _ _ h => hQ.panic _ _ _ _ _ h) (.inl ⟨rfl, fun wq hq => (x_ixA (m := (lget o8186 i2809).length) (c := cr8430) (k := .i64) (i := j6612) Tryd.underlying55 Tryd.sizeOf3 (by rw [← ha8459]; kernel_rfl) (by kernel_rfl) h8455)⟩) ?_
                refine r_ready [16] (by kernel_rfl) rfl (all_cons ⟨_, _, _, _, _, _, rfl, ?_⟩ all_nil)
                refine o_stcell (X := X8334) (R := (rInt .i64)) (o := o8457) (v := (.int .i64 y8453)) i2809 j6612 y8453 rfl m8427 h8428.2 hc8432 ha8459 h8455 (by kernel_rfl) (by kernel_rfl) Tryd.sizeOf3 (fun _ => (rInt_mk r8454)) ?_
                intro w8465 s8466 m8467
                refine ⟨fun h => absurd h (by decide), ?_⟩
                obtain ⟨l8468, ql8468⟩ : ∃ y, y = (lset o8186 i2809 (lset (lget o8186 i2809) j6612 y8453)) := ⟨_, rfl⟩
                replace hp := hp l8468 ql8468
                rw [← ql8468] at m8467
                refine r_done (by kernel_rfl) ?_
                refine blk_normal ?_
                have E8469 := (Evo.thenW E8422 (Step.evo s8466) (MO.wr m8427))
                have hXo8470 := (Old.step hXo8423 s8466)
                have hS8471 := (Sub.trans hS8424 (Step.up s8466))
                have ha8472 := (Sl.step ha8425 s8466)
                have hb8473 := (Sl.step hb8426 s8466)
                refine then_normal (hJ8025 _ _ _ ⟨[], fit_mk (AgB.nest (AgB.look (AgB.nest (AgB.look (fun _ _ => rfl) (by kernel_rfl)) (by kernel_rfl) (by kernel_rfl)) (by kernel_rfl)) (by kernel_rfl) (by kernel_rfl)) (by kernel_rfl) vs_nil, ?_⟩)
                exact ⟨X8334, l8468, F8187, rfl, E8469, hXo8470, hS8471, ha8472, hb8473, m8467, hp⟩
              ·
                replace hp := hp.2 h8415
                refine wp_skip ?_
                refine blk_normal ?_
                refine then_normal (hJ8025 _ _ _ ⟨[], fit_mk (AgB.nest (AgB.look (AgB.nest (AgB.look (fun _ _ => rfl) (by kernel_rfl)) (by kernel_rfl) (by kernel_rfl)) (by kernel_rfl)) (by kernel_rfl) (by kernel_rfl)) (by kernel_rfl) vs_nil, ?_⟩)
                exact ⟨X8334, o8186, F8187, rfl, E8338, hXo8339, hS8340, ha8341, hb8342, m8343, hp⟩
        ·
          rintro _ w8022 g8474 ⟨X8023, o8017, F8018, rfl, E8027, hXo8028, hS8029, ha8030, hb8031, m8019, hv8026⟩
          replace hp := hk8021 o8017 hv8026
          refine then_normal (K7579 _ _ _ _ ?_)
          refine reg_ ?_
          refine sq (o_pv (.int .i64 j6612) rfl (by kernel_rfl) ?_)
          obtain ⟨h8475, hp⟩ := hp
          refine sq (o_pv (.int .i64 (j6612 - (1 : Int))) rfl (x_sub2 (k := .i64) (a := j6612) (b := (1 : Int)) (j6612 - (1 : Int)) (by kernel_rfl) (by kernel_rfl) (wrap_inR h8475)) ?_)
          refine sq (o_pv (.int .i64 (j6612 - (1 : Int))) rfl (by kernel_rfl) ?_)
          refine nil_ ?_
          refine then_normal (hA7548 _ _ _ ⟨_, [(7, (.int .i64 (j6612 - (1 : Int))))], hp.2, fit_mk (AgB.nest (AgB.look (AgB.nest (AgB.look (AgB.mix _ _ _) (by kernel_rfl)) (by kernel_rfl) (by kernel_rfl)) (by kernel_rfl)) (by kernel_rfl) (by kernel_rfl)) (by kernel_rfl) (vs_cons (by kernel_rfl) vs_nil), ?_⟩)
          exact ⟨X8023, (j6612 - (1 : Int)), o8017, F8018, rfl, rfl, E8027, hXo8028, hS8029, ha8030, hb8031, m8019, h8475, hp.1⟩
      ·
        replace hp := hp.2 h7578
        refine wp_exit ?_
        refine then_exit ?_
        refine then_exit ?_
        refine blk_exit ?_
        refine blk_normal ?_
        refine then_normal (K5661 _ _ _ _ ?_)
        refine reg_ ?_
        refine sq (o_pv (.int .i64 i2809) rfl (by kernel_rfl) ?_)
        obtain ⟨h8476, hp⟩ := hp
        refine sq (o_pv (.int .i64 (i2809 - (1 : Int))) rfl (x_sub2 (k := .i64) (a := i2809) (b := (1 : Int)) (i2809 - (1 : Int)) (by kernel_rfl) (by kernel_rfl) (wrap_inR h8476)) ?_)
        refine sq (o_pv (.int .i64 (i2809 - (1 : Int))) rfl (by kernel_rfl) ?_)
        refine nil_ ?_
        refine then_normal (hA5647 _ _ _ ⟨_, [(6, (.int .i64 (i2809 - (1 : Int))))], hp.2, fit_mk (AgB.nest (AgB.look (AgB.nest (AgB.mix _ _ _) (by kernel_rfl) (by kernel_rfl)) (by kernel_rfl)) (by kernel_rfl) (by kernel_rfl)) (by kernel_rfl) (vs_cons (by kernel_rfl) vs_nil), ?_⟩)
        exact ⟨X7566, (i2809 - (1 : Int)), o6614, F6615, rfl, rfl, E7570, hXo7571, hS7572, ha7573, hb7574, m7575, h8476, hp.1⟩
  ·
    replace hp := hp.2 h5660
    refine wp_exit ?_
    refine then_exit ?_
    refine then_exit ?_
    refine blk_exit ?_
    refine then_normal (K17 _ _ _ _ ?_)
    refine seq_ (fun _ K8477 => ?_)
    refine reg_ ?_
    refine sq (o_pv (.slice (some ⟨b11, 0, none⟩) ((a.length : Int) + (1 : Int)).toNat ((a.length : Int) + (1 : Int)).toNat) rfl (by kernel_rfl) ?_)
    refine sq (o_pv (.slice (some ⟨b11, 0, none⟩) ((a.length : Int) + (1 : Int)).toNat ((a.length : Int) + (1 : Int)).toNat) rfl (by kernel_rfl) ?_)
    refine nil_ ?_
    refine then_normal (K8477 _ _ _ _ ?_)
    refine wp_ret ?_
    obtain ⟨h8478, hp⟩ := hp
    have ax8483 := MO.apold m2813 hX0
    have hn8484 : ((a.length : Int) + (1 : Int)).toNat = o2811.length := by have := h8478; omega
    obtain ⟨X8479, u8480, r8481, hm8482⟩ := MO.rows_release m2813 hn8484 (by have := inR_i64.1 h9; have := h8478; unfold maxLen; omega)
    have hS8485 := (hm8482 _ ax8483 hS5655)
    have E8486 := E5653
    refine end_ret hQ (.slice (some ⟨b11, 0, none⟩) (((a.length : Int) + (1 : Int)).toNat) (((a.length : Int) + (1 : Int)).toNat)) (by kernel_rfl) ?_
    exact ⟨o2811, hp, E8486, (some ⟨b11, 0, none⟩), (((a.length : Int) + (1 : Int)).toNat), (by (rw [show ((a.length : Int) + (1 : Int)).toNat = o2811.length from hn8484]); first | done | rfl), (Sl.less r8481 hS8485)⟩

end Go.Proofs.YtnnbnljofklieaaDoor
