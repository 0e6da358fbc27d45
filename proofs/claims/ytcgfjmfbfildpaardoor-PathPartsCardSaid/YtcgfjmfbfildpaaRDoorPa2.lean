/- Walks of functions: what each asks and computes, as a plain predicate, and the contract from it. -/
import Derived.Test.YtcgfjmfbfildpaaRDoorChecked
import Derived.Test.YtcgfjmfbfildpaaRDoorPa1
namespace Go.Proofs.YtcgfjmfbfildpaaRDoor
open Go


def rectoref1_good_p (c : Int) (Q : Bool → Prop) : Prop :=
  ((inR .u8 c) → Q (decide (((c ≥ (97 : Int)) ∧ ((c ≤ (122 : Int)) ∨ (((c ≥ (48 : Int)) ∧ ((c ≤ (57 : Int)) ∨ ((c = (46 : Int)) ∨ ((c = (45 : Int)) ∨ (c = (95 : Int)))))) ∨ ((¬ (c ≥ (48 : Int))) ∧ ((c = (46 : Int)) ∨ ((c = (45 : Int)) ∨ (c = (95 : Int)))))))) ∨ ((¬ (c ≥ (97 : Int))) ∧ (((c ≥ (48 : Int)) ∧ ((c ≤ (57 : Int)) ∨ ((c = (46 : Int)) ∨ ((c = (45 : Int)) ∨ (c = (95 : Int)))))) ∨ ((¬ (c ≥ (48 : Int))) ∧ ((c = (46 : Int)) ∨ ((c = (45 : Int)) ∨ (c = (95 : Int))))))))))
set_option maxRecDepth 20000 in
set_option maxHeartbeats 4000000 in
theorem rectoref1_good_w {X : List Nat} {w : World} {c : Int} {Q : Bool → Prop} (hX0 : Old X w) (rc1 : inR .u8 c) (hp : rectoref1_good_p c Q) :
    Calls Tryd.prog 58 #[(.int .u8 c)] w (Ret fun v w' => ∃ (r0 : Bool), Q r0 ∧ Evo [] w w' ∧ v = (.bool r0)) := by
  have hXo := hX0
  have E0 : Evo [] w w := RB.refl _ _ _
  have hS : Sub X X := Sub.refl _
  unfold rectoref1_good_p at hp
  refine enter_ Tryd.func58 rfl 29 [(0, (.int .u8 c))] (by kernel_rfl) (fun Qe hQ => ?_)
  replace hp := hp rc1
  refine seq_ (fun _ K2 => ?_)
  refine reg_ ?_
  refine sq (o_pv (.bool false) rfl (by kernel_rfl) ?_)
  refine nil_ ?_
  refine then_normal (K2 _ _ _ _ ?_)
  refine seq_ (fun _ K3 => ?_)
  refine ground_ ?_
  refine join_ 536870908 (fun lq w20 => lq = [(2, (.bool (decide (((c ≥ (97 : Int)) ∧ ((c ≤ (122 : Int)) ∨ (((c ≥ (48 : Int)) ∧ ((c ≤ (57 : Int)) ∨ ((c = (46 : Int)) ∨ ((c = (45 : Int)) ∨ (c = (95 : Int)))))) ∨ ((¬ (c ≥ (48 : Int))) ∧ ((c = (46 : Int)) ∨ ((c = (45 : Int)) ∨ (c = (95 : Int)))))))) ∨ ((¬ (c ≥ (97 : Int))) ∧ (((c ≥ (48 : Int)) ∧ ((c ≤ (57 : Int)) ∨ ((c = (46 : Int)) ∨ ((c = (45 : Int)) ∨ (c = (95 : Int)))))) ∨ ((¬ (c ≥ (48 : Int))) ∧ ((c = (46 : Int)) ∨ ((c = (45 : Int)) ∨ (c = (95 : Int)))))))))))] ∧ w = w20) (fun Kj18 hJ19 => ?_) ?_
  ·
    refine reg_ ?_
    refine sq (o_pv (.int .u8 c) rfl (by kernel_rfl) ?_)
    by_cases h22 : c ≥ (97 : Int)
    ·
      refine sq (o_pv (.bool true) rfl (x_dt (p := c ≥ (97 : Int)) (by kernel_rfl) h22) ?_)
      refine sq (o_pv (.bool true) rfl (by kernel_rfl) ?_)
      refine sq (o_pv (.int .u8 c) (by kernel_rfl) (by kernel_rfl) ?_)
      by_cases h23 : c ≤ (122 : Int)
      ·
        refine sq (o_pv (.bool true) (by kernel_rfl) (x_dt (p := c ≤ (122 : Int)) (by kernel_rfl) h23) ?_)
        refine sq (o_pv (.bool true) rfl (by kernel_rfl) ?_)
        refine sq (o_pv (.bool true) rfl (by kernel_rfl) ?_)
        refine sq (o_not (by kernel_rfl) ?_)
        refine sq (o_not (by kernel_rfl) ?_)
        refine sq (o_not (by kernel_rfl) ?_)
        refine sq (o_not (by kernel_rfl) ?_)
        refine sq (o_not (by kernel_rfl) ?_)
        refine sq (o_not (by kernel_rfl) ?_)
        refine sq (o_pv (.bool true) rfl (by kernel_rfl) ?_)
        refine sq (o_pv (.bool true) rfl (by kernel_rfl) ?_)
        refine sq (o_not (by kernel_rfl) ?_)
        refine sq (o_not (by kernel_rfl) ?_)
        refine sq (o_pv (.bool true) rfl (by kernel_rfl) ?_)
        refine sq (o_pv (.bool true) rfl (by kernel_rfl) ?_)
        refine sq (o_not (by kernel_rfl) ?_)
        refine sq (o_not (by kernel_rfl) ?_)
        refine sq (o_pv (.bool true) rfl (by kernel_rfl) ?_)
        refine sq (o_pv (.bool true) rfl (by kernel_rfl) ?_)
        refine sq (o_not (by kernel_rfl) ?_)
        refine sq (o_not (by kernel_rfl) ?_)
        refine sq (o_pv (.bool true) rfl (by kernel_rfl) ?_)
        refine sq (o_pv (.bool true) rfl (by kernel_rfl) ?_)
        refine nil_ ?_
        refine then_normal (hJ19 _ _ _ ⟨[(2, (.bool (decide (((c ≥ (97 : Int)) ∧ ((c ≤ (122 : Int)) ∨ (((c ≥ (48 : Int)) ∧ ((c ≤ (57 : Int)) ∨ ((c = (46 : Int)) ∨ ((c = (45 : Int)) ∨ (c = (95 : Int)))))) ∨ ((¬ (c ≥ (48 : Int))) ∧ ((c = (46 : Int)) ∨ ((c = (45 : Int)) ∨ (c = (95 : Int)))))))) ∨ ((¬ (c ≥ (97 : Int))) ∧ (((c ≥ (48 : Int)) ∧ ((c ≤ (57 : Int)) ∨ ((c = (46 : Int)) ∨ ((c = (45 : Int)) ∨ (c = (95 : Int)))))) ∨ ((¬ (c ≥ (48 : Int))) ∧ ((c = (46 : Int)) ∨ ((c = (45 : Int)) ∨ (c = (95 : Int)))))))))))], fit_mk (fun _ _ => rfl) (by kernel_rfl) (vs_cons (Eq.trans (b := (.bool true)) (by kernel_rfl) (dec_t (by simp [h22, h23])).symm) vs_nil), rfl, rfl⟩)
      ·
        refine sq (o_pv (.bool false) (by kernel_rfl) (x_df (p := c ≤ (122 : Int)) (by kernel_rfl) h23) ?_)
        refine sq (o_pv (.bool false) rfl (by kernel_rfl) ?_)
        refine sq (o_pv (.bool false) rfl (by kernel_rfl) ?_)
        refine sq (o_pv (.int .u8 c) (by kernel_rfl) (by kernel_rfl) ?_)
        by_cases h24 : c ≥ (48 : Int)
        ·
          refine sq (o_pv (.bool true) (by kernel_rfl) (x_dt (p := c ≥ (48 : Int)) (by kernel_rfl) h24) ?_)
          refine sq (o_pv (.bool true) (by kernel_rfl) (by kernel_rfl) ?_)
          refine sq (o_pv (.int .u8 c) (by kernel_rfl) (by kernel_rfl) ?_)
          by_cases h25 : c ≤ (57 : Int)
          ·
            refine sq (o_pv (.bool true) (by kernel_rfl) (x_dt (p := c ≤ (57 : Int)) (by kernel_rfl) h25) ?_)
            refine sq (o_pv (.bool true) (by kernel_rfl) (by kernel_rfl) ?_)
            refine sq (o_pv (.bool true) rfl (by kernel_rfl) ?_)
            refine sq (o_pv (.bool true) rfl (by kernel_rfl) ?_)
            refine sq (o_not (by kernel_rfl) ?_)
            refine sq (o_not (by kernel_rfl) ?_)
            refine sq (o_pv (.bool true) rfl (by kernel_rfl) ?_)
            refine sq (o_pv (.bool true) rfl (by kernel_rfl) ?_)
            refine sq (o_not (by kernel_rfl) ?_)
            refine sq (o_not (by kernel_rfl) ?_)
            refine sq (o_pv (.bool true) rfl (by kernel_rfl) ?_)
            refine sq (o_pv (.bool true) rfl (by kernel_rfl) ?_)
            refine sq (o_not (by kernel_rfl) ?_)
            refine sq (o_not (by kernel_rfl) ?_)
            refine sq (o_pv (.bool true) rfl (by kernel_rfl) ?_)
            refine sq (o_pv (.bool true) rfl (by kernel_rfl) ?_)
            refine nil_ ?_
            refine then_normal (hJ19 _ _ _ ⟨[(2, (.bool (decide (((c ≥ (97 : Int)) ∧ ((c ≤ (122 : Int)) ∨ (((c ≥ (48 : Int)) ∧ ((c ≤ (57 : Int)) ∨ ((c = (46 : Int)) ∨ ((c = (45 : Int)) ∨ (c = (95 : Int)))))) ∨ ((¬ (c ≥ (48 : Int))) ∧ ((c = (46 : Int)) ∨ ((c = (45 : Int)) ∨ (c = (95 : Int)))))))) ∨ ((¬ (c ≥ (97 : Int))) ∧ (((c ≥ (48 : Int)) ∧ ((c ≤ (57 : Int)) ∨ ((c = (46 : Int)) ∨ ((c = (45 : Int)) ∨ (c = (95 : Int)))))) ∨ ((¬ (c ≥ (48 : Int))) ∧ ((c = (46 : Int)) ∨ ((c = (45 : Int)) ∨ (c = (95 : Int)))))))))))], fit_mk (fun _ _ => rfl) (by kernel_rfl) (vs_cons (Eq.trans (b := (.bool true)) (by kernel_rfl) (dec_t (by simp [h22, h23, h24, h25])).symm) vs_nil), rfl, rfl⟩)
          ·
            refine sq (o_pv (.bool false) (by kernel_rfl) (x_df (p := c ≤ (57 : Int)) (by kernel_rfl) h25) ?_)
            refine sq (o_pv (.bool false) (by kernel_rfl) (by kernel_rfl) ?_)
            refine sq (o_pv (.bool false) rfl (by kernel_rfl) ?_)
            refine sq (o_pv (.bool false) rfl (by kernel_rfl) ?_)
            refine sq (o_pv (.int .u8 c) (by kernel_rfl) (by kernel_rfl) ?_)
            by_cases h26 : c = (46 : Int)
            ·
              refine sq (o_pv (.bool true) (by kernel_rfl) (x_dt (p := c = (46 : Int)) (by kernel_rfl) h26) ?_)
              refine sq (o_pv (.bool true) rfl (by kernel_rfl) ?_)
              refine sq (o_pv (.bool true) rfl (by kernel_rfl) ?_)
              refine sq (o_not (by kernel_rfl) ?_)
              refine sq (o_not (by kernel_rfl) ?_)
              refine sq (o_pv (.bool true) rfl (by kernel_rfl) ?_)
              refine sq (o_pv (.bool true) rfl (by kernel_rfl) ?_)
              refine sq (o_not (by kernel_rfl) ?_)
              refine sq (o_not (by kernel_rfl) ?_)
              refine sq (o_pv (.bool true) rfl (by kernel_rfl) ?_)
              refine sq (o_pv (.bool true) rfl (by kernel_rfl) ?_)
              refine nil_ ?_
              refine then_normal (hJ19 _ _ _ ⟨[(2, (.bool (decide (((c ≥ (97 : Int)) ∧ ((c ≤ (122 : Int)) ∨ (((c ≥ (48 : Int)) ∧ ((c ≤ (57 : Int)) ∨ ((c = (46 : Int)) ∨ ((c = (45 : Int)) ∨ (c = (95 : Int)))))) ∨ ((¬ (c ≥ (48 : Int))) ∧ ((c = (46 : Int)) ∨ ((c = (45 : Int)) ∨ (c = (95 : Int)))))))) ∨ ((¬ (c ≥ (97 : Int))) ∧ (((c ≥ (48 : Int)) ∧ ((c ≤ (57 : Int)) ∨ ((c = (46 : Int)) ∨ ((c = (45 : Int)) ∨ (c = (95 : Int)))))) ∨ ((¬ (c ≥ (48 : Int))) ∧ ((c = (46 : Int)) ∨ ((c = (45 : Int)) ∨ (c = (95 : Int)))))))))))], fit_mk (fun _ _ => rfl) (by kernel_rfl) (vs_cons (Eq.trans (b := (.bool true)) (by kernel_rfl) (dec_t (by simp [h22, h23, h24, h25, h26])).symm) vs_nil), rfl, rfl⟩)
            ·
              refine sq (o_pv (.bool false) (by kernel_rfl) (x_df (p := c = (46 : Int)) (by kernel_rfl) h26) ?_)
              refine sq (o_pv (.bool false) rfl (by kernel_rfl) ?_)
              refine sq (o_pv (.bool false) rfl (by kernel_rfl) ?_)
              refine sq (o_pv (.int .u8 c) (by kernel_rfl) (by kernel_rfl) ?_)
              by_cases h27 : c = (45 : Int)
              ·
                refine sq (o_pv (.bool true) (by kernel_rfl) (x_dt (p := c = (45 : Int)) (by kernel_rfl) h27) ?_)
                refine sq (o_pv (.bool true) rfl (by kernel_rfl) ?_)
                refine sq (o_pv (.bool true) rfl (by kernel_rfl) ?_)
                refine sq (o_not (by kernel_rfl) ?_)
                refine sq (o_not (by kernel_rfl) ?_)
                refine sq (o_pv (.bool true) rfl (by kernel_rfl) ?_)
                refine sq (o_pv (.bool true) rfl (by kernel_rfl) ?_)
                refine nil_ ?_
                refine then_normal (hJ19 _ _ _ ⟨[(2, (.bool (decide (((c ≥ (97 : Int)) ∧ ((c ≤ (122 : Int)) ∨ (((c ≥ (48 : Int)) ∧ ((c ≤ (57 : Int)) ∨ ((c = (46 : Int)) ∨ ((c = (45 : Int)) ∨ (c = (95 : Int)))))) ∨ ((¬ (c ≥ (48 : Int))) ∧ ((c = (46 : Int)) ∨ ((c = (45 : Int)) ∨ (c = (95 : Int)))))))) ∨ ((¬ (c ≥ (97 : Int))) ∧ (((c ≥ (48 : Int)) ∧ ((c ≤ (57 : Int)) ∨ ((c = (46 : Int)) ∨ ((c = (45 : Int)) ∨ (c = (95 : Int)))))) ∨ ((¬ (c ≥ (48 : Int))) ∧ ((c = (46 : Int)) ∨ ((c = (45 : Int)) ∨ (c = (95 : Int)))))))))))], fit_mk (fun _ _ => rfl) (by kernel_rfl) (vs_cons (Eq.trans (b := (.bool true)) (by kernel_rfl) (dec_t (by simp [h22, h23, h24, h25, h26, h27])).symm) vs_nil), rfl, rfl⟩)
              ·
                refine sq (o_pv (.bool false) (by kernel_rfl) (x_df (p := c = (45 : Int)) (by kernel_rfl) h27) ?_)
                refine sq (o_pv (.bool false) rfl (by kernel_rfl) ?_)
                refine sq (o_pv (.bool false) rfl (by kernel_rfl) ?_)
                refine sq (o_pv (.int .u8 c) (by kernel_rfl) (by kernel_rfl) ?_)
                refine sq (o_pv (.bool (decide (c = (95 : Int)))) (by kernel_rfl) (by kernel_rfl) ?_)
                refine sq (o_pv (.bool (decide (c = (95 : Int)))) rfl (by kernel_rfl) ?_)
                refine sq (o_pv (.bool (decide (c = (95 : Int)))) rfl (by kernel_rfl) ?_)
                refine nil_ ?_
                refine then_normal (hJ19 _ _ _ ⟨[(2, (.bool (decide (((c ≥ (97 : Int)) ∧ ((c ≤ (122 : Int)) ∨ (((c ≥ (48 : Int)) ∧ ((c ≤ (57 : Int)) ∨ ((c = (46 : Int)) ∨ ((c = (45 : Int)) ∨ (c = (95 : Int)))))) ∨ ((¬ (c ≥ (48 : Int))) ∧ ((c = (46 : Int)) ∨ ((c = (45 : Int)) ∨ (c = (95 : Int)))))))) ∨ ((¬ (c ≥ (97 : Int))) ∧ (((c ≥ (48 : Int)) ∧ ((c ≤ (57 : Int)) ∨ ((c = (46 : Int)) ∨ ((c = (45 : Int)) ∨ (c = (95 : Int)))))) ∨ ((¬ (c ≥ (48 : Int))) ∧ ((c = (46 : Int)) ∨ ((c = (45 : Int)) ∨ (c = (95 : Int)))))))))))], fit_mk (fun _ _ => rfl) (by kernel_rfl) (vs_cons (Eq.trans (b := (.bool (decide (c = (95 : Int))))) (by kernel_rfl) (dec_d (by simp [h22, h23, h24, h25, h26, h27])).symm) vs_nil), rfl, rfl⟩)
        ·
          refine sq (o_pv (.bool false) (by kernel_rfl) (x_df (p := c ≥ (48 : Int)) (by kernel_rfl) h24) ?_)
          refine sq (o_pv (.bool false) (by kernel_rfl) (by kernel_rfl) ?_)
          refine sq (o_not (by kernel_rfl) ?_)
          refine sq (o_not (by kernel_rfl) ?_)
          refine sq (o_pv (.bool false) (by kernel_rfl) (by kernel_rfl) ?_)
          refine sq (o_pv (.bool false) rfl (by kernel_rfl) ?_)
          refine sq (o_pv (.bool false) rfl (by kernel_rfl) ?_)
          refine sq (o_pv (.int .u8 c) (by kernel_rfl) (by kernel_rfl) ?_)
          by_cases h28 : c = (46 : Int)
          ·
            refine sq (o_pv (.bool true) (by kernel_rfl) (x_dt (p := c = (46 : Int)) (by kernel_rfl) h28) ?_)
            refine sq (o_pv (.bool true) rfl (by kernel_rfl) ?_)
            refine sq (o_pv (.bool true) rfl (by kernel_rfl) ?_)
            refine sq (o_not (by kernel_rfl) ?_)
            refine sq (o_not (by kernel_rfl) ?_)
            refine sq (o_pv (.bool true) rfl (by kernel_rfl) ?_)
            refine sq (o_pv (.bool true) rfl (by kernel_rfl) ?_)
            refine sq (o_not (by kernel_rfl) ?_)
            refine sq (o_not (by kernel_rfl) ?_)
            refine sq (o_pv (.bool true) rfl (by kernel_rfl) ?_)
            refine sq (o_pv (.bool true) rfl (by kernel_rfl) ?_)
            refine nil_ ?_
            refine then_normal (hJ19 _ _ _ ⟨[(2, (.bool (decide (((c ≥ (97 : Int)) ∧ ((c ≤ (122 : Int)) ∨ (((c ≥ (48 : Int)) ∧ ((c ≤ (57 : Int)) ∨ ((c = (46 : Int)) ∨ ((c = (45 : Int)) ∨ (c = (95 : Int)))))) ∨ ((¬ (c ≥ (48 : Int))) ∧ ((c = (46 : Int)) ∨ ((c = (45 : Int)) ∨ (c = (95 : Int)))))))) ∨ ((¬ (c ≥ (97 : Int))) ∧ (((c ≥ (48 : Int)) ∧ ((c ≤ (57 : Int)) ∨ ((c = (46 : Int)) ∨ ((c = (45 : Int)) ∨ (c = (95 : Int)))))) ∨ ((¬ (c ≥ (48 : Int))) ∧ ((c = (46 : Int)) ∨ ((c = (45 : Int)) ∨ (c = (95 : Int)))))))))))], fit_mk (fun _ _ => rfl) (by kernel_rfl) (vs_cons (Eq.trans (b := (.bool true)) (by kernel_rfl) (dec_t (by simp [h22, h23, h24, h28])).symm) vs_nil), rfl, rfl⟩)
          ·
            refine sq (o_pv (.bool false) (by kernel_rfl) (x_df (p := c = (46 : Int)) (by kernel_rfl) h28) ?_)
            refine sq (o_pv (.bool false) rfl (by kernel_rfl) ?_)
            refine sq (o_pv (.bool false) rfl (by kernel_rfl) ?_)
            refine sq (o_pv (.int .u8 c) (by kernel_rfl) (by kernel_rfl) ?_)
            by_cases h29 : c = (45 : Int)
            ·
              refine sq (o_pv (.bool true) (by kernel_rfl) (x_dt (p := c = (45 : Int)) (by kernel_rfl) h29) ?_)
              refine sq (o_pv (.bool true) rfl (by kernel_rfl) ?_)
              refine sq (o_pv (.bool true) rfl (by kernel_rfl) ?_)
              refine sq (o_not (by kernel_rfl) ?_)
              refine sq (o_not (by kernel_rfl) ?_)
              refine sq (o_pv (.bool true) rfl (by kernel_rfl) ?_)
              refine sq (o_pv (.bool true) rfl (by kernel_rfl) ?_)
              refine nil_ ?_
              refine then_normal (hJ19 _ _ _ ⟨[(2, (.bool (decide (((c ≥ (97 : Int)) ∧ ((c ≤ (122 : Int)) ∨ (((c ≥ (48 : Int)) ∧ ((c ≤ (57 : Int)) ∨ ((c = (46 : Int)) ∨ ((c = (45 : Int)) ∨ (c = (95 : Int)))))) ∨ ((¬ (c ≥ (48 : Int))) ∧ ((c = (46 : Int)) ∨ ((c = (45 : Int)) ∨ (c = (95 : Int)))))))) ∨ ((¬ (c ≥ (97 : Int))) ∧ (((c ≥ (48 : Int)) ∧ ((c ≤ (57 : Int)) ∨ ((c = (46 : Int)) ∨ ((c = (45 : Int)) ∨ (c = (95 : Int)))))) ∨ ((¬ (c ≥ (48 : Int))) ∧ ((c = (46 : Int)) ∨ ((c = (45 : Int)) ∨ (c = (95 : Int)))))))))))], fit_mk (fun _ _ => rfl) (by kernel_rfl) (vs_cons (Eq.trans (b := (.bool true)) (by kernel_rfl) (dec_t (by simp [h22, h23, h24, h28, h29])).symm) vs_nil), rfl, rfl⟩)
            ·
              refine sq (o_pv (.bool false) (by kernel_rfl) (x_df (p := c = (45 : Int)) (by kernel_rfl) h29) ?_)
              refine sq (o_pv (.bool false) rfl (by kernel_rfl) ?_)
              refine sq (o_pv (.bool false) rfl (by kernel_rfl) ?_)
              refine sq (o_pv (.int .u8 c) (by kernel_rfl) (by kernel_rfl) ?_)
              refine sq (o_pv (.bool (decide (c = (95 : Int)))) (by kernel_rfl) (by kernel_rfl) ?_)
              refine sq (o_pv (.bool (decide (c = (95 : Int)))) rfl (by kernel_rfl) ?_)
              refine sq (o_pv (.bool (decide (c = (95 : Int)))) rfl (by kernel_rfl) ?_)
              refine nil_ ?_
              refine then_normal (hJ19 _ _ _ ⟨[(2, (.bool (decide (((c ≥ (97 : Int)) ∧ ((c ≤ (122 : Int)) ∨ (((c ≥ (48 : Int)) ∧ ((c ≤ (57 : Int)) ∨ ((c = (46 : Int)) ∨ ((c = (45 : Int)) ∨ (c = (95 : Int)))))) ∨ ((¬ (c ≥ (48 : Int))) ∧ ((c = (46 : Int)) ∨ ((c = (45 : Int)) ∨ (c = (95 : Int)))))))) ∨ ((¬ (c ≥ (97 : Int))) ∧ (((c ≥ (48 : Int)) ∧ ((c ≤ (57 : Int)) ∨ ((c = (46 : Int)) ∨ ((c = (45 : Int)) ∨ (c = (95 : Int)))))) ∨ ((¬ (c ≥ (48 : Int))) ∧ ((c = (46 : Int)) ∨ ((c = (45 : Int)) ∨ (c = (95 : Int)))))))))))], fit_mk (fun _ _ => rfl) (by kernel_rfl) (vs_cons (Eq.trans (b := (.bool (decide (c = (95 : Int))))) (by kernel_rfl) (dec_d (by simp [h22, h23, h24, h28, h29])).symm) vs_nil), rfl, rfl⟩)
    ·
      refine sq (o_pv (.bool false) rfl (x_df (p := c ≥ (97 : Int)) (by kernel_rfl) h22) ?_)
      refine sq (o_pv (.bool false) rfl (by kernel_rfl) ?_)
      refine sq (o_not (by kernel_rfl) ?_)
      refine sq (o_not (by kernel_rfl) ?_)
      refine sq (o_pv (.bool false) rfl (by kernel_rfl) ?_)
      refine sq (o_pv (.bool false) rfl (by kernel_rfl) ?_)
      refine sq (o_pv (.int .u8 c) (by kernel_rfl) (by kernel_rfl) ?_)
      by_cases h30 : c ≥ (48 : Int)
      ·
        refine sq (o_pv (.bool true) (by kernel_rfl) (x_dt (p := c ≥ (48 : Int)) (by kernel_rfl) h30) ?_)
        refine sq (o_pv (.bool true) (by kernel_rfl) (by kernel_rfl) ?_)
        refine sq (o_pv (.int .u8 c) (by kernel_rfl) (by kernel_rfl) ?_)
        by_cases h31 : c ≤ (57 : Int)
        ·
          refine sq (o_pv (.bool true) (by kernel_rfl) (x_dt (p := c ≤ (57 : Int)) (by kernel_rfl) h31) ?_)
          refine sq (o_pv (.bool true) (by kernel_rfl) (by kernel_rfl) ?_)
          refine sq (o_pv (.bool true) rfl (by kernel_rfl) ?_)
          refine sq (o_pv (.bool true) rfl (by kernel_rfl) ?_)
          refine sq (o_not (by kernel_rfl) ?_)
          refine sq (o_not (by kernel_rfl) ?_)
          refine sq (o_pv (.bool true) rfl (by kernel_rfl) ?_)
          refine sq (o_pv (.bool true) rfl (by kernel_rfl) ?_)
          refine sq (o_not (by kernel_rfl) ?_)
          refine sq (o_not (by kernel_rfl) ?_)
          refine sq (o_pv (.bool true) rfl (by kernel_rfl) ?_)
          refine sq (o_pv (.bool true) rfl (by kernel_rfl) ?_)
          refine sq (o_not (by kernel_rfl) ?_)
          refine sq (o_not (by kernel_rfl) ?_)
          refine sq (o_pv (.bool true) rfl (by kernel_rfl) ?_)
          refine sq (o_pv (.bool true) rfl (by kernel_rfl) ?_)
          refine nil_ ?_
          refine then_normal (hJ19 _ _ _ ⟨[(2, (.bool (decide (((c ≥ (97 : Int)) ∧ ((c ≤ (122 : Int)) ∨ (((c ≥ (48 : Int)) ∧ ((c ≤ (57 : Int)) ∨ ((c = (46 : Int)) ∨ ((c = (45 : Int)) ∨ (c = (95 : Int)))))) ∨ ((¬ (c ≥ (48 : Int))) ∧ ((c = (46 : Int)) ∨ ((c = (45 : Int)) ∨ (c = (95 : Int)))))))) ∨ ((¬ (c ≥ (97 : Int))) ∧ (((c ≥ (48 : Int)) ∧ ((c ≤ (57 : Int)) ∨ ((c = (46 : Int)) ∨ ((c = (45 : Int)) ∨ (c = (95 : Int)))))) ∨ ((¬ (c ≥ (48 : Int))) ∧ ((c = (46 : Int)) ∨ ((c = (45 : Int)) ∨ (c = (95 : Int)))))))))))], fit_mk (fun _ _ => rfl) (by kernel_rfl) (vs_cons (Eq.trans (b := (.bool true)) (by kernel_rfl) (dec_t (by simp [h22, h30, h31])).symm) vs_nil), rfl, rfl⟩)
        ·
          refine sq (o_pv (.bool false) (by kernel_rfl) (x_df (p := c ≤ (57 : Int)) (by kernel_rfl) h31) ?_)
          refine sq (o_pv (.bool false) (by kernel_rfl) (by kernel_rfl) ?_)
          refine sq (o_pv (.bool false) rfl (by kernel_rfl) ?_)
          refine sq (o_pv (.bool false) rfl (by kernel_rfl) ?_)
          refine sq (o_pv (.int .u8 c) (by kernel_rfl) (by kernel_rfl) ?_)
          by_cases h32 : c = (46 : Int)
          ·
            refine sq (o_pv (.bool true) (by kernel_rfl) (x_dt (p := c = (46 : Int)) (by kernel_rfl) h32) ?_)
            refine sq (o_pv (.bool true) rfl (by kernel_rfl) ?_)
            refine sq (o_pv (.bool true) rfl (by kernel_rfl) ?_)
            refine sq (o_not (by kernel_rfl) ?_)
            refine sq (o_not (by kernel_rfl) ?_)
            refine sq (o_pv (.bool true) rfl (by kernel_rfl) ?_)
            refine sq (o_pv (.bool true) rfl (by kernel_rfl) ?_)
            refine sq (o_not (by kernel_rfl) ?_)
            refine sq (o_not (by kernel_rfl) ?_)
            refine sq (o_pv (.bool true) rfl (by kernel_rfl) ?_)
            refine sq (o_pv (.bool true) rfl (by kernel_rfl) ?_)
            refine nil_ ?_
            refine then_normal (hJ19 _ _ _ ⟨[(2, (.bool (decide (((c ≥ (97 : Int)) ∧ ((c ≤ (122 : Int)) ∨ (((c ≥ (48 : Int)) ∧ ((c ≤ (57 : Int)) ∨ ((c = (46 : Int)) ∨ ((c = (45 : Int)) ∨ (c = (95 : Int)))))) ∨ ((¬ (c ≥ (48 : Int))) ∧ ((c = (46 : Int)) ∨ ((c = (45 : Int)) ∨ (c = (95 : Int)))))))) ∨ ((¬ (c ≥ (97 : Int))) ∧ (((c ≥ (48 : Int)) ∧ ((c ≤ (57 : Int)) ∨ ((c = (46 : Int)) ∨ ((c = (45 : Int)) ∨ (c = (95 : Int)))))) ∨ ((¬ (c ≥ (48 : Int))) ∧ ((c = (46 : Int)) ∨ ((c = (45 : Int)) ∨ (c = (95 : Int)))))))))))], fit_mk (fun _ _ => rfl) (by kernel_rfl) (vs_cons (Eq.trans (b := (.bool true)) (by kernel_rfl) (dec_t (by simp [h22, h30, h31, h32])).symm) vs_nil), rfl, rfl⟩)
          ·
            refine sq (o_pv (.bool false) (by kernel_rfl) (x_df (p := c = (46 : Int)) (by kernel_rfl) h32) ?_)
            refine sq (o_pv (.bool false) rfl (by kernel_rfl) ?_)
            refine sq (o_pv (.bool false) rfl (by kernel_rfl) ?_)
            refine sq (o_pv (.int .u8 c) (by kernel_rfl) (by kernel_rfl) ?_)
            by_cases h33 : c = (45 : Int)
            ·
              refine sq (o_pv (.bool true) (by kernel_rfl) (x_dt (p := c = (45 : Int)) (by kernel_rfl) h33) ?_)
              refine sq (o_pv (.bool true) rfl (by kernel_rfl) ?_)
              refine sq (o_pv (.bool true) rfl (by kernel_rfl) ?_)
              refine sq (o_not (by kernel_rfl) ?_)
              refine sq (o_not (by kernel_rfl) ?_)
              refine sq (o_pv (.bool true) rfl (by kernel_rfl) ?_)
              refine sq (o_pv (.bool true) rfl (by kernel_rfl) ?_)
              refine nil_ ?_
              refine then_normal (hJ19 _ _ _ ⟨[(2, (.bool (decide (((c ≥ (97 : Int)) ∧ ((c ≤ (122 : Int)) ∨ (((c ≥ (48 : Int)) ∧ ((c ≤ (57 : Int)) ∨ ((c = (46 : Int)) ∨ ((c = (45 : Int)) ∨ (c = (95 : Int)))))) ∨ ((¬ (c ≥ (48 : Int))) ∧ ((c = (46 : Int)) ∨ ((c = (45 : Int)) ∨ (c = (95 : Int)))))))) ∨ ((¬ (c ≥ (97 : Int))) ∧ (((c ≥ (48 : Int)) ∧ ((c ≤ (57 : Int)) ∨ ((c = (46 : Int)) ∨ ((c = (45 : Int)) ∨ (c = (95 : Int)))))) ∨ ((¬ (c ≥ (48 : Int))) ∧ ((c = (46 : Int)) ∨ ((c = (45 : Int)) ∨ (c = (95 : Int)))))))))))], fit_mk (fun _ _ => rfl) (by kernel_rfl) (vs_cons (Eq.trans (b := (.bool true)) (by kernel_rfl) (dec_t (by simp [h22, h30, h31, h32, h33])).symm) vs_nil), rfl, rfl⟩)
            ·
              refine sq (o_pv (.bool false) (by kernel_rfl) (x_df (p := c = (45 : Int)) (by kernel_rfl) h33) ?_)
              refine sq (o_pv (.bool false) rfl (by kernel_rfl) ?_)
              refine sq (o_pv (.bool false) rfl (by kernel_rfl) ?_)
              refine sq (o_pv (.int .u8 c) (by kernel_rfl) (by kernel_rfl) ?_)
              refine sq (o_pv (.bool (decide (c = (95 : Int)))) (by kernel_rfl) (by kernel_rfl) ?_)
              refine sq (o_pv (.bool (decide (c = (95 : Int)))) rfl (by kernel_rfl) ?_)
              refine sq (o_pv (.bool (decide (c = (95 : Int)))) rfl (by kernel_rfl) ?_)
              refine nil_ ?_
              refine then_normal (hJ19 _ _ _ ⟨[(2, (.bool (decide (((c ≥ (97 : Int)) ∧ ((c ≤ (122 : Int)) ∨ (((c ≥ (48 : Int)) ∧ ((c ≤ (57 : Int)) ∨ ((c = (46 : Int)) ∨ ((c = (45 : Int)) ∨ (c = (95 : Int)))))) ∨ ((¬ (c ≥ (48 : Int))) ∧ ((c = (46 : Int)) ∨ ((c = (45 : Int)) ∨ (c = (95 : Int)))))))) ∨ ((¬ (c ≥ (97 : Int))) ∧ (((c ≥ (48 : Int)) ∧ ((c ≤ (57 : Int)) ∨ ((c = (46 : Int)) ∨ ((c = (45 : Int)) ∨ (c = (95 : Int)))))) ∨ ((¬ (c ≥ (48 : Int))) ∧ ((c = (46 : Int)) ∨ ((c = (45 : Int)) ∨ (c = (95 : Int)))))))))))], fit_mk (fun _ _ => rfl) (by kernel_rfl) (vs_cons (Eq.trans (b := (.bool (decide (c = (95 : Int))))) (by kernel_rfl) (dec_d (by simp [h22, h30, h31, h32, h33])).symm) vs_nil), rfl, rfl⟩)
      ·
        refine sq (o_pv (.bool false) (by kernel_rfl) (x_df (p := c ≥ (48 : Int)) (by kernel_rfl) h30) ?_)
        refine sq (o_pv (.bool false) (by kernel_rfl) (by kernel_rfl) ?_)
        refine sq (o_not (by kernel_rfl) ?_)
        refine sq (o_not (by kernel_rfl) ?_)
        refine sq (o_pv (.bool false) (by kernel_rfl) (by kernel_rfl) ?_)
        refine sq (o_pv (.bool false) rfl (by kernel_rfl) ?_)
        refine sq (o_pv (.bool false) rfl (by kernel_rfl) ?_)
        refine sq (o_pv (.int .u8 c) (by kernel_rfl) (by kernel_rfl) ?_)
        by_cases h34 : c = (46 : Int)
        ·
          refine sq (o_pv (.bool true) (by kernel_rfl) (x_dt (p := c = (46 : Int)) (by kernel_rfl) h34) ?_)
          refine sq (o_pv (.bool true) rfl (by kernel_rfl) ?_)
          refine sq (o_pv (.bool true) rfl (by kernel_rfl) ?_)
          refine sq (o_not (by kernel_rfl) ?_)
          refine sq (o_not (by kernel_rfl) ?_)
          refine sq (o_pv (.bool true) rfl (by kernel_rfl) ?_)
          refine sq (o_pv (.bool true) rfl (by kernel_rfl) ?_)
          refine sq (o_not (by kernel_rfl) ?_)
          refine sq (o_not (by kernel_rfl) ?_)
          refine sq (o_pv (.bool true) rfl (by kernel_rfl) ?_)
          refine sq (o_pv (.bool true) rfl (by kernel_rfl) ?_)
          refine nil_ ?_
          refine then_normal (hJ19 _ _ _ ⟨[(2, (.bool (decide (((c ≥ (97 : Int)) ∧ ((c ≤ (122 : Int)) ∨ (((c ≥ (48 : Int)) ∧ ((c ≤ (57 : Int)) ∨ ((c = (46 : Int)) ∨ ((c = (45 : Int)) ∨ (c = (95 : Int)))))) ∨ ((¬ (c ≥ (48 : Int))) ∧ ((c = (46 : Int)) ∨ ((c = (45 : Int)) ∨ (c = (95 : Int)))))))) ∨ ((¬ (c ≥ (97 : Int))) ∧ (((c ≥ (48 : Int)) ∧ ((c ≤ (57 : Int)) ∨ ((c = (46 : Int)) ∨ ((c = (45 : Int)) ∨ (c = (95 : Int)))))) ∨ ((¬ (c ≥ (48 : Int))) ∧ ((c = (46 : Int)) ∨ ((c = (45 : Int)) ∨ (c = (95 : Int)))))))))))], fit_mk (fun _ _ => rfl) (by kernel_rfl) (vs_cons (Eq.trans (b := (.bool true)) (by kernel_rfl) (dec_t (by simp [h22, h30, h34])).symm) vs_nil), rfl, rfl⟩)
        ·
          refine sq (o_pv (.bool false) (by kernel_rfl) (x_df (p := c = (46 : Int)) (by kernel_rfl) h34) ?_)
          refine sq (o_pv (.bool false) rfl (by kernel_rfl) ?_)
          refine sq (o_pv (.bool false) rfl (by kernel_rfl) ?_)
          refine sq (o_pv (.int .u8 c) (by kernel_rfl) (by kernel_rfl) ?_)
          by_cases h35 : c = (45 : Int)
          ·
            refine sq (o_pv (.bool true) (by kernel_rfl) (x_dt (p := c = (45 : Int)) (by kernel_rfl) h35) ?_)
            refine sq (o_pv (.bool true) rfl (by kernel_rfl) ?_)
            refine sq (o_pv (.bool true) rfl (by kernel_rfl) ?_)
            refine sq (o_not (by kernel_rfl) ?_)
            refine sq (o_not (by kernel_rfl) ?_)
            refine sq (o_pv (.bool true) rfl (by kernel_rfl) ?_)
            refine sq (o_pv (.bool true) rfl (by kernel_rfl) ?_)
            refine nil_ ?_
            refine then_normal (hJ19 _ _ _ ⟨[(2, (.bool (decide (((c ≥ (97 : Int)) ∧ ((c ≤ (122 : Int)) ∨ (((c ≥ (48 : Int)) ∧ ((c ≤ (57 : Int)) ∨ ((c = (46 : Int)) ∨ ((c = (45 : Int)) ∨ (c = (95 : Int)))))) ∨ ((¬ (c ≥ (48 : Int))) ∧ ((c = (46 : Int)) ∨ ((c = (45 : Int)) ∨ (c = (95 : Int)))))))) ∨ ((¬ (c ≥ (97 : Int))) ∧ (((c ≥ (48 : Int)) ∧ ((c ≤ (57 : Int)) ∨ ((c = (46 : Int)) ∨ ((c = (45 : Int)) ∨ (c = (95 : Int)))))) ∨ ((¬ (c ≥ (48 : Int))) ∧ ((c = (46 : Int)) ∨ ((c = (45 : Int)) ∨ (c = (95 : Int)))))))))))], fit_mk (fun _ _ => rfl) (by kernel_rfl) (vs_cons (Eq.trans (b := (.bool true)) (by kernel_rfl) (dec_t (by simp [h22, h30, h34, h35])).symm) vs_nil), rfl, rfl⟩)
          ·
            refine sq (o_pv (.bool false) (by kernel_rfl) (x_df (p := c = (45 : Int)) (by kernel_rfl) h35) ?_)
            refine sq (o_pv (.bool false) rfl (by kernel_rfl) ?_)
            refine sq (o_pv (.bool false) rfl (by kernel_rfl) ?_)
            refine sq (o_pv (.int .u8 c) (by kernel_rfl) (by kernel_rfl) ?_)
            refine sq (o_pv (.bool (decide (c = (95 : Int)))) (by kernel_rfl) (by kernel_rfl) ?_)
            refine sq (o_pv (.bool (decide (c = (95 : Int)))) rfl (by kernel_rfl) ?_)
            refine sq (o_pv (.bool (decide (c = (95 : Int)))) rfl (by kernel_rfl) ?_)
            refine nil_ ?_
            refine then_normal (hJ19 _ _ _ ⟨[(2, (.bool (decide (((c ≥ (97 : Int)) ∧ ((c ≤ (122 : Int)) ∨ (((c ≥ (48 : Int)) ∧ ((c ≤ (57 : Int)) ∨ ((c = (46 : Int)) ∨ ((c = (45 : Int)) ∨ (c = (95 : Int)))))) ∨ ((¬ (c ≥ (48 : Int))) ∧ ((c = (46 : Int)) ∨ ((c = (45 : Int)) ∨ (c = (95 : Int)))))))) ∨ ((¬ (c ≥ (97 : Int))) ∧ (((c ≥ (48 : Int)) ∧ ((c ≤ (57 : Int)) ∨ ((c = (46 : Int)) ∨ ((c = (45 : Int)) ∨ (c = (95 : Int)))))) ∨ ((¬ (c ≥ (48 : Int))) ∧ ((c = (46 : Int)) ∨ ((c = (45 : Int)) ∨ (c = (95 : Int)))))))))))], fit_mk (fun _ _ => rfl) (by kernel_rfl) (vs_cons (Eq.trans (b := (.bool (decide (c = (95 : Int))))) (by kernel_rfl) (dec_d (by simp [h22, h30, h34, h35])).symm) vs_nil), rfl, rfl⟩)
  ·
    rintro _ w20 g21 ⟨rfl, hw⟩
    subst hw
    refine then_normal (K3 _ _ _ _ ?_)
    refine wp_ret ?_
    refine end_ret hQ (.bool (decide (((c ≥ (97 : Int)) ∧ ((c ≤ (122 : Int)) ∨ (((c ≥ (48 : Int)) ∧ ((c ≤ (57 : Int)) ∨ ((c = (46 : Int)) ∨ ((c = (45 : Int)) ∨ (c = (95 : Int)))))) ∨ ((¬ (c ≥ (48 : Int))) ∧ ((c = (46 : Int)) ∨ ((c = (45 : Int)) ∨ (c = (95 : Int)))))))) ∨ ((¬ (c ≥ (97 : Int))) ∧ (((c ≥ (48 : Int)) ∧ ((c ≤ (57 : Int)) ∨ ((c = (46 : Int)) ∨ ((c = (45 : Int)) ∨ (c = (95 : Int)))))) ∨ ((¬ (c ≥ (48 : Int))) ∧ ((c = (46 : Int)) ∨ ((c = (45 : Int)) ∨ (c = (95 : Int)))))))))) (by kernel_rfl) ?_
    exact ⟨(decide (((c ≥ (97 : Int)) ∧ ((c ≤ (122 : Int)) ∨ (((c ≥ (48 : Int)) ∧ ((c ≤ (57 : Int)) ∨ ((c = (46 : Int)) ∨ ((c = (45 : Int)) ∨ (c = (95 : Int)))))) ∨ ((¬ (c ≥ (48 : Int))) ∧ ((c = (46 : Int)) ∨ ((c = (45 : Int)) ∨ (c = (95 : Int)))))))) ∨ ((¬ (c ≥ (97 : Int))) ∧ (((c ≥ (48 : Int)) ∧ ((c ≤ (57 : Int)) ∨ ((c = (46 : Int)) ∨ ((c = (45 : Int)) ∨ (c = (95 : Int)))))) ∨ ((¬ (c ≥ (48 : Int))) ∧ ((c = (46 : Int)) ∨ ((c = (45 : Int)) ∨ (c = (95 : Int))))))))), hp, E0, rfl⟩

def rectoref1_Check_p (p : ByteArray) (Q : Int → Prop) : Prop :=
  ((p.size ≤ maxLen) → ((((p.size : Int) > (64 : Int)) → Q (4 : Int)) ∧ ((¬ ((p.size : Int) > (64 : Int))) → (rectoref1_Parts_p p (fun (r8 : (List ByteArray)) => ((r8.length ≤ 9223372036854775807) → ((((r8.length : Int) = (0 : Int)) → Q (5 : Int)) ∧ ((¬ ((r8.length : Int) = (0 : Int))) → (∃ (I201 : Int → Prop) (m202 : Int → Nat), (I201 (0 : Int)) ∧ ∀ (i22 : Int), (I201 i22) → (inR .i64 i22) → (((i22 < (r8.length : Int)) → (∃ k257 : Bool → Prop, (∀ (s256 : Bool), k257 s256 → (((s256 = true) → Q (5 : Int)) ∧ ((s256 = false) → (∃ (I341 : Int → Prop) (m342 : Int → Nat), (I341 (0 : Int)) ∧ ∀ (k304 : Int), (I341 k304) → (inR .i64 k304) → ((inL r8 i22) ∧ (((lget r8 i22).size ≤ maxLen) → (((k304 < ((lget r8 i22).size : Int)) → ((inL r8 i22) ∧ (((lget r8 i22).size ≤ maxLen) → ((0 ≤ k304 ∧ k304 < ((lget r8 i22).size : Int)) ∧ (rectoref1_good_p (bget (lget r8 i22) k304) (fun (r381 : Bool) => ((((!r381) = true) → Q (5 : Int)) ∧ (((!r381) = false) → ((inR .i64 (k304 + (1 : Int))) ∧ ((I341 (k304 + (1 : Int))) ∧ m342 (k304 + (1 : Int)) < m342 k304)))))))))) ∧ ((¬ (k304 < ((lget r8 i22).size : Int))) → ((inR .i64 (i22 + (1 : Int))) ∧ ((I201 (i22 + (1 : Int))) ∧ m202 (i22 + (1 : Int)) < m202 i22)))))))))) ∧ ((inL r8 i22) ∧ (((lget r8 i22).size ≤ maxLen) → ((((lget r8 i22 : ByteArray) = (ByteArray.mk #[])) → (k257 true)) ∧ ((¬ ((lget r8 i22 : ByteArray) = (ByteArray.mk #[]))) → ((inL r8 i22) ∧ (((lget r8 i22).size ≤ maxLen) → ((((lget r8 i22 : ByteArray) = (ByteArray.mk #[46])) → (k257 true)) ∧ ((¬ ((lget r8 i22 : ByteArray) = (ByteArray.mk #[46]))) → ((inL r8 i22) ∧ (((lget r8 i22).size ≤ maxLen) → (k257 (decide ((lget r8 i22 : ByteArray) = (ByteArray.mk #[46, 46])))))))))))))))) ∧ ((¬ (i22 < (r8.length : Int))) → Q (0 : Int))))))))))))
set_option maxRecDepth 20000 in
set_option maxHeartbeats 4000000 in
theorem rectoref1_Check_w {X : List Nat} {w : World} {p : ByteArray} {Q : Int → Prop} (hX0 : Old X w) (zp1 : p.size ≤ maxLen) (hp : rectoref1_Check_p p Q) :
    Calls Tryd.prog 15 #[(.string p)] w (Ret fun v w' => ∃ (r0 : Int), Q r0 ∧ Evo [] w w' ∧ v = (.int .i64 r0) ∧ inR .i64 r0) := by
  have hXo := hX0
  have E0 : Evo [] w w := RB.refl _ _ _
  have hS : Sub X X := Sub.refl _
  unfold rectoref1_Check_p at hp
  refine enter_ Tryd.func15 rfl 56 [(0, (.string p))] (by kernel_rfl) (fun Qe hQ => ?_)
  replace hp := hp zp1
  refine seq_ (fun _ K2 => ?_)
  refine reg_ ?_
  refine sq (o_pv (.int .i64 (0 : Int)) rfl (by kernel_rfl) ?_)
  refine nil_ ?_
  refine then_normal (K2 _ _ _ _ ?_)
  refine seq_ (fun _ K3 => ?_)
  refine seq_ (fun _ K4 => ?_)
  refine reg_ ?_
  refine sq (o_pv (.string p) rfl (by kernel_rfl) ?_)
  refine sq (o_pv (.int .i64 (p.size : Int)) rfl (by kernel_rfl) ?_)
  refine sq (o_pv (.bool (decide ((p.size : Int) > (64 : Int)))) rfl (by kernel_rfl) ?_)
  refine nil_ ?_
  refine then_normal (K4 _ _ _ _ ?_)
  refine cond_d ((p.size : Int) > (64 : Int)) (by kernel_rfl) (fun h5 => ?_) (fun h5 => ?_)
  ·
    replace hp := hp.1 h5
    refine seq_ (fun _ K6 => ?_)
    refine reg_ ?_
    refine sq (o_pv (.int .i64 (4 : Int)) rfl (by kernel_rfl) ?_)
    refine nil_ ?_
    refine then_normal (K6 _ _ _ _ ?_)
    refine wp_ret ?_
    refine then_ret ?_
    refine end_ret hQ (.int .i64 (4 : Int)) (by kernel_rfl) ?_
    exact ⟨(4 : Int), hp, E0, rfl, (by decide)⟩
  ·
    replace hp := hp.2 h5
    refine wp_skip ?_
    refine then_normal (K3 _ _ _ _ ?_)
    refine seq_ (fun _ K7 => ?_)
    refine reg_ ?_
    refine sq (o_pv (.string p) rfl (by kernel_rfl) ?_)
    refine sq (o_call 18 #[(.string p)] rfl (x_call Tryd.call18 (by kernel_rfl)) (rectoref1_Parts_w (X := X) (p := p) hXo zp1 hp) ?_)
    rintro _ w9 ⟨r8, hp, e10, ar12, cr13, rfl, hr14⟩
    have s11 := Step.of0 X e10
    replace hp := hp (Sl.len hr14)
    refine sq (o_pv (.slice ar12 r8.length cr13) rfl (by kernel_rfl) ?_)
    refine nil_ ?_
    refine then_normal (K7 _ _ _ _ ?_)
    refine seq_ (fun _ K15 => ?_)
    refine seq_ (fun _ K16 => ?_)
    refine reg_ ?_
    refine sq (o_pv (.slice ar12 r8.length cr13) rfl (by kernel_rfl) ?_)
    refine sq (o_pv (.int .i64 (r8.length : Int)) rfl (by kernel_rfl) ?_)
    refine sq (o_pv (.bool (decide ((r8.length : Int) = (0 : Int)))) rfl (by kernel_rfl) ?_)
    refine nil_ ?_
    refine then_normal (K16 _ _ _ _ ?_)
    refine cond_d ((r8.length : Int) = (0 : Int)) (by kernel_rfl) (fun h17 => ?_) (fun h17 => ?_)
    ·
      replace hp := hp.1 h17
      refine seq_ (fun _ K18 => ?_)
      refine reg_ ?_
      refine sq (o_pv (.int .i64 (5 : Int)) rfl (by kernel_rfl) ?_)
      refine nil_ ?_
      refine then_normal (K18 _ _ _ _ ?_)
      refine wp_ret ?_
      refine then_ret ?_
      have E19 := (Evo.then0 E0 e10)
      refine end_ret hQ (.int .i64 (5 : Int)) (by kernel_rfl) ?_
      exact ⟨(5 : Int), hp, E19, rfl, (by decide)⟩
    ·
      replace hp := hp.2 h17
      refine wp_skip ?_
      refine then_normal (K15 _ _ _ _ ?_)
      refine seq_ (fun _ K20 => ?_)
      refine seq_ (fun _ K21 => ?_)
      refine reg_ ?_
      refine sq (o_pv (.int .i64 (0 : Int)) rfl (by kernel_rfl) ?_)
      refine nil_ ?_
      refine then_normal (K21 _ _ _ _ ?_)
      refine wp_block ?_
      have hXo211 := (Old.step hXo s11)
      have E212 := (Evo.then0 E0 e10)
      have hS213 := (Sub.trans hS (Step.up s11))
      obtain ⟨I201, m202, hI203, hp⟩ := hp
      refine loop_ 72057594037911604 (fun kq lq w205 => ∃ (X206 : List Nat) (i22 : Int), (lq = [(4, (.int .i64 i22))]) ∧ (kq = m202 i22) ∧ (Evo [] w w205) ∧ (Old X206 w205) ∧ (Sub X X206) ∧ (Sl rStr X206 w205 ar12 cr13 r8) ∧ (inR .i64 i22) ∧ (I201 i22)) (m202 (0 : Int)) [(4, (.int .i64 (0 : Int)))] (vs_cons (by kernel_rfl) vs_nil) ⟨X, (0 : Int), rfl, rfl, E212, hXo211, hS213, hr14, (by decide), hI203⟩ ?_
      rintro _ _ w205 g208 ⟨X206, i22, rfl, rfl, E214, hXo215, hS216, hr217, ri23, hI204⟩ Kl209 hA210
      replace hp := hp i22 hI204 ri23
      refine seq_ (fun _ K218 => ?_)
      refine seq_ (fun _ K219 => ?_)
      refine reg_ ?_
      refine sq (o_pv (.int .i64 i22) rfl (by kernel_rfl) ?_)
      refine sq (o_pv (.slice ar12 r8.length cr13) rfl (by kernel_rfl) ?_)
      refine sq (o_pv (.int .i64 (r8.length : Int)) rfl (by kernel_rfl) ?_)
      refine sq (o_pv (.bool (decide (i22 < (r8.length : Int)))) rfl (by kernel_rfl) ?_)
      refine nil_ ?_
      refine then_normal (K219 _ _ _ _ ?_)
      refine cond_d (i22 < (r8.length : Int)) (by kernel_rfl) (fun h220 => ?_) (fun h220 => ?_)
      ·
        replace hp := hp.1 h220
        refine wp_skip ?_
        refine then_normal (K218 _ _ _ _ ?_)
        refine seq_ (fun _ K221 => ?_)
        refine wp_block ?_
        refine seq_ (fun _ K222 => ?_)
        refine seq_ (fun _ K223 => ?_)
        obtain ⟨k257, hk258, hp⟩ := hp
        refine ground_ ?_
        refine join_ 549754765312 (fun lq w259 => ∃ (X260 : List Nat) (s256 : Bool), (lq = [(38, (.bool s256))]) ∧ (Evo [] w w259) ∧ (Old X260 w259) ∧ (Sub X X260) ∧ (Sl rStr X260 w259 ar12 cr13 r8) ∧ (k257 s256)) (fun Kj261 hJ262 => ?_) ?_
        ·
          refine reg_ ?_
          refine sq (o_pv (.slice ar12 r8.length cr13) rfl (by kernel_rfl) ?_)
          refine sq (o_pv (.int .i64 i22) rfl (by kernel_rfl) ?_)
          obtain ⟨h268, hp⟩ := hp
          obtain ⟨b269, o270, cs271, ha272, nx273, lt274, ok275, hc276⟩ := Sl.atI hr217 i22 h268
          obtain ⟨rfl, ze277⟩ := ok275
          replace hp := hp ze277
          refine sq (o_pv (.pointer (some ⟨b269, o270 + i22.toNat * 1, none⟩)) rfl (x_ixA (m := r8.length) (c := cr13) (k := .i64) (i := i22) Tryd.underlying27 Tryd.sizeOf9 (by rw [← ha272]; kernel_rfl) (by kernel_rfl) h268) ?_)
          refine sq (o_pv (.string (lget r8 i22)) rfl (x_load1 (by kernel_rfl) Tryd.isAgg9 (hc276 0 _ rfl)) ?_)
          by_cases h278 : (lget r8 i22 : ByteArray) = (ByteArray.mk #[])
          ·
            replace hp := hp.1 h278
            refine sq (o_pv (.bool true) rfl (x_dt (p := (lget r8 i22 : ByteArray) = (ByteArray.mk #[])) (x_streq (by kernel_rfl) (by kernel_rfl)) h278) ?_)
            refine sq (o_pv (.bool true) rfl (by kernel_rfl) ?_)
            refine sq (o_not (by kernel_rfl) ?_)
            refine sq (o_not (by kernel_rfl) ?_)
            refine sq (o_not (by kernel_rfl) ?_)
            refine sq (o_not (by kernel_rfl) ?_)
            refine sq (o_not (by kernel_rfl) ?_)
            refine sq (o_pv (.bool true) rfl (by kernel_rfl) ?_)
            refine sq (o_pv (.bool true) rfl (by kernel_rfl) ?_)
            refine sq (o_not (by kernel_rfl) ?_)
            refine sq (o_not (by kernel_rfl) ?_)
            refine sq (o_not (by kernel_rfl) ?_)
            refine sq (o_not (by kernel_rfl) ?_)
            refine sq (o_not (by kernel_rfl) ?_)
            refine sq (o_pv (.bool true) rfl (by kernel_rfl) ?_)
            refine nil_ ?_
            refine then_normal (hJ262 _ _ _ ⟨[(38, (.bool true))], fit_mk (fun _ _ => rfl) (by kernel_rfl) (vs_cons (by kernel_rfl) vs_nil), ?_⟩)
            exact ⟨X206, true, rfl, E214, hXo215, hS216, hr217, hp⟩
          ·
            replace hp := hp.2 h278
            refine sq (o_pv (.bool false) rfl (x_df (p := (lget r8 i22 : ByteArray) = (ByteArray.mk #[])) (x_streq (by kernel_rfl) (by kernel_rfl)) h278) ?_)
            refine sq (o_pv (.bool false) rfl (by kernel_rfl) ?_)
            refine sq (o_pv (.slice ar12 r8.length cr13) (by kernel_rfl) (by kernel_rfl) ?_)
            refine sq (o_pv (.int .i64 i22) (by kernel_rfl) (by kernel_rfl) ?_)
            obtain ⟨h279, hp⟩ := hp
            obtain ⟨b280, o281, cs282, ha283, nx284, lt285, ok286, hc287⟩ := Sl.atI hr217 i22 h279
            obtain ⟨rfl, ze288⟩ := ok286
            replace hp := hp ze288
            refine sq (o_pv (.pointer (some ⟨b280, o281 + i22.toNat * 1, none⟩)) (by kernel_rfl) (x_ixA (m := r8.length) (c := cr13) (k := .i64) (i := i22) Tryd.underlying27 Tryd.sizeOf9 (by rw [← ha283]; kernel_rfl) (by kernel_rfl) h279) ?_)
            refine sq (o_pv (.string (lget r8 i22)) (by kernel_rfl) (x_load1 (by kernel_rfl) Tryd.isAgg9 (hc287 0 _ rfl)) ?_)
            by_cases h289 : (lget r8 i22 : ByteArray) = (ByteArray.mk #[46])
            ·
              replace hp := hp.1 h289
              refine sq (o_pv (.bool true) (by kernel_rfl) (x_dt (p := (lget r8 i22 : ByteArray) = (ByteArray.mk #[46])) (x_streq (by kernel_rfl) (by kernel_rfl)) h289) ?_)
              refine sq (o_pv (.bool true) rfl (by kernel_rfl) ?_)
              refine sq (o_pv (.bool true) rfl (by kernel_rfl) ?_)
              refine sq (o_not (by kernel_rfl) ?_)
              refine sq (o_not (by kernel_rfl) ?_)
              refine sq (o_not (by kernel_rfl) ?_)
              refine sq (o_not (by kernel_rfl) ?_)
              refine sq (o_not (by kernel_rfl) ?_)
              refine sq (o_pv (.bool true) rfl (by kernel_rfl) ?_)
              refine nil_ ?_
              refine then_normal (hJ262 _ _ _ ⟨[(38, (.bool true))], fit_mk (fun _ _ => rfl) (by kernel_rfl) (vs_cons (by kernel_rfl) vs_nil), ?_⟩)
              exact ⟨X206, true, rfl, E214, hXo215, hS216, hr217, hp⟩
            ·
              replace hp := hp.2 h289
              refine sq (o_pv (.bool false) (by kernel_rfl) (x_df (p := (lget r8 i22 : ByteArray) = (ByteArray.mk #[46])) (x_streq (by kernel_rfl) (by kernel_rfl)) h289) ?_)
              refine sq (o_pv (.bool false) rfl (by kernel_rfl) ?_)
              refine sq (o_pv (.bool false) rfl (by kernel_rfl) ?_)
              refine sq (o_pv (.slice ar12 r8.length cr13) (by kernel_rfl) (by kernel_rfl) ?_)
              refine sq (o_pv (.int .i64 i22) (by kernel_rfl) (by kernel_rfl) ?_)
              obtain ⟨h290, hp⟩ := hp
              obtain ⟨b291, o292, cs293, ha294, nx295, lt296, ok297, hc298⟩ := Sl.atI hr217 i22 h290
              obtain ⟨rfl, ze299⟩ := ok297
              replace hp := hp ze299
              refine sq (o_pv (.pointer (some ⟨b291, o292 + i22.toNat * 1, none⟩)) (by kernel_rfl) (x_ixA (m := r8.length) (c := cr13) (k := .i64) (i := i22) Tryd.underlying27 Tryd.sizeOf9 (by rw [← ha294]; kernel_rfl) (by kernel_rfl) h290) ?_)
              refine sq (o_pv (.string (lget r8 i22)) (by kernel_rfl) (x_load1 (by kernel_rfl) Tryd.isAgg9 (hc298 0 _ rfl)) ?_)
              refine sq (o_pv (.bool (decide ((lget r8 i22 : ByteArray) = (ByteArray.mk #[46, 46])))) (by kernel_rfl) (x_streq (by kernel_rfl) (by kernel_rfl)) ?_)
              refine sq (o_pv (.bool (decide ((lget r8 i22 : ByteArray) = (ByteArray.mk #[46, 46])))) rfl (by kernel_rfl) ?_)
              refine nil_ ?_
              refine then_normal (hJ262 _ _ _ ⟨[(38, (.bool (decide ((lget r8 i22 : ByteArray) = (ByteArray.mk #[46, 46])))))], fit_mk (fun _ _ => rfl) (by kernel_rfl) (vs_cons (by kernel_rfl) vs_nil), ?_⟩)
              exact ⟨X206, (decide ((lget r8 i22 : ByteArray) = (ByteArray.mk #[46, 46]))), rfl, E214, hXo215, hS216, hr217, hp⟩
        ·
          rintro _ w259 g300 ⟨X260, s256, rfl, E264, hXo265, hS266, hr267, hv263⟩
          replace hp := hk258 s256 hv263
          refine then_normal (K223 _ _ _ _ ?_)
          refine cond_b s256 (by kernel_rfl) (fun h301 => ?_) (fun h301 => ?_)
          ·
            replace hp := hp.1 h301
            refine seq_ (fun _ K302 => ?_)
            refine reg_ ?_
            refine sq (o_pv (.int .i64 (5 : Int)) rfl (by kernel_rfl) ?_)
            refine nil_ ?_
            refine then_normal (K302 _ _ _ _ ?_)
            refine wp_ret ?_
            refine then_ret ?_
            refine blk_ret ?_
            refine then_ret ?_
            refine then_ret ?_
            refine blk_ret ?_
            refine then_ret ?_
            refine end_ret hQ (.int .i64 (5 : Int)) (by kernel_rfl) ?_
            exact ⟨(5 : Int), hp, E264, rfl, (by decide)⟩
          ·
            replace hp := hp.2 h301
            refine wp_skip ?_
            refine then_normal (K222 _ _ _ _ ?_)
            refine seq_ (fun _ K303 => ?_)
            refine reg_ ?_
            refine sq (o_pv (.int .i64 (0 : Int)) rfl (by kernel_rfl) ?_)
            refine nil_ ?_
            refine then_normal (K303 _ _ _ _ ?_)
            refine wp_block ?_
            obtain ⟨I341, m342, hI343, hp⟩ := hp
            refine loop_ 72057044282114084 (fun kq lq w345 => ∃ (X346 : List Nat) (k304 : Int), (lq = [(5, (.int .i64 k304))]) ∧ (kq = m342 k304) ∧ (Evo [] w w345) ∧ (Old X346 w345) ∧ (Sub X X346) ∧ (Sl rStr X346 w345 ar12 cr13 r8) ∧ (inR .i64 k304) ∧ (I341 k304)) (m342 (0 : Int)) [(5, (.int .i64 (0 : Int)))] (vs_cons (by kernel_rfl) vs_nil) ⟨X260, (0 : Int), rfl, rfl, E264, hXo265, hS266, hr267, (by decide), hI343⟩ ?_
            rintro _ _ w345 g348 ⟨X346, k304, rfl, rfl, E351, hXo352, hS353, hr354, rk305, hI344⟩ Kl349 hA350
            replace hp := hp k304 hI344 rk305
            refine seq_ (fun _ K355 => ?_)
            refine seq_ (fun _ K356 => ?_)
            refine reg_ ?_
            refine sq (o_pv (.int .i64 k304) rfl (by kernel_rfl) ?_)
            refine sq (o_pv (.slice ar12 r8.length cr13) rfl (by kernel_rfl) ?_)
            refine sq (o_pv (.int .i64 i22) rfl (by kernel_rfl) ?_)
            obtain ⟨h357, hp⟩ := hp
            obtain ⟨b358, o359, cs360, ha361, nx362, lt363, ok364, hc365⟩ := Sl.atI hr354 i22 h357
            obtain ⟨rfl, ze366⟩ := ok364
            replace hp := hp ze366
            refine sq (o_pv (.pointer (some ⟨b358, o359 + i22.toNat * 1, none⟩)) rfl (x_ixA (m := r8.length) (c := cr13) (k := .i64) (i := i22) Tryd.underlying27 Tryd.sizeOf9 (by rw [← ha361]; kernel_rfl) (by kernel_rfl) h357) ?_)
            refine sq (o_pv (.string (lget r8 i22)) rfl (x_load1 (by kernel_rfl) Tryd.isAgg9 (hc365 0 _ rfl)) ?_)
            refine sq (o_pv (.int .i64 ((lget r8 i22).size : Int)) rfl (by kernel_rfl) ?_)
            refine sq (o_pv (.bool (decide (k304 < ((lget r8 i22).size : Int)))) rfl (by kernel_rfl) ?_)
            refine nil_ ?_
            refine then_normal (K356 _ _ _ _ ?_)
            refine cond_d (k304 < ((lget r8 i22).size : Int)) (by kernel_rfl) (fun h367 => ?_) (fun h367 => ?_)
            ·
              replace hp := hp.1 h367
              refine wp_skip ?_
              refine then_normal (K355 _ _ _ _ ?_)
              refine seq_ (fun _ K368 => ?_)
              refine wp_block ?_
              refine seq_ (fun _ K369 => ?_)
              refine reg_ ?_
              refine sq (o_pv (.slice ar12 r8.length cr13) rfl (by kernel_rfl) ?_)
              refine sq (o_pv (.int .i64 i22) rfl (by kernel_rfl) ?_)
              obtain ⟨h370, hp⟩ := hp
              obtain ⟨b371, o372, cs373, ha374, nx375, lt376, ok377, hc378⟩ := Sl.atI hr354 i22 h370
              obtain ⟨rfl, ze379⟩ := ok377
              replace hp := hp ze379
              refine sq (o_pv (.pointer (some ⟨b371, o372 + i22.toNat * 1, none⟩)) rfl (x_ixA (m := r8.length) (c := cr13) (k := .i64) (i := i22) Tryd.underlying27 Tryd.sizeOf9 (by rw [← ha374]; kernel_rfl) (by kernel_rfl) h370) ?_)
              refine sq (o_pv (.string (lget r8 i22)) rfl (x_load1 (by kernel_rfl) Tryd.isAgg9 (hc378 0 _ rfl)) ?_)
              refine sq (o_pv (.int .i64 k304) rfl (by kernel_rfl) ?_)
              obtain ⟨h380, hp⟩ := hp
              refine sq (o_pv (.int .u8 (bget (lget r8 i22) k304)) rfl (x_bget (k := .i64) (by kernel_rfl) (by kernel_rfl) Tryd.underlying9 h380) ?_)
              refine sq (o_call 58 #[(.int .u8 (bget (lget r8 i22) k304))] rfl (x_call Tryd.call58 (by kernel_rfl)) (rectoref1_good_w (X := []) (c := bget (lget r8 i22) k304) (Old.nil _) (bget_u8 _ _) hp) ?_)
              rintro _ w382 ⟨r381, hp, e383, rfl⟩
              have s384 := Step.of0 X346 e383
              refine sq (o_pv (.bool (!r381)) rfl (by kernel_rfl) ?_)
              refine nil_ ?_
              refine then_normal (K369 _ _ _ _ ?_)
              refine cond_b (!r381) (by kernel_rfl) (fun h385 => ?_) (fun h385 => ?_)
              ·
                replace hp := hp.1 h385
                refine seq_ (fun _ K386 => ?_)
                refine reg_ ?_
                refine sq (o_pv (.int .i64 (5 : Int)) rfl (by kernel_rfl) ?_)
                refine nil_ ?_
                refine then_normal (K386 _ _ _ _ ?_)
                refine wp_ret ?_
                refine blk_ret ?_
                refine then_ret ?_
                refine then_ret ?_
                refine blk_ret ?_
                refine blk_ret ?_
                refine then_ret ?_
                refine then_ret ?_
                refine blk_ret ?_
                refine then_ret ?_
                have E387 := (Evo.then0 E351 e383)
                refine end_ret hQ (.int .i64 (5 : Int)) (by kernel_rfl) ?_
                exact ⟨(5 : Int), hp, E387, rfl, (by decide)⟩
              ·
                replace hp := hp.2 h385
                refine wp_skip ?_
                refine blk_normal ?_
                refine then_normal (K368 _ _ _ _ ?_)
                refine reg_ ?_
                refine sq (o_pv (.int .i64 k304) rfl (by kernel_rfl) ?_)
                obtain ⟨h388, hp⟩ := hp
                refine sq (o_pv (.int .i64 (k304 + (1 : Int))) rfl (x_add2 (k := .i64) (a := k304) (b := (1 : Int)) (k304 + (1 : Int)) (by kernel_rfl) (by kernel_rfl) (wrap_inR h388)) ?_)
                refine sq (o_pv (.int .i64 (k304 + (1 : Int))) rfl (by kernel_rfl) ?_)
                refine nil_ ?_
                have E389 := (Evo.then0 E351 e383)
                have hXo390 := (Old.step hXo352 s384)
                have hS391 := (Sub.trans hS353 (Step.up s384))
                have hr392 := (Sl.step hr354 s384)
                refine then_normal (hA350 _ _ _ ⟨_, [(5, (.int .i64 (k304 + (1 : Int))))], hp.2, fit_mk (AgB.mix _ _ _) (by kernel_rfl) (vs_cons (by kernel_rfl) vs_nil), ?_⟩)
                exact ⟨X346, (k304 + (1 : Int)), rfl, rfl, E389, hXo390, hS391, hr392, h388, hp.1⟩
            ·
              replace hp := hp.2 h367
              refine wp_exit ?_
              refine then_exit ?_
              refine then_exit ?_
              refine blk_exit ?_
              refine blk_normal ?_
              refine then_normal (K221 _ _ _ _ ?_)
              refine reg_ ?_
              refine sq (o_pv (.int .i64 i22) rfl (by kernel_rfl) ?_)
              obtain ⟨h393, hp⟩ := hp
              refine sq (o_pv (.int .i64 (i22 + (1 : Int))) rfl (x_add2 (k := .i64) (a := i22) (b := (1 : Int)) (i22 + (1 : Int)) (by kernel_rfl) (by kernel_rfl) (wrap_inR h393)) ?_)
              refine sq (o_pv (.int .i64 (i22 + (1 : Int))) rfl (by kernel_rfl) ?_)
              refine nil_ ?_
              refine then_normal (hA210 _ _ _ ⟨_, [(4, (.int .i64 (i22 + (1 : Int))))], hp.2, fit_mk (AgB.nest (AgB.nest (AgB.look (AgB.mix _ _ _) (by kernel_rfl)) (by kernel_rfl) (by kernel_rfl)) (by kernel_rfl) (by kernel_rfl)) (by kernel_rfl) (vs_cons (by kernel_rfl) vs_nil), ?_⟩)
              exact ⟨X346, (i22 + (1 : Int)), rfl, rfl, E351, hXo352, hS353, hr354, h393, hp.1⟩
      ·
        replace hp := hp.2 h220
        refine wp_exit ?_
        refine then_exit ?_
        refine then_exit ?_
        refine blk_exit ?_
        refine then_normal (K20 _ _ _ _ ?_)
        refine seq_ (fun _ K394 => ?_)
        refine reg_ ?_
        refine sq (o_pv (.int .i64 (0 : Int)) rfl (by kernel_rfl) ?_)
        refine nil_ ?_
        refine then_normal (K394 _ _ _ _ ?_)
        refine wp_ret ?_
        refine end_ret hQ (.int .i64 (0 : Int)) (by kernel_rfl) ?_
        exact ⟨(0 : Int), hp, E214, rfl, (by decide)⟩

def rectolaw1_texts_p (a : (List ByteArray)) (b : (List ByteArray)) (Q : Bool → Prop) : Prop :=
  ((a.length ≤ 9223372036854775807) → ((b.length ≤ 9223372036854775807) → (((¬ ((a.length : Int) = (b.length : Int))) → Q false) ∧ (((a.length : Int) = (b.length : Int)) → (∃ (I57 : Int → Prop) (m58 : Int → Nat), (I57 (0 : Int)) ∧ ∀ (i14 : Int), (I57 i14) → (inR .i64 i14) → (((i14 < (a.length : Int)) → ((inL a i14) ∧ (((lget a i14).size ≤ maxLen) → ((inL b i14) ∧ (((lget b i14).size ≤ maxLen) → (((¬ ((lget a i14 : ByteArray) = lget b i14)) → Q false) ∧ (((lget a i14 : ByteArray) = lget b i14) → ((inR .i64 (i14 + (1 : Int))) ∧ ((I57 (i14 + (1 : Int))) ∧ m58 (i14 + (1 : Int)) < m58 i14))))))))) ∧ ((¬ (i14 < (a.length : Int))) → Q true)))))))
set_option maxRecDepth 20000 in
set_option maxHeartbeats 4000000 in
theorem rectolaw1_texts_w {X : List Nat} {w : World} {a : (List ByteArray)} {b : (List ByteArray)} {aa1 : Option Addr} {ca2 : Nat} {ab4 : Option Addr} {cb5 : Nat} {Q : Bool → Prop} (hX0 : Old X w) (ha3 : Sl rStr X w aa1 ca2 a) (hb6 : Sl rStr X w ab4 cb5 b) (hp : rectolaw1_texts_p a b Q) :
    Calls Tryd.prog 16 #[(.slice aa1 a.length ca2), (.slice ab4 b.length cb5)] w (Ret fun v w' => ∃ (r0 : Bool), Q r0 ∧ Evo [] w w' ∧ v = (.bool r0)) := by
  have hXo := hX0
  have E0 : Evo [] w w := RB.refl _ _ _
  have hS : Sub X X := Sub.refl _
  unfold rectolaw1_texts_p at hp
  refine enter_ Tryd.func16 rfl 26 [(0, (.slice aa1 a.length ca2)), (1, (.slice ab4 b.length cb5))] (by kernel_rfl) (fun Qe hQ => ?_)
  replace hp := hp (Sl.len ha3)
  replace hp := hp (Sl.len hb6)
  refine seq_ (fun _ K7 => ?_)
  refine reg_ ?_
  refine sq (o_pv (.bool false) rfl (by kernel_rfl) ?_)
  refine nil_ ?_
  refine then_normal (K7 _ _ _ _ ?_)
  refine seq_ (fun _ K8 => ?_)
  refine seq_ (fun _ K9 => ?_)
  refine reg_ ?_
  refine sq (o_pv (.slice aa1 a.length ca2) rfl (by kernel_rfl) ?_)
  refine sq (o_pv (.int .i64 (a.length : Int)) rfl (by kernel_rfl) ?_)
  refine sq (o_pv (.slice ab4 b.length cb5) rfl (by kernel_rfl) ?_)
  refine sq (o_pv (.int .i64 (b.length : Int)) rfl (by kernel_rfl) ?_)
  refine sq (o_pv (.bool (!decide ((a.length : Int) = (b.length : Int)))) rfl (by kernel_rfl) ?_)
  refine nil_ ?_
  refine then_normal (K9 _ _ _ _ ?_)
  refine cond_nd ((a.length : Int) = (b.length : Int)) (by kernel_rfl) (fun h10 => ?_) (fun h10 => ?_)
  ·
    replace hp := hp.1 h10
    refine seq_ (fun _ K11 => ?_)
    refine reg_ ?_
    refine sq (o_pv (.bool false) rfl (by kernel_rfl) ?_)
    refine nil_ ?_
    refine then_normal (K11 _ _ _ _ ?_)
    refine wp_ret ?_
    refine then_ret ?_
    refine end_ret hQ (.bool false) (by kernel_rfl) ?_
    exact ⟨false, hp, E0, rfl⟩
  ·
    replace hp := hp.2 h10
    refine wp_skip ?_
    refine then_normal (K8 _ _ _ _ ?_)
    refine seq_ (fun _ K12 => ?_)
    refine seq_ (fun _ K13 => ?_)
    refine reg_ ?_
    refine sq (o_pv (.int .i64 (0 : Int)) rfl (by kernel_rfl) ?_)
    refine nil_ ?_
    refine then_normal (K13 _ _ _ _ ?_)
    refine wp_block ?_
    obtain ⟨I57, m58, hI59, hp⟩ := hp
    refine loop_ 67106864 (fun kq lq w61 => ∃ (X62 : List Nat) (i14 : Int), (lq = [(5, (.int .i64 i14))]) ∧ (kq = m58 i14) ∧ (Evo [] w w61) ∧ (Old X62 w61) ∧ (Sub X X62) ∧ (Sl rStr X62 w61 aa1 ca2 a) ∧ (Sl rStr X62 w61 ab4 cb5 b) ∧ (inR .i64 i14) ∧ (I57 i14)) (m58 (0 : Int)) [(5, (.int .i64 (0 : Int)))] (vs_cons (by kernel_rfl) vs_nil) ⟨X, (0 : Int), rfl, rfl, E0, hXo, hS, ha3, hb6, (by decide), hI59⟩ ?_
    rintro _ _ w61 g64 ⟨X62, i14, rfl, rfl, E67, hXo68, hS69, ha70, hb71, ri15, hI60⟩ Kl65 hA66
    replace hp := hp i14 hI60 ri15
    refine seq_ (fun _ K72 => ?_)
    refine seq_ (fun _ K73 => ?_)
    refine reg_ ?_
    refine sq (o_pv (.int .i64 i14) rfl (by kernel_rfl) ?_)
    refine sq (o_pv (.slice aa1 a.length ca2) rfl (by kernel_rfl) ?_)
    refine sq (o_pv (.int .i64 (a.length : Int)) rfl (by kernel_rfl) ?_)
    refine sq (o_pv (.bool (decide (i14 < (a.length : Int)))) rfl (by kernel_rfl) ?_)
    refine nil_ ?_
    refine then_normal (K73 _ _ _ _ ?_)
    refine cond_d (i14 < (a.length : Int)) (by kernel_rfl) (fun h74 => ?_) (fun h74 => ?_)
    ·
      replace hp := hp.1 h74
      refine wp_skip ?_
      refine then_normal (K72 _ _ _ _ ?_)
      refine seq_ (fun _ K75 => ?_)
      refine wp_block ?_
      refine seq_ (fun _ K76 => ?_)
      refine reg_drawn (RB w61.heap.size []) 9 (by kernel_rfl) (fun w77 hd78 => ?_)
      have e79 := Evo.of_drew hd78
      have z80 : w77.heap.size = w61.heap.size := by rw [hd78]
      clear hd78
      have s82 := Step.of0 X62 e79
      have er81 := RB.refl w61.heap.size [] w77
      have E83 := (Evo.then0 E67 (Step.evo s82))
      have hXo84 := (Old.step hXo68 s82)
      have hS85 := (Sub.trans hS69 (Step.up s82))
      have ha86 := (Sl.step ha70 s82)
      have hb87 := (Sl.step hb71 s82)
      refine r_take 0 (.slice aa1 a.length ca2) (RB.pre _ _) rfl (by kernel_rfl) (fun _ _ _ h => hQ.panic _ _ _ _ _ h) (.inl ⟨rfl, fun wq hq => (by kernel_rfl)⟩) ?_
      refine r_take 1 (.int .i64 i14) (RB.pre _ _) rfl (by kernel_rfl) (fun _ _ _ h => hQ.panic _ _ _ _ _ h) (.inl ⟨rfl, fun wq hq => (by kernel_rfl)⟩) ?_
      obtain ⟨h88, hp⟩ := hp
      obtain ⟨b89, o90, cs91, ha92, nx93, lt94, ok95, hc96⟩ := Sl.atI ha86 i14 h88
      obtain ⟨rfl, ze97⟩ := ok95
      replace hp := hp ze97
      refine r_take 2 (.pointer (some ⟨b89, o90 + i14.toNat * 1, none⟩)) (RB.pre _ _) rfl (by kernel_rfl) (fun _ _ _ h => hQ.panic _ _ _ _ _ h) (.inl ⟨rfl, fun wq hq => (x_ixA (m := a.length) (c := ca2) (k := .i64) (i := i14) Tryd.underlying27 Tryd.sizeOf9 (by rw [← ha92]; kernel_rfl) (by kernel_rfl) h88)⟩) ?_
      refine r_take 3 (.string (lget a i14)) (RB.pre _ _) rfl (by kernel_rfl) (fun _ _ _ h => hQ.panic _ _ _ _ _ h) (.inl ⟨rfl, fun wq hq => (x_load1 (by kernel_rfl) Tryd.isAgg9 ((CellsAt.rb hc96 (RB.trans er81 hq) (Nat.lt_of_lt_of_eq lt94 z80) (fun h => by cases h)) 0 _ rfl))⟩) ?_
      refine r_take 4 (.slice ab4 b.length cb5) (RB.pre _ _) rfl (by kernel_rfl) (fun _ _ _ h => hQ.panic _ _ _ _ _ h) (.inl ⟨rfl, fun wq hq => (by kernel_rfl)⟩) ?_
      refine r_take 5 (.int .i64 i14) (RB.pre _ _) rfl (by kernel_rfl) (fun _ _ _ h => hQ.panic _ _ _ _ _ h) (.inl ⟨rfl, fun wq hq => (by kernel_rfl)⟩) ?_
      obtain ⟨h98, hp⟩ := hp
      obtain ⟨b99, o100, cs101, ha102, nx103, lt104, ok105, hc106⟩ := Sl.atI hb87 i14 h98
      obtain ⟨rfl, ze107⟩ := ok105
      replace hp := hp ze107
      refine r_take 6 (.pointer (some ⟨b99, o100 + i14.toNat * 1, none⟩)) (RB.pre _ _) rfl (by kernel_rfl) (fun _ _ _ h => hQ.panic _ _ _ _ _ h) (.inl ⟨rfl, fun wq hq => (x_ixA (m := b.length) (c := cb5) (k := .i64) (i := i14) Tryd.underlying27 Tryd.sizeOf9 (by rw [← ha102]; kernel_rfl) (by kernel_rfl) h98)⟩) ?_
      refine r_take 7 (.string (lget b i14)) (RB.pre _ _) rfl (by kernel_rfl) (fun _ _ _ h => hQ.panic _ _ _ _ _ h) (.inl ⟨rfl, fun wq hq => (x_load1 (by kernel_rfl) Tryd.isAgg9 ((CellsAt.rb hc106 (RB.trans er81 hq) (Nat.lt_of_lt_of_eq lt104 z80) (fun h => by cases h)) 0 _ rfl))⟩) ?_
      refine r_take 8 (.bool (!decide ((lget a i14 : ByteArray) = lget b i14))) (RB.pre _ _) rfl (by kernel_rfl) (fun _ _ _ h => hQ.panic _ _ _ _ _ h) (.inl ⟨rfl, fun wq hq => (x_strne (by kernel_rfl) (by kernel_rfl))⟩) ?_
      refine r_done (by kernel_rfl) ?_
      refine then_normal (K76 _ _ _ _ ?_)
      refine cond_nd ((lget a i14 : ByteArray) = lget b i14) (by kernel_rfl) (fun h108 => ?_) (fun h108 => ?_)
      ·
        replace hp := hp.1 h108
        refine seq_ (fun _ K109 => ?_)
        refine reg_ ?_
        refine sq (o_pv (.bool false) rfl (by kernel_rfl) ?_)
        refine nil_ ?_
        refine then_normal (K109 _ _ _ _ ?_)
        refine wp_ret ?_
        refine blk_ret ?_
        refine then_ret ?_
        refine then_ret ?_
        refine blk_ret ?_
        refine then_ret ?_
        refine end_ret hQ (.bool false) (by kernel_rfl) ?_
        exact ⟨false, hp, E83, rfl⟩
      ·
        replace hp := hp.2 h108
        refine wp_skip ?_
        refine blk_normal ?_
        refine then_normal (K75 _ _ _ _ ?_)
        refine reg_ ?_
        refine sq (o_pv (.int .i64 i14) rfl (by kernel_rfl) ?_)
        obtain ⟨h110, hp⟩ := hp
        refine sq (o_pv (.int .i64 (i14 + (1 : Int))) rfl (x_add2 (k := .i64) (a := i14) (b := (1 : Int)) (i14 + (1 : Int)) (by kernel_rfl) (by kernel_rfl) (wrap_inR h110)) ?_)
        refine sq (o_pv (.int .i64 (i14 + (1 : Int))) rfl (by kernel_rfl) ?_)
        refine nil_ ?_
        refine then_normal (hA66 _ _ _ ⟨_, [(5, (.int .i64 (i14 + (1 : Int))))], hp.2, fit_mk (AgB.mix _ _ _) (by kernel_rfl) (vs_cons (by kernel_rfl) vs_nil), ?_⟩)
        exact ⟨X62, (i14 + (1 : Int)), rfl, rfl, E83, hXo84, hS85, ha86, hb87, h110, hp.1⟩
    ·
      replace hp := hp.2 h74
      refine wp_exit ?_
      refine then_exit ?_
      refine then_exit ?_
      refine blk_exit ?_
      refine then_normal (K12 _ _ _ _ ?_)
      refine seq_ (fun _ K111 => ?_)
      refine reg_ ?_
      refine sq (o_pv (.bool true) rfl (by kernel_rfl) ?_)
      refine nil_ ?_
      refine then_normal (K111 _ _ _ _ ?_)
      refine wp_ret ?_
      refine end_ret hQ (.bool true) (by kernel_rfl) ?_
      exact ⟨true, hp, E67, rfl⟩

def rectoref1_Parent_p (p : ByteArray) (Q : ByteArray → Prop) : Prop :=
  ((p.size ≤ maxLen) → ((inR .i64 ((p.size : Int) - (1 : Int))) ∧ (∃ (I20 : Int → Prop) (m21 : Int → Nat), (I20 ((p.size : Int) - (1 : Int))) ∧ ∀ (i6 : Int), (I20 i6) → (inR .i64 i6) → (((i6 ≥ (0 : Int)) → ((0 ≤ i6 ∧ i6 < (p.size : Int)) ∧ ((((bget p i6) = (47 : Int)) → ((0 ≤ (0 : Int) ∧ (0 : Int) ≤ i6 ∧ i6 ≤ (p.size : Int)) ∧ Q (bsub p (0 : Int) i6))) ∧ ((¬ ((bget p i6) = (47 : Int))) → ((inR .i64 (i6 - (1 : Int))) ∧ ((I20 (i6 - (1 : Int))) ∧ m21 (i6 - (1 : Int)) < m21 i6)))))) ∧ ((¬ (i6 ≥ (0 : Int))) → Q (ByteArray.mk #[]))))))
set_option maxRecDepth 20000 in
set_option maxHeartbeats 4000000 in
theorem rectoref1_Parent_w {X : List Nat} {w : World} {p : ByteArray} {Q : ByteArray → Prop} (hX0 : Old X w) (zp1 : p.size ≤ maxLen) (hp : rectoref1_Parent_p p Q) :
    Calls Tryd.prog 20 #[(.string p)] w (Ret fun v w' => ∃ (r0 : ByteArray), Q r0 ∧ Evo [] w w' ∧ v = (.string r0) ∧ r0.size ≤ maxLen) := by
  have hXo := hX0
  have E0 : Evo [] w w := RB.refl _ _ _
  have hS : Sub X X := Sub.refl _
  unfold rectoref1_Parent_p at hp
  refine enter_ Tryd.func20 rfl 18 [(0, (.string p))] (by kernel_rfl) (fun Qe hQ => ?_)
  replace hp := hp zp1
  refine seq_ (fun _ K2 => ?_)
  refine reg_ ?_
  refine sq (o_pv (.string (ByteArray.mk #[])) rfl (by kernel_rfl) ?_)
  refine nil_ ?_
  refine then_normal (K2 _ _ _ _ ?_)
  refine seq_ (fun _ K3 => ?_)
  refine seq_ (fun _ K4 => ?_)
  refine reg_ ?_
  refine sq (o_pv (.string p) rfl (by kernel_rfl) ?_)
  refine sq (o_pv (.int .i64 (p.size : Int)) rfl (by kernel_rfl) ?_)
  obtain ⟨h5, hp⟩ := hp
  refine sq (o_pv (.int .i64 ((p.size : Int) - (1 : Int))) rfl (x_sub2 (k := .i64) (a := (p.size : Int)) (b := (1 : Int)) ((p.size : Int) - (1 : Int)) (by kernel_rfl) (by kernel_rfl) (wrap_inR h5)) ?_)
  refine sq (o_pv (.int .i64 ((p.size : Int) - (1 : Int))) rfl (by kernel_rfl) ?_)
  refine nil_ ?_
  refine then_normal (K4 _ _ _ _ ?_)
  refine wp_block ?_
  obtain ⟨I20, m21, hI22, hp⟩ := hp
  refine loop_ 262028 (fun kq lq w24 => ∃ (X25 : List Nat) (i6 : Int), (lq = [(3, (.int .i64 i6))]) ∧ (kq = m21 i6) ∧ (Evo [] w w24) ∧ (Old X25 w24) ∧ (Sub X X25) ∧ (inR .i64 i6) ∧ (I20 i6)) (m21 ((p.size : Int) - (1 : Int))) [(3, (.int .i64 ((p.size : Int) - (1 : Int))))] (vs_cons (by kernel_rfl) vs_nil) ⟨X, ((p.size : Int) - (1 : Int)), rfl, rfl, E0, hXo, hS, h5, hI22⟩ ?_
  rintro _ _ w24 g27 ⟨X25, i6, rfl, rfl, E30, hXo31, hS32, ri7, hI23⟩ Kl28 hA29
  replace hp := hp i6 hI23 ri7
  refine seq_ (fun _ K33 => ?_)
  refine seq_ (fun _ K34 => ?_)
  refine reg_ ?_
  refine sq (o_pv (.int .i64 i6) rfl (by kernel_rfl) ?_)
  refine sq (o_pv (.bool (decide (i6 ≥ (0 : Int)))) rfl (by kernel_rfl) ?_)
  refine nil_ ?_
  refine then_normal (K34 _ _ _ _ ?_)
  refine cond_d (i6 ≥ (0 : Int)) (by kernel_rfl) (fun h35 => ?_) (fun h35 => ?_)
  ·
    replace hp := hp.1 h35
    refine wp_skip ?_
    refine then_normal (K33 _ _ _ _ ?_)
    refine seq_ (fun _ K36 => ?_)
    refine wp_block ?_
    refine seq_ (fun _ K37 => ?_)
    refine reg_ ?_
    refine sq (o_pv (.string p) rfl (by kernel_rfl) ?_)
    refine sq (o_pv (.int .i64 i6) rfl (by kernel_rfl) ?_)
    obtain ⟨h38, hp⟩ := hp
    refine sq (o_pv (.int .u8 (bget p i6)) rfl (x_bget (k := .i64) (by kernel_rfl) (by kernel_rfl) Tryd.underlying9 h38) ?_)
    refine sq (o_pv (.bool (decide ((bget p i6) = (47 : Int)))) rfl (by kernel_rfl) ?_)
    refine nil_ ?_
    refine then_normal (K37 _ _ _ _ ?_)
    refine cond_d ((bget p i6) = (47 : Int)) (by kernel_rfl) (fun h39 => ?_) (fun h39 => ?_)
    ·
      replace hp := hp.1 h39
      refine seq_ (fun _ K40 => ?_)
      refine reg_ ?_
      refine sq (o_pv (.string p) rfl (by kernel_rfl) ?_)
      refine sq (o_pv (.int .i64 i6) rfl (by kernel_rfl) ?_)
      obtain ⟨h41, hp⟩ := hp
      refine sq (o_pv (.string (bsub p (0 : Int) i6)) rfl (x_sub01 (k := .i64) (by kernel_rfl)  (by kernel_rfl) Tryd.underlying9 h41) ?_)
      refine sq (o_pv (.string (bsub p (0 : Int) i6)) rfl (by kernel_rfl) ?_)
      refine nil_ ?_
      refine then_normal (K40 _ _ _ _ ?_)
      refine wp_ret ?_
      refine blk_ret ?_
      refine then_ret ?_
      refine then_ret ?_
      refine blk_ret ?_
      refine then_ret ?_
      refine end_ret hQ (.string (bsub p (0 : Int) i6)) (by kernel_rfl) ?_
      exact ⟨(bsub p (0 : Int) i6), hp, E30, rfl, (bsub_le zp1 h41)⟩
    ·
      replace hp := hp.2 h39
      refine wp_skip ?_
      refine blk_normal ?_
      refine then_normal (K36 _ _ _ _ ?_)
      refine reg_ ?_
      refine sq (o_pv (.int .i64 i6) rfl (by kernel_rfl) ?_)
      obtain ⟨h42, hp⟩ := hp
      refine sq (o_pv (.int .i64 (i6 - (1 : Int))) rfl (x_sub2 (k := .i64) (a := i6) (b := (1 : Int)) (i6 - (1 : Int)) (by kernel_rfl) (by kernel_rfl) (wrap_inR h42)) ?_)
      refine sq (o_pv (.int .i64 (i6 - (1 : Int))) rfl (by kernel_rfl) ?_)
      refine nil_ ?_
      refine then_normal (hA29 _ _ _ ⟨_, [(3, (.int .i64 (i6 - (1 : Int))))], hp.2, fit_mk (AgB.mix _ _ _) (by kernel_rfl) (vs_cons (by kernel_rfl) vs_nil), ?_⟩)
      exact ⟨X25, (i6 - (1 : Int)), rfl, rfl, E30, hXo31, hS32, h42, hp.1⟩
  ·
    replace hp := hp.2 h35
    refine wp_exit ?_
    refine then_exit ?_
    refine then_exit ?_
    refine blk_exit ?_
    refine then_normal (K3 _ _ _ _ ?_)
    refine seq_ (fun _ K43 => ?_)
    refine reg_ ?_
    refine sq (o_pv (.string (ByteArray.mk #[])) rfl (by kernel_rfl) ?_)
    refine nil_ ?_
    refine then_normal (K43 _ _ _ _ ?_)
    refine wp_ret ?_
    refine end_ret hQ (.string (ByteArray.mk #[])) (by kernel_rfl) ?_
    exact ⟨(ByteArray.mk #[]), hp, E30, rfl, (by decide)⟩

def rectolaw1_PathAny_p (p : ByteArray) (Q : Bool → Prop) : Prop :=
  ((p.size ≤ maxLen) → (rectolaw1_known_p  (fun (r5 : Bool) => ((((!r5) = true) → Q false) ∧ (((!r5) = false) → ((((p.size : Int) > (200 : Int)) → Q true) ∧ ((¬ ((p.size : Int) > (200 : Int))) → (∃ k61 : Bool → Prop, (∀ (s60 : Bool), k61 s60 → Q s60) ∧ (path_Check_p p (fun (r74 : Int) => ((inR .i64 r74) → (rectoref1_Check_p p (fun (r79 : Int) => ((inR .i64 r79) → (((r74 = r79) → (path_Parts_p p (fun (r86 : (List ByteArray)) => ((r86.length ≤ 9223372036854775807) → (rectoref1_Parts_p p (fun (r94 : (List ByteArray)) => ((r94.length ≤ 9223372036854775807) → (rectolaw1_texts_p r86 r94 (fun (r102 : Bool) => (((r102 = true) → (path_Parent_p p (fun (r109 : ByteArray) => ((r109.size ≤ maxLen) → (rectoref1_Parent_p p (fun (r114 : ByteArray) => ((r114.size ≤ maxLen) → (k61 (decide ((r109 : ByteArray) = r114)))))))))) ∧ ((r102 = false) → (k61 false)))))))))))) ∧ ((¬ (r74 = r79)) → (k61 false)))))))))))))))))
set_option maxRecDepth 20000 in
set_option maxHeartbeats 4000000 in
theorem rectolaw1_PathAny_w {X : List Nat} {w : World} {p : ByteArray} {Q : Bool → Prop} (hX0 : Old X w) (zp1 : p.size ≤ maxLen) (hp : rectolaw1_PathAny_p p Q) :
    Calls Tryd.prog 3 #[(.string p)] w (Ret fun v w' => ∃ (r0 : Bool), Q r0 ∧ Evo [] w w' ∧ v = (.bool r0)) := by
  have hXo := hX0
  have E0 : Evo [] w w := RB.refl _ _ _
  have hS : Sub X X := Sub.refl _
  unfold rectolaw1_PathAny_p at hp
  refine enter_ Tryd.func3 rfl 27 [(0, (.string p))] (by kernel_rfl) (fun Qe hQ => ?_)
  replace hp := hp zp1
  refine seq_ (fun _ K2 => ?_)
  refine reg_ ?_
  refine sq (o_pv (.bool false) rfl (by kernel_rfl) ?_)
  refine nil_ ?_
  refine then_normal (K2 _ _ _ _ ?_)
  refine seq_ (fun _ K3 => ?_)
  refine seq_ (fun _ K4 => ?_)
  refine reg_ ?_
  refine sq (o_call 13 #[] rfl (x_call Tryd.call13 (by kernel_rfl)) (rectolaw1_known_w (X := [])  (Old.nil _) hp) ?_)
  rintro _ w6 ⟨r5, hp, e7, rfl⟩
  have s8 := Step.of0 X e7
  refine sq (o_pv (.bool (!r5)) rfl (by kernel_rfl) ?_)
  refine nil_ ?_
  refine then_normal (K4 _ _ _ _ ?_)
  refine cond_b (!r5) (by kernel_rfl) (fun h9 => ?_) (fun h9 => ?_)
  ·
    replace hp := hp.1 h9
    refine seq_ (fun _ K10 => ?_)
    refine reg_ ?_
    refine sq (o_pv (.bool false) rfl (by kernel_rfl) ?_)
    refine nil_ ?_
    refine then_normal (K10 _ _ _ _ ?_)
    refine wp_ret ?_
    refine then_ret ?_
    have E11 := (Evo.then0 E0 e7)
    refine end_ret hQ (.bool false) (by kernel_rfl) ?_
    exact ⟨false, hp, E11, rfl⟩
  ·
    replace hp := hp.2 h9
    refine wp_skip ?_
    refine then_normal (K3 _ _ _ _ ?_)
    refine seq_ (fun _ K12 => ?_)
    refine seq_ (fun _ K13 => ?_)
    refine reg_ ?_
    refine sq (o_pv (.string p) rfl (by kernel_rfl) ?_)
    refine sq (o_pv (.int .i64 (p.size : Int)) rfl (by kernel_rfl) ?_)
    refine sq (o_pv (.bool (decide ((p.size : Int) > (200 : Int)))) rfl (by kernel_rfl) ?_)
    refine nil_ ?_
    refine then_normal (K13 _ _ _ _ ?_)
    refine cond_d ((p.size : Int) > (200 : Int)) (by kernel_rfl) (fun h14 => ?_) (fun h14 => ?_)
    ·
      replace hp := hp.1 h14
      refine seq_ (fun _ K15 => ?_)
      refine reg_ ?_
      refine sq (o_pv (.bool true) rfl (by kernel_rfl) ?_)
      refine nil_ ?_
      refine then_normal (K15 _ _ _ _ ?_)
      refine wp_ret ?_
      refine then_ret ?_
      have E16 := (Evo.then0 E0 e7)
      refine end_ret hQ (.bool true) (by kernel_rfl) ?_
      exact ⟨true, hp, E16, rfl⟩
    ·
      replace hp := hp.2 h14
      refine wp_skip ?_
      refine then_normal (K12 _ _ _ _ ?_)
      refine seq_ (fun _ K17 => ?_)
      have hXo68 := (Old.step hXo s8)
      have E69 := (Evo.then0 E0 e7)
      have hS70 := (Sub.trans hS (Step.up s8))
      obtain ⟨k61, hk62, hp⟩ := hp
      refine ground_ ?_
      refine join_ 134217476 (fun lq w63 => ∃ (X64 : List Nat) (s60 : Bool), (lq = [(2, (.bool s60))]) ∧ (Evo [] w w63) ∧ (Old X64 w63) ∧ (Sub X X64) ∧ (k61 s60)) (fun Kj65 hJ66 => ?_) ?_
      ·
        refine reg_ ?_
        refine sq (o_pv (.string p) rfl (by kernel_rfl) ?_)
        refine sq (o_call 14 #[(.string p)] rfl (x_call Tryd.call14 (by kernel_rfl)) (path_Check_w (X := []) (p := p) (Old.nil _) zp1 hp) ?_)
        rintro _ w75 ⟨r74, hp, e76, rfl, rr78⟩
        have s77 := Step.of0 X e76
        replace hp := hp rr78
        refine sq (o_pv (.string p) rfl (by kernel_rfl) ?_)
        refine sq (o_call 15 #[(.string p)] rfl (x_call Tryd.call15 (by kernel_rfl)) (rectoref1_Check_w (X := []) (p := p) (Old.nil _) zp1 hp) ?_)
        rintro _ w80 ⟨r79, hp, e81, rfl, rr83⟩
        have s82 := Step.of0 X e81
        replace hp := hp rr83
        by_cases h84 : r74 = r79
        ·
          replace hp := hp.1 h84
          refine sq (o_pv (.bool true) rfl (x_dt (p := r74 = r79) (by kernel_rfl) h84) ?_)
          refine sq (o_pv (.bool true) rfl (by kernel_rfl) ?_)
          refine sq (o_pv (.string p) (by kernel_rfl) (by kernel_rfl) ?_)
          have hXo85 := (Old.step (Old.step hXo68 s77) s82)
          refine sq (o_call 17 #[(.string p)] (by kernel_rfl) (x_call Tryd.call17 (by kernel_rfl)) (path_Parts_w (X := X) (p := p) hXo85 zp1 hp) ?_)
          rintro _ w87 ⟨r86, hp, e88, ar90, cr91, rfl, hr92⟩
          have s89 := Step.of0 X e88
          replace hp := hp (Sl.len hr92)
          refine sq (o_pv (.string p) (by kernel_rfl) (by kernel_rfl) ?_)
          have hXo93 := (Old.step hXo85 s89)
          refine sq (o_call 18 #[(.string p)] (by kernel_rfl) (x_call Tryd.call18 (by kernel_rfl)) (rectoref1_Parts_w (X := X) (p := p) hXo93 zp1 hp) ?_)
          rintro _ w95 ⟨r94, hp, e96, ar98, cr99, rfl, hr100⟩
          have s97 := Step.of0 X e96
          replace hp := hp (Sl.len hr100)
          have hr101 := (Sl.step hr92 s97)
          refine sq (o_call 16 #[(.slice ar90 r86.length cr91), (.slice ar98 r94.length cr99)] (by kernel_rfl) (x_call Tryd.call16 (by kernel_rfl)) (rectolaw1_texts_w (X := []) (a := r86) (b := r94) (Old.nil _) (Sl.less hr101 (Sub.nil _)) (Sl.less hr100 (Sub.nil _)) hp) ?_)
          rintro _ w103 ⟨r102, hp, e104, rfl⟩
          have s105 := Step.of0 X e104
          cases r102
          ·
            replace hp := hp.2 rfl
            refine sq (o_pv (.bool false) rfl (by kernel_rfl) ?_)
            refine sq (o_pv (.bool false) rfl (by kernel_rfl) ?_)
            refine sq (o_not (by kernel_rfl) ?_)
            refine sq (o_not (by kernel_rfl) ?_)
            refine sq (o_not (by kernel_rfl) ?_)
            refine sq (o_not (by kernel_rfl) ?_)
            refine sq (o_not (by kernel_rfl) ?_)
            refine sq (o_pv (.bool false) rfl (by kernel_rfl) ?_)
            refine sq (o_pv (.bool false) rfl (by kernel_rfl) ?_)
            refine nil_ ?_
            have E106 := (Evo.then0 (Evo.then0 (Evo.then0 (Evo.then0 (Evo.then0 E69 e76) e81) e88) e96) e104)
            have hXo107 := (Old.step (Old.step hXo93 s97) s105)
            have hS108 := (Sub.trans (Sub.trans (Sub.trans (Sub.trans (Sub.trans hS70 (Step.up s77)) (Step.up s82)) (Step.up s89)) (Step.up s97)) (Step.up s105))
            refine then_normal (hJ66 _ _ _ ⟨[(2, (.bool false))], fit_mk (fun _ _ => rfl) (by kernel_rfl) (vs_cons (by kernel_rfl) vs_nil), ?_⟩)
            exact ⟨X, false, rfl, E106, hXo107, hS108, hp⟩
          ·
            replace hp := hp.1 rfl
            refine sq (o_pv (.bool true) rfl (by kernel_rfl) ?_)
            refine sq (o_pv (.bool true) rfl (by kernel_rfl) ?_)
            refine sq (o_pv (.string p) (by kernel_rfl) (by kernel_rfl) ?_)
            refine sq (o_call 19 #[(.string p)] (by kernel_rfl) (x_call Tryd.call19 (by kernel_rfl)) (path_Parent_w (X := []) (p := p) (Old.nil _) zp1 hp) ?_)
            rintro _ w110 ⟨r109, hp, e111, rfl, zr113⟩
            have s112 := Step.of0 X e111
            replace hp := hp zr113
            refine sq (o_pv (.string p) (by kernel_rfl) (by kernel_rfl) ?_)
            refine sq (o_call 20 #[(.string p)] (by kernel_rfl) (x_call Tryd.call20 (by kernel_rfl)) (rectoref1_Parent_w (X := []) (p := p) (Old.nil _) zp1 hp) ?_)
            rintro _ w115 ⟨r114, hp, e116, rfl, zr118⟩
            have s117 := Step.of0 X e116
            replace hp := hp zr118
            refine sq (o_pv (.bool (decide ((r109 : ByteArray) = r114))) (by kernel_rfl) (x_streq (by kernel_rfl) (by kernel_rfl)) ?_)
            refine sq (o_pv (.bool (decide ((r109 : ByteArray) = r114))) rfl (by kernel_rfl) ?_)
            refine sq (o_pv (.bool (decide ((r109 : ByteArray) = r114))) rfl (by kernel_rfl) ?_)
            refine nil_ ?_
            have E119 := (Evo.then0 (Evo.then0 (Evo.then0 (Evo.then0 (Evo.then0 (Evo.then0 (Evo.then0 E69 e76) e81) e88) e96) e104) e111) e116)
            have hXo120 := (Old.step (Old.step (Old.step (Old.step hXo93 s97) s105) s112) s117)
            have hS121 := (Sub.trans (Sub.trans (Sub.trans (Sub.trans (Sub.trans (Sub.trans (Sub.trans hS70 (Step.up s77)) (Step.up s82)) (Step.up s89)) (Step.up s97)) (Step.up s105)) (Step.up s112)) (Step.up s117))
            refine then_normal (hJ66 _ _ _ ⟨[(2, (.bool (decide ((r109 : ByteArray) = r114))))], fit_mk (fun _ _ => rfl) (by kernel_rfl) (vs_cons (by kernel_rfl) vs_nil), ?_⟩)
            exact ⟨X, (decide ((r109 : ByteArray) = r114)), rfl, E119, hXo120, hS121, hp⟩
        ·
          replace hp := hp.2 h84
          refine sq (o_pv (.bool false) rfl (x_df (p := r74 = r79) (by kernel_rfl) h84) ?_)
          refine sq (o_pv (.bool false) rfl (by kernel_rfl) ?_)
          refine sq (o_not (by kernel_rfl) ?_)
          refine sq (o_not (by kernel_rfl) ?_)
          refine sq (o_not (by kernel_rfl) ?_)
          refine sq (o_not (by kernel_rfl) ?_)
          refine sq (o_not (by kernel_rfl) ?_)
          refine sq (o_pv (.bool false) rfl (by kernel_rfl) ?_)
          refine sq (o_pv (.bool false) rfl (by kernel_rfl) ?_)
          refine sq (o_not (by kernel_rfl) ?_)
          refine sq (o_not (by kernel_rfl) ?_)
          refine sq (o_not (by kernel_rfl) ?_)
          refine sq (o_not (by kernel_rfl) ?_)
          refine sq (o_not (by kernel_rfl) ?_)
          refine sq (o_pv (.bool false) rfl (by kernel_rfl) ?_)
          refine sq (o_pv (.bool false) rfl (by kernel_rfl) ?_)
          refine nil_ ?_
          have E122 := (Evo.then0 (Evo.then0 E69 e76) e81)
          have hXo123 := (Old.step (Old.step hXo68 s77) s82)
          have hS124 := (Sub.trans (Sub.trans hS70 (Step.up s77)) (Step.up s82))
          refine then_normal (hJ66 _ _ _ ⟨[(2, (.bool false))], fit_mk (fun _ _ => rfl) (by kernel_rfl) (vs_cons (by kernel_rfl) vs_nil), ?_⟩)
          exact ⟨X, false, rfl, E122, hXo123, hS124, hp⟩
      ·
        rintro _ w63 g125 ⟨X64, s60, rfl, E71, hXo72, hS73, hv67⟩
        replace hp := hk62 s60 hv67
        refine then_normal (K17 _ _ _ _ ?_)
        refine wp_ret ?_
        refine end_ret hQ (.bool s60) (by kernel_rfl) ?_
        exact ⟨s60, hp, E71, rfl⟩

def rectoref1_Under_p (p : ByteArray) (dir : ByteArray) (Q : Bool → Prop) : Prop :=
  ((p.size ≤ maxLen) → ((dir.size ≤ maxLen) → ((((dir : ByteArray) = (ByteArray.mk #[])) → Q (!decide ((p : ByteArray) = (ByteArray.mk #[])))) ∧ ((¬ ((dir : ByteArray) = (ByteArray.mk #[]))) → (((inR .i64 ((dir.size : Int) + (1 : Int))) ∧ ((((p.size : Int) > ((dir.size : Int) + (1 : Int))) → ((0 ≤ (0 : Int) ∧ (0 : Int) ≤ (dir.size : Int) ∧ (dir.size : Int) ≤ (p.size : Int)) ∧ ((((bsub p (0 : Int) (dir.size : Int) : ByteArray) = dir) → ((0 ≤ (dir.size : Int) ∧ (dir.size : Int) < (p.size : Int)) ∧ True)) ∧ ((¬ ((bsub p (0 : Int) (dir.size : Int) : ByteArray) = dir)) → True)))) ∧ ((¬ ((p.size : Int) > ((dir.size : Int) + (1 : Int)))) → True))) ∧ Q (decide (((p.size : Int) > ((dir.size : Int) + (1 : Int))) ∧ (((bsub p (0 : Int) (dir.size : Int) : ByteArray) = dir) ∧ ((bget p (dir.size : Int)) = (47 : Int))))))))))
set_option maxRecDepth 20000 in
set_option maxHeartbeats 4000000 in
theorem rectoref1_Under_w {X : List Nat} {w : World} {p : ByteArray} {dir : ByteArray} {Q : Bool → Prop} (hX0 : Old X w) (zp1 : p.size ≤ maxLen) (zdir2 : dir.size ≤ maxLen) (hp : rectoref1_Under_p p dir Q) :
    Calls Tryd.prog 23 #[(.string p), (.string dir)] w (Ret fun v w' => ∃ (r0 : Bool), Q r0 ∧ Evo [] w w' ∧ v = (.bool r0)) := by
  have hXo := hX0
  have E0 : Evo [] w w := RB.refl _ _ _
  have hS : Sub X X := Sub.refl _
  unfold rectoref1_Under_p at hp
  refine enter_ Tryd.func23 rfl 30 [(0, (.string p)), (1, (.string dir))] (by kernel_rfl) (fun Qe hQ => ?_)
  replace hp := hp zp1
  replace hp := hp zdir2
  refine seq_ (fun _ K3 => ?_)
  refine reg_ ?_
  refine sq (o_pv (.bool false) rfl (by kernel_rfl) ?_)
  refine nil_ ?_
  refine then_normal (K3 _ _ _ _ ?_)
  refine seq_ (fun _ K4 => ?_)
  refine seq_ (fun _ K5 => ?_)
  refine reg_ ?_
  refine sq (o_pv (.string dir) rfl (by kernel_rfl) ?_)
  refine sq (o_pv (.bool (decide ((dir : ByteArray) = (ByteArray.mk #[])))) rfl (x_streq (by kernel_rfl) (by kernel_rfl)) ?_)
  refine nil_ ?_
  refine then_normal (K5 _ _ _ _ ?_)
  refine cond_d ((dir : ByteArray) = (ByteArray.mk #[])) (by kernel_rfl) (fun h6 => ?_) (fun h6 => ?_)
  ·
    replace hp := hp.1 h6
    refine seq_ (fun _ K7 => ?_)
    refine reg_ ?_
    refine sq (o_pv (.string p) rfl (by kernel_rfl) ?_)
    refine sq (o_pv (.bool (!decide ((p : ByteArray) = (ByteArray.mk #[])))) rfl (x_strne (by kernel_rfl) (by kernel_rfl)) ?_)
    refine sq (o_pv (.bool (!decide ((p : ByteArray) = (ByteArray.mk #[])))) rfl (by kernel_rfl) ?_)
    refine nil_ ?_
    refine then_normal (K7 _ _ _ _ ?_)
    refine wp_ret ?_
    refine then_ret ?_
    refine end_ret hQ (.bool (!decide ((p : ByteArray) = (ByteArray.mk #[])))) (by kernel_rfl) ?_
    exact ⟨(!decide ((p : ByteArray) = (ByteArray.mk #[]))), hp, E0, rfl⟩
  ·
    replace hp := hp.2 h6
    refine wp_skip ?_
    refine then_normal (K4 _ _ _ _ ?_)
    refine seq_ (fun _ K8 => ?_)
    obtain ⟨hp, hq⟩ := hp
    refine ground_ ?_
    refine join_ 1073741328 (fun lq w16 => lq = [(4, (.bool (decide (((p.size : Int) > ((dir.size : Int) + (1 : Int))) ∧ (((bsub p (0 : Int) (dir.size : Int) : ByteArray) = dir) ∧ ((bget p (dir.size : Int)) = (47 : Int)))))))] ∧ w = w16) (fun Kj14 hJ15 => ?_) ?_
    ·
      refine reg_ ?_
      refine sq (o_pv (.string p) rfl (by kernel_rfl) ?_)
      refine sq (o_pv (.int .i64 (p.size : Int)) rfl (by kernel_rfl) ?_)
      refine sq (o_pv (.string dir) rfl (by kernel_rfl) ?_)
      refine sq (o_pv (.int .i64 (dir.size : Int)) rfl (by kernel_rfl) ?_)
      obtain ⟨h18, hp⟩ := hp
      refine sq (o_pv (.int .i64 ((dir.size : Int) + (1 : Int))) rfl (x_add2 (k := .i64) (a := (dir.size : Int)) (b := (1 : Int)) ((dir.size : Int) + (1 : Int)) (by kernel_rfl) (by kernel_rfl) (wrap_inR h18)) ?_)
      by_cases h19 : (p.size : Int) > ((dir.size : Int) + (1 : Int))
      ·
        replace hp := hp.1 h19
        refine sq (o_pv (.bool true) rfl (x_dt (p := (p.size : Int) > ((dir.size : Int) + (1 : Int))) (by kernel_rfl) h19) ?_)
        refine sq (o_pv (.bool true) rfl (by kernel_rfl) ?_)
        refine sq (o_pv (.string p) (by kernel_rfl) (by kernel_rfl) ?_)
        refine sq (o_pv (.string dir) (by kernel_rfl) (by kernel_rfl) ?_)
        refine sq (o_pv (.int .i64 (dir.size : Int)) (by kernel_rfl) (by kernel_rfl) ?_)
        obtain ⟨h20, hp⟩ := hp
        refine sq (o_pv (.string (bsub p (0 : Int) (dir.size : Int))) (by kernel_rfl) (x_sub01 (k := .i64) (by kernel_rfl)  (by kernel_rfl) Tryd.underlying9 h20) ?_)
        refine sq (o_pv (.string dir) (by kernel_rfl) (by kernel_rfl) ?_)
        by_cases h21 : (bsub p (0 : Int) (dir.size : Int) : ByteArray) = dir
        ·
          replace hp := hp.1 h21
          refine sq (o_pv (.bool true) (by kernel_rfl) (x_dt (p := (bsub p (0 : Int) (dir.size : Int) : ByteArray) = dir) (x_streq (by kernel_rfl) (by kernel_rfl)) h21) ?_)
          refine sq (o_pv (.bool true) rfl (by kernel_rfl) ?_)
          refine sq (o_pv (.bool true) rfl (by kernel_rfl) ?_)
          refine sq (o_pv (.string p) (by kernel_rfl) (by kernel_rfl) ?_)
          refine sq (o_pv (.string dir) (by kernel_rfl) (by kernel_rfl) ?_)
          refine sq (o_pv (.int .i64 (dir.size : Int)) (by kernel_rfl) (by kernel_rfl) ?_)
          obtain ⟨h22, hp⟩ := hp
          refine sq (o_pv (.int .u8 (bget p (dir.size : Int))) (by kernel_rfl) (x_bget (k := .i64) (by kernel_rfl) (by kernel_rfl) Tryd.underlying9 h22) ?_)
          refine sq (o_pv (.bool (decide ((bget p (dir.size : Int)) = (47 : Int)))) (by kernel_rfl) (by kernel_rfl) ?_)
          refine sq (o_pv (.bool (decide ((bget p (dir.size : Int)) = (47 : Int)))) rfl (by kernel_rfl) ?_)
          refine sq (o_pv (.bool (decide ((bget p (dir.size : Int)) = (47 : Int)))) rfl (by kernel_rfl) ?_)
          refine nil_ ?_
          refine then_normal (hJ15 _ _ _ ⟨[(4, (.bool (decide (((p.size : Int) > ((dir.size : Int) + (1 : Int))) ∧ (((bsub p (0 : Int) (dir.size : Int) : ByteArray) = dir) ∧ ((bget p (dir.size : Int)) = (47 : Int)))))))], fit_mk (fun _ _ => rfl) (by kernel_rfl) (vs_cons (Eq.trans (b := (.bool (decide ((bget p (dir.size : Int)) = (47 : Int))))) (by kernel_rfl) (dec_d ((and_iff_right h19).trans ((and_iff_right h21).trans Iff.rfl))).symm) vs_nil), rfl, rfl⟩)
        ·
          replace hp := hp.2 h21
          refine sq (o_pv (.bool false) (by kernel_rfl) (x_df (p := (bsub p (0 : Int) (dir.size : Int) : ByteArray) = dir) (x_streq (by kernel_rfl) (by kernel_rfl)) h21) ?_)
          refine sq (o_pv (.bool false) rfl (by kernel_rfl) ?_)
          refine sq (o_pv (.bool false) rfl (by kernel_rfl) ?_)
          refine sq (o_not (by kernel_rfl) ?_)
          refine sq (o_not (by kernel_rfl) ?_)
          refine sq (o_not (by kernel_rfl) ?_)
          refine sq (o_not (by kernel_rfl) ?_)
          refine sq (o_not (by kernel_rfl) ?_)
          refine sq (o_pv (.bool false) rfl (by kernel_rfl) ?_)
          refine sq (o_pv (.bool false) rfl (by kernel_rfl) ?_)
          refine nil_ ?_
          refine then_normal (hJ15 _ _ _ ⟨[(4, (.bool (decide (((p.size : Int) > ((dir.size : Int) + (1 : Int))) ∧ (((bsub p (0 : Int) (dir.size : Int) : ByteArray) = dir) ∧ ((bget p (dir.size : Int)) = (47 : Int)))))))], fit_mk (fun _ _ => rfl) (by kernel_rfl) (vs_cons (Eq.trans (b := (.bool false)) (by kernel_rfl) (dec_f ((and_iff_right h19).trans (iff_false_intro (fun h => h21 h.1)))).symm) vs_nil), rfl, rfl⟩)
      ·
        replace hp := hp.2 h19
        refine sq (o_pv (.bool false) rfl (x_df (p := (p.size : Int) > ((dir.size : Int) + (1 : Int))) (by kernel_rfl) h19) ?_)
        refine sq (o_pv (.bool false) rfl (by kernel_rfl) ?_)
        refine sq (o_not (by kernel_rfl) ?_)
        refine sq (o_not (by kernel_rfl) ?_)
        refine sq (o_not (by kernel_rfl) ?_)
        refine sq (o_not (by kernel_rfl) ?_)
        refine sq (o_not (by kernel_rfl) ?_)
        refine sq (o_not (by kernel_rfl) ?_)
        refine sq (o_pv (.bool false) rfl (by kernel_rfl) ?_)
        refine sq (o_pv (.bool false) rfl (by kernel_rfl) ?_)
        refine sq (o_not (by kernel_rfl) ?_)
        refine sq (o_not (by kernel_rfl) ?_)
        refine sq (o_not (by kernel_rfl) ?_)
        refine sq (o_not (by kernel_rfl) ?_)
        refine sq (o_not (by kernel_rfl) ?_)
        refine sq (o_pv (.bool false) rfl (by kernel_rfl) ?_)
        refine sq (o_pv (.bool false) rfl (by kernel_rfl) ?_)
        refine nil_ ?_
        refine then_normal (hJ15 _ _ _ ⟨[(4, (.bool (decide (((p.size : Int) > ((dir.size : Int) + (1 : Int))) ∧ (((bsub p (0 : Int) (dir.size : Int) : ByteArray) = dir) ∧ ((bget p (dir.size : Int)) = (47 : Int)))))))], fit_mk (fun _ _ => rfl) (by kernel_rfl) (vs_cons (Eq.trans (b := (.bool false)) (by kernel_rfl) (dec_f (iff_false_intro (fun h => h19 h.1))).symm) vs_nil), rfl, rfl⟩)
    ·
      rintro _ w16 g17 ⟨rfl, hw⟩
      subst hw
      have hp := hq
      refine then_normal (K8 _ _ _ _ ?_)
      refine wp_ret ?_
      refine end_ret hQ (.bool (decide (((p.size : Int) > ((dir.size : Int) + (1 : Int))) ∧ (((bsub p (0 : Int) (dir.size : Int) : ByteArray) = dir) ∧ ((bget p (dir.size : Int)) = (47 : Int)))))) (by kernel_rfl) ?_
      exact ⟨(decide (((p.size : Int) > ((dir.size : Int) + (1 : Int))) ∧ (((bsub p (0 : Int) (dir.size : Int) : ByteArray) = dir) ∧ ((bget p (dir.size : Int)) = (47 : Int))))), hp, E0, rfl⟩

def rectoref1_Clash_p (a : ByteArray) (b : ByteArray) (Q : Bool → Prop) : Prop :=
  ((a.size ≤ maxLen) → ((b.size ≤ maxLen) → (∃ k16 : Bool → Prop, (∀ (s15 : Bool), k16 s15 → Q s15) ∧ ((((a : ByteArray) = (ByteArray.mk #[])) → (k16 false)) ∧ ((¬ ((a : ByteArray) = (ByteArray.mk #[]))) → ((((b : ByteArray) = (ByteArray.mk #[])) → (k16 false)) ∧ ((¬ ((b : ByteArray) = (ByteArray.mk #[]))) → (rectoref1_Under_p a b (fun (r28 : Bool) => (((r28 = true) → (k16 true)) ∧ ((r28 = false) → (rectoref1_Under_p b a (fun (r32 : Bool) => (k16 r32))))))))))))))
set_option maxRecDepth 20000 in
set_option maxHeartbeats 4000000 in
theorem rectoref1_Clash_w {X : List Nat} {w : World} {a : ByteArray} {b : ByteArray} {Q : Bool → Prop} (hX0 : Old X w) (za1 : a.size ≤ maxLen) (zb2 : b.size ≤ maxLen) (hp : rectoref1_Clash_p a b Q) :
    Calls Tryd.prog 24 #[(.string a), (.string b)] w (Ret fun v w' => ∃ (r0 : Bool), Q r0 ∧ Evo [] w w' ∧ v = (.bool r0)) := by
  have hXo := hX0
  have E0 : Evo [] w w := RB.refl _ _ _
  have hS : Sub X X := Sub.refl _
  unfold rectoref1_Clash_p at hp
  refine enter_ Tryd.func24 rfl 21 [(0, (.string a)), (1, (.string b))] (by kernel_rfl) (fun Qe hQ => ?_)
  replace hp := hp za1
  replace hp := hp zb2
  refine seq_ (fun _ K3 => ?_)
  refine reg_ ?_
  refine sq (o_pv (.bool false) rfl (by kernel_rfl) ?_)
  refine nil_ ?_
  refine then_normal (K3 _ _ _ _ ?_)
  refine seq_ (fun _ K4 => ?_)
  obtain ⟨k16, hk17, hp⟩ := hp
  refine ground_ ?_
  refine join_ 2097136 (fun lq w18 => ∃ (X19 : List Nat) (s15 : Bool), (lq = [(4, (.bool s15))]) ∧ (Evo [] w w18) ∧ (Old X19 w18) ∧ (Sub X X19) ∧ (k16 s15)) (fun Kj20 hJ21 => ?_) ?_
  ·
    refine reg_ ?_
    refine sq (o_pv (.string a) rfl (by kernel_rfl) ?_)
    by_cases h26 : (a : ByteArray) = (ByteArray.mk #[])
    ·
      replace hp := hp.1 h26
      refine sq (o_pv (.bool false) rfl (x_ndf (p := (a : ByteArray) = (ByteArray.mk #[])) (x_strne (by kernel_rfl) (by kernel_rfl)) h26) ?_)
      refine sq (o_pv (.bool false) rfl (by kernel_rfl) ?_)
      refine sq (o_not (by kernel_rfl) ?_)
      refine sq (o_not (by kernel_rfl) ?_)
      refine sq (o_pv (.bool false) rfl (by kernel_rfl) ?_)
      refine sq (o_pv (.bool false) rfl (by kernel_rfl) ?_)
      refine sq (o_not (by kernel_rfl) ?_)
      refine sq (o_not (by kernel_rfl) ?_)
      refine sq (o_not (by kernel_rfl) ?_)
      refine sq (o_not (by kernel_rfl) ?_)
      refine sq (o_not (by kernel_rfl) ?_)
      refine sq (o_not (by kernel_rfl) ?_)
      refine sq (o_not (by kernel_rfl) ?_)
      refine sq (o_not (by kernel_rfl) ?_)
      refine sq (o_pv (.bool false) rfl (by kernel_rfl) ?_)
      refine sq (o_pv (.bool false) rfl (by kernel_rfl) ?_)
      refine nil_ ?_
      refine then_normal (hJ21 _ _ _ ⟨[(4, (.bool false))], fit_mk (fun _ _ => rfl) (by kernel_rfl) (vs_cons (by kernel_rfl) vs_nil), ?_⟩)
      exact ⟨X, false, rfl, E0, hXo, hS, hp⟩
    ·
      replace hp := hp.2 h26
      refine sq (o_pv (.bool true) rfl (x_ndt (p := (a : ByteArray) = (ByteArray.mk #[])) (x_strne (by kernel_rfl) (by kernel_rfl)) h26) ?_)
      refine sq (o_pv (.bool true) rfl (by kernel_rfl) ?_)
      refine sq (o_pv (.string b) (by kernel_rfl) (by kernel_rfl) ?_)
      by_cases h27 : (b : ByteArray) = (ByteArray.mk #[])
      ·
        replace hp := hp.1 h27
        refine sq (o_pv (.bool false) (by kernel_rfl) (x_ndf (p := (b : ByteArray) = (ByteArray.mk #[])) (x_strne (by kernel_rfl) (by kernel_rfl)) h27) ?_)
        refine sq (o_pv (.bool false) rfl (by kernel_rfl) ?_)
        refine sq (o_pv (.bool false) rfl (by kernel_rfl) ?_)
        refine sq (o_not (by kernel_rfl) ?_)
        refine sq (o_not (by kernel_rfl) ?_)
        refine sq (o_not (by kernel_rfl) ?_)
        refine sq (o_not (by kernel_rfl) ?_)
        refine sq (o_not (by kernel_rfl) ?_)
        refine sq (o_not (by kernel_rfl) ?_)
        refine sq (o_not (by kernel_rfl) ?_)
        refine sq (o_not (by kernel_rfl) ?_)
        refine sq (o_pv (.bool false) rfl (by kernel_rfl) ?_)
        refine sq (o_pv (.bool false) rfl (by kernel_rfl) ?_)
        refine nil_ ?_
        refine then_normal (hJ21 _ _ _ ⟨[(4, (.bool false))], fit_mk (fun _ _ => rfl) (by kernel_rfl) (vs_cons (by kernel_rfl) vs_nil), ?_⟩)
        exact ⟨X, false, rfl, E0, hXo, hS, hp⟩
      ·
        replace hp := hp.2 h27
        refine sq (o_pv (.bool true) (by kernel_rfl) (x_ndt (p := (b : ByteArray) = (ByteArray.mk #[])) (x_strne (by kernel_rfl) (by kernel_rfl)) h27) ?_)
        refine sq (o_pv (.bool true) rfl (by kernel_rfl) ?_)
        refine sq (o_pv (.bool true) rfl (by kernel_rfl) ?_)
        refine sq (o_pv (.string a) (by kernel_rfl) (by kernel_rfl) ?_)
        refine sq (o_pv (.string b) (by kernel_rfl) (by kernel_rfl) ?_)
        refine sq (o_call 23 #[(.string a), (.string b)] (by kernel_rfl) (x_call Tryd.call23 (by kernel_rfl)) (rectoref1_Under_w (X := []) (p := a) (dir := b) (Old.nil _) za1 zb2 hp) ?_)
        rintro _ w29 ⟨r28, hp, e30, rfl⟩
        have s31 := Step.of0 X e30
        cases r28
        ·
          replace hp := hp.2 rfl
          refine sq (o_pv (.bool false) (by kernel_rfl) (by kernel_rfl) ?_)
          refine sq (o_pv (.string b) (by kernel_rfl) (by kernel_rfl) ?_)
          refine sq (o_pv (.string a) (by kernel_rfl) (by kernel_rfl) ?_)
          refine sq (o_call 23 #[(.string b), (.string a)] (by kernel_rfl) (x_call Tryd.call23 (by kernel_rfl)) (rectoref1_Under_w (X := []) (p := b) (dir := a) (Old.nil _) zb2 za1 hp) ?_)
          rintro _ w33 ⟨r32, hp, e34, rfl⟩
          have s35 := Step.of0 X e34
          refine sq (o_pv (.bool r32) (by kernel_rfl) (by kernel_rfl) ?_)
          refine sq (o_pv (.bool r32) rfl (by kernel_rfl) ?_)
          refine sq (o_pv (.bool r32) rfl (by kernel_rfl) ?_)
          refine nil_ ?_
          have E36 := (Evo.then0 (Evo.then0 E0 e30) e34)
          have hXo37 := (Old.step (Old.step hXo s31) s35)
          have hS38 := (Sub.trans (Sub.trans hS (Step.up s31)) (Step.up s35))
          refine then_normal (hJ21 _ _ _ ⟨[(4, (.bool r32))], fit_mk (fun _ _ => rfl) (by kernel_rfl) (vs_cons (by kernel_rfl) vs_nil), ?_⟩)
          exact ⟨X, r32, rfl, E36, hXo37, hS38, hp⟩
        ·
          replace hp := hp.1 rfl
          refine sq (o_pv (.bool true) (by kernel_rfl) (by kernel_rfl) ?_)
          refine sq (o_not (by kernel_rfl) ?_)
          refine sq (o_not (by kernel_rfl) ?_)
          refine sq (o_not (by kernel_rfl) ?_)
          refine sq (o_pv (.bool true) (by kernel_rfl) (by kernel_rfl) ?_)
          refine sq (o_pv (.bool true) rfl (by kernel_rfl) ?_)
          refine sq (o_pv (.bool true) rfl (by kernel_rfl) ?_)
          refine nil_ ?_
          have E39 := (Evo.then0 E0 e30)
          have hXo40 := (Old.step hXo s31)
          have hS41 := (Sub.trans hS (Step.up s31))
          refine then_normal (hJ21 _ _ _ ⟨[(4, (.bool true))], fit_mk (fun _ _ => rfl) (by kernel_rfl) (vs_cons (by kernel_rfl) vs_nil), ?_⟩)
          exact ⟨X, true, rfl, E39, hXo40, hS41, hp⟩
  ·
    rintro _ w18 g42 ⟨X19, s15, rfl, E23, hXo24, hS25, hv22⟩
    replace hp := hk17 s15 hv22
    refine then_normal (K4 _ _ _ _ ?_)
    refine wp_ret ?_
    refine end_ret hQ (.bool s15) (by kernel_rfl) ?_
    exact ⟨s15, hp, E23, rfl⟩

def rectoref1_Compare_p (a : ByteArray) (b : ByteArray) (Q : Int → Prop) : Prop :=
  ((a.size ≤ maxLen) → ((b.size ≤ maxLen) → ((((sless a b) = true) → Q (-1 : Int)) ∧ (((sless a b) = false) → ((((a : ByteArray) = b) → Q (0 : Int)) ∧ ((¬ ((a : ByteArray) = b)) → Q (1 : Int)))))))
set_option maxRecDepth 20000 in
set_option maxHeartbeats 4000000 in
theorem rectoref1_Compare_w {X : List Nat} {w : World} {a : ByteArray} {b : ByteArray} {Q : Int → Prop} (hX0 : Old X w) (za1 : a.size ≤ maxLen) (zb2 : b.size ≤ maxLen) (hp : rectoref1_Compare_p a b Q) :
    Calls Tryd.prog 26 #[(.string a), (.string b)] w (Ret fun v w' => ∃ (r0 : Int), Q r0 ∧ Evo [] w w' ∧ v = (.int .i64 r0) ∧ inR .i64 r0) := by
  have hXo := hX0
  have E0 : Evo [] w w := RB.refl _ _ _
  have hS : Sub X X := Sub.refl _
  unfold rectoref1_Compare_p at hp
  refine enter_ Tryd.func26 rfl 13 [(0, (.string a)), (1, (.string b))] (by kernel_rfl) (fun Qe hQ => ?_)
  replace hp := hp za1
  replace hp := hp zb2
  refine seq_ (fun _ K3 => ?_)
  refine reg_ ?_
  refine sq (o_pv (.int .i64 (0 : Int)) rfl (by kernel_rfl) ?_)
  refine nil_ ?_
  refine then_normal (K3 _ _ _ _ ?_)
  refine seq_ (fun _ K4 => ?_)
  refine wp_block ?_
  refine seq_ (fun _ K5 => ?_)
  refine reg_ ?_
  refine sq (o_pv (.string a) rfl (by kernel_rfl) ?_)
  refine sq (o_pv (.string b) rfl (by kernel_rfl) ?_)
  refine sq (o_pv (.bool (sless a b)) rfl (x_strlss (by kernel_rfl) (by kernel_rfl)) ?_)
  refine sq (o_pv (.bool (sless a b)) rfl (by kernel_rfl) ?_)
  refine nil_ ?_
  refine then_normal (K5 _ _ _ _ ?_)
  refine cond_b (sless a b) (by kernel_rfl) (fun h6 => ?_) (fun h6 => ?_)
  ·
    replace hp := hp.1 h6
    refine seq_ (fun _ K7 => ?_)
    refine reg_ ?_
    refine sq (o_pv (.int .i64 (-1 : Int)) rfl (by kernel_rfl) ?_)
    refine nil_ ?_
    refine then_normal (K7 _ _ _ _ ?_)
    refine wp_ret ?_
    refine blk_ret ?_
    refine then_ret ?_
    refine end_ret hQ (.int .i64 (-1 : Int)) (by kernel_rfl) ?_
    exact ⟨(-1 : Int), hp, E0, rfl, (by decide)⟩
  ·
    replace hp := hp.2 h6
    refine seq_ (fun _ K8 => ?_)
    refine reg_ ?_
    refine sq (o_pv (.string a) rfl (by kernel_rfl) ?_)
    refine sq (o_pv (.string b) rfl (by kernel_rfl) ?_)
    refine sq (o_pv (.bool (decide ((a : ByteArray) = b))) rfl (x_streq (by kernel_rfl) (by kernel_rfl)) ?_)
    refine sq (o_pv (.bool (decide ((a : ByteArray) = b))) rfl (by kernel_rfl) ?_)
    refine nil_ ?_
    refine then_normal (K8 _ _ _ _ ?_)
    refine cond_d ((a : ByteArray) = b) (by kernel_rfl) (fun h9 => ?_) (fun h9 => ?_)
    ·
      replace hp := hp.1 h9
      refine seq_ (fun _ K10 => ?_)
      refine reg_ ?_
      refine sq (o_pv (.int .i64 (0 : Int)) rfl (by kernel_rfl) ?_)
      refine nil_ ?_
      refine then_normal (K10 _ _ _ _ ?_)
      refine wp_ret ?_
      refine blk_ret ?_
      refine then_ret ?_
      refine end_ret hQ (.int .i64 (0 : Int)) (by kernel_rfl) ?_
      exact ⟨(0 : Int), hp, E0, rfl, (by decide)⟩
    ·
      replace hp := hp.2 h9
      refine wp_skip ?_
      refine blk_normal ?_
      refine then_normal (K4 _ _ _ _ ?_)
      refine seq_ (fun _ K11 => ?_)
      refine reg_ ?_
      refine sq (o_pv (.int .i64 (1 : Int)) rfl (by kernel_rfl) ?_)
      refine nil_ ?_
      refine then_normal (K11 _ _ _ _ ?_)
      refine wp_ret ?_
      refine end_ret hQ (.int .i64 (1 : Int)) (by kernel_rfl) ?_
      exact ⟨(1 : Int), hp, E0, rfl, (by decide)⟩

def rectolaw1_PathTwo_p (a : ByteArray) (b : ByteArray) (Q : Bool → Prop) : Prop :=
  ((a.size ≤ maxLen) → ((b.size ≤ maxLen) → (rectolaw1_known_p  (fun (r6 : Bool) => ((((!r6) = true) → Q false) ∧ (((!r6) = false) → (((((a.size : Int) > (200 : Int)) ∨ ((b.size : Int) > (200 : Int))) → Q true) ∧ ((¬ (((a.size : Int) > (200 : Int)) ∨ ((b.size : Int) > (200 : Int)))) → (path_Clash_p a b (fun (r25 : Bool) => (∃ k69 : Bool → Prop, (∀ (s68 : Bool), k69 s68 → Q s68) ∧ (path_Under_p a b (fun (r82 : Bool) => (rectoref1_Under_p a b (fun (r86 : Bool) => ((((r82 : Bool) = r86) → (path_Under_p b a (fun (r91 : Bool) => (rectoref1_Under_p b a (fun (r95 : Bool) => ((((r91 : Bool) = r95) → (rectoref1_Clash_p a b (fun (r100 : Bool) => ((((r25 : Bool) = r100) → (path_Clash_p b a (fun (r105 : Bool) => ((((r25 : Bool) = r105) → (path_Compare_p a b (fun (r110 : Int) => ((inR .i64 r110) → (rectoref1_Compare_p a b (fun (r115 : Int) => ((inR .i64 r115) → (k69 (decide (r110 = r115)))))))))) ∧ ((¬ ((r25 : Bool) = r105)) → (k69 false)))))) ∧ ((¬ ((r25 : Bool) = r100)) → (k69 false)))))) ∧ ((¬ ((r91 : Bool) = r95)) → (k69 false)))))))) ∧ ((¬ ((r82 : Bool) = r86)) → (k69 false))))))))))))))))))
set_option maxRecDepth 20000 in
set_option maxHeartbeats 4000000 in
theorem rectolaw1_PathTwo_w {X : List Nat} {w : World} {a : ByteArray} {b : ByteArray} {Q : Bool → Prop} (hX0 : Old X w) (za1 : a.size ≤ maxLen) (zb2 : b.size ≤ maxLen) (hp : rectolaw1_PathTwo_p a b Q) :
    Calls Tryd.prog 4 #[(.string a), (.string b)] w (Ret fun v w' => ∃ (r0 : Bool), Q r0 ∧ Evo [] w w' ∧ v = (.bool r0)) := by
  have hXo := hX0
  have E0 : Evo [] w w := RB.refl _ _ _
  have hS : Sub X X := Sub.refl _
  unfold rectolaw1_PathTwo_p at hp
  refine enter_ Tryd.func4 rfl 58 [(0, (.string a)), (1, (.string b))] (by kernel_rfl) (fun Qe hQ => ?_)
  replace hp := hp za1
  replace hp := hp zb2
  refine seq_ (fun _ K3 => ?_)
  refine reg_ ?_
  refine sq (o_pv (.bool false) rfl (by kernel_rfl) ?_)
  refine nil_ ?_
  refine then_normal (K3 _ _ _ _ ?_)
  refine seq_ (fun _ K4 => ?_)
  refine seq_ (fun _ K5 => ?_)
  refine reg_ ?_
  refine sq (o_call 13 #[] rfl (x_call Tryd.call13 (by kernel_rfl)) (rectolaw1_known_w (X := [])  (Old.nil _) hp) ?_)
  rintro _ w7 ⟨r6, hp, e8, rfl⟩
  have s9 := Step.of0 X e8
  refine sq (o_pv (.bool (!r6)) rfl (by kernel_rfl) ?_)
  refine nil_ ?_
  refine then_normal (K5 _ _ _ _ ?_)
  refine cond_b (!r6) (by kernel_rfl) (fun h10 => ?_) (fun h10 => ?_)
  ·
    replace hp := hp.1 h10
    refine seq_ (fun _ K11 => ?_)
    refine reg_ ?_
    refine sq (o_pv (.bool false) rfl (by kernel_rfl) ?_)
    refine nil_ ?_
    refine then_normal (K11 _ _ _ _ ?_)
    refine wp_ret ?_
    refine then_ret ?_
    have E12 := (Evo.then0 E0 e8)
    refine end_ret hQ (.bool false) (by kernel_rfl) ?_
    exact ⟨false, hp, E12, rfl⟩
  ·
    replace hp := hp.2 h10
    refine wp_skip ?_
    refine then_normal (K4 _ _ _ _ ?_)
    refine seq_ (fun _ K13 => ?_)
    refine seq_ (fun _ K14 => ?_)
    refine ground_ ?_
    refine join_ 65280 (fun lq w18 => lq = [(15, (.bool (decide (((a.size : Int) > (200 : Int)) ∨ ((b.size : Int) > (200 : Int))))))] ∧ w7 = w18) (fun Kj16 hJ17 => ?_) ?_
    ·
      refine reg_ ?_
      refine sq (o_pv (.string a) rfl (by kernel_rfl) ?_)
      refine sq (o_pv (.int .i64 (a.size : Int)) rfl (by kernel_rfl) ?_)
      by_cases h20 : (a.size : Int) > (200 : Int)
      ·
        refine sq (o_pv (.bool true) rfl (x_dt (p := (a.size : Int) > (200 : Int)) (by kernel_rfl) h20) ?_)
        refine sq (o_pv (.bool true) rfl (by kernel_rfl) ?_)
        refine sq (o_not (by kernel_rfl) ?_)
        refine sq (o_not (by kernel_rfl) ?_)
        refine sq (o_not (by kernel_rfl) ?_)
        refine sq (o_pv (.bool true) rfl (by kernel_rfl) ?_)
        refine nil_ ?_
        refine then_normal (hJ17 _ _ _ ⟨[(15, (.bool (decide (((a.size : Int) > (200 : Int)) ∨ ((b.size : Int) > (200 : Int))))))], fit_mk (fun _ _ => rfl) (by kernel_rfl) (vs_cons (Eq.trans (b := (.bool true)) (by kernel_rfl) (dec_t (iff_true_intro (Or.inl h20))).symm) vs_nil), rfl, rfl⟩)
      ·
        refine sq (o_pv (.bool false) rfl (x_df (p := (a.size : Int) > (200 : Int)) (by kernel_rfl) h20) ?_)
        refine sq (o_pv (.bool false) rfl (by kernel_rfl) ?_)
        refine sq (o_pv (.string b) (by kernel_rfl) (by kernel_rfl) ?_)
        refine sq (o_pv (.int .i64 (b.size : Int)) (by kernel_rfl) (by kernel_rfl) ?_)
        refine sq (o_pv (.bool (decide ((b.size : Int) > (200 : Int)))) (by kernel_rfl) (by kernel_rfl) ?_)
        refine sq (o_pv (.bool (decide ((b.size : Int) > (200 : Int)))) rfl (by kernel_rfl) ?_)
        refine nil_ ?_
        refine then_normal (hJ17 _ _ _ ⟨[(15, (.bool (decide (((a.size : Int) > (200 : Int)) ∨ ((b.size : Int) > (200 : Int))))))], fit_mk (fun _ _ => rfl) (by kernel_rfl) (vs_cons (Eq.trans (b := (.bool (decide ((b.size : Int) > (200 : Int))))) (by kernel_rfl) (dec_d ((or_iff_right h20).trans Iff.rfl)).symm) vs_nil), rfl, rfl⟩)
    ·
      rintro _ w18 g19 ⟨rfl, hw⟩
      subst hw
      refine then_normal (K14 _ _ _ _ ?_)
      refine cond_d (((a.size : Int) > (200 : Int)) ∨ ((b.size : Int) > (200 : Int))) (by kernel_rfl) (fun h21 => ?_) (fun h21 => ?_)
      ·
        replace hp := hp.1 h21
        refine seq_ (fun _ K22 => ?_)
        refine reg_ ?_
        refine sq (o_pv (.bool true) rfl (by kernel_rfl) ?_)
        refine nil_ ?_
        refine then_normal (K22 _ _ _ _ ?_)
        refine wp_ret ?_
        refine then_ret ?_
        have E23 := (Evo.then0 E0 e8)
        refine end_ret hQ (.bool true) (by kernel_rfl) ?_
        exact ⟨true, hp, E23, rfl⟩
      ·
        replace hp := hp.2 h21
        refine wp_skip ?_
        refine then_normal (K13 _ _ _ _ ?_)
        refine seq_ (fun _ K24 => ?_)
        refine reg_ ?_
        refine sq (o_pv (.string a) rfl (by kernel_rfl) ?_)
        refine sq (o_pv (.string b) rfl (by kernel_rfl) ?_)
        refine sq (o_call 21 #[(.string a), (.string b)] rfl (x_call Tryd.call21 (by kernel_rfl)) (path_Clash_w (X := []) (a := a) (b := b) (Old.nil _) za1 zb2 hp) ?_)
        rintro _ w26 ⟨r25, hp, e27, rfl⟩
        have s28 := Step.of0 X e27
        refine sq (o_pv (.bool r25) rfl (by kernel_rfl) ?_)
        refine nil_ ?_
        refine then_normal (K24 _ _ _ _ ?_)
        refine seq_ (fun _ K29 => ?_)
        have hXo76 := (Old.step (Old.step hXo s9) s28)
        have E77 := (Evo.then0 (Evo.then0 E0 e8) e27)
        have hS78 := (Sub.trans (Sub.trans hS (Step.up s9)) (Step.up s28))
        obtain ⟨k69, hk70, hp⟩ := hp
        refine ground_ ?_
        refine join_ 288230376151187472 (fun lq w71 => ∃ (X72 : List Nat) (s68 : Bool), (lq = [(4, (.bool s68))]) ∧ (Evo [] w w71) ∧ (Old X72 w71) ∧ (Sub X X72) ∧ (k69 s68)) (fun Kj73 hJ74 => ?_) ?_
        ·
          refine reg_ ?_
          refine sq (o_pv (.string a) rfl (by kernel_rfl) ?_)
          refine sq (o_pv (.string b) rfl (by kernel_rfl) ?_)
          refine sq (o_call 22 #[(.string a), (.string b)] rfl (x_call Tryd.call22 (by kernel_rfl)) (path_Under_w (X := []) (p := a) (dir := b) (Old.nil _) za1 zb2 hp) ?_)
          rintro _ w83 ⟨r82, hp, e84, rfl⟩
          have s85 := Step.of0 X e84
          refine sq (o_pv (.string a) rfl (by kernel_rfl) ?_)
          refine sq (o_pv (.string b) rfl (by kernel_rfl) ?_)
          refine sq (o_call 23 #[(.string a), (.string b)] rfl (x_call Tryd.call23 (by kernel_rfl)) (rectoref1_Under_w (X := []) (p := a) (dir := b) (Old.nil _) za1 zb2 hp) ?_)
          rintro _ w87 ⟨r86, hp, e88, rfl⟩
          have s89 := Step.of0 X e88
          by_cases h90 : (r82 : Bool) = r86
          ·
            replace hp := hp.1 h90
            refine sq (o_pv (.bool true) rfl (x_dt (p := (r82 : Bool) = r86) (x_booleq (a := r82) (b := r86) Tryd.underlying4 (by kernel_rfl) (by kernel_rfl)) h90) ?_)
            refine sq (o_pv (.bool true) rfl (by kernel_rfl) ?_)
            refine sq (o_pv (.string b) (by kernel_rfl) (by kernel_rfl) ?_)
            refine sq (o_pv (.string a) (by kernel_rfl) (by kernel_rfl) ?_)
            refine sq (o_call 22 #[(.string b), (.string a)] (by kernel_rfl) (x_call Tryd.call22 (by kernel_rfl)) (path_Under_w (X := []) (p := b) (dir := a) (Old.nil _) zb2 za1 hp) ?_)
            rintro _ w92 ⟨r91, hp, e93, rfl⟩
            have s94 := Step.of0 X e93
            refine sq (o_pv (.string b) (by kernel_rfl) (by kernel_rfl) ?_)
            refine sq (o_pv (.string a) (by kernel_rfl) (by kernel_rfl) ?_)
            refine sq (o_call 23 #[(.string b), (.string a)] (by kernel_rfl) (x_call Tryd.call23 (by kernel_rfl)) (rectoref1_Under_w (X := []) (p := b) (dir := a) (Old.nil _) zb2 za1 hp) ?_)
            rintro _ w96 ⟨r95, hp, e97, rfl⟩
            have s98 := Step.of0 X e97
            by_cases h99 : (r91 : Bool) = r95
            ·
              replace hp := hp.1 h99
              refine sq (o_pv (.bool true) (by kernel_rfl) (x_dt (p := (r91 : Bool) = r95) (x_booleq (a := r91) (b := r95) Tryd.underlying4 (by kernel_rfl) (by kernel_rfl)) h99) ?_)
              refine sq (o_pv (.bool true) rfl (by kernel_rfl) ?_)
              refine sq (o_pv (.bool true) rfl (by kernel_rfl) ?_)
              refine sq (o_pv (.bool r25) (by kernel_rfl) (by kernel_rfl) ?_)
              refine sq (o_pv (.string a) (by kernel_rfl) (by kernel_rfl) ?_)
              refine sq (o_pv (.string b) (by kernel_rfl) (by kernel_rfl) ?_)
              refine sq (o_call 24 #[(.string a), (.string b)] (by kernel_rfl) (x_call Tryd.call24 (by kernel_rfl)) (rectoref1_Clash_w (X := []) (a := a) (b := b) (Old.nil _) za1 zb2 hp) ?_)
              rintro _ w101 ⟨r100, hp, e102, rfl⟩
              have s103 := Step.of0 X e102
              by_cases h104 : (r25 : Bool) = r100
              ·
                replace hp := hp.1 h104
                refine sq (o_pv (.bool true) (by kernel_rfl) (x_dt (p := (r25 : Bool) = r100) (x_booleq (a := r25) (b := r100) Tryd.underlying4 (by kernel_rfl) (by kernel_rfl)) h104) ?_)
                refine sq (o_pv (.bool true) rfl (by kernel_rfl) ?_)
                refine sq (o_pv (.bool true) rfl (by kernel_rfl) ?_)
                refine sq (o_pv (.bool r25) (by kernel_rfl) (by kernel_rfl) ?_)
                refine sq (o_pv (.string b) (by kernel_rfl) (by kernel_rfl) ?_)
                refine sq (o_pv (.string a) (by kernel_rfl) (by kernel_rfl) ?_)
                refine sq (o_call 21 #[(.string b), (.string a)] (by kernel_rfl) (x_call Tryd.call21 (by kernel_rfl)) (path_Clash_w (X := []) (a := b) (b := a) (Old.nil _) zb2 za1 hp) ?_)
                rintro _ w106 ⟨r105, hp, e107, rfl⟩
                have s108 := Step.of0 X e107
                by_cases h109 : (r25 : Bool) = r105
                ·
                  replace hp := hp.1 h109
                  refine sq (o_pv (.bool true) (by kernel_rfl) (x_dt (p := (r25 : Bool) = r105) (x_booleq (a := r25) (b := r105) Tryd.underlying4 (by kernel_rfl) (by kernel_rfl)) h109) ?_)
                  refine sq (o_pv (.bool true) rfl (by kernel_rfl) ?_)
                  refine sq (o_pv (.bool true) rfl (by kernel_rfl) ?_)
                  refine sq (o_pv (.string a) (by kernel_rfl) (by kernel_rfl) ?_)
                  refine sq (o_pv (.string b) (by kernel_rfl) (by kernel_rfl) ?_)
                  refine sq (o_call 25 #[(.string a), (.string b)] (by kernel_rfl) (x_call Tryd.call25 (by kernel_rfl)) (path_Compare_w (X := []) (a := a) (b := b) (Old.nil _) za1 zb2 hp) ?_)
                  rintro _ w111 ⟨r110, hp, e112, rfl, rr114⟩
                  have s113 := Step.of0 X e112
                  replace hp := hp rr114
                  refine sq (o_pv (.string a) (by kernel_rfl) (by kernel_rfl) ?_)
                  refine sq (o_pv (.string b) (by kernel_rfl) (by kernel_rfl) ?_)
                  refine sq (o_call 26 #[(.string a), (.string b)] (by kernel_rfl) (x_call Tryd.call26 (by kernel_rfl)) (rectoref1_Compare_w (X := []) (a := a) (b := b) (Old.nil _) za1 zb2 hp) ?_)
                  rintro _ w116 ⟨r115, hp, e117, rfl, rr119⟩
                  have s118 := Step.of0 X e117
                  replace hp := hp rr119
                  refine sq (o_pv (.bool (decide (r110 = r115))) (by kernel_rfl) (by kernel_rfl) ?_)
                  refine sq (o_pv (.bool (decide (r110 = r115))) rfl (by kernel_rfl) ?_)
                  refine sq (o_pv (.bool (decide (r110 = r115))) rfl (by kernel_rfl) ?_)
                  refine nil_ ?_
                  have E120 := (Evo.then0 (Evo.then0 (Evo.then0 (Evo.then0 (Evo.then0 (Evo.then0 (Evo.then0 (Evo.then0 E77 e84) e88) e93) e97) e102) e107) e112) e117)
                  have hXo121 := (Old.step (Old.step (Old.step (Old.step (Old.step (Old.step (Old.step (Old.step hXo76 s85) s89) s94) s98) s103) s108) s113) s118)
                  have hS122 := (Sub.trans (Sub.trans (Sub.trans (Sub.trans (Sub.trans (Sub.trans (Sub.trans (Sub.trans hS78 (Step.up s85)) (Step.up s89)) (Step.up s94)) (Step.up s98)) (Step.up s103)) (Step.up s108)) (Step.up s113)) (Step.up s118))
                  refine then_normal (hJ74 _ _ _ ⟨[(4, (.bool (decide (r110 = r115))))], fit_mk (fun _ _ => rfl) (by kernel_rfl) (vs_cons (by kernel_rfl) vs_nil), ?_⟩)
                  exact ⟨X, (decide (r110 = r115)), rfl, E120, hXo121, hS122, hp⟩
                ·
                  replace hp := hp.2 h109
                  refine sq (o_pv (.bool false) (by kernel_rfl) (x_df (p := (r25 : Bool) = r105) (x_booleq (a := r25) (b := r105) Tryd.underlying4 (by kernel_rfl) (by kernel_rfl)) h109) ?_)
                  refine sq (o_pv (.bool false) rfl (by kernel_rfl) ?_)
                  refine sq (o_pv (.bool false) rfl (by kernel_rfl) ?_)
                  refine sq (o_not (by kernel_rfl) ?_)
                  refine sq (o_not (by kernel_rfl) ?_)
                  refine sq (o_not (by kernel_rfl) ?_)
                  refine sq (o_not (by kernel_rfl) ?_)
                  refine sq (o_not (by kernel_rfl) ?_)
                  refine sq (o_not (by kernel_rfl) ?_)
                  refine sq (o_not (by kernel_rfl) ?_)
                  refine sq (o_pv (.bool false) rfl (by kernel_rfl) ?_)
                  refine sq (o_pv (.bool false) rfl (by kernel_rfl) ?_)
                  refine nil_ ?_
                  have E123 := (Evo.then0 (Evo.then0 (Evo.then0 (Evo.then0 (Evo.then0 (Evo.then0 E77 e84) e88) e93) e97) e102) e107)
                  have hXo124 := (Old.step (Old.step (Old.step (Old.step (Old.step (Old.step hXo76 s85) s89) s94) s98) s103) s108)
                  have hS125 := (Sub.trans (Sub.trans (Sub.trans (Sub.trans (Sub.trans (Sub.trans hS78 (Step.up s85)) (Step.up s89)) (Step.up s94)) (Step.up s98)) (Step.up s103)) (Step.up s108))
                  refine then_normal (hJ74 _ _ _ ⟨[(4, (.bool false))], fit_mk (fun _ _ => rfl) (by kernel_rfl) (vs_cons (by kernel_rfl) vs_nil), ?_⟩)
                  exact ⟨X, false, rfl, E123, hXo124, hS125, hp⟩
              ·
                replace hp := hp.2 h104
                refine sq (o_pv (.bool false) (by kernel_rfl) (x_df (p := (r25 : Bool) = r100) (x_booleq (a := r25) (b := r100) Tryd.underlying4 (by kernel_rfl) (by kernel_rfl)) h104) ?_)
                refine sq (o_pv (.bool false) rfl (by kernel_rfl) ?_)
                refine sq (o_pv (.bool false) rfl (by kernel_rfl) ?_)
                refine sq (o_not (by kernel_rfl) ?_)
                refine sq (o_not (by kernel_rfl) ?_)
                refine sq (o_not (by kernel_rfl) ?_)
                refine sq (o_not (by kernel_rfl) ?_)
                refine sq (o_not (by kernel_rfl) ?_)
                refine sq (o_pv (.bool false) rfl (by kernel_rfl) ?_)
                refine sq (o_pv (.bool false) rfl (by kernel_rfl) ?_)
                refine sq (o_not (by kernel_rfl) ?_)
                refine sq (o_not (by kernel_rfl) ?_)
                refine sq (o_not (by kernel_rfl) ?_)
                refine sq (o_not (by kernel_rfl) ?_)
                refine sq (o_not (by kernel_rfl) ?_)
                refine sq (o_not (by kernel_rfl) ?_)
                refine sq (o_not (by kernel_rfl) ?_)
                refine sq (o_pv (.bool false) rfl (by kernel_rfl) ?_)
                refine sq (o_pv (.bool false) rfl (by kernel_rfl) ?_)
                refine nil_ ?_
                have E126 := (Evo.then0 (Evo.then0 (Evo.then0 (Evo.then0 (Evo.then0 E77 e84) e88) e93) e97) e102)
                have hXo127 := (Old.step (Old.step (Old.step (Old.step (Old.step hXo76 s85) s89) s94) s98) s103)
                have hS128 := (Sub.trans (Sub.trans (Sub.trans (Sub.trans (Sub.trans hS78 (Step.up s85)) (Step.up s89)) (Step.up s94)) (Step.up s98)) (Step.up s103))
                refine then_normal (hJ74 _ _ _ ⟨[(4, (.bool false))], fit_mk (fun _ _ => rfl) (by kernel_rfl) (vs_cons (by kernel_rfl) vs_nil), ?_⟩)
                exact ⟨X, false, rfl, E126, hXo127, hS128, hp⟩
            ·
              replace hp := hp.2 h99
              refine sq (o_pv (.bool false) (by kernel_rfl) (x_df (p := (r91 : Bool) = r95) (x_booleq (a := r91) (b := r95) Tryd.underlying4 (by kernel_rfl) (by kernel_rfl)) h99) ?_)
              refine sq (o_pv (.bool false) rfl (by kernel_rfl) ?_)
              refine sq (o_pv (.bool false) rfl (by kernel_rfl) ?_)
              refine sq (o_not (by kernel_rfl) ?_)
              refine sq (o_not (by kernel_rfl) ?_)
              refine sq (o_not (by kernel_rfl) ?_)
              refine sq (o_not (by kernel_rfl) ?_)
              refine sq (o_not (by kernel_rfl) ?_)
              refine sq (o_pv (.bool false) rfl (by kernel_rfl) ?_)
              refine sq (o_pv (.bool false) rfl (by kernel_rfl) ?_)
              refine sq (o_not (by kernel_rfl) ?_)
              refine sq (o_not (by kernel_rfl) ?_)
              refine sq (o_not (by kernel_rfl) ?_)
              refine sq (o_not (by kernel_rfl) ?_)
              refine sq (o_not (by kernel_rfl) ?_)
              refine sq (o_pv (.bool false) rfl (by kernel_rfl) ?_)
              refine sq (o_pv (.bool false) rfl (by kernel_rfl) ?_)
              refine sq (o_not (by kernel_rfl) ?_)
              refine sq (o_not (by kernel_rfl) ?_)
              refine sq (o_not (by kernel_rfl) ?_)
              refine sq (o_not (by kernel_rfl) ?_)
              refine sq (o_not (by kernel_rfl) ?_)
              refine sq (o_not (by kernel_rfl) ?_)
              refine sq (o_not (by kernel_rfl) ?_)
              refine sq (o_pv (.bool false) rfl (by kernel_rfl) ?_)
              refine sq (o_pv (.bool false) rfl (by kernel_rfl) ?_)
              refine nil_ ?_
              have E129 := (Evo.then0 (Evo.then0 (Evo.then0 (Evo.then0 E77 e84) e88) e93) e97)
              have hXo130 := (Old.step (Old.step (Old.step (Old.step hXo76 s85) s89) s94) s98)
              have hS131 := (Sub.trans (Sub.trans (Sub.trans (Sub.trans hS78 (Step.up s85)) (Step.up s89)) (Step.up s94)) (Step.up s98))
              refine then_normal (hJ74 _ _ _ ⟨[(4, (.bool false))], fit_mk (fun _ _ => rfl) (by kernel_rfl) (vs_cons (by kernel_rfl) vs_nil), ?_⟩)
              exact ⟨X, false, rfl, E129, hXo130, hS131, hp⟩
          ·
            replace hp := hp.2 h90
            refine sq (o_pv (.bool false) rfl (x_df (p := (r82 : Bool) = r86) (x_booleq (a := r82) (b := r86) Tryd.underlying4 (by kernel_rfl) (by kernel_rfl)) h90) ?_)
            refine sq (o_pv (.bool false) rfl (by kernel_rfl) ?_)
            refine sq (o_not (by kernel_rfl) ?_)
            refine sq (o_not (by kernel_rfl) ?_)
            refine sq (o_not (by kernel_rfl) ?_)
            refine sq (o_not (by kernel_rfl) ?_)
            refine sq (o_not (by kernel_rfl) ?_)
            refine sq (o_not (by kernel_rfl) ?_)
            refine sq (o_not (by kernel_rfl) ?_)
            refine sq (o_pv (.bool false) rfl (by kernel_rfl) ?_)
            refine sq (o_pv (.bool false) rfl (by kernel_rfl) ?_)
            refine sq (o_not (by kernel_rfl) ?_)
            refine sq (o_not (by kernel_rfl) ?_)
            refine sq (o_not (by kernel_rfl) ?_)
            refine sq (o_not (by kernel_rfl) ?_)
            refine sq (o_not (by kernel_rfl) ?_)
            refine sq (o_pv (.bool false) rfl (by kernel_rfl) ?_)
            refine sq (o_pv (.bool false) rfl (by kernel_rfl) ?_)
            refine sq (o_not (by kernel_rfl) ?_)
            refine sq (o_not (by kernel_rfl) ?_)
            refine sq (o_not (by kernel_rfl) ?_)
            refine sq (o_not (by kernel_rfl) ?_)
            refine sq (o_not (by kernel_rfl) ?_)
            refine sq (o_pv (.bool false) rfl (by kernel_rfl) ?_)
            refine sq (o_pv (.bool false) rfl (by kernel_rfl) ?_)
            refine sq (o_not (by kernel_rfl) ?_)
            refine sq (o_not (by kernel_rfl) ?_)
            refine sq (o_not (by kernel_rfl) ?_)
            refine sq (o_not (by kernel_rfl) ?_)
            refine sq (o_not (by kernel_rfl) ?_)
            refine sq (o_not (by kernel_rfl) ?_)
            refine sq (o_not (by kernel_rfl) ?_)
            refine sq (o_pv (.bool false) rfl (by kernel_rfl) ?_)
            refine sq (o_pv (.bool false) rfl (by kernel_rfl) ?_)
            refine nil_ ?_
            have E132 := (Evo.then0 (Evo.then0 E77 e84) e88)
            have hXo133 := (Old.step (Old.step hXo76 s85) s89)
            have hS134 := (Sub.trans (Sub.trans hS78 (Step.up s85)) (Step.up s89))
            refine then_normal (hJ74 _ _ _ ⟨[(4, (.bool false))], fit_mk (fun _ _ => rfl) (by kernel_rfl) (vs_cons (by kernel_rfl) vs_nil), ?_⟩)
            exact ⟨X, false, rfl, E132, hXo133, hS134, hp⟩
        ·
          rintro _ w71 g135 ⟨X72, s68, rfl, E79, hXo80, hS81, hv75⟩
          replace hp := hk70 s68 hv75
          refine then_normal (K29 _ _ _ _ ?_)
          refine wp_ret ?_
          refine end_ret hQ (.bool s68) (by kernel_rfl) ?_
          exact ⟨s68, hp, E79, rfl⟩

end Go.Proofs.YtcgfjmfbfildpaaRDoor
