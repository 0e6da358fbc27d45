/- Walks of functions: what each asks and computes, as a plain predicate, and the contract from it. -/
import Derived.Test.YtaolmfepdmgohaaGreatDoorChecked
import Derived.Test.YtaolmfepdmgohaaGreatDoorFp4
namespace Go.Proofs.YtaolmfepdmgohaaGreatDoor
open Go
def rectoref1_good_p (c : Int) (Q : Bool → Prop) : Prop :=
 ((inR .u8 c) → Q (decide (((c ≥ (97 : Int)) ∧ ((c ≤ (122 : Int)) ∨ (((c ≥ (48 : Int)) ∧ ((c ≤ (57 : Int)) ∨ ((c = (46 : Int)) ∨ ((c = (45 : Int)) ∨ (c = (95 : Int)))))) ∨ ((¬ (c ≥ (48 : Int))) ∧ ((c = (46 : Int)) ∨ ((c = (45 : Int)) ∨ (c = (95 : Int)))))))) ∨ ((¬ (c ≥ (97 : Int))) ∧ (((c ≥ (48 : Int)) ∧ ((c ≤ (57 : Int)) ∨ ((c = (46 : Int)) ∨ ((c = (45 : Int)) ∨ (c = (95 : Int)))))) ∨ ((¬ (c ≥ (48 : Int))) ∧ ((c = (46 : Int)) ∨ ((c = (45 : Int)) ∨ (c = (95 : Int))))))))))
set_option maxRecDepth 20000 in
set_option maxHeartbeats 4000000 in
theorem rectoref1_good_w {X : List Nat} {w : World} {c : Int} {Q : Bool → Prop} (y6 : Old X w) (y7 : inR .u8 c) (hp : rectoref1_good_p c Q) :
  Calls Tryz.prog 84 #[(.int .u8 c)] w (Ret fun v w' => ∃ (y8 : Bool), Q y8 ∧ Evo [] w w' ∧ v = (.bool y8)) := by
 have hXo := y6
 have E0 : Evo [] w w := RB.refl _ _ _
 have hS : Sub X X := Sub.refl _
 unfold rectoref1_good_p at hp
 refine enter_ Tryz.func84 rfl 29 [(0, (.int .u8 c))] (by kernel_rfl) (fun Qe hQ => ?_)
 replace hp := hp y7
 refine seq_ (fun _ y9 => ?_)
 refine reg_ ?_
 refine sq (o_pv (.bool false) rfl (by kernel_rfl) ?_)
 refine nil_ ?_
 refine then_normal (y9 _ _ _ _ ?_)
 refine seq_ (fun _ v0 => ?_)
 refine ground_ ?_
 refine join_ 536870908 (fun lq y5 => lq = [(2, (.bool (decide (((c ≥ (97 : Int)) ∧ ((c ≤ (122 : Int)) ∨ (((c ≥ (48 : Int)) ∧ ((c ≤ (57 : Int)) ∨ ((c = (46 : Int)) ∨ ((c = (45 : Int)) ∨ (c = (95 : Int)))))) ∨ ((¬ (c ≥ (48 : Int))) ∧ ((c = (46 : Int)) ∨ ((c = (45 : Int)) ∨ (c = (95 : Int)))))))) ∨ ((¬ (c ≥ (97 : Int))) ∧ (((c ≥ (48 : Int)) ∧ ((c ≤ (57 : Int)) ∨ ((c = (46 : Int)) ∨ ((c = (45 : Int)) ∨ (c = (95 : Int)))))) ∨ ((¬ (c ≥ (48 : Int))) ∧ ((c = (46 : Int)) ∨ ((c = (45 : Int)) ∨ (c = (95 : Int)))))))))))] ∧ w = y5) (fun v1 z0 => ?_) ?_
 ·
  refine reg_ ?_
  refine sq (o_pv (.int .u8 c) rfl (by kernel_rfl) ?_)
  by_cases z1 : c ≥ (97 : Int)
  ·
   refine sq (o_pv (.bool true) rfl (x_dt (p := c ≥ (97 : Int)) (by kernel_rfl) z1) ?_)
   refine sq (o_pv (.bool true) rfl (by kernel_rfl) ?_)
   refine sq (o_pv (.int .u8 c) (by kernel_rfl) (by kernel_rfl) ?_)
   by_cases z2 : c ≤ (122 : Int)
   ·
    refine sq (o_pv (.bool true) (by kernel_rfl) (x_dt (p := c ≤ (122 : Int)) (by kernel_rfl) z2) ?_)
    refine sq (o_pv (.bool true) rfl (by kernel_rfl) ?_)
    refine sq (o_pv (.bool true) rfl (by kernel_rfl) ?_)
    refine sq (o_not (by kernel_rfl) ?_)
    refine sq (o_not (by kernel_rfl) ?_)
    refine sq (o_not (by kernel_rfl) ?_)
    refine sq (o_not (by kernel_rfl) ?_)
    refine sq (o_not (by kernel_rfl) ?_)
    refine sq (o_not (by kernel_rfl) ?_)
    refine sq (o_pv (.bool true) rfl (by kernel_rfl) ?_)
    refine sq (o_pv (.bool true) rfl (by kernel_rfl) ?_)
    refine sq (o_not (by kernel_rfl) ?_)
    refine sq (o_not (by kernel_rfl) ?_)
    refine sq (o_pv (.bool true) rfl (by kernel_rfl) ?_)
    refine sq (o_pv (.bool true) rfl (by kernel_rfl) ?_)
    refine sq (o_not (by kernel_rfl) ?_)
    refine sq (o_not (by kernel_rfl) ?_)
    refine sq (o_pv (.bool true) rfl (by kernel_rfl) ?_)
    refine sq (o_pv (.bool true) rfl (by kernel_rfl) ?_)
    refine sq (o_not (by kernel_rfl) ?_)
    refine sq (o_not (by kernel_rfl) ?_)
    refine sq (o_pv (.bool true) rfl (by kernel_rfl) ?_)
    refine sq (o_pv (.bool true) rfl (by kernel_rfl) ?_)
    refine nil_ ?_
    refine then_normal (z0 _ _ _ ⟨[(2, (.bool (decide (((c ≥ (97 : Int)) ∧ ((c ≤ (122 : Int)) ∨ (((c ≥ (48 : Int)) ∧ ((c ≤ (57 : Int)) ∨ ((c = (46 : Int)) ∨ ((c = (45 : Int)) ∨ (c = (95 : Int)))))) ∨ ((¬ (c ≥ (48 : Int))) ∧ ((c = (46 : Int)) ∨ ((c = (45 : Int)) ∨ (c = (95 : Int)))))))) ∨ ((¬ (c ≥ (97 : Int))) ∧ (((c ≥ (48 : Int)) ∧ ((c ≤ (57 : Int)) ∨ ((c = (46 : Int)) ∨ ((c = (45 : Int)) ∨ (c = (95 : Int)))))) ∨ ((¬ (c ≥ (48 : Int))) ∧ ((c = (46 : Int)) ∨ ((c = (45 : Int)) ∨ (c = (95 : Int)))))))))))], fit_mk (fun _ _ => rfl) (by kernel_rfl) (vs_cons (Eq.trans (b := (.bool true)) (by kernel_rfl) (dec_t (by simp [z1, z2])).symm) vs_nil), rfl, rfl⟩)
   ·
    refine sq (o_pv (.bool false) (by kernel_rfl) (x_df (p := c ≤ (122 : Int)) (by kernel_rfl) z2) ?_)
    refine sq (o_pv (.bool false) rfl (by kernel_rfl) ?_)
    refine sq (o_pv (.bool false) rfl (by kernel_rfl) ?_)
    refine sq (o_pv (.int .u8 c) (by kernel_rfl) (by kernel_rfl) ?_)
    by_cases z3 : c ≥ (48 : Int)
    ·
     refine sq (o_pv (.bool true) (by kernel_rfl) (x_dt (p := c ≥ (48 : Int)) (by kernel_rfl) z3) ?_)
     refine sq (o_pv (.bool true) (by kernel_rfl) (by kernel_rfl) ?_)
     refine sq (o_pv (.int .u8 c) (by kernel_rfl) (by kernel_rfl) ?_)
     by_cases z5 : c ≤ (57 : Int)
     ·
      refine sq (o_pv (.bool true) (by kernel_rfl) (x_dt (p := c ≤ (57 : Int)) (by kernel_rfl) z5) ?_)
      refine sq (o_pv (.bool true) (by kernel_rfl) (by kernel_rfl) ?_)
      refine sq (o_pv (.bool true) rfl (by kernel_rfl) ?_)
      refine sq (o_pv (.bool true) rfl (by kernel_rfl) ?_)
      refine sq (o_not (by kernel_rfl) ?_)
      refine sq (o_not (by kernel_rfl) ?_)
      refine sq (o_pv (.bool true) rfl (by kernel_rfl) ?_)
      refine sq (o_pv (.bool true) rfl (by kernel_rfl) ?_)
      refine sq (o_not (by kernel_rfl) ?_)
      refine sq (o_not (by kernel_rfl) ?_)
      refine sq (o_pv (.bool true) rfl (by kernel_rfl) ?_)
      refine sq (o_pv (.bool true) rfl (by kernel_rfl) ?_)
      refine sq (o_not (by kernel_rfl) ?_)
      refine sq (o_not (by kernel_rfl) ?_)
      refine sq (o_pv (.bool true) rfl (by kernel_rfl) ?_)
      refine sq (o_pv (.bool true) rfl (by kernel_rfl) ?_)
      refine nil_ ?_
      refine then_normal (z0 _ _ _ ⟨[(2, (.bool (decide (((c ≥ (97 : Int)) ∧ ((c ≤ (122 : Int)) ∨ (((c ≥ (48 : Int)) ∧ ((c ≤ (57 : Int)) ∨ ((c = (46 : Int)) ∨ ((c = (45 : Int)) ∨ (c = (95 : Int)))))) ∨ ((¬ (c ≥ (48 : Int))) ∧ ((c = (46 : Int)) ∨ ((c = (45 : Int)) ∨ (c = (95 : Int)))))))) ∨ ((¬ (c ≥ (97 : Int))) ∧ (((c ≥ (48 : Int)) ∧ ((c ≤ (57 : Int)) ∨ ((c = (46 : Int)) ∨ ((c = (45 : Int)) ∨ (c = (95 : Int)))))) ∨ ((¬ (c ≥ (48 : Int))) ∧ ((c = (46 : Int)) ∨ ((c = (45 : Int)) ∨ (c = (95 : Int)))))))))))], fit_mk (fun _ _ => rfl) (by kernel_rfl) (vs_cons (Eq.trans (b := (.bool true)) (by kernel_rfl) (dec_t (by simp [z1, z2, z3, z5])).symm) vs_nil), rfl, rfl⟩)
     ·
      refine sq (o_pv (.bool false) (by kernel_rfl) (x_df (p := c ≤ (57 : Int)) (by kernel_rfl) z5) ?_)
      refine sq (o_pv (.bool false) (by kernel_rfl) (by kernel_rfl) ?_)
      refine sq (o_pv (.bool false) rfl (by kernel_rfl) ?_)
      refine sq (o_pv (.bool false) rfl (by kernel_rfl) ?_)
      refine sq (o_pv (.int .u8 c) (by kernel_rfl) (by kernel_rfl) ?_)
      by_cases z7 : c = (46 : Int)
      ·
       refine sq (o_pv (.bool true) (by kernel_rfl) (x_dt (p := c = (46 : Int)) (by kernel_rfl) z7) ?_)
       refine sq (o_pv (.bool true) rfl (by kernel_rfl) ?_)
       refine sq (o_pv (.bool true) rfl (by kernel_rfl) ?_)
       refine sq (o_not (by kernel_rfl) ?_)
       refine sq (o_not (by kernel_rfl) ?_)
       refine sq (o_pv (.bool true) rfl (by kernel_rfl) ?_)
       refine sq (o_pv (.bool true) rfl (by kernel_rfl) ?_)
       refine sq (o_not (by kernel_rfl) ?_)
       refine sq (o_not (by kernel_rfl) ?_)
       refine sq (o_pv (.bool true) rfl (by kernel_rfl) ?_)
       refine sq (o_pv (.bool true) rfl (by kernel_rfl) ?_)
       refine nil_ ?_
       refine then_normal (z0 _ _ _ ⟨[(2, (.bool (decide (((c ≥ (97 : Int)) ∧ ((c ≤ (122 : Int)) ∨ (((c ≥ (48 : Int)) ∧ ((c ≤ (57 : Int)) ∨ ((c = (46 : Int)) ∨ ((c = (45 : Int)) ∨ (c = (95 : Int)))))) ∨ ((¬ (c ≥ (48 : Int))) ∧ ((c = (46 : Int)) ∨ ((c = (45 : Int)) ∨ (c = (95 : Int)))))))) ∨ ((¬ (c ≥ (97 : Int))) ∧ (((c ≥ (48 : Int)) ∧ ((c ≤ (57 : Int)) ∨ ((c = (46 : Int)) ∨ ((c = (45 : Int)) ∨ (c = (95 : Int)))))) ∨ ((¬ (c ≥ (48 : Int))) ∧ ((c = (46 : Int)) ∨ ((c = (45 : Int)) ∨ (c = (95 : Int)))))))))))], fit_mk (fun _ _ => rfl) (by kernel_rfl) (vs_cons (Eq.trans (b := (.bool true)) (by kernel_rfl) (dec_t (by simp [z1, z2, z3, z5, z7])).symm) vs_nil), rfl, rfl⟩)
      ·
       refine sq (o_pv (.bool false) (by kernel_rfl) (x_df (p := c = (46 : Int)) (by kernel_rfl) z7) ?_)
       refine sq (o_pv (.bool false) rfl (by kernel_rfl) ?_)
       refine sq (o_pv (.bool false) rfl (by kernel_rfl) ?_)
       refine sq (o_pv (.int .u8 c) (by kernel_rfl) (by kernel_rfl) ?_)
       by_cases y1 : c = (45 : Int)
       ·
        refine sq (o_pv (.bool true) (by kernel_rfl) (x_dt (p := c = (45 : Int)) (by kernel_rfl) y1) ?_)
        refine sq (o_pv (.bool true) rfl (by kernel_rfl) ?_)
        refine sq (o_pv (.bool true) rfl (by kernel_rfl) ?_)
        refine sq (o_not (by kernel_rfl) ?_)
        refine sq (o_not (by kernel_rfl) ?_)
        refine sq (o_pv (.bool true) rfl (by kernel_rfl) ?_)
        refine sq (o_pv (.bool true) rfl (by kernel_rfl) ?_)
        refine nil_ ?_
        refine then_normal (z0 _ _ _ ⟨[(2, (.bool (decide (((c ≥ (97 : Int)) ∧ ((c ≤ (122 : Int)) ∨ (((c ≥ (48 : Int)) ∧ ((c ≤ (57 : Int)) ∨ ((c = (46 : Int)) ∨ ((c = (45 : Int)) ∨ (c = (95 : Int)))))) ∨ ((¬ (c ≥ (48 : Int))) ∧ ((c = (46 : Int)) ∨ ((c = (45 : Int)) ∨ (c = (95 : Int)))))))) ∨ ((¬ (c ≥ (97 : Int))) ∧ (((c ≥ (48 : Int)) ∧ ((c ≤ (57 : Int)) ∨ ((c = (46 : Int)) ∨ ((c = (45 : Int)) ∨ (c = (95 : Int)))))) ∨ ((¬ (c ≥ (48 : Int))) ∧ ((c = (46 : Int)) ∨ ((c = (45 : Int)) ∨ (c = (95 : Int)))))))))))], fit_mk (fun _ _ => rfl) (by kernel_rfl) (vs_cons (Eq.trans (b := (.bool true)) (by kernel_rfl) (dec_t (by simp [z1, z2, z3, z5, z7, y1])).symm) vs_nil), rfl, rfl⟩)
       ·
        refine sq (o_pv (.bool false) (by kernel_rfl) (x_df (p := c = (45 : Int)) (by kernel_rfl) y1) ?_)
        refine sq (o_pv (.bool false) rfl (by kernel_rfl) ?_)
        refine sq (o_pv (.bool false) rfl (by kernel_rfl) ?_)
        refine sq (o_pv (.int .u8 c) (by kernel_rfl) (by kernel_rfl) ?_)
        refine sq (o_pv (.bool (decide (c = (95 : Int)))) (by kernel_rfl) (by kernel_rfl) ?_)
        refine sq (o_pv (.bool (decide (c = (95 : Int)))) rfl (by kernel_rfl) ?_)
        refine sq (o_pv (.bool (decide (c = (95 : Int)))) rfl (by kernel_rfl) ?_)
        refine nil_ ?_
        refine then_normal (z0 _ _ _ ⟨[(2, (.bool (decide (((c ≥ (97 : Int)) ∧ ((c ≤ (122 : Int)) ∨ (((c ≥ (48 : Int)) ∧ ((c ≤ (57 : Int)) ∨ ((c = (46 : Int)) ∨ ((c = (45 : Int)) ∨ (c = (95 : Int)))))) ∨ ((¬ (c ≥ (48 : Int))) ∧ ((c = (46 : Int)) ∨ ((c = (45 : Int)) ∨ (c = (95 : Int)))))))) ∨ ((¬ (c ≥ (97 : Int))) ∧ (((c ≥ (48 : Int)) ∧ ((c ≤ (57 : Int)) ∨ ((c = (46 : Int)) ∨ ((c = (45 : Int)) ∨ (c = (95 : Int)))))) ∨ ((¬ (c ≥ (48 : Int))) ∧ ((c = (46 : Int)) ∨ ((c = (45 : Int)) ∨ (c = (95 : Int)))))))))))], fit_mk (fun _ _ => rfl) (by kernel_rfl) (vs_cons (Eq.trans (b := (.bool (decide (c = (95 : Int))))) (by kernel_rfl) (dec_d (by simp [z1, z2, z3, z5, z7, y1])).symm) vs_nil), rfl, rfl⟩)
    ·
     refine sq (o_pv (.bool false) (by kernel_rfl) (x_df (p := c ≥ (48 : Int)) (by kernel_rfl) z3) ?_)
     refine sq (o_pv (.bool false) (by kernel_rfl) (by kernel_rfl) ?_)
     refine sq (o_not (by kernel_rfl) ?_)
     refine sq (o_not (by kernel_rfl) ?_)
     refine sq (o_pv (.bool false) (by kernel_rfl) (by kernel_rfl) ?_)
     refine sq (o_pv (.bool false) rfl (by kernel_rfl) ?_)
     refine sq (o_pv (.bool false) rfl (by kernel_rfl) ?_)
     refine sq (o_pv (.int .u8 c) (by kernel_rfl) (by kernel_rfl) ?_)
     by_cases z8 : c = (46 : Int)
     ·
      refine sq (o_pv (.bool true) (by kernel_rfl) (x_dt (p := c = (46 : Int)) (by kernel_rfl) z8) ?_)
      refine sq (o_pv (.bool true) rfl (by kernel_rfl) ?_)
      refine sq (o_pv (.bool true) rfl (by kernel_rfl) ?_)
      refine sq (o_not (by kernel_rfl) ?_)
      refine sq (o_not (by kernel_rfl) ?_)
      refine sq (o_pv (.bool true) rfl (by kernel_rfl) ?_)
      refine sq (o_pv (.bool true) rfl (by kernel_rfl) ?_)
      refine sq (o_not (by kernel_rfl) ?_)
      refine sq (o_not (by kernel_rfl) ?_)
      refine sq (o_pv (.bool true) rfl (by kernel_rfl) ?_)
      refine sq (o_pv (.bool true) rfl (by kernel_rfl) ?_)
      refine nil_ ?_
      refine then_normal (z0 _ _ _ ⟨[(2, (.bool (decide (((c ≥ (97 : Int)) ∧ ((c ≤ (122 : Int)) ∨ (((c ≥ (48 : Int)) ∧ ((c ≤ (57 : Int)) ∨ ((c = (46 : Int)) ∨ ((c = (45 : Int)) ∨ (c = (95 : Int)))))) ∨ ((¬ (c ≥ (48 : Int))) ∧ ((c = (46 : Int)) ∨ ((c = (45 : Int)) ∨ (c = (95 : Int)))))))) ∨ ((¬ (c ≥ (97 : Int))) ∧ (((c ≥ (48 : Int)) ∧ ((c ≤ (57 : Int)) ∨ ((c = (46 : Int)) ∨ ((c = (45 : Int)) ∨ (c = (95 : Int)))))) ∨ ((¬ (c ≥ (48 : Int))) ∧ ((c = (46 : Int)) ∨ ((c = (45 : Int)) ∨ (c = (95 : Int)))))))))))], fit_mk (fun _ _ => rfl) (by kernel_rfl) (vs_cons (Eq.trans (b := (.bool true)) (by kernel_rfl) (dec_t (by simp [z1, z2, z3, z8])).symm) vs_nil), rfl, rfl⟩)
     ·
      refine sq (o_pv (.bool false) (by kernel_rfl) (x_df (p := c = (46 : Int)) (by kernel_rfl) z8) ?_)
      refine sq (o_pv (.bool false) rfl (by kernel_rfl) ?_)
      refine sq (o_pv (.bool false) rfl (by kernel_rfl) ?_)
      refine sq (o_pv (.int .u8 c) (by kernel_rfl) (by kernel_rfl) ?_)
      by_cases y2 : c = (45 : Int)
      ·
       refine sq (o_pv (.bool true) (by kernel_rfl) (x_dt (p := c = (45 : Int)) (by kernel_rfl) y2) ?_)
       refine sq (o_pv (.bool true) rfl (by kernel_rfl) ?_)
       refine sq (o_pv (.bool true) rfl (by kernel_rfl) ?_)
       refine sq (o_not (by kernel_rfl) ?_)
       refine sq (o_not (by kernel_rfl) ?_)
       refine sq (o_pv (.bool true) rfl (by kernel_rfl) ?_)
       refine sq (o_pv (.bool true) rfl (by kernel_rfl) ?_)
       refine nil_ ?_
       refine then_normal (z0 _ _ _ ⟨[(2, (.bool (decide (((c ≥ (97 : Int)) ∧ ((c ≤ (122 : Int)) ∨ (((c ≥ (48 : Int)) ∧ ((c ≤ (57 : Int)) ∨ ((c = (46 : Int)) ∨ ((c = (45 : Int)) ∨ (c = (95 : Int)))))) ∨ ((¬ (c ≥ (48 : Int))) ∧ ((c = (46 : Int)) ∨ ((c = (45 : Int)) ∨ (c = (95 : Int)))))))) ∨ ((¬ (c ≥ (97 : Int))) ∧ (((c ≥ (48 : Int)) ∧ ((c ≤ (57 : Int)) ∨ ((c = (46 : Int)) ∨ ((c = (45 : Int)) ∨ (c = (95 : Int)))))) ∨ ((¬ (c ≥ (48 : Int))) ∧ ((c = (46 : Int)) ∨ ((c = (45 : Int)) ∨ (c = (95 : Int)))))))))))], fit_mk (fun _ _ => rfl) (by kernel_rfl) (vs_cons (Eq.trans (b := (.bool true)) (by kernel_rfl) (dec_t (by simp [z1, z2, z3, z8, y2])).symm) vs_nil), rfl, rfl⟩)
      ·
       refine sq (o_pv (.bool false) (by kernel_rfl) (x_df (p := c = (45 : Int)) (by kernel_rfl) y2) ?_)
       refine sq (o_pv (.bool false) rfl (by kernel_rfl) ?_)
       refine sq (o_pv (.bool false) rfl (by kernel_rfl) ?_)
       refine sq (o_pv (.int .u8 c) (by kernel_rfl) (by kernel_rfl) ?_)
       refine sq (o_pv (.bool (decide (c = (95 : Int)))) (by kernel_rfl) (by kernel_rfl) ?_)
       refine sq (o_pv (.bool (decide (c = (95 : Int)))) rfl (by kernel_rfl) ?_)
       refine sq (o_pv (.bool (decide (c = (95 : Int)))) rfl (by kernel_rfl) ?_)
       refine nil_ ?_
       refine then_normal (z0 _ _ _ ⟨[(2, (.bool (decide (((c ≥ (97 : Int)) ∧ ((c ≤ (122 : Int)) ∨ (((c ≥ (48 : Int)) ∧ ((c ≤ (57 : Int)) ∨ ((c = (46 : Int)) ∨ ((c = (45 : Int)) ∨ (c = (95 : Int)))))) ∨ ((¬ (c ≥ (48 : Int))) ∧ ((c = (46 : Int)) ∨ ((c = (45 : Int)) ∨ (c = (95 : Int)))))))) ∨ ((¬ (c ≥ (97 : Int))) ∧ (((c ≥ (48 : Int)) ∧ ((c ≤ (57 : Int)) ∨ ((c = (46 : Int)) ∨ ((c = (45 : Int)) ∨ (c = (95 : Int)))))) ∨ ((¬ (c ≥ (48 : Int))) ∧ ((c = (46 : Int)) ∨ ((c = (45 : Int)) ∨ (c = (95 : Int)))))))))))], fit_mk (fun _ _ => rfl) (by kernel_rfl) (vs_cons (Eq.trans (b := (.bool (decide (c = (95 : Int))))) (by kernel_rfl) (dec_d (by simp [z1, z2, z3, z8, y2])).symm) vs_nil), rfl, rfl⟩)
  ·
   refine sq (o_pv (.bool false) rfl (x_df (p := c ≥ (97 : Int)) (by kernel_rfl) z1) ?_)
   refine sq (o_pv (.bool false) rfl (by kernel_rfl) ?_)
   refine sq (o_not (by kernel_rfl) ?_)
   refine sq (o_not (by kernel_rfl) ?_)
   refine sq (o_pv (.bool false) rfl (by kernel_rfl) ?_)
   refine sq (o_pv (.bool false) rfl (by kernel_rfl) ?_)
   refine sq (o_pv (.int .u8 c) (by kernel_rfl) (by kernel_rfl) ?_)
   by_cases z4 : c ≥ (48 : Int)
   ·
    refine sq (o_pv (.bool true) (by kernel_rfl) (x_dt (p := c ≥ (48 : Int)) (by kernel_rfl) z4) ?_)
    refine sq (o_pv (.bool true) (by kernel_rfl) (by kernel_rfl) ?_)
    refine sq (o_pv (.int .u8 c) (by kernel_rfl) (by kernel_rfl) ?_)
    by_cases z6 : c ≤ (57 : Int)
    ·
     refine sq (o_pv (.bool true) (by kernel_rfl) (x_dt (p := c ≤ (57 : Int)) (by kernel_rfl) z6) ?_)
     refine sq (o_pv (.bool true) (by kernel_rfl) (by kernel_rfl) ?_)
     refine sq (o_pv (.bool true) rfl (by kernel_rfl) ?_)
     refine sq (o_pv (.bool true) rfl (by kernel_rfl) ?_)
     refine sq (o_not (by kernel_rfl) ?_)
     refine sq (o_not (by kernel_rfl) ?_)
     refine sq (o_pv (.bool true) rfl (by kernel_rfl) ?_)
     refine sq (o_pv (.bool true) rfl (by kernel_rfl) ?_)
     refine sq (o_not (by kernel_rfl) ?_)
     refine sq (o_not (by kernel_rfl) ?_)
     refine sq (o_pv (.bool true) rfl (by kernel_rfl) ?_)
     refine sq (o_pv (.bool true) rfl (by kernel_rfl) ?_)
     refine sq (o_not (by kernel_rfl) ?_)
     refine sq (o_not (by kernel_rfl) ?_)
     refine sq (o_pv (.bool true) rfl (by kernel_rfl) ?_)
     refine sq (o_pv (.bool true) rfl (by kernel_rfl) ?_)
     refine nil_ ?_
     refine then_normal (z0 _ _ _ ⟨[(2, (.bool (decide (((c ≥ (97 : Int)) ∧ ((c ≤ (122 : Int)) ∨ (((c ≥ (48 : Int)) ∧ ((c ≤ (57 : Int)) ∨ ((c = (46 : Int)) ∨ ((c = (45 : Int)) ∨ (c = (95 : Int)))))) ∨ ((¬ (c ≥ (48 : Int))) ∧ ((c = (46 : Int)) ∨ ((c = (45 : Int)) ∨ (c = (95 : Int)))))))) ∨ ((¬ (c ≥ (97 : Int))) ∧ (((c ≥ (48 : Int)) ∧ ((c ≤ (57 : Int)) ∨ ((c = (46 : Int)) ∨ ((c = (45 : Int)) ∨ (c = (95 : Int)))))) ∨ ((¬ (c ≥ (48 : Int))) ∧ ((c = (46 : Int)) ∨ ((c = (45 : Int)) ∨ (c = (95 : Int)))))))))))], fit_mk (fun _ _ => rfl) (by kernel_rfl) (vs_cons (Eq.trans (b := (.bool true)) (by kernel_rfl) (dec_t (by simp [z1, z4, z6])).symm) vs_nil), rfl, rfl⟩)
    ·
     refine sq (o_pv (.bool false) (by kernel_rfl) (x_df (p := c ≤ (57 : Int)) (by kernel_rfl) z6) ?_)
     refine sq (o_pv (.bool false) (by kernel_rfl) (by kernel_rfl) ?_)
     refine sq (o_pv (.bool false) rfl (by kernel_rfl) ?_)
     refine sq (o_pv (.bool false) rfl (by kernel_rfl) ?_)
     refine sq (o_pv (.int .u8 c) (by kernel_rfl) (by kernel_rfl) ?_)
     by_cases z9 : c = (46 : Int)
     ·
      refine sq (o_pv (.bool true) (by kernel_rfl) (x_dt (p := c = (46 : Int)) (by kernel_rfl) z9) ?_)
      refine sq (o_pv (.bool true) rfl (by kernel_rfl) ?_)
      refine sq (o_pv (.bool true) rfl (by kernel_rfl) ?_)
      refine sq (o_not (by kernel_rfl) ?_)
      refine sq (o_not (by kernel_rfl) ?_)
      refine sq (o_pv (.bool true) rfl (by kernel_rfl) ?_)
      refine sq (o_pv (.bool true) rfl (by kernel_rfl) ?_)
      refine sq (o_not (by kernel_rfl) ?_)
      refine sq (o_not (by kernel_rfl) ?_)
      refine sq (o_pv (.bool true) rfl (by kernel_rfl) ?_)
      refine sq (o_pv (.bool true) rfl (by kernel_rfl) ?_)
      refine nil_ ?_
      refine then_normal (z0 _ _ _ ⟨[(2, (.bool (decide (((c ≥ (97 : Int)) ∧ ((c ≤ (122 : Int)) ∨ (((c ≥ (48 : Int)) ∧ ((c ≤ (57 : Int)) ∨ ((c = (46 : Int)) ∨ ((c = (45 : Int)) ∨ (c = (95 : Int)))))) ∨ ((¬ (c ≥ (48 : Int))) ∧ ((c = (46 : Int)) ∨ ((c = (45 : Int)) ∨ (c = (95 : Int)))))))) ∨ ((¬ (c ≥ (97 : Int))) ∧ (((c ≥ (48 : Int)) ∧ ((c ≤ (57 : Int)) ∨ ((c = (46 : Int)) ∨ ((c = (45 : Int)) ∨ (c = (95 : Int)))))) ∨ ((¬ (c ≥ (48 : Int))) ∧ ((c = (46 : Int)) ∨ ((c = (45 : Int)) ∨ (c = (95 : Int)))))))))))], fit_mk (fun _ _ => rfl) (by kernel_rfl) (vs_cons (Eq.trans (b := (.bool true)) (by kernel_rfl) (dec_t (by simp [z1, z4, z6, z9])).symm) vs_nil), rfl, rfl⟩)
     ·
      refine sq (o_pv (.bool false) (by kernel_rfl) (x_df (p := c = (46 : Int)) (by kernel_rfl) z9) ?_)
      refine sq (o_pv (.bool false) rfl (by kernel_rfl) ?_)
      refine sq (o_pv (.bool false) rfl (by kernel_rfl) ?_)
      refine sq (o_pv (.int .u8 c) (by kernel_rfl) (by kernel_rfl) ?_)
      by_cases y3 : c = (45 : Int)
      ·
       refine sq (o_pv (.bool true) (by kernel_rfl) (x_dt (p := c = (45 : Int)) (by kernel_rfl) y3) ?_)
       refine sq (o_pv (.bool true) rfl (by kernel_rfl) ?_)
       refine sq (o_pv (.bool true) rfl (by kernel_rfl) ?_)
       refine sq (o_not (by kernel_rfl) ?_)
       refine sq (o_not (by kernel_rfl) ?_)
       refine sq (o_pv (.bool true) rfl (by kernel_rfl) ?_)
       refine sq (o_pv (.bool true) rfl (by kernel_rfl) ?_)
       refine nil_ ?_
       refine then_normal (z0 _ _ _ ⟨[(2, (.bool (decide (((c ≥ (97 : Int)) ∧ ((c ≤ (122 : Int)) ∨ (((c ≥ (48 : Int)) ∧ ((c ≤ (57 : Int)) ∨ ((c = (46 : Int)) ∨ ((c = (45 : Int)) ∨ (c = (95 : Int)))))) ∨ ((¬ (c ≥ (48 : Int))) ∧ ((c = (46 : Int)) ∨ ((c = (45 : Int)) ∨ (c = (95 : Int)))))))) ∨ ((¬ (c ≥ (97 : Int))) ∧ (((c ≥ (48 : Int)) ∧ ((c ≤ (57 : Int)) ∨ ((c = (46 : Int)) ∨ ((c = (45 : Int)) ∨ (c = (95 : Int)))))) ∨ ((¬ (c ≥ (48 : Int))) ∧ ((c = (46 : Int)) ∨ ((c = (45 : Int)) ∨ (c = (95 : Int)))))))))))], fit_mk (fun _ _ => rfl) (by kernel_rfl) (vs_cons (Eq.trans (b := (.bool true)) (by kernel_rfl) (dec_t (by simp [z1, z4, z6, z9, y3])).symm) vs_nil), rfl, rfl⟩)
      ·
       refine sq (o_pv (.bool false) (by kernel_rfl) (x_df (p := c = (45 : Int)) (by kernel_rfl) y3) ?_)
       refine sq (o_pv (.bool false) rfl (by kernel_rfl) ?_)
       refine sq (o_pv (.bool false) rfl (by kernel_rfl) ?_)
       refine sq (o_pv (.int .u8 c) (by kernel_rfl) (by kernel_rfl) ?_)
       refine sq (o_pv (.bool (decide (c = (95 : Int)))) (by kernel_rfl) (by kernel_rfl) ?_)
       refine sq (o_pv (.bool (decide (c = (95 : Int)))) rfl (by kernel_rfl) ?_)
       refine sq (o_pv (.bool (decide (c = (95 : Int)))) rfl (by kernel_rfl) ?_)
       refine nil_ ?_
       refine then_normal (z0 _ _ _ ⟨[(2, (.bool (decide (((c ≥ (97 : Int)) ∧ ((c ≤ (122 : Int)) ∨ (((c ≥ (48 : Int)) ∧ ((c ≤ (57 : Int)) ∨ ((c = (46 : Int)) ∨ ((c = (45 : Int)) ∨ (c = (95 : Int)))))) ∨ ((¬ (c ≥ (48 : Int))) ∧ ((c = (46 : Int)) ∨ ((c = (45 : Int)) ∨ (c = (95 : Int)))))))) ∨ ((¬ (c ≥ (97 : Int))) ∧ (((c ≥ (48 : Int)) ∧ ((c ≤ (57 : Int)) ∨ ((c = (46 : Int)) ∨ ((c = (45 : Int)) ∨ (c = (95 : Int)))))) ∨ ((¬ (c ≥ (48 : Int))) ∧ ((c = (46 : Int)) ∨ ((c = (45 : Int)) ∨ (c = (95 : Int)))))))))))], fit_mk (fun _ _ => rfl) (by kernel_rfl) (vs_cons (Eq.trans (b := (.bool (decide (c = (95 : Int))))) (by kernel_rfl) (dec_d (by simp [z1, z4, z6, z9, y3])).symm) vs_nil), rfl, rfl⟩)
   ·
    refine sq (o_pv (.bool false) (by kernel_rfl) (x_df (p := c ≥ (48 : Int)) (by kernel_rfl) z4) ?_)
    refine sq (o_pv (.bool false) (by kernel_rfl) (by kernel_rfl) ?_)
    refine sq (o_not (by kernel_rfl) ?_)
    refine sq (o_not (by kernel_rfl) ?_)
    refine sq (o_pv (.bool false) (by kernel_rfl) (by kernel_rfl) ?_)
    refine sq (o_pv (.bool false) rfl (by kernel_rfl) ?_)
    refine sq (o_pv (.bool false) rfl (by kernel_rfl) ?_)
    refine sq (o_pv (.int .u8 c) (by kernel_rfl) (by kernel_rfl) ?_)
    by_cases y0 : c = (46 : Int)
    ·
     refine sq (o_pv (.bool true) (by kernel_rfl) (x_dt (p := c = (46 : Int)) (by kernel_rfl) y0) ?_)
     refine sq (o_pv (.bool true) rfl (by kernel_rfl) ?_)
     refine sq (o_pv (.bool true) rfl (by kernel_rfl) ?_)
     refine sq (o_not (by kernel_rfl) ?_)
     refine sq (o_not (by kernel_rfl) ?_)
     refine sq (o_pv (.bool true) rfl (by kernel_rfl) ?_)
     refine sq (o_pv (.bool true) rfl (by kernel_rfl) ?_)
     refine sq (o_not (by kernel_rfl) ?_)
     refine sq (o_not (by kernel_rfl) ?_)
     refine sq (o_pv (.bool true) rfl (by kernel_rfl) ?_)
     refine sq (o_pv (.bool true) rfl (by kernel_rfl) ?_)
     refine nil_ ?_
     refine then_normal (z0 _ _ _ ⟨[(2, (.bool (decide (((c ≥ (97 : Int)) ∧ ((c ≤ (122 : Int)) ∨ (((c ≥ (48 : Int)) ∧ ((c ≤ (57 : Int)) ∨ ((c = (46 : Int)) ∨ ((c = (45 : Int)) ∨ (c = (95 : Int)))))) ∨ ((¬ (c ≥ (48 : Int))) ∧ ((c = (46 : Int)) ∨ ((c = (45 : Int)) ∨ (c = (95 : Int)))))))) ∨ ((¬ (c ≥ (97 : Int))) ∧ (((c ≥ (48 : Int)) ∧ ((c ≤ (57 : Int)) ∨ ((c = (46 : Int)) ∨ ((c = (45 : Int)) ∨ (c = (95 : Int)))))) ∨ ((¬ (c ≥ (48 : Int))) ∧ ((c = (46 : Int)) ∨ ((c = (45 : Int)) ∨ (c = (95 : Int)))))))))))], fit_mk (fun _ _ => rfl) (by kernel_rfl) (vs_cons (Eq.trans (b := (.bool true)) (by kernel_rfl) (dec_t (by simp [z1, z4, y0])).symm) vs_nil), rfl, rfl⟩)
    ·
     refine sq (o_pv (.bool false) (by kernel_rfl) (x_df (p := c = (46 : Int)) (by kernel_rfl) y0) ?_)
     refine sq (o_pv (.bool false) rfl (by kernel_rfl) ?_)
     refine sq (o_pv (.bool false) rfl (by kernel_rfl) ?_)
     refine sq (o_pv (.int .u8 c) (by kernel_rfl) (by kernel_rfl) ?_)
     by_cases y4 : c = (45 : Int)
     ·
      refine sq (o_pv (.bool true) (by kernel_rfl) (x_dt (p := c = (45 : Int)) (by kernel_rfl) y4) ?_)
      refine sq (o_pv (.bool true) rfl (by kernel_rfl) ?_)
      refine sq (o_pv (.bool true) rfl (by kernel_rfl) ?_)
      refine sq (o_not (by kernel_rfl) ?_)
      refine sq (o_not (by kernel_rfl) ?_)
      refine sq (o_pv (.bool true) rfl (by kernel_rfl) ?_)
      refine sq (o_pv (.bool true) rfl (by kernel_rfl) ?_)
      refine nil_ ?_
      refine then_normal (z0 _ _ _ ⟨[(2, (.bool (decide (((c ≥ (97 : Int)) ∧ ((c ≤ (122 : Int)) ∨ (((c ≥ (48 : Int)) ∧ ((c ≤ (57 : Int)) ∨ ((c = (46 : Int)) ∨ ((c = (45 : Int)) ∨ (c = (95 : Int)))))) ∨ ((¬ (c ≥ (48 : Int))) ∧ ((c = (46 : Int)) ∨ ((c = (45 : Int)) ∨ (c = (95 : Int)))))))) ∨ ((¬ (c ≥ (97 : Int))) ∧ (((c ≥ (48 : Int)) ∧ ((c ≤ (57 : Int)) ∨ ((c = (46 : Int)) ∨ ((c = (45 : Int)) ∨ (c = (95 : Int)))))) ∨ ((¬ (c ≥ (48 : Int))) ∧ ((c = (46 : Int)) ∨ ((c = (45 : Int)) ∨ (c = (95 : Int)))))))))))], fit_mk (fun _ _ => rfl) (by kernel_rfl) (vs_cons (Eq.trans (b := (.bool true)) (by kernel_rfl) (dec_t (by simp [z1, z4, y0, y4])).symm) vs_nil), rfl, rfl⟩)
     ·
      refine sq (o_pv (.bool false) (by kernel_rfl) (x_df (p := c = (45 : Int)) (by kernel_rfl) y4) ?_)
      refine sq (o_pv (.bool false) rfl (by kernel_rfl) ?_)
      refine sq (o_pv (.bool false) rfl (by kernel_rfl) ?_)
      refine sq (o_pv (.int .u8 c) (by kernel_rfl) (by kernel_rfl) ?_)
      refine sq (o_pv (.bool (decide (c = (95 : Int)))) (by kernel_rfl) (by kernel_rfl) ?_)
      refine sq (o_pv (.bool (decide (c = (95 : Int)))) rfl (by kernel_rfl) ?_)
      refine sq (o_pv (.bool (decide (c = (95 : Int)))) rfl (by kernel_rfl) ?_)
      refine nil_ ?_
      refine then_normal (z0 _ _ _ ⟨[(2, (.bool (decide (((c ≥ (97 : Int)) ∧ ((c ≤ (122 : Int)) ∨ (((c ≥ (48 : Int)) ∧ ((c ≤ (57 : Int)) ∨ ((c = (46 : Int)) ∨ ((c = (45 : Int)) ∨ (c = (95 : Int)))))) ∨ ((¬ (c ≥ (48 : Int))) ∧ ((c = (46 : Int)) ∨ ((c = (45 : Int)) ∨ (c = (95 : Int)))))))) ∨ ((¬ (c ≥ (97 : Int))) ∧ (((c ≥ (48 : Int)) ∧ ((c ≤ (57 : Int)) ∨ ((c = (46 : Int)) ∨ ((c = (45 : Int)) ∨ (c = (95 : Int)))))) ∨ ((¬ (c ≥ (48 : Int))) ∧ ((c = (46 : Int)) ∨ ((c = (45 : Int)) ∨ (c = (95 : Int)))))))))))], fit_mk (fun _ _ => rfl) (by kernel_rfl) (vs_cons (Eq.trans (b := (.bool (decide (c = (95 : Int))))) (by kernel_rfl) (dec_d (by simp [z1, z4, y0, y4])).symm) vs_nil), rfl, rfl⟩)
 ·
  rintro _ y5 v2 ⟨rfl, hw⟩
  subst hw
  refine then_normal (v0 _ _ _ _ ?_)
  refine wp_ret ?_
  refine end_ret hQ (.bool (decide (((c ≥ (97 : Int)) ∧ ((c ≤ (122 : Int)) ∨ (((c ≥ (48 : Int)) ∧ ((c ≤ (57 : Int)) ∨ ((c = (46 : Int)) ∨ ((c = (45 : Int)) ∨ (c = (95 : Int)))))) ∨ ((¬ (c ≥ (48 : Int))) ∧ ((c = (46 : Int)) ∨ ((c = (45 : Int)) ∨ (c = (95 : Int)))))))) ∨ ((¬ (c ≥ (97 : Int))) ∧ (((c ≥ (48 : Int)) ∧ ((c ≤ (57 : Int)) ∨ ((c = (46 : Int)) ∨ ((c = (45 : Int)) ∨ (c = (95 : Int)))))) ∨ ((¬ (c ≥ (48 : Int))) ∧ ((c = (46 : Int)) ∨ ((c = (45 : Int)) ∨ (c = (95 : Int)))))))))) (by kernel_rfl) ?_
  exact ⟨(decide (((c ≥ (97 : Int)) ∧ ((c ≤ (122 : Int)) ∨ (((c ≥ (48 : Int)) ∧ ((c ≤ (57 : Int)) ∨ ((c = (46 : Int)) ∨ ((c = (45 : Int)) ∨ (c = (95 : Int)))))) ∨ ((¬ (c ≥ (48 : Int))) ∧ ((c = (46 : Int)) ∨ ((c = (45 : Int)) ∨ (c = (95 : Int)))))))) ∨ ((¬ (c ≥ (97 : Int))) ∧ (((c ≥ (48 : Int)) ∧ ((c ≤ (57 : Int)) ∨ ((c = (46 : Int)) ∨ ((c = (45 : Int)) ∨ (c = (95 : Int)))))) ∨ ((¬ (c ≥ (48 : Int))) ∧ ((c = (46 : Int)) ∨ ((c = (45 : Int)) ∨ (c = (95 : Int))))))))), hp, E0, rfl⟩
def rectoref1_Check_p (p : ByteArray) (Q : Int → Prop) : Prop :=
 ((p.size ≤ maxLen) → ((((p.size : Int) > (64 : Int)) → Q (4 : Int)) ∧ ((¬ ((p.size : Int) > (64 : Int))) → (rectoref1_Parts_p p (fun (z1 : (List ByteArray)) => ((z1.length ≤ 9223372036854775807) → ((((z1.length : Int) = (0 : Int)) → Q (5 : Int)) ∧ ((¬ ((z1.length : Int) = (0 : Int))) → (∃ (z4 : Int → Prop) (z7 : Int → Nat), (z4 (0 : Int)) ∧ (∀ (z0 : Int), (z4 z0) → (inR .i64 z0) → (((z0 < (z1.length : Int)) → (∃ z3 : Bool → Prop, (∀ (z5 : Bool), z3 z5 → (((z5 = true) → Q (5 : Int)) ∧ ((z5 = false) → (∃ (z6 : Int → Prop) (z8 : Int → Nat), (z6 (0 : Int)) ∧ (∀ (z2 : Int), (z6 z2) → (inR .i64 z2) → ((inL z1 z0) ∧ (((lget z1 z0).size ≤ maxLen) → (((z2 < ((lget z1 z0).size : Int)) → ((inL z1 z0) ∧ (((lget z1 z0).size ≤ maxLen) → ((0 ≤ z2 ∧ z2 < ((lget z1 z0).size : Int)) ∧ (rectoref1_good_p (bget (lget z1 z0) z2) (fun (z9 : Bool) => ((((!z9) = true) → Q (5 : Int)) ∧ (((!z9) = false) → ((inR .i64 (z2 + (1 : Int))) ∧ ((z6 (z2 + (1 : Int))) ∧ z8 (z2 + (1 : Int)) < z8 z2)))))))))) ∧ ((¬ (z2 < ((lget z1 z0).size : Int))) → ((inR .i64 (z0 + (1 : Int))) ∧ ((z4 (z0 + (1 : Int))) ∧ z7 (z0 + (1 : Int)) < z7 z0))))))))))) ∧ ((inL z1 z0) ∧ (((lget z1 z0).size ≤ maxLen) → ((((lget z1 z0 : ByteArray) = (ByteArray.mk #[])) → (z3 true)) ∧ ((¬ ((lget z1 z0 : ByteArray) = (ByteArray.mk #[]))) → ((inL z1 z0) ∧ (((lget z1 z0).size ≤ maxLen) → ((((lget z1 z0 : ByteArray) = (ByteArray.mk #[46])) → (z3 true)) ∧ ((¬ ((lget z1 z0 : ByteArray) = (ByteArray.mk #[46]))) → ((inL z1 z0) ∧ (((lget z1 z0).size ≤ maxLen) → (z3 (decide ((lget z1 z0 : ByteArray) = (ByteArray.mk #[46, 46])))))))))))))))) ∧ ((¬ (z0 < (z1.length : Int))) → Q (0 : Int)))))))))))))
set_option maxRecDepth 20000 in
set_option maxHeartbeats 4000000 in
theorem rectoref1_Check_w {X : List Nat} {w : World} {p : ByteArray} {Q : Int → Prop} (d6 : Old X w) (k1 : p.size ≤ maxLen) (hp : rectoref1_Check_p p Q) :
  Calls Tryz.prog 44 #[(.string p)] w (Ret fun v w' => ∃ (k3 : Int), Q k3 ∧ Evo [] w w' ∧ v = (.int .i64 k3) ∧ inR .i64 k3) := by
 have hXo := d6
 have E0 : Evo [] w w := RB.refl _ _ _
 have hS : Sub X X := Sub.refl _
 unfold rectoref1_Check_p at hp
 refine enter_ Tryz.func44 rfl 56 [(0, (.string p))] (by kernel_rfl) (fun Qe hQ => ?_)
 replace hp := hp k1
 refine seq_ (fun _ n1 => ?_)
 refine reg_ ?_
 refine sq (o_pv (.int .i64 (0 : Int)) rfl (by kernel_rfl) ?_)
 refine nil_ ?_
 refine then_normal (n1 _ _ _ _ ?_)
 refine seq_ (fun _ n2 => ?_)
 refine seq_ (fun _ n3 => ?_)
 refine reg_ ?_
 refine sq (o_pv (.string p) rfl (by kernel_rfl) ?_)
 refine sq (o_pv (.int .i64 (p.size : Int)) rfl (by kernel_rfl) ?_)
 refine sq (o_pv (.bool (decide ((p.size : Int) > (64 : Int)))) rfl (by kernel_rfl) ?_)
 refine nil_ ?_
 refine then_normal (n3 _ _ _ _ ?_)
 refine cond_d ((p.size : Int) > (64 : Int)) (by kernel_rfl) (fun k4 => ?_) (fun k4 => ?_)
 ·
  replace hp := hp.1 k4
  refine seq_ (fun _ n4 => ?_)
  refine reg_ ?_
  refine sq (o_pv (.int .i64 (4 : Int)) rfl (by kernel_rfl) ?_)
  refine nil_ ?_
  refine then_normal (n4 _ _ _ _ ?_)
  refine wp_ret ?_
  refine then_ret ?_
  refine end_ret hQ (.int .i64 (4 : Int)) (by kernel_rfl) ?_
  exact ⟨(4 : Int), hp, E0, rfl, (by decide : inR .i64 (4 : Int))⟩
 ·
  replace hp := hp.2 k4
  refine wp_skip ?_
  refine then_normal (n2 _ _ _ _ ?_)
  refine seq_ (fun _ n5 => ?_)
  refine reg_ ?_
  refine sq (o_pv (.string p) rfl (by kernel_rfl) ?_)
  refine sq (o_call 83 #[(.string p)] rfl (x_call Tryz.call83 (by kernel_rfl)) (rectoref1_Parts_w (X := X) (p := p) hXo k1 hp) ?_)
  rintro _ o0 ⟨z1, hp, v9, z4, z3, rfl, u0⟩
  have k2 := Step.of0 X v9
  replace hp := hp (Sl.len u0)
  refine sq (o_pv (.slice z4 z1.length z3) rfl (by kernel_rfl) ?_)
  refine nil_ ?_
  refine then_normal (n5 _ _ _ _ ?_)
  refine seq_ (fun _ d7 => ?_)
  refine seq_ (fun _ d8 => ?_)
  refine reg_ ?_
  refine sq (o_pv (.slice z4 z1.length z3) rfl (by kernel_rfl) ?_)
  refine sq (o_pv (.int .i64 (z1.length : Int)) rfl (by kernel_rfl) ?_)
  refine sq (o_pv (.bool (decide ((z1.length : Int) = (0 : Int)))) rfl (by kernel_rfl) ?_)
  refine nil_ ?_
  refine then_normal (d8 _ _ _ _ ?_)
  refine cond_d ((z1.length : Int) = (0 : Int)) (by kernel_rfl) (fun u1 => ?_) (fun u1 => ?_)
  ·
   replace hp := hp.1 u1
   refine seq_ (fun _ d9 => ?_)
   refine reg_ ?_
   refine sq (o_pv (.int .i64 (5 : Int)) rfl (by kernel_rfl) ?_)
   refine nil_ ?_
   refine then_normal (d9 _ _ _ _ ?_)
   refine wp_ret ?_
   refine then_ret ?_
   have l0 := (Evo.then0 E0 v9)
   refine end_ret hQ (.int .i64 (5 : Int)) (by kernel_rfl) ?_
   exact ⟨(5 : Int), hp, l0, rfl, (by decide : inR .i64 (5 : Int))⟩
  ·
   replace hp := hp.2 u1
   refine wp_skip ?_
   refine then_normal (d7 _ _ _ _ ?_)
   refine seq_ (fun _ l1 => ?_)
   refine seq_ (fun _ l2 => ?_)
   refine reg_ ?_
   refine sq (o_pv (.int .i64 (0 : Int)) rfl (by kernel_rfl) ?_)
   refine nil_ ?_
   refine then_normal (l2 _ _ _ _ ?_)
   refine wp_block ?_
   have u2 := (Old.step hXo k2)
   have k5 := (Evo.then0 E0 v9)
   have t7 := (Sub.trans hS (Step.up k2))
   obtain ⟨k6, u3, t8, hp⟩ := hp
   refine loop_ 72057594037911604 (fun kq lq y2 => ∃ (z6 : List Nat) (z0 : Int), (lq = [(4, (.int .i64 z0))]) ∧ (kq = u3 z0) ∧ (Evo [] w y2) ∧ (Old z6 y2) ∧ (Sub X z6) ∧ (Sl rStr z6 y2 z4 z3 z1) ∧ (inR .i64 z0) ∧ (k6 z0)) (u3 (0 : Int)) [(4, (.int .i64 (0 : Int)))] (vs_cons (by kernel_rfl) vs_nil) ⟨X, (0 : Int), rfl, rfl, k5, u2, t7, u0, (by decide : inR .i64 (0 : Int)), t8⟩ ?_
   rintro _ _ y2 n6 ⟨z6, z0, rfl, rfl, y3, z9, y4, z5, k7, t9⟩ l3 s0
   replace hp := hp z0 t9 k7
   refine seq_ (fun _ k8 => ?_)
   refine seq_ (fun _ k9 => ?_)
   refine reg_ ?_
   refine sq (o_pv (.int .i64 z0) rfl (by kernel_rfl) ?_)
   refine sq (o_pv (.slice z4 z1.length z3) rfl (by kernel_rfl) ?_)
   refine sq (o_pv (.int .i64 (z1.length : Int)) rfl (by kernel_rfl) ?_)
   refine sq (o_pv (.bool (decide (z0 < (z1.length : Int)))) rfl (by kernel_rfl) ?_)
   refine nil_ ?_
   refine then_normal (k9 _ _ _ _ ?_)
   refine cond_d (z0 < (z1.length : Int)) (by kernel_rfl) (fun v1 => ?_) (fun v1 => ?_)
   ·
    replace hp := hp.1 v1
    refine wp_skip ?_
    refine then_normal (k8 _ _ _ _ ?_)
    refine seq_ (fun _ j0 => ?_)
    refine wp_block ?_
    refine seq_ (fun _ j1 => ?_)
    refine seq_ (fun _ j2 => ?_)
    obtain ⟨j3, s1, hp⟩ := hp
    refine ground_ ?_
    refine join_ 549754765312 (fun lq y5 => ∃ (y0 : List Nat) (y1 : Bool), (lq = [(38, (.bool y1))]) ∧ (Evo [] w y5) ∧ (Old y0 y5) ∧ (Sub X y0) ∧ (Sl rStr y0 y5 z4 z3 z1) ∧ (j3 y1)) (fun l4 y6 => ?_) ?_
    ·
     refine reg_ ?_
     refine sq (o_pv (.slice z4 z1.length z3) rfl (by kernel_rfl) ?_)
     refine sq (o_pv (.int .i64 z0) rfl (by kernel_rfl) ?_)
     obtain ⟨u4, hp⟩ := hp
     obtain ⟨j4, j5, l5, s2, l6, l7, s3, s4⟩ := Sl.atI z5 z0 u4
     obtain ⟨rfl, s5⟩ := s3
     replace hp := hp s5
     refine sq (o_pv (.pointer (some ⟨j4, j5 + z0.toNat * 1, none⟩)) rfl (x_ixA (m := z1.length) (c := z3) (k := .i64) (i := z0) Tryz.underlying72 Tryz.sizeOf9 (by rw [← s2]; kernel_rfl) (by kernel_rfl) u4) ?_)
     refine sq (o_pv (.string (lget z1 z0)) rfl (x_load1 (by kernel_rfl) Tryz.isAgg9 (s4 0 _ rfl)) ?_)
     by_cases y7 : (lget z1 z0 : ByteArray) = (ByteArray.mk #[])
     ·
      replace hp := hp.1 y7
      refine sq (o_pv (.bool true) rfl (x_dt (p := (lget z1 z0 : ByteArray) = (ByteArray.mk #[])) (x_streq (by kernel_rfl) (by kernel_rfl)) y7) ?_)
      refine sq (o_pv (.bool true) rfl (by kernel_rfl) ?_)
      refine sq (o_not (by kernel_rfl) ?_)
      refine sq (o_not (by kernel_rfl) ?_)
      refine sq (o_not (by kernel_rfl) ?_)
      refine sq (o_not (by kernel_rfl) ?_)
      refine sq (o_not (by kernel_rfl) ?_)
      refine sq (o_pv (.bool true) rfl (by kernel_rfl) ?_)
      refine sq (o_pv (.bool true) rfl (by kernel_rfl) ?_)
      refine sq (o_not (by kernel_rfl) ?_)
      refine sq (o_not (by kernel_rfl) ?_)
      refine sq (o_not (by kernel_rfl) ?_)
      refine sq (o_not (by kernel_rfl) ?_)
      refine sq (o_not (by kernel_rfl) ?_)
      refine sq (o_pv (.bool true) rfl (by kernel_rfl) ?_)
      refine nil_ ?_
      refine then_normal (y6 _ _ _ ⟨[(38, (.bool true))], fit_mk (fun _ _ => rfl) (by kernel_rfl) (vs_cons (by kernel_rfl) vs_nil), ?_⟩)
      exact ⟨z6, true, rfl, y3, z9, y4, z5, hp⟩
     ·
      replace hp := hp.2 y7
      refine sq (o_pv (.bool false) rfl (x_df (p := (lget z1 z0 : ByteArray) = (ByteArray.mk #[])) (x_streq (by kernel_rfl) (by kernel_rfl)) y7) ?_)
      refine sq (o_pv (.bool false) rfl (by kernel_rfl) ?_)
      refine sq (o_pv (.slice z4 z1.length z3) (by kernel_rfl) (by kernel_rfl) ?_)
      refine sq (o_pv (.int .i64 z0) (by kernel_rfl) (by kernel_rfl) ?_)
      obtain ⟨u5, hp⟩ := hp
      obtain ⟨j6, j7, l8, s6, l9, m0, s7, s8⟩ := Sl.atI z5 z0 u5
      obtain ⟨rfl, s9⟩ := s7
      replace hp := hp s9
      refine sq (o_pv (.pointer (some ⟨j6, j7 + z0.toNat * 1, none⟩)) (by kernel_rfl) (x_ixA (m := z1.length) (c := z3) (k := .i64) (i := z0) Tryz.underlying72 Tryz.sizeOf9 (by rw [← s6]; kernel_rfl) (by kernel_rfl) u5) ?_)
      refine sq (o_pv (.string (lget z1 z0)) (by kernel_rfl) (x_load1 (by kernel_rfl) Tryz.isAgg9 (s8 0 _ rfl)) ?_)
      by_cases y8 : (lget z1 z0 : ByteArray) = (ByteArray.mk #[46])
      ·
       replace hp := hp.1 y8
       refine sq (o_pv (.bool true) (by kernel_rfl) (x_dt (p := (lget z1 z0 : ByteArray) = (ByteArray.mk #[46])) (x_streq (by kernel_rfl) (by kernel_rfl)) y8) ?_)
       refine sq (o_pv (.bool true) rfl (by kernel_rfl) ?_)
       refine sq (o_pv (.bool true) rfl (by kernel_rfl) ?_)
       refine sq (o_not (by kernel_rfl) ?_)
       refine sq (o_not (by kernel_rfl) ?_)
       refine sq (o_not (by kernel_rfl) ?_)
       refine sq (o_not (by kernel_rfl) ?_)
       refine sq (o_not (by kernel_rfl) ?_)
       refine sq (o_pv (.bool true) rfl (by kernel_rfl) ?_)
       refine nil_ ?_
       refine then_normal (y6 _ _ _ ⟨[(38, (.bool true))], fit_mk (fun _ _ => rfl) (by kernel_rfl) (vs_cons (by kernel_rfl) vs_nil), ?_⟩)
       exact ⟨z6, true, rfl, y3, z9, y4, z5, hp⟩
      ·
       replace hp := hp.2 y8
       refine sq (o_pv (.bool false) (by kernel_rfl) (x_df (p := (lget z1 z0 : ByteArray) = (ByteArray.mk #[46])) (x_streq (by kernel_rfl) (by kernel_rfl)) y8) ?_)
       refine sq (o_pv (.bool false) rfl (by kernel_rfl) ?_)
       refine sq (o_pv (.bool false) rfl (by kernel_rfl) ?_)
       refine sq (o_pv (.slice z4 z1.length z3) (by kernel_rfl) (by kernel_rfl) ?_)
       refine sq (o_pv (.int .i64 z0) (by kernel_rfl) (by kernel_rfl) ?_)
       obtain ⟨u6, hp⟩ := hp
       obtain ⟨j8, j9, m1, r0, m2, m3, r1, r2⟩ := Sl.atI z5 z0 u6
       obtain ⟨rfl, r3⟩ := r1
       replace hp := hp r3
       refine sq (o_pv (.pointer (some ⟨j8, j9 + z0.toNat * 1, none⟩)) (by kernel_rfl) (x_ixA (m := z1.length) (c := z3) (k := .i64) (i := z0) Tryz.underlying72 Tryz.sizeOf9 (by rw [← r0]; kernel_rfl) (by kernel_rfl) u6) ?_)
       refine sq (o_pv (.string (lget z1 z0)) (by kernel_rfl) (x_load1 (by kernel_rfl) Tryz.isAgg9 (r2 0 _ rfl)) ?_)
       refine sq (o_pv (.bool (decide ((lget z1 z0 : ByteArray) = (ByteArray.mk #[46, 46])))) (by kernel_rfl) (x_streq (by kernel_rfl) (by kernel_rfl)) ?_)
       refine sq (o_pv (.bool (decide ((lget z1 z0 : ByteArray) = (ByteArray.mk #[46, 46])))) rfl (by kernel_rfl) ?_)
       refine nil_ ?_
       refine then_normal (y6 _ _ _ ⟨[(38, (.bool (decide ((lget z1 z0 : ByteArray) = (ByteArray.mk #[46, 46])))))], fit_mk (fun _ _ => rfl) (by kernel_rfl) (vs_cons (by kernel_rfl) vs_nil), ?_⟩)
       exact ⟨z6, (decide ((lget z1 z0 : ByteArray) = (ByteArray.mk #[46, 46]))), rfl, y3, z9, y4, z5, hp⟩
    ·
     rintro _ y5 n7 ⟨y0, y1, rfl, u7, u9, r4, r5, r6⟩
     replace hp := s1 y1 r6
     refine then_normal (j2 _ _ _ _ ?_)
     refine cond_b y1 (by kernel_rfl) (fun v2 => ?_) (fun v2 => ?_)
     ·
      replace hp := hp.1 v2
      refine seq_ (fun _ g0 => ?_)
      refine reg_ ?_
      refine sq (o_pv (.int .i64 (5 : Int)) rfl (by kernel_rfl) ?_)
      refine nil_ ?_
      refine then_normal (g0 _ _ _ _ ?_)
      refine wp_ret ?_
      refine then_ret ?_
      refine blk_ret ?_
      refine then_ret ?_
      refine then_ret ?_
      refine blk_ret ?_
      refine then_ret ?_
      refine end_ret hQ (.int .i64 (5 : Int)) (by kernel_rfl) ?_
      exact ⟨(5 : Int), hp, u7, rfl, (by decide : inR .i64 (5 : Int))⟩
     ·
      replace hp := hp.2 v2
      refine wp_skip ?_
      refine then_normal (j1 _ _ _ _ ?_)
      refine seq_ (fun _ g1 => ?_)
      refine reg_ ?_
      refine sq (o_pv (.int .i64 (0 : Int)) rfl (by kernel_rfl) ?_)
      refine nil_ ?_
      refine then_normal (g1 _ _ _ _ ?_)
      refine wp_block ?_
      obtain ⟨g2, t0, r7, hp⟩ := hp
      refine loop_ 72057044282114084 (fun kq lq y9 => ∃ (z7 : List Nat) (z2 : Int), (lq = [(5, (.int .i64 z2))]) ∧ (kq = t0 z2) ∧ (Evo [] w y9) ∧ (Old z7 y9) ∧ (Sub X z7) ∧ (Sl rStr z7 y9 z4 z3 z1) ∧ (inR .i64 z2) ∧ (g2 z2)) (t0 (0 : Int)) [(5, (.int .i64 (0 : Int)))] (vs_cons (by kernel_rfl) vs_nil) ⟨y0, (0 : Int), rfl, rfl, u7, u9, r4, r5, (by decide : inR .i64 (0 : Int)), r7⟩ ?_
      rintro _ _ y9 n8 ⟨z7, z2, rfl, rfl, v3, v0, v8, z8, r8, r9⟩ m4 q0
      replace hp := hp z2 r9 r8
      refine seq_ (fun _ g3 => ?_)
      refine seq_ (fun _ g4 => ?_)
      refine reg_ ?_
      refine sq (o_pv (.int .i64 z2) rfl (by kernel_rfl) ?_)
      refine sq (o_pv (.slice z4 z1.length z3) rfl (by kernel_rfl) ?_)
      refine sq (o_pv (.int .i64 z0) rfl (by kernel_rfl) ?_)
      obtain ⟨t1, hp⟩ := hp
      obtain ⟨g5, g6, m5, q1, m6, m7, q2, q3⟩ := Sl.atI z8 z0 t1
      obtain ⟨rfl, q4⟩ := q2
      replace hp := hp q4
      refine sq (o_pv (.pointer (some ⟨g5, g6 + z0.toNat * 1, none⟩)) rfl (x_ixA (m := z1.length) (c := z3) (k := .i64) (i := z0) Tryz.underlying72 Tryz.sizeOf9 (by rw [← q1]; kernel_rfl) (by kernel_rfl) t1) ?_)
      refine sq (o_pv (.string (lget z1 z0)) rfl (x_load1 (by kernel_rfl) Tryz.isAgg9 (q3 0 _ rfl)) ?_)
      refine sq (o_pv (.int .i64 ((lget z1 z0).size : Int)) rfl (by kernel_rfl) ?_)
      refine sq (o_pv (.bool (decide (z2 < ((lget z1 z0).size : Int)))) rfl (by kernel_rfl) ?_)
      refine nil_ ?_
      refine then_normal (g4 _ _ _ _ ?_)
      refine cond_d (z2 < ((lget z1 z0).size : Int)) (by kernel_rfl) (fun v4 => ?_) (fun v4 => ?_)
      ·
       replace hp := hp.1 v4
       refine wp_skip ?_
       refine then_normal (g3 _ _ _ _ ?_)
       refine seq_ (fun _ g7 => ?_)
       refine wp_block ?_
       refine seq_ (fun _ g8 => ?_)
       refine reg_ ?_
       refine sq (o_pv (.slice z4 z1.length z3) rfl (by kernel_rfl) ?_)
       refine sq (o_pv (.int .i64 z0) rfl (by kernel_rfl) ?_)
       obtain ⟨t2, hp⟩ := hp
       obtain ⟨g9, d0, m8, q5, m9, n0, q6, q7⟩ := Sl.atI z8 z0 t2
       obtain ⟨rfl, q8⟩ := q6
       replace hp := hp q8
       refine sq (o_pv (.pointer (some ⟨g9, d0 + z0.toNat * 1, none⟩)) rfl (x_ixA (m := z1.length) (c := z3) (k := .i64) (i := z0) Tryz.underlying72 Tryz.sizeOf9 (by rw [← q5]; kernel_rfl) (by kernel_rfl) t2) ?_)
       refine sq (o_pv (.string (lget z1 z0)) rfl (x_load1 (by kernel_rfl) Tryz.isAgg9 (q7 0 _ rfl)) ?_)
       refine sq (o_pv (.int .i64 z2) rfl (by kernel_rfl) ?_)
       obtain ⟨d1, hp⟩ := hp
       refine sq (o_pv (.int .u8 (bget (lget z1 z0) z2)) rfl (x_bget (k := .i64) (by kernel_rfl) (by kernel_rfl) Tryz.underlying9 d1) ?_)
       refine sq (o_call 84 #[(.int .u8 (bget (lget z1 z0) z2))] rfl (x_call Tryz.call84 (by kernel_rfl)) (rectoref1_good_w (X := []) (c := bget (lget z1 z0) z2) (Old.nil _) (bget_u8 _ _) hp) ?_)
       rintro _ n9 ⟨t3, hp, v5, rfl⟩
       have v6 := Step.of0 z7 v5
       refine sq (o_pv (.bool (!t3)) rfl (by kernel_rfl) ?_)
       refine nil_ ?_
       refine then_normal (g8 _ _ _ _ ?_)
       refine cond_b (!t3) (by kernel_rfl) (fun v7 => ?_) (fun v7 => ?_)
       ·
        replace hp := hp.1 v7
        refine seq_ (fun _ d2 => ?_)
        refine reg_ ?_
        refine sq (o_pv (.int .i64 (5 : Int)) rfl (by kernel_rfl) ?_)
        refine nil_ ?_
        refine then_normal (d2 _ _ _ _ ?_)
        refine wp_ret ?_
        refine blk_ret ?_
        refine then_ret ?_
        refine then_ret ?_
        refine blk_ret ?_
        refine blk_ret ?_
        refine then_ret ?_
        refine then_ret ?_
        refine blk_ret ?_
        refine then_ret ?_
        have d3 := (Evo.then0 v3 v5)
        refine end_ret hQ (.int .i64 (5 : Int)) (by kernel_rfl) ?_
        exact ⟨(5 : Int), hp, d3, rfl, (by decide : inR .i64 (5 : Int))⟩
       ·
        replace hp := hp.2 v7
        refine wp_skip ?_
        refine blk_normal ?_
        refine then_normal (g7 _ _ _ _ ?_)
        refine reg_ ?_
        refine sq (o_pv (.int .i64 z2) rfl (by kernel_rfl) ?_)
        obtain ⟨t4, hp⟩ := hp
        refine sq (o_pv (.int .i64 (z2 + (1 : Int))) rfl (x_add2 (k := .i64) (a := z2) (b := (1 : Int)) (z2 + (1 : Int)) (by kernel_rfl) (by kernel_rfl) (wrap_inR t4)) ?_)
        refine sq (o_pv (.int .i64 (z2 + (1 : Int))) rfl (by kernel_rfl) ?_)
        refine nil_ ?_
        have d4 := (Evo.then0 v3 v5)
        have t5 := (Old.step v0 v6)
        have q9 := (Sub.trans v8 (Step.up v6))
        have k0 := (Sl.step z8 v6)
        refine then_normal (q0 _ _ _ ⟨_, [(5, (.int .i64 (z2 + (1 : Int))))], hp.2, fit_mk (AgB.mix _ _ _) (by kernel_rfl) (vs_cons (by kernel_rfl) vs_nil), ?_⟩)
        exact ⟨z7, (z2 + (1 : Int)), rfl, rfl, d4, t5, q9, k0, t4, hp.1⟩
      ·
       replace hp := hp.2 v4
       refine wp_exit ?_
       refine then_exit ?_
       refine then_exit ?_
       refine blk_exit ?_
       refine blk_normal ?_
       refine then_normal (j0 _ _ _ _ ?_)
       refine reg_ ?_
       refine sq (o_pv (.int .i64 z0) rfl (by kernel_rfl) ?_)
       obtain ⟨t6, hp⟩ := hp
       refine sq (o_pv (.int .i64 (z0 + (1 : Int))) rfl (x_add2 (k := .i64) (a := z0) (b := (1 : Int)) (z0 + (1 : Int)) (by kernel_rfl) (by kernel_rfl) (wrap_inR t6)) ?_)
       refine sq (o_pv (.int .i64 (z0 + (1 : Int))) rfl (by kernel_rfl) ?_)
       refine nil_ ?_
       refine then_normal (s0 _ _ _ ⟨_, [(4, (.int .i64 (z0 + (1 : Int))))], hp.2, fit_mk (AgB.nest (AgB.nest (AgB.look (AgB.mix _ _ _) (by kernel_rfl)) (by kernel_rfl) (by kernel_rfl)) (by kernel_rfl) (by kernel_rfl)) (by kernel_rfl) (vs_cons (by kernel_rfl) vs_nil), ?_⟩)
       exact ⟨z7, (z0 + (1 : Int)), rfl, rfl, v3, v0, v8, z8, t6, hp.1⟩
   ·
    replace hp := hp.2 v1
    refine wp_exit ?_
    refine then_exit ?_
    refine then_exit ?_
    refine blk_exit ?_
    refine then_normal (l1 _ _ _ _ ?_)
    refine seq_ (fun _ d5 => ?_)
    refine reg_ ?_
    refine sq (o_pv (.int .i64 (0 : Int)) rfl (by kernel_rfl) ?_)
    refine nil_ ?_
    refine then_normal (d5 _ _ _ _ ?_)
    refine wp_ret ?_
    refine end_ret hQ (.int .i64 (0 : Int)) (by kernel_rfl) ?_
    exact ⟨(0 : Int), hp, y3, rfl, (by decide : inR .i64 (0 : Int))⟩
def rectolaw5_get_p (l : (List S_rectolaw5_one)) (p : ByteArray) (Q : Int → Prop) : Prop :=
 ((l.length ≤ 9223372036854775807) → ((p.size ≤ maxLen) → (∃ (z0 : Int → Prop) (z1 : Int → Nat), (z0 (0 : Int)) ∧ (∀ (i8 : Int), (z0 i8) → (inR .i64 i8) → (((i8 < (l.length : Int)) → ((inL l i8) ∧ ((((lget l i8).path).size ≤ maxLen) → ((((lget l i8).data).size ≤ maxLen) → ((inR .i64 ((lget l i8).mode)) → ((inR .i64 ((lget l i8).time)) → ((inR .i64 ((lget l i8).inode)) → (((((lget l i8).path : ByteArray) = p) → Q i8) ∧ ((¬ (((lget l i8).path : ByteArray) = p)) → ((inR .i64 (i8 + (1 : Int))) ∧ ((z0 (i8 + (1 : Int))) ∧ z1 (i8 + (1 : Int)) < z1 i8))))))))))) ∧ ((¬ (i8 < (l.length : Int))) → Q (-1 : Int)))))))
set_option maxRecDepth 20000 in
set_option maxHeartbeats 4000000 in
theorem rectolaw5_get_w {X : List Nat} {w : World} {l : (List S_rectolaw5_one)} {p : ByteArray} {z1 : Option Addr} {z0 : Nat} {Q : Int → Prop} (v9 : Old X w) (y4 : Sl r_rectolaw5_one X w z1 z0 l) (u0 : p.size ≤ maxLen) (hp : rectolaw5_get_p l p Q) :
  Calls Tryz.prog 43 #[(.slice z1 l.length z0), (.string p)] w (Ret fun v w' => ∃ (v1 : Int), Q v1 ∧ Evo [] w w' ∧ v = (.int .i64 v1) ∧ inR .i64 v1) := by
 have hXo := v9
 have E0 : Evo [] w w := RB.refl _ _ _
 have hS : Sub X X := Sub.refl _
 unfold rectolaw5_get_p at hp
 refine enter_ Tryz.func43 rfl 20 [(0, (.slice z1 l.length z0)), (1, (.string p))] (by kernel_rfl) (fun Qe hQ => ?_)
 replace hp := hp (Sl.len y4)
 replace hp := hp u0
 refine seq_ (fun _ u9 => ?_)
 refine reg_ ?_
 refine sq (o_pv (.int .i64 (0 : Int)) rfl (by kernel_rfl) ?_)
 refine nil_ ?_
 refine then_normal (u9 _ _ _ _ ?_)
 refine seq_ (fun _ t0 => ?_)
 refine seq_ (fun _ t1 => ?_)
 refine reg_ ?_
 refine sq (o_pv (.int .i64 (0 : Int)) rfl (by kernel_rfl) ?_)
 refine nil_ ?_
 refine then_normal (t1 _ _ _ _ ?_)
 refine wp_block ?_
 obtain ⟨u1, y5, v2, hp⟩ := hp
 refine loop_ 1048560 (fun kq lq z8 => ∃ (z2 : List Nat) (i8 : Int), (lq = [(5, (.int .i64 i8))]) ∧ (kq = y5 i8) ∧ (Evo [] w z8) ∧ (Old z2 z8) ∧ (Sub X z2) ∧ (Sl r_rectolaw5_one z2 z8 z1 z0 l) ∧ (inR .i64 i8) ∧ (u1 i8)) (y5 (0 : Int)) [(5, (.int .i64 (0 : Int)))] (vs_cons (by kernel_rfl) vs_nil) ⟨X, (0 : Int), rfl, rfl, E0, hXo, hS, y4, (by decide : inR .i64 (0 : Int)), v2⟩ ?_
 rintro _ _ z8 t6 ⟨z2, i8, rfl, rfl, z9, y3, v3, y0, y6, v4⟩ t2 v5
 replace hp := hp i8 v4 y6
 refine seq_ (fun _ u2 => ?_)
 refine seq_ (fun _ u3 => ?_)
 refine reg_ ?_
 refine sq (o_pv (.int .i64 i8) rfl (by kernel_rfl) ?_)
 refine sq (o_pv (.slice z1 l.length z0) rfl (by kernel_rfl) ?_)
 refine sq (o_pv (.int .i64 (l.length : Int)) rfl (by kernel_rfl) ?_)
 refine sq (o_pv (.bool (decide (i8 < (l.length : Int)))) rfl (by kernel_rfl) ?_)
 refine nil_ ?_
 refine then_normal (u3 _ _ _ _ ?_)
 refine cond_d (i8 < (l.length : Int)) (by kernel_rfl) (fun y1 => ?_) (fun y1 => ?_)
 ·
  replace hp := hp.1 y1
  refine wp_skip ?_
  refine then_normal (u2 _ _ _ _ ?_)
  refine seq_ (fun _ u4 => ?_)
  refine wp_block ?_
  refine seq_ (fun _ u5 => ?_)
  refine reg_ ?_
  refine sq (o_pv (.slice z1 l.length z0) rfl (by kernel_rfl) ?_)
  refine sq (o_pv (.int .i64 i8) rfl (by kernel_rfl) ?_)
  obtain ⟨y7, hp⟩ := hp
  obtain ⟨y8, y9, t3, v6, t4, t5, v7, v8⟩ := Sl.atI y0 i8 y7
  obtain ⟨rfl, z4, z5, z6, z7, z3⟩ := r_rectolaw5_one_open v7
  replace hp := hp z4
  replace hp := hp z5
  replace hp := hp z6
  replace hp := hp z7
  replace hp := hp z3
  refine sq (o_pv (.pointer (some ⟨y8, y9 + i8.toNat * 5, none⟩)) rfl (x_ixA (m := l.length) (c := z0) (k := .i64) (i := i8) Tryz.underlying27 Tryz.sizeOf90 (by rw [← v6]; kernel_rfl) (by kernel_rfl) y7) ?_)
  refine sq (o_pv (.pointer (some ⟨y8, y9 + i8.toNat * 5, none⟩)) rfl (by kernel_rfl) ?_)
  refine sq (o_pv (.string ((lget l i8).path)) rfl (x_load1 (by kernel_rfl) Tryz.isAgg9 (v8 0 _ rfl)) ?_)
  refine sq (o_pv (.string p) rfl (by kernel_rfl) ?_)
  refine sq (o_pv (.bool (decide (((lget l i8).path : ByteArray) = p))) rfl (x_streq (by kernel_rfl) (by kernel_rfl)) ?_)
  refine nil_ ?_
  refine then_normal (u5 _ _ _ _ ?_)
  refine cond_d (((lget l i8).path : ByteArray) = p) (by kernel_rfl) (fun y2 => ?_) (fun y2 => ?_)
  ·
   replace hp := hp.1 y2
   refine seq_ (fun _ u6 => ?_)
   refine reg_ ?_
   refine sq (o_pv (.int .i64 i8) rfl (by kernel_rfl) ?_)
   refine sq (o_pv (.int .i64 i8) rfl (by kernel_rfl) ?_)
   refine nil_ ?_
   refine then_normal (u6 _ _ _ _ ?_)
   refine wp_ret ?_
   refine blk_ret ?_
   refine then_ret ?_
   refine then_ret ?_
   refine blk_ret ?_
   refine then_ret ?_
   refine end_ret hQ (.int .i64 i8) (by kernel_rfl) ?_
   exact ⟨i8, hp, z9, rfl, y6⟩
  ·
   replace hp := hp.2 y2
   refine wp_skip ?_
   refine blk_normal ?_
   refine then_normal (u4 _ _ _ _ ?_)
   refine reg_ ?_
   refine sq (o_pv (.int .i64 i8) rfl (by kernel_rfl) ?_)
   obtain ⟨v0, hp⟩ := hp
   refine sq (o_pv (.int .i64 (i8 + (1 : Int))) rfl (x_add2 (k := .i64) (a := i8) (b := (1 : Int)) (i8 + (1 : Int)) (by kernel_rfl) (by kernel_rfl) (wrap_inR v0)) ?_)
   refine sq (o_pv (.int .i64 (i8 + (1 : Int))) rfl (by kernel_rfl) ?_)
   refine nil_ ?_
   refine then_normal (v5 _ _ _ ⟨_, [(5, (.int .i64 (i8 + (1 : Int))))], hp.2, fit_mk (AgB.mix _ _ _) (by kernel_rfl) (vs_cons (by kernel_rfl) vs_nil), ?_⟩)
   exact ⟨z2, (i8 + (1 : Int)), rfl, rfl, z9, y3, v3, y0, v0, hp.1⟩
 ·
  replace hp := hp.2 y1
  refine wp_exit ?_
  refine then_exit ?_
  refine then_exit ?_
  refine blk_exit ?_
  refine then_normal (t0 _ _ _ _ ?_)
  refine seq_ (fun _ u7 => ?_)
  refine reg_ ?_
  refine sq (o_pv (.int .i64 (-1 : Int)) rfl (by kernel_rfl) ?_)
  refine nil_ ?_
  refine then_normal (u7 _ _ _ _ ?_)
  refine wp_ret ?_
  refine end_ret hQ (.int .i64 (-1 : Int)) (by kernel_rfl) ?_
  exact ⟨(-1 : Int), hp, z9, rfl, (by decide : inR .i64 (-1 : Int))⟩
def rectoref1_Under_p (p : ByteArray) (dir : ByteArray) (Q : Bool → Prop) : Prop :=
 ((p.size ≤ maxLen) → ((dir.size ≤ maxLen) → ((((dir : ByteArray) = (ByteArray.mk #[])) → Q (!decide ((p : ByteArray) = (ByteArray.mk #[])))) ∧ ((¬ ((dir : ByteArray) = (ByteArray.mk #[]))) → (((inR .i64 ((dir.size : Int) + (1 : Int))) ∧ ((((p.size : Int) > ((dir.size : Int) + (1 : Int))) → ((0 ≤ (0 : Int) ∧ (0 : Int) ≤ (dir.size : Int) ∧ (dir.size : Int) ≤ (p.size : Int)) ∧ ((((bsub p (0 : Int) (dir.size : Int) : ByteArray) = dir) → ((0 ≤ (dir.size : Int) ∧ (dir.size : Int) < (p.size : Int)) ∧ True)) ∧ ((¬ ((bsub p (0 : Int) (dir.size : Int) : ByteArray) = dir)) → True)))) ∧ ((¬ ((p.size : Int) > ((dir.size : Int) + (1 : Int)))) → True))) ∧ Q (decide (((p.size : Int) > ((dir.size : Int) + (1 : Int))) ∧ (((bsub p (0 : Int) (dir.size : Int) : ByteArray) = dir) ∧ ((bget p (dir.size : Int)) = (47 : Int))))))))))
set_option maxRecDepth 20000 in
set_option maxHeartbeats 4000000 in
theorem rectoref1_Under_w {X : List Nat} {w : World} {p : ByteArray} {dir : ByteArray} {Q : Bool → Prop} (z6 : Old X w) (z7 : p.size ≤ maxLen) (z3 : dir.size ≤ maxLen) (hp : rectoref1_Under_p p dir Q) :
  Calls Tryz.prog 63 #[(.string p), (.string dir)] w (Ret fun v w' => ∃ (z8 : Bool), Q z8 ∧ Evo [] w w' ∧ v = (.bool z8)) := by
 have hXo := z6
 have E0 : Evo [] w w := RB.refl _ _ _
 have hS : Sub X X := Sub.refl _
 unfold rectoref1_Under_p at hp
 refine enter_ Tryz.func63 rfl 30 [(0, (.string p)), (1, (.string dir))] (by kernel_rfl) (fun Qe hQ => ?_)
 replace hp := hp z7
 replace hp := hp z3
 refine seq_ (fun _ y2 => ?_)
 refine reg_ ?_
 refine sq (o_pv (.bool false) rfl (by kernel_rfl) ?_)
 refine nil_ ?_
 refine then_normal (y2 _ _ _ _ ?_)
 refine seq_ (fun _ y3 => ?_)
 refine seq_ (fun _ y4 => ?_)
 refine reg_ ?_
 refine sq (o_pv (.string dir) rfl (by kernel_rfl) ?_)
 refine sq (o_pv (.bool (decide ((dir : ByteArray) = (ByteArray.mk #[])))) rfl (x_streq (by kernel_rfl) (by kernel_rfl)) ?_)
 refine nil_ ?_
 refine then_normal (y4 _ _ _ _ ?_)
 refine cond_d ((dir : ByteArray) = (ByteArray.mk #[])) (by kernel_rfl) (fun z5 => ?_) (fun z5 => ?_)
 ·
  replace hp := hp.1 z5
  refine seq_ (fun _ y5 => ?_)
  refine reg_ ?_
  refine sq (o_pv (.string p) rfl (by kernel_rfl) ?_)
  refine sq (o_pv (.bool (!decide ((p : ByteArray) = (ByteArray.mk #[])))) rfl (x_strne (by kernel_rfl) (by kernel_rfl)) ?_)
  refine sq (o_pv (.bool (!decide ((p : ByteArray) = (ByteArray.mk #[])))) rfl (by kernel_rfl) ?_)
  refine nil_ ?_
  refine then_normal (y5 _ _ _ _ ?_)
  refine wp_ret ?_
  refine then_ret ?_
  refine end_ret hQ (.bool (!decide ((p : ByteArray) = (ByteArray.mk #[])))) (by kernel_rfl) ?_
  exact ⟨(!decide ((p : ByteArray) = (ByteArray.mk #[]))), hp, E0, rfl⟩
 ·
  replace hp := hp.2 z5
  refine wp_skip ?_
  refine then_normal (y3 _ _ _ _ ?_)
  refine seq_ (fun _ y6 => ?_)
  obtain ⟨hp, hq⟩ := hp
  refine ground_ ?_
  refine join_ 1073741328 (fun lq z4 => lq = [(4, (.bool (decide (((p.size : Int) > ((dir.size : Int) + (1 : Int))) ∧ (((bsub p (0 : Int) (dir.size : Int) : ByteArray) = dir) ∧ ((bget p (dir.size : Int)) = (47 : Int)))))))] ∧ w = z4) (fun y7 z2 => ?_) ?_
  ·
   refine reg_ ?_
   refine sq (o_pv (.string p) rfl (by kernel_rfl) ?_)
   refine sq (o_pv (.int .i64 (p.size : Int)) rfl (by kernel_rfl) ?_)
   refine sq (o_pv (.string dir) rfl (by kernel_rfl) ?_)
   refine sq (o_pv (.int .i64 (dir.size : Int)) rfl (by kernel_rfl) ?_)
   obtain ⟨z9, hp⟩ := hp
   refine sq (o_pv (.int .i64 ((dir.size : Int) + (1 : Int))) rfl (x_add2 (k := .i64) (a := (dir.size : Int)) (b := (1 : Int)) ((dir.size : Int) + (1 : Int)) (by kernel_rfl) (by kernel_rfl) (wrap_inR z9)) ?_)
   by_cases z0 : (p.size : Int) > ((dir.size : Int) + (1 : Int))
   ·
    replace hp := hp.1 z0
    refine sq (o_pv (.bool true) rfl (x_dt (p := (p.size : Int) > ((dir.size : Int) + (1 : Int))) (by kernel_rfl) z0) ?_)
    refine sq (o_pv (.bool true) rfl (by kernel_rfl) ?_)
    refine sq (o_pv (.string p) (by kernel_rfl) (by kernel_rfl) ?_)
    refine sq (o_pv (.string dir) (by kernel_rfl) (by kernel_rfl) ?_)
    refine sq (o_pv (.int .i64 (dir.size : Int)) (by kernel_rfl) (by kernel_rfl) ?_)
    obtain ⟨y0, hp⟩ := hp
    refine sq (o_pv (.string (bsub p (0 : Int) (dir.size : Int))) (by kernel_rfl) (x_sub01 (k := .i64) (by kernel_rfl)  (by kernel_rfl) Tryz.underlying9 y0) ?_)
    refine sq (o_pv (.string dir) (by kernel_rfl) (by kernel_rfl) ?_)
    by_cases z1 : (bsub p (0 : Int) (dir.size : Int) : ByteArray) = dir
    ·
     replace hp := hp.1 z1
     refine sq (o_pv (.bool true) (by kernel_rfl) (x_dt (p := (bsub p (0 : Int) (dir.size : Int) : ByteArray) = dir) (x_streq (by kernel_rfl) (by kernel_rfl)) z1) ?_)
     refine sq (o_pv (.bool true) rfl (by kernel_rfl) ?_)
     refine sq (o_pv (.bool true) rfl (by kernel_rfl) ?_)
     refine sq (o_pv (.string p) (by kernel_rfl) (by kernel_rfl) ?_)
     refine sq (o_pv (.string dir) (by kernel_rfl) (by kernel_rfl) ?_)
     refine sq (o_pv (.int .i64 (dir.size : Int)) (by kernel_rfl) (by kernel_rfl) ?_)
     obtain ⟨y1, hp⟩ := hp
     refine sq (o_pv (.int .u8 (bget p (dir.size : Int))) (by kernel_rfl) (x_bget (k := .i64) (by kernel_rfl) (by kernel_rfl) Tryz.underlying9 y1) ?_)
     refine sq (o_pv (.bool (decide ((bget p (dir.size : Int)) = (47 : Int)))) (by kernel_rfl) (by kernel_rfl) ?_)
     refine sq (o_pv (.bool (decide ((bget p (dir.size : Int)) = (47 : Int)))) rfl (by kernel_rfl) ?_)
     refine sq (o_pv (.bool (decide ((bget p (dir.size : Int)) = (47 : Int)))) rfl (by kernel_rfl) ?_)
     refine nil_ ?_
     refine then_normal (z2 _ _ _ ⟨[(4, (.bool (decide (((p.size : Int) > ((dir.size : Int) + (1 : Int))) ∧ (((bsub p (0 : Int) (dir.size : Int) : ByteArray) = dir) ∧ ((bget p (dir.size : Int)) = (47 : Int)))))))], fit_mk (fun _ _ => rfl) (by kernel_rfl) (vs_cons (Eq.trans (b := (.bool (decide ((bget p (dir.size : Int)) = (47 : Int))))) (by kernel_rfl) (dec_d ((and_iff_right z0).trans ((and_iff_right z1).trans Iff.rfl))).symm) vs_nil), rfl, rfl⟩)
    ·
     replace hp := hp.2 z1
     refine sq (o_pv (.bool false) (by kernel_rfl) (x_df (p := (bsub p (0 : Int) (dir.size : Int) : ByteArray) = dir) (x_streq (by kernel_rfl) (by kernel_rfl)) z1) ?_)
     refine sq (o_pv (.bool false) rfl (by kernel_rfl) ?_)
     refine sq (o_pv (.bool false) rfl (by kernel_rfl) ?_)
     refine sq (o_not (by kernel_rfl) ?_)
     refine sq (o_not (by kernel_rfl) ?_)
     refine sq (o_not (by kernel_rfl) ?_)
     refine sq (o_not (by kernel_rfl) ?_)
     refine sq (o_not (by kernel_rfl) ?_)
     refine sq (o_pv (.bool false) rfl (by kernel_rfl) ?_)
     refine sq (o_pv (.bool false) rfl (by kernel_rfl) ?_)
     refine nil_ ?_
     refine then_normal (z2 _ _ _ ⟨[(4, (.bool (decide (((p.size : Int) > ((dir.size : Int) + (1 : Int))) ∧ (((bsub p (0 : Int) (dir.size : Int) : ByteArray) = dir) ∧ ((bget p (dir.size : Int)) = (47 : Int)))))))], fit_mk (fun _ _ => rfl) (by kernel_rfl) (vs_cons (Eq.trans (b := (.bool false)) (by kernel_rfl) (dec_f ((and_iff_right z0).trans (iff_false_intro (fun h => z1 h.1)))).symm) vs_nil), rfl, rfl⟩)
   ·
    replace hp := hp.2 z0
    refine sq (o_pv (.bool false) rfl (x_df (p := (p.size : Int) > ((dir.size : Int) + (1 : Int))) (by kernel_rfl) z0) ?_)
    refine sq (o_pv (.bool false) rfl (by kernel_rfl) ?_)
    refine sq (o_not (by kernel_rfl) ?_)
    refine sq (o_not (by kernel_rfl) ?_)
    refine sq (o_not (by kernel_rfl) ?_)
    refine sq (o_not (by kernel_rfl) ?_)
    refine sq (o_not (by kernel_rfl) ?_)
    refine sq (o_not (by kernel_rfl) ?_)
    refine sq (o_pv (.bool false) rfl (by kernel_rfl) ?_)
    refine sq (o_pv (.bool false) rfl (by kernel_rfl) ?_)
    refine sq (o_not (by kernel_rfl) ?_)
    refine sq (o_not (by kernel_rfl) ?_)
    refine sq (o_not (by kernel_rfl) ?_)
    refine sq (o_not (by kernel_rfl) ?_)
    refine sq (o_not (by kernel_rfl) ?_)
    refine sq (o_pv (.bool false) rfl (by kernel_rfl) ?_)
    refine sq (o_pv (.bool false) rfl (by kernel_rfl) ?_)
    refine nil_ ?_
    refine then_normal (z2 _ _ _ ⟨[(4, (.bool (decide (((p.size : Int) > ((dir.size : Int) + (1 : Int))) ∧ (((bsub p (0 : Int) (dir.size : Int) : ByteArray) = dir) ∧ ((bget p (dir.size : Int)) = (47 : Int)))))))], fit_mk (fun _ _ => rfl) (by kernel_rfl) (vs_cons (Eq.trans (b := (.bool false)) (by kernel_rfl) (dec_f (iff_false_intro (fun h => z0 h.1))).symm) vs_nil), rfl, rfl⟩)
  ·
   rintro _ z4 y8 ⟨rfl, hw⟩
   subst hw
   have hp := hq
   refine then_normal (y6 _ _ _ _ ?_)
   refine wp_ret ?_
   refine end_ret hQ (.bool (decide (((p.size : Int) > ((dir.size : Int) + (1 : Int))) ∧ (((bsub p (0 : Int) (dir.size : Int) : ByteArray) = dir) ∧ ((bget p (dir.size : Int)) = (47 : Int)))))) (by kernel_rfl) ?_
   exact ⟨(decide (((p.size : Int) > ((dir.size : Int) + (1 : Int))) ∧ (((bsub p (0 : Int) (dir.size : Int) : ByteArray) = dir) ∧ ((bget p (dir.size : Int)) = (47 : Int))))), hp, E0, rfl⟩
def rectoref1_Clash_p (a : ByteArray) (b : ByteArray) (Q : Bool → Prop) : Prop :=
 ((a.size ≤ maxLen) → ((b.size ≤ maxLen) → (∃ z0 : Bool → Prop, (∀ (z1 : Bool), z0 z1 → Q z1) ∧ ((((a : ByteArray) = (ByteArray.mk #[])) → (z0 false)) ∧ ((¬ ((a : ByteArray) = (ByteArray.mk #[]))) → ((((b : ByteArray) = (ByteArray.mk #[])) → (z0 false)) ∧ ((¬ ((b : ByteArray) = (ByteArray.mk #[]))) → (rectoref1_Under_p a b (fun (z2 : Bool) => (((z2 = true) → (z0 true)) ∧ ((z2 = false) → (rectoref1_Under_p b a (fun (z3 : Bool) => (z0 z3))))))))))))))
set_option maxRecDepth 20000 in
set_option maxHeartbeats 4000000 in
theorem rectoref1_Clash_w {X : List Nat} {w : World} {a : ByteArray} {b : ByteArray} {Q : Bool → Prop} (y9 : Old X w) (z6 : a.size ≤ maxLen) (z7 : b.size ≤ maxLen) (hp : rectoref1_Clash_p a b Q) :
  Calls Tryz.prog 58 #[(.string a), (.string b)] w (Ret fun v w' => ∃ (v0 : Bool), Q v0 ∧ Evo [] w w' ∧ v = (.bool v0)) := by
 have hXo := y9
 have E0 : Evo [] w w := RB.refl _ _ _
 have hS : Sub X X := Sub.refl _
 unfold rectoref1_Clash_p at hp
 refine enter_ Tryz.func58 rfl 21 [(0, (.string a)), (1, (.string b))] (by kernel_rfl) (fun Qe hQ => ?_)
 replace hp := hp z6
 replace hp := hp z7
 refine seq_ (fun _ v7 => ?_)
 refine reg_ ?_
 refine sq (o_pv (.bool false) rfl (by kernel_rfl) ?_)
 refine nil_ ?_
 refine then_normal (v7 _ _ _ _ ?_)
 refine seq_ (fun _ v8 => ?_)
 obtain ⟨v1, y5, hp⟩ := hp
 refine ground_ ?_
 refine join_ 2097136 (fun lq z8 => ∃ (z9 : List Nat) (z0 : Bool), (lq = [(4, (.bool z0))]) ∧ (Evo [] w z8) ∧ (Old z9 z8) ∧ (Sub X z9) ∧ (v1 z0)) (fun v9 z1 => ?_) ?_
 ·
  refine reg_ ?_
  refine sq (o_pv (.string a) rfl (by kernel_rfl) ?_)
  by_cases z3 : (a : ByteArray) = (ByteArray.mk #[])
  ·
   replace hp := hp.1 z3
   refine sq (o_pv (.bool false) rfl (x_ndf (p := (a : ByteArray) = (ByteArray.mk #[])) (x_strne (by kernel_rfl) (by kernel_rfl)) z3) ?_)
   refine sq (o_pv (.bool false) rfl (by kernel_rfl) ?_)
   refine sq (o_not (by kernel_rfl) ?_)
   refine sq (o_not (by kernel_rfl) ?_)
   refine sq (o_pv (.bool false) rfl (by kernel_rfl) ?_)
   refine sq (o_pv (.bool false) rfl (by kernel_rfl) ?_)
   refine sq (o_not (by kernel_rfl) ?_)
   refine sq (o_not (by kernel_rfl) ?_)
   refine sq (o_not (by kernel_rfl) ?_)
   refine sq (o_not (by kernel_rfl) ?_)
   refine sq (o_not (by kernel_rfl) ?_)
   refine sq (o_not (by kernel_rfl) ?_)
   refine sq (o_not (by kernel_rfl) ?_)
   refine sq (o_not (by kernel_rfl) ?_)
   refine sq (o_pv (.bool false) rfl (by kernel_rfl) ?_)
   refine sq (o_pv (.bool false) rfl (by kernel_rfl) ?_)
   refine nil_ ?_
   refine then_normal (z1 _ _ _ ⟨[(4, (.bool false))], fit_mk (fun _ _ => rfl) (by kernel_rfl) (vs_cons (by kernel_rfl) vs_nil), ?_⟩)
   exact ⟨X, false, rfl, E0, hXo, hS, hp⟩
  ·
   replace hp := hp.2 z3
   refine sq (o_pv (.bool true) rfl (x_ndt (p := (a : ByteArray) = (ByteArray.mk #[])) (x_strne (by kernel_rfl) (by kernel_rfl)) z3) ?_)
   refine sq (o_pv (.bool true) rfl (by kernel_rfl) ?_)
   refine sq (o_pv (.string b) (by kernel_rfl) (by kernel_rfl) ?_)
   by_cases z4 : (b : ByteArray) = (ByteArray.mk #[])
   ·
    replace hp := hp.1 z4
    refine sq (o_pv (.bool false) (by kernel_rfl) (x_ndf (p := (b : ByteArray) = (ByteArray.mk #[])) (x_strne (by kernel_rfl) (by kernel_rfl)) z4) ?_)
    refine sq (o_pv (.bool false) rfl (by kernel_rfl) ?_)
    refine sq (o_pv (.bool false) rfl (by kernel_rfl) ?_)
    refine sq (o_not (by kernel_rfl) ?_)
    refine sq (o_not (by kernel_rfl) ?_)
    refine sq (o_not (by kernel_rfl) ?_)
    refine sq (o_not (by kernel_rfl) ?_)
    refine sq (o_not (by kernel_rfl) ?_)
    refine sq (o_not (by kernel_rfl) ?_)
    refine sq (o_not (by kernel_rfl) ?_)
    refine sq (o_not (by kernel_rfl) ?_)
    refine sq (o_pv (.bool false) rfl (by kernel_rfl) ?_)
    refine sq (o_pv (.bool false) rfl (by kernel_rfl) ?_)
    refine nil_ ?_
    refine then_normal (z1 _ _ _ ⟨[(4, (.bool false))], fit_mk (fun _ _ => rfl) (by kernel_rfl) (vs_cons (by kernel_rfl) vs_nil), ?_⟩)
    exact ⟨X, false, rfl, E0, hXo, hS, hp⟩
   ·
    replace hp := hp.2 z4
    refine sq (o_pv (.bool true) (by kernel_rfl) (x_ndt (p := (b : ByteArray) = (ByteArray.mk #[])) (x_strne (by kernel_rfl) (by kernel_rfl)) z4) ?_)
    refine sq (o_pv (.bool true) rfl (by kernel_rfl) ?_)
    refine sq (o_pv (.bool true) rfl (by kernel_rfl) ?_)
    refine sq (o_pv (.string a) (by kernel_rfl) (by kernel_rfl) ?_)
    refine sq (o_pv (.string b) (by kernel_rfl) (by kernel_rfl) ?_)
    refine sq (o_call 63 #[(.string a), (.string b)] (by kernel_rfl) (x_call Tryz.call63 (by kernel_rfl)) (rectoref1_Under_w (X := []) (p := a) (dir := b) (Old.nil _) z6 z7 hp) ?_)
    rintro _ u1 ⟨v2, hp, y0, rfl⟩
    have z5 := Step.of0 X y0
    cases v2
    ·
     replace hp := hp.2 rfl
     refine sq (o_pv (.bool false) (by kernel_rfl) (by kernel_rfl) ?_)
     refine sq (o_pv (.string b) (by kernel_rfl) (by kernel_rfl) ?_)
     refine sq (o_pv (.string a) (by kernel_rfl) (by kernel_rfl) ?_)
     refine sq (o_call 63 #[(.string b), (.string a)] (by kernel_rfl) (x_call Tryz.call63 (by kernel_rfl)) (rectoref1_Under_w (X := []) (p := b) (dir := a) (Old.nil _) z7 z6 hp) ?_)
     rintro _ u2 ⟨z2, hp, y3, rfl⟩
     have y4 := Step.of0 X y3
     refine sq (o_pv (.bool z2) (by kernel_rfl) (by kernel_rfl) ?_)
     refine sq (o_pv (.bool z2) rfl (by kernel_rfl) ?_)
     refine sq (o_pv (.bool z2) rfl (by kernel_rfl) ?_)
     refine nil_ ?_
     have v3 := (Evo.then0 (Evo.then0 E0 y0) y3)
     have y1 := (Old.step (Old.step hXo z5) y4)
     have y6 := (Sub.trans (Sub.trans hS (Step.up z5)) (Step.up y4))
     refine then_normal (z1 _ _ _ ⟨[(4, (.bool z2))], fit_mk (fun _ _ => rfl) (by kernel_rfl) (vs_cons (by kernel_rfl) vs_nil), ?_⟩)
     exact ⟨X, z2, rfl, v3, y1, y6, hp⟩
    ·
     replace hp := hp.1 rfl
     refine sq (o_pv (.bool true) (by kernel_rfl) (by kernel_rfl) ?_)
     refine sq (o_not (by kernel_rfl) ?_)
     refine sq (o_not (by kernel_rfl) ?_)
     refine sq (o_not (by kernel_rfl) ?_)
     refine sq (o_pv (.bool true) (by kernel_rfl) (by kernel_rfl) ?_)
     refine sq (o_pv (.bool true) rfl (by kernel_rfl) ?_)
     refine sq (o_pv (.bool true) rfl (by kernel_rfl) ?_)
     refine nil_ ?_
     have v4 := (Evo.then0 E0 y0)
     have y2 := (Old.step hXo z5)
     have y7 := (Sub.trans hS (Step.up z5))
     refine then_normal (z1 _ _ _ ⟨[(4, (.bool true))], fit_mk (fun _ _ => rfl) (by kernel_rfl) (vs_cons (by kernel_rfl) vs_nil), ?_⟩)
     exact ⟨X, true, rfl, v4, y2, y7, hp⟩
 ·
  rintro _ z8 u3 ⟨z9, z0, rfl, v5, v6, u0, y8⟩
  replace hp := y5 z0 y8
  refine then_normal (v8 _ _ _ _ ?_)
  refine wp_ret ?_
  refine end_ret hQ (.bool z0) (by kernel_rfl) ?_
  exact ⟨z0, hp, v5, rfl⟩
def rectolaw5_clash_p (l : (List S_rectolaw5_one)) (p : ByteArray) (but : ByteArray) (Q : Bool → Prop) : Prop :=
 ((l.length ≤ 9223372036854775807) → ((p.size ≤ maxLen) → ((but.size ≤ maxLen) → (∃ (z1 : Int → Prop) (z4 : Int → Nat), (z1 (0 : Int)) ∧ (∀ (z0 : Int), (z1 z0) → (inR .i64 z0) → (((z0 < (l.length : Int)) → (∃ z2 : Bool → Prop, (∀ (z3 : Bool), z2 z3 → (((z3 = true) → Q true) ∧ ((z3 = false) → ((inR .i64 (z0 + (1 : Int))) ∧ ((z1 (z0 + (1 : Int))) ∧ z4 (z0 + (1 : Int)) < z4 z0))))) ∧ ((inL l z0) ∧ ((((lget l z0).path).size ≤ maxLen) → ((((lget l z0).data).size ≤ maxLen) → ((inR .i64 ((lget l z0).mode)) → ((inR .i64 ((lget l z0).time)) → ((inR .i64 ((lget l z0).inode)) → (((((lget l z0).path : ByteArray) = but) → (z2 false)) ∧ ((¬ (((lget l z0).path : ByteArray) = but)) → ((inL l z0) ∧ ((((lget l z0).path).size ≤ maxLen) → ((((lget l z0).data).size ≤ maxLen) → ((inR .i64 ((lget l z0).mode)) → ((inR .i64 ((lget l z0).time)) → ((inR .i64 ((lget l z0).inode)) → (rectoref1_Clash_p ((lget l z0).path) p (fun (z5 : Bool) => (z2 z5))))))))))))))))))) ∧ ((¬ (z0 < (l.length : Int))) → Q false)))))))
set_option maxRecDepth 20000 in
set_option maxHeartbeats 4000000 in
theorem rectolaw5_clash_w {X : List Nat} {w : World} {l : (List S_rectolaw5_one)} {p : ByteArray} {but : ByteArray} {z3 : Option Addr} {z1 : Nat} {Q : Bool → Prop} (r9 : Old X w) (s7 : Sl r_rectolaw5_one X w z3 z1 l) (s8 : p.size ≤ maxLen) (t1 : but.size ≤ maxLen) (hp : rectolaw5_clash_p l p but Q) :
  Calls Tryz.prog 45 #[(.slice z3 l.length z1), (.string p), (.string but)] w (Ret fun v w' => ∃ (q0 : Bool), Q q0 ∧ Evo [] w w' ∧ v = (.bool q0)) := by
 have hXo := r9
 have E0 : Evo [] w w := RB.refl _ _ _
 have hS : Sub X X := Sub.refl _
 unfold rectolaw5_clash_p at hp
 refine enter_ Tryz.func45 rfl 30 [(0, (.slice z3 l.length z1)), (1, (.string p)), (2, (.string but))] (by kernel_rfl) (fun Qe hQ => ?_)
 replace hp := hp (Sl.len s7)
 replace hp := hp s8
 replace hp := hp t1
 refine seq_ (fun _ q9 => ?_)
 refine reg_ ?_
 refine sq (o_pv (.bool false) rfl (by kernel_rfl) ?_)
 refine nil_ ?_
 refine then_normal (q9 _ _ _ _ ?_)
 refine seq_ (fun _ k0 => ?_)
 refine seq_ (fun _ k1 => ?_)
 refine reg_ ?_
 refine sq (o_pv (.int .i64 (0 : Int)) rfl (by kernel_rfl) ?_)
 refine nil_ ?_
 refine then_normal (k1 _ _ _ _ ?_)
 refine wp_block ?_
 obtain ⟨s9, v8, t2, hp⟩ := hp
 refine loop_ 1073741760 (fun kq lq z8 => ∃ (z2 : List Nat) (z0 : Int), (lq = [(7, (.int .i64 z0))]) ∧ (kq = v8 z0) ∧ (Evo [] w z8) ∧ (Old z2 z8) ∧ (Sub X z2) ∧ (Sl r_rectolaw5_one z2 z8 z3 z1 l) ∧ (inR .i64 z0) ∧ (s9 z0)) (v8 (0 : Int)) [(7, (.int .i64 (0 : Int)))] (vs_cons (by kernel_rfl) vs_nil) ⟨X, (0 : Int), rfl, rfl, E0, hXo, hS, s7, (by decide : inR .i64 (0 : Int)), t2⟩ ?_
 rintro _ _ z8 k2 ⟨z2, z0, rfl, rfl, v1, y3, v6, z5, r0, t3⟩ q1 t4
 replace hp := hp z0 t3 r0
 refine seq_ (fun _ r1 => ?_)
 refine seq_ (fun _ r2 => ?_)
 refine reg_ ?_
 refine sq (o_pv (.int .i64 z0) rfl (by kernel_rfl) ?_)
 refine sq (o_pv (.slice z3 l.length z1) rfl (by kernel_rfl) ?_)
 refine sq (o_pv (.int .i64 (l.length : Int)) rfl (by kernel_rfl) ?_)
 refine sq (o_pv (.bool (decide (z0 < (l.length : Int)))) rfl (by kernel_rfl) ?_)
 refine nil_ ?_
 refine then_normal (r2 _ _ _ _ ?_)
 refine cond_d (z0 < (l.length : Int)) (by kernel_rfl) (fun v2 => ?_) (fun v2 => ?_)
 ·
  replace hp := hp.1 v2
  refine wp_skip ?_
  refine then_normal (r1 _ _ _ _ ?_)
  refine seq_ (fun _ r3 => ?_)
  refine wp_block ?_
  refine seq_ (fun _ r4 => ?_)
  obtain ⟨r5, t5, hp⟩ := hp
  refine ground_ ?_
  refine join_ 1073725440 (fun lq z9 => ∃ (z6 : List Nat) (z7 : Bool), (lq = [(29, (.bool z7))]) ∧ (Evo [] w z9) ∧ (Old z6 z9) ∧ (Sub X z6) ∧ (Sl r_rectolaw5_one z6 z9 z3 z1 l) ∧ (r5 z7)) (fun q2 v7 => ?_) ?_
  ·
   refine reg_ ?_
   refine sq (o_pv (.slice z3 l.length z1) rfl (by kernel_rfl) ?_)
   refine sq (o_pv (.int .i64 z0) rfl (by kernel_rfl) ?_)
   obtain ⟨v9, hp⟩ := hp
   obtain ⟨u0, u1, q3, t6, q4, q5, t7, t8⟩ := Sl.atI z5 z0 v9
   obtain ⟨rfl, y4, y5, y6, y7, y0⟩ := r_rectolaw5_one_open t7
   replace hp := hp y4
   replace hp := hp y5
   replace hp := hp y6
   replace hp := hp y7
   replace hp := hp y0
   refine sq (o_pv (.pointer (some ⟨u0, u1 + z0.toNat * 5, none⟩)) rfl (x_ixA (m := l.length) (c := z1) (k := .i64) (i := z0) Tryz.underlying27 Tryz.sizeOf90 (by rw [← t6]; kernel_rfl) (by kernel_rfl) v9) ?_)
   refine sq (o_pv (.pointer (some ⟨u0, u1 + z0.toNat * 5, none⟩)) rfl (by kernel_rfl) ?_)
   refine sq (o_pv (.string ((lget l z0).path)) rfl (x_load1 (by kernel_rfl) Tryz.isAgg9 (t8 0 _ rfl)) ?_)
   refine sq (o_pv (.string but) rfl (by kernel_rfl) ?_)
   by_cases y1 : ((lget l z0).path : ByteArray) = but
   ·
    replace hp := hp.1 y1
    refine sq (o_pv (.bool false) rfl (x_ndf (p := ((lget l z0).path : ByteArray) = but) (x_strne (by kernel_rfl) (by kernel_rfl)) y1) ?_)
    refine sq (o_pv (.bool false) rfl (by kernel_rfl) ?_)
    refine sq (o_not (by kernel_rfl) ?_)
    refine sq (o_not (by kernel_rfl) ?_)
    refine sq (o_not (by kernel_rfl) ?_)
    refine sq (o_not (by kernel_rfl) ?_)
    refine sq (o_not (by kernel_rfl) ?_)
    refine sq (o_not (by kernel_rfl) ?_)
    refine sq (o_not (by kernel_rfl) ?_)
    refine sq (o_pv (.bool false) rfl (by kernel_rfl) ?_)
    refine nil_ ?_
    refine then_normal (v7 _ _ _ ⟨[(29, (.bool false))], fit_mk (fun _ _ => rfl) (by kernel_rfl) (vs_cons (by kernel_rfl) vs_nil), ?_⟩)
    exact ⟨z2, false, rfl, v1, y3, v6, z5, hp⟩
   ·
    replace hp := hp.2 y1
    refine sq (o_pv (.bool true) rfl (x_ndt (p := ((lget l z0).path : ByteArray) = but) (x_strne (by kernel_rfl) (by kernel_rfl)) y1) ?_)
    refine sq (o_pv (.bool true) rfl (by kernel_rfl) ?_)
    refine sq (o_pv (.slice z3 l.length z1) (by kernel_rfl) (by kernel_rfl) ?_)
    refine sq (o_pv (.int .i64 z0) (by kernel_rfl) (by kernel_rfl) ?_)
    obtain ⟨u2, hp⟩ := hp
    obtain ⟨u3, u4, q6, t9, q7, q8, s0, s1⟩ := Sl.atI z5 z0 u2
    obtain ⟨rfl, z4, y8, y9, v0, y2⟩ := r_rectolaw5_one_open s0
    replace hp := hp z4
    replace hp := hp y8
    replace hp := hp y9
    replace hp := hp v0
    replace hp := hp y2
    refine sq (o_pv (.pointer (some ⟨u3, u4 + z0.toNat * 5, none⟩)) (by kernel_rfl) (x_ixA (m := l.length) (c := z1) (k := .i64) (i := z0) Tryz.underlying27 Tryz.sizeOf90 (by rw [← t9]; kernel_rfl) (by kernel_rfl) u2) ?_)
    refine sq (o_pv (.pointer (some ⟨u3, u4 + z0.toNat * 5, none⟩)) (by kernel_rfl) (by kernel_rfl) ?_)
    refine sq (o_pv (.string ((lget l z0).path)) (by kernel_rfl) (x_load1 (by kernel_rfl) Tryz.isAgg9 (s1 0 _ rfl)) ?_)
    refine sq (o_pv (.string p) (by kernel_rfl) (by kernel_rfl) ?_)
    refine sq (o_call 58 #[(.string ((lget l z0).path)), (.string p)] (by kernel_rfl) (x_call Tryz.call58 (by kernel_rfl)) (rectoref1_Clash_w (X := []) (a := (lget l z0).path) (b := p) (Old.nil _) z4 s8 hp) ?_)
    rintro _ k3 ⟨v3, hp, u5, rfl⟩
    have v4 := Step.of0 z2 u5
    refine sq (o_pv (.bool v3) rfl (by kernel_rfl) ?_)
    refine nil_ ?_
    have r6 := (Evo.then0 v1 u5)
    have u6 := (Old.step y3 v4)
    have s2 := (Sub.trans v6 (Step.up v4))
    have s3 := (Sl.step z5 v4)
    refine then_normal (v7 _ _ _ ⟨[(29, (.bool v3))], fit_mk (fun _ _ => rfl) (by kernel_rfl) (vs_cons (by kernel_rfl) vs_nil), ?_⟩)
    exact ⟨z2, v3, rfl, r6, u6, s2, s3, hp⟩
  ·
   rintro _ z9 k4 ⟨z6, z7, rfl, u7, u9, s4, s5, s6⟩
   replace hp := t5 z7 s6
   refine then_normal (r4 _ _ _ _ ?_)
   refine cond_b z7 (by kernel_rfl) (fun v5 => ?_) (fun v5 => ?_)
   ·
    replace hp := hp.1 v5
    refine seq_ (fun _ r7 => ?_)
    refine reg_ ?_
    refine sq (o_pv (.bool true) rfl (by kernel_rfl) ?_)
    refine nil_ ?_
    refine then_normal (r7 _ _ _ _ ?_)
    refine wp_ret ?_
    refine blk_ret ?_
    refine then_ret ?_
    refine then_ret ?_
    refine blk_ret ?_
    refine then_ret ?_
    refine end_ret hQ (.bool true) (by kernel_rfl) ?_
    exact ⟨true, hp, u7, rfl⟩
   ·
    replace hp := hp.2 v5
    refine wp_skip ?_
    refine blk_normal ?_
    refine then_normal (r3 _ _ _ _ ?_)
    refine reg_ ?_
    refine sq (o_pv (.int .i64 z0) rfl (by kernel_rfl) ?_)
    obtain ⟨t0, hp⟩ := hp
    refine sq (o_pv (.int .i64 (z0 + (1 : Int))) rfl (x_add2 (k := .i64) (a := z0) (b := (1 : Int)) (z0 + (1 : Int)) (by kernel_rfl) (by kernel_rfl) (wrap_inR t0)) ?_)
    refine sq (o_pv (.int .i64 (z0 + (1 : Int))) rfl (by kernel_rfl) ?_)
    refine nil_ ?_
    refine then_normal (t4 _ _ _ ⟨_, [(7, (.int .i64 (z0 + (1 : Int))))], hp.2, fit_mk (AgB.nest (AgB.look (AgB.mix _ _ _) (by kernel_rfl)) (by kernel_rfl) (by kernel_rfl)) (by kernel_rfl) (vs_cons (by kernel_rfl) vs_nil), ?_⟩)
    exact ⟨z6, (z0 + (1 : Int)), rfl, rfl, u7, u9, s4, s5, t0, hp.1⟩
 ·
  replace hp := hp.2 v2
  refine wp_exit ?_
  refine then_exit ?_
  refine then_exit ?_
  refine blk_exit ?_
  refine then_normal (k0 _ _ _ _ ?_)
  refine seq_ (fun _ r8 => ?_)
  refine reg_ ?_
  refine sq (o_pv (.bool false) rfl (by kernel_rfl) ?_)
  refine nil_ ?_
  refine then_normal (r8 _ _ _ _ ?_)
  refine wp_ret ?_
  refine end_ret hQ (.bool false) (by kernel_rfl) ?_
  exact ⟨false, hp, v1, rfl⟩
def rectolaw5_used_p (l : (List S_rectolaw5_one)) (Q : Int → Prop) : Prop :=
 ((l.length ≤ 9223372036854775807) → (∃ (z2 : Int → Int → Prop) (z3 : Int → Int → Nat), (z2 (0 : Int) (0 : Int)) ∧ (∀ (z1 : Int) (z0 : Int), (z2 z1 z0) → (inR .i64 z1) → (inR .i64 z0) → (((z0 < (l.length : Int)) → ((inL l z0) ∧ ((((lget l z0).path).size ≤ maxLen) → ((((lget l z0).data).size ≤ maxLen) → ((inR .i64 ((lget l z0).mode)) → ((inR .i64 ((lget l z0).time)) → ((inR .i64 ((lget l z0).inode)) → ((inR .i64 (z1 + (((lget l z0).data).size : Int))) ∧ ((inR .i64 (z0 + (1 : Int))) ∧ ((z2 (z1 + (((lget l z0).data).size : Int)) (z0 + (1 : Int))) ∧ z3 (z1 + (((lget l z0).data).size : Int)) (z0 + (1 : Int)) < z3 z1 z0)))))))))) ∧ ((¬ (z0 < (l.length : Int))) → Q z1)))))
set_option maxRecDepth 20000 in
set_option maxHeartbeats 4000000 in
theorem rectolaw5_used_w {X : List Nat} {w : World} {l : (List S_rectolaw5_one)} {z3 : Option Addr} {z2 : Nat} {Q : Int → Prop} (u2 : Old X w) (y5 : Sl r_rectolaw5_one X w z3 z2 l) (hp : rectolaw5_used_p l Q) :
  Calls Tryz.prog 55 #[(.slice z3 l.length z2)] w (Ret fun v w' => ∃ (v3 : Int), Q v3 ∧ Evo [] w w' ∧ v = (.int .i64 v3) ∧ inR .i64 v3) := by
 have hXo := u2
 have E0 : Evo [] w w := RB.refl _ _ _
 have hS : Sub X X := Sub.refl _
 unfold rectolaw5_used_p at hp
 refine enter_ Tryz.func55 rfl 20 [(0, (.slice z3 l.length z2))] (by kernel_rfl) (fun Qe hQ => ?_)
 replace hp := hp (Sl.len y5)
 refine seq_ (fun _ u9 => ?_)
 refine reg_ ?_
 refine sq (o_pv (.int .i64 (0 : Int)) rfl (by kernel_rfl) ?_)
 refine nil_ ?_
 refine then_normal (u9 _ _ _ _ ?_)
 refine seq_ (fun _ t0 => ?_)
 refine reg_ ?_
 refine sq (o_pv (.int .i64 (0 : Int)) rfl (by kernel_rfl) ?_)
 refine nil_ ?_
 refine then_normal (t0 _ _ _ _ ?_)
 refine seq_ (fun _ t1 => ?_)
 refine seq_ (fun _ t2 => ?_)
 refine reg_ ?_
 refine sq (o_pv (.int .i64 (0 : Int)) rfl (by kernel_rfl) ?_)
 refine nil_ ?_
 refine then_normal (t2 _ _ _ _ ?_)
 refine wp_block ?_
 obtain ⟨u3, y6, v4, hp⟩ := hp
 refine loop_ 524280 (fun kq lq y0 => ∃ (z4 : List Nat) (z1 : Int) (z0 : Int), (lq = [(3, (.int .i64 z1)), (4, (.int .i64 z0))]) ∧ (kq = y6 z1 z0) ∧ (Evo [] w y0) ∧ (Old z4 y0) ∧ (Sub X z4) ∧ (Sl r_rectolaw5_one z4 y0 z3 z2 l) ∧ (inR .i64 z1) ∧ (inR .i64 z0) ∧ (u3 z1 z0)) (y6 (0 : Int) (0 : Int)) [(3, (.int .i64 (0 : Int))), (4, (.int .i64 (0 : Int)))] (vs_cons (by kernel_rfl) (vs_cons (by kernel_rfl) vs_nil)) ⟨X, (0 : Int), (0 : Int), rfl, rfl, E0, hXo, hS, y5, (by decide : inR .i64 (0 : Int)), (by decide : inR .i64 (0 : Int)), v4⟩ ?_
 rintro _ _ y0 t7 ⟨z4, z1, z0, rfl, rfl, y7, y4, v5, y1, y2, v6, v7⟩ t3 v8
 replace hp := hp z1 z0 v7 y2 v6
 refine seq_ (fun _ u4 => ?_)
 refine seq_ (fun _ u5 => ?_)
 refine reg_ ?_
 refine sq (o_pv (.int .i64 z0) rfl (by kernel_rfl) ?_)
 refine sq (o_pv (.slice z3 l.length z2) rfl (by kernel_rfl) ?_)
 refine sq (o_pv (.int .i64 (l.length : Int)) rfl (by kernel_rfl) ?_)
 refine sq (o_pv (.bool (decide (z0 < (l.length : Int)))) rfl (by kernel_rfl) ?_)
 refine nil_ ?_
 refine then_normal (u5 _ _ _ _ ?_)
 refine cond_d (z0 < (l.length : Int)) (by kernel_rfl) (fun y3 => ?_) (fun y3 => ?_)
 ·
  replace hp := hp.1 y3
  refine wp_skip ?_
  refine then_normal (u4 _ _ _ _ ?_)
  refine seq_ (fun _ u6 => ?_)
  refine wp_block ?_
  refine reg_ ?_
  refine sq (o_pv (.int .i64 z1) rfl (by kernel_rfl) ?_)
  refine sq (o_pv (.slice z3 l.length z2) rfl (by kernel_rfl) ?_)
  refine sq (o_pv (.int .i64 z0) rfl (by kernel_rfl) ?_)
  obtain ⟨y8, hp⟩ := hp
  obtain ⟨y9, v0, t4, v9, t5, t6, u0, u1⟩ := Sl.atI y1 z0 y8
  obtain ⟨rfl, z6, z7, z8, z9, z5⟩ := r_rectolaw5_one_open u0
  replace hp := hp z6
  replace hp := hp z7
  replace hp := hp z8
  replace hp := hp z9
  replace hp := hp z5
  refine sq (o_pv (.pointer (some ⟨y9, v0 + z0.toNat * 5, none⟩)) rfl (x_ixA (m := l.length) (c := z2) (k := .i64) (i := z0) Tryz.underlying27 Tryz.sizeOf90 (by rw [← v9]; kernel_rfl) (by kernel_rfl) y8) ?_)
  refine sq (o_pv (.pointer (some ⟨y9, v0 + z0.toNat * 5 + 1, none⟩)) rfl (by kernel_rfl) ?_)
  refine sq (o_pv (.string ((lget l z0).data)) rfl (x_load1 (by kernel_rfl) Tryz.isAgg9 (u1 1 _ rfl)) ?_)
  refine sq (o_pv (.int .i64 (((lget l z0).data).size : Int)) rfl (by kernel_rfl) ?_)
  obtain ⟨v1, hp⟩ := hp
  refine sq (o_pv (.int .i64 (z1 + (((lget l z0).data).size : Int))) rfl (x_add2 (k := .i64) (a := z1) (b := (((lget l z0).data).size : Int)) (z1 + (((lget l z0).data).size : Int)) (by kernel_rfl) (by kernel_rfl) (wrap_inR v1)) ?_)
  refine sq (o_pv (.int .i64 (z1 + (((lget l z0).data).size : Int))) rfl (by kernel_rfl) ?_)
  refine nil_ ?_
  refine blk_normal ?_
  refine then_normal (u6 _ _ _ _ ?_)
  refine reg_ ?_
  refine sq (o_pv (.int .i64 z0) rfl (by kernel_rfl) ?_)
  obtain ⟨v2, hp⟩ := hp
  refine sq (o_pv (.int .i64 (z0 + (1 : Int))) rfl (x_add2 (k := .i64) (a := z0) (b := (1 : Int)) (z0 + (1 : Int)) (by kernel_rfl) (by kernel_rfl) (wrap_inR v2)) ?_)
  refine sq (o_pv (.int .i64 (z0 + (1 : Int))) rfl (by kernel_rfl) ?_)
  refine nil_ ?_
  refine then_normal (v8 _ _ _ ⟨_, [(3, (.int .i64 (z1 + (((lget l z0).data).size : Int)))), (4, (.int .i64 (z0 + (1 : Int))))], hp.2, fit_mk (AgB.mix _ _ _) (by kernel_rfl) (vs_cons (by kernel_rfl) (vs_cons (by kernel_rfl) vs_nil)), ?_⟩)
  exact ⟨z4, (z1 + (((lget l z0).data).size : Int)), (z0 + (1 : Int)), rfl, rfl, y7, y4, v5, y1, v1, v2, hp.1⟩
 ·
  replace hp := hp.2 y3
  refine wp_exit ?_
  refine then_exit ?_
  refine then_exit ?_
  refine blk_exit ?_
  refine then_normal (t1 _ _ _ _ ?_)
  refine seq_ (fun _ u7 => ?_)
  refine reg_ ?_
  refine sq (o_pv (.int .i64 z1) rfl (by kernel_rfl) ?_)
  refine sq (o_pv (.int .i64 z1) rfl (by kernel_rfl) ?_)
  refine nil_ ?_
  refine then_normal (u7 _ _ _ _ ?_)
  refine wp_ret ?_
  refine end_ret hQ (.int .i64 z1) (by kernel_rfl) ?_
  exact ⟨z1, hp, y7, rfl, y2⟩
end Go.Proofs.YtaolmfepdmgohaaGreatDoor
