/- Walks of functions: what each asks and computes, as a plain predicate, and the contract from it. -/
import Derived.Test.YtlkfoebophjhfaaGreatDoorChecked
import Derived.Test.YtlkfoebophjhfaaGreatDoorPk
import Derived.Test.YtlkfoebophjhfaaGreatDoorJa8
namespace Go.Proofs.YtlkfoebophjhfaaGreatDoor
open Go
def rectoref1_good_p (c : Int) (Q : Bool → Prop) : Prop :=
 ((inR .u8 c) → Q (decide (((c ≥ (97 : Int)) ∧ ((c ≤ (122 : Int)) ∨ (((c ≥ (48 : Int)) ∧ ((c ≤ (57 : Int)) ∨ ((c = (46 : Int)) ∨ ((c = (45 : Int)) ∨ (c = (95 : Int)))))) ∨ ((¬ (c ≥ (48 : Int))) ∧ ((c = (46 : Int)) ∨ ((c = (45 : Int)) ∨ (c = (95 : Int)))))))) ∨ ((¬ (c ≥ (97 : Int))) ∧ (((c ≥ (48 : Int)) ∧ ((c ≤ (57 : Int)) ∨ ((c = (46 : Int)) ∨ ((c = (45 : Int)) ∨ (c = (95 : Int)))))) ∨ ((¬ (c ≥ (48 : Int))) ∧ ((c = (46 : Int)) ∨ ((c = (45 : Int)) ∨ (c = (95 : Int))))))))))
set_option maxRecDepth 20000 in
set_option maxHeartbeats 4000000 in
theorem rectoref1_good_w {X : List Nat} {w : World} {c : Int} {Q : Bool → Prop} (y6 : Old X w) (y7 : inR .u8 c) (hp : rectoref1_good_p c Q) :
  Calls Tryz.prog 47 #[(.int .u8 c)] w (Ret fun v w' => ∃ (y8 : Bool), Q y8 ∧ Evo [] w w' ∧ v = (.bool y8)) := by
 have hXo := y6
 have E0 : Evo [] w w := RB.refl _ _ _
 have hS : Sub X X := Sub.refl _
 unfold rectoref1_good_p at hp
 refine enter_ Tryz.func47 rfl 29 [(0, (.int .u8 c))] (by kernel_rfl) (fun Qe hQ => ?_)
 replace hp := hp y7
 refine sr (fun _ y9 => pv (.bool false) ?_)
 refine nt y9 (seq_ (fun _ v0 => ?_))
 refine ground_ ?_
 refine join_ 536870908 (fun lq y5 => lq = [(2, (.bool (decide (((c ≥ (97 : Int)) ∧ ((c ≤ (122 : Int)) ∨ (((c ≥ (48 : Int)) ∧ ((c ≤ (57 : Int)) ∨ ((c = (46 : Int)) ∨ ((c = (45 : Int)) ∨ (c = (95 : Int)))))) ∨ ((¬ (c ≥ (48 : Int))) ∧ ((c = (46 : Int)) ∨ ((c = (45 : Int)) ∨ (c = (95 : Int)))))))) ∨ ((¬ (c ≥ (97 : Int))) ∧ (((c ≥ (48 : Int)) ∧ ((c ≤ (57 : Int)) ∨ ((c = (46 : Int)) ∨ ((c = (45 : Int)) ∨ (c = (95 : Int)))))) ∨ ((¬ (c ≥ (48 : Int))) ∧ ((c = (46 : Int)) ∨ ((c = (45 : Int)) ∨ (c = (95 : Int)))))))))))] ∧ w = y5) (fun v1 z0 => ?_) ?_
 ·
  refine reg_ (pv (.int .u8 c) ?_)
  by_cases z1 : c ≥ (97 : Int)
  ·
   refine pw (.bool true) (x_dt (p := c ≥ (97 : Int)) (by kernel_rfl) z1) ?_
   refine pv (.bool true) ?_
   refine pv (.int .u8 c) ?_
   by_cases z2 : c ≤ (122 : Int)
   ·
    refine pw (.bool true) (x_dt (p := c ≤ (122 : Int)) (by kernel_rfl) z2) ?_
    refine pv (.bool true) ?_
    refine pv (.bool true) ?_
    refine no ?_
    refine no ?_
    refine no ?_
    refine no ?_
    refine no ?_
    refine no ?_
    refine pv (.bool true) ?_
    refine pv (.bool true) ?_
    refine no ?_
    refine no ?_
    refine pv (.bool true) ?_
    refine pv (.bool true) ?_
    refine no ?_
    refine no ?_
    refine pv (.bool true) ?_
    refine pv (.bool true) ?_
    refine no ?_
    refine no ?_
    refine pv (.bool true) ?_
    refine pv (.bool true) ?_
    refine nil_ (then_normal (z0 _ _ _ ⟨[(2, (.bool (decide (((c ≥ (97 : Int)) ∧ ((c ≤ (122 : Int)) ∨ (((c ≥ (48 : Int)) ∧ ((c ≤ (57 : Int)) ∨ ((c = (46 : Int)) ∨ ((c = (45 : Int)) ∨ (c = (95 : Int)))))) ∨ ((¬ (c ≥ (48 : Int))) ∧ ((c = (46 : Int)) ∨ ((c = (45 : Int)) ∨ (c = (95 : Int)))))))) ∨ ((¬ (c ≥ (97 : Int))) ∧ (((c ≥ (48 : Int)) ∧ ((c ≤ (57 : Int)) ∨ ((c = (46 : Int)) ∨ ((c = (45 : Int)) ∨ (c = (95 : Int)))))) ∨ ((¬ (c ≥ (48 : Int))) ∧ ((c = (46 : Int)) ∨ ((c = (45 : Int)) ∨ (c = (95 : Int)))))))))))], fit_mk (fun _ _ => rfl) (by kernel_rfl) (vs_cons (Eq.trans (b := (.bool true)) (by kernel_rfl) (dec_t (by simp [z1, z2])).symm) vs_nil), rfl, rfl⟩))
   ·
    refine pw (.bool false) (x_df (p := c ≤ (122 : Int)) (by kernel_rfl) z2) ?_
    refine pv (.bool false) ?_
    refine pv (.bool false) ?_
    refine pv (.int .u8 c) ?_
    by_cases z3 : c ≥ (48 : Int)
    ·
     refine pw (.bool true) (x_dt (p := c ≥ (48 : Int)) (by kernel_rfl) z3) ?_
     refine pv (.bool true) ?_
     refine pv (.int .u8 c) ?_
     by_cases z5 : c ≤ (57 : Int)
     ·
      refine pw (.bool true) (x_dt (p := c ≤ (57 : Int)) (by kernel_rfl) z5) ?_
      refine pv (.bool true) ?_
      refine pv (.bool true) ?_
      refine pv (.bool true) ?_
      refine no ?_
      refine no ?_
      refine pv (.bool true) ?_
      refine pv (.bool true) ?_
      refine no ?_
      refine no ?_
      refine pv (.bool true) ?_
      refine pv (.bool true) ?_
      refine no ?_
      refine no ?_
      refine pv (.bool true) ?_
      refine pv (.bool true) ?_
      refine nil_ (then_normal (z0 _ _ _ ⟨[(2, (.bool (decide (((c ≥ (97 : Int)) ∧ ((c ≤ (122 : Int)) ∨ (((c ≥ (48 : Int)) ∧ ((c ≤ (57 : Int)) ∨ ((c = (46 : Int)) ∨ ((c = (45 : Int)) ∨ (c = (95 : Int)))))) ∨ ((¬ (c ≥ (48 : Int))) ∧ ((c = (46 : Int)) ∨ ((c = (45 : Int)) ∨ (c = (95 : Int)))))))) ∨ ((¬ (c ≥ (97 : Int))) ∧ (((c ≥ (48 : Int)) ∧ ((c ≤ (57 : Int)) ∨ ((c = (46 : Int)) ∨ ((c = (45 : Int)) ∨ (c = (95 : Int)))))) ∨ ((¬ (c ≥ (48 : Int))) ∧ ((c = (46 : Int)) ∨ ((c = (45 : Int)) ∨ (c = (95 : Int)))))))))))], fit_mk (fun _ _ => rfl) (by kernel_rfl) (vs_cons (Eq.trans (b := (.bool true)) (by kernel_rfl) (dec_t (by simp [z1, z2, z3, z5])).symm) vs_nil), rfl, rfl⟩))
     ·
      refine pw (.bool false) (x_df (p := c ≤ (57 : Int)) (by kernel_rfl) z5) ?_
      refine pv (.bool false) ?_
      refine pv (.bool false) ?_
      refine pv (.bool false) ?_
      refine pv (.int .u8 c) ?_
      by_cases z7 : c = (46 : Int)
      ·
       refine pw (.bool true) (x_dt (p := c = (46 : Int)) (by kernel_rfl) z7) ?_
       refine pv (.bool true) ?_
       refine pv (.bool true) ?_
       refine no ?_
       refine no ?_
       refine pv (.bool true) ?_
       refine pv (.bool true) ?_
       refine no ?_
       refine no ?_
       refine pv (.bool true) ?_
       refine pv (.bool true) ?_
       refine nil_ (then_normal (z0 _ _ _ ⟨[(2, (.bool (decide (((c ≥ (97 : Int)) ∧ ((c ≤ (122 : Int)) ∨ (((c ≥ (48 : Int)) ∧ ((c ≤ (57 : Int)) ∨ ((c = (46 : Int)) ∨ ((c = (45 : Int)) ∨ (c = (95 : Int)))))) ∨ ((¬ (c ≥ (48 : Int))) ∧ ((c = (46 : Int)) ∨ ((c = (45 : Int)) ∨ (c = (95 : Int)))))))) ∨ ((¬ (c ≥ (97 : Int))) ∧ (((c ≥ (48 : Int)) ∧ ((c ≤ (57 : Int)) ∨ ((c = (46 : Int)) ∨ ((c = (45 : Int)) ∨ (c = (95 : Int)))))) ∨ ((¬ (c ≥ (48 : Int))) ∧ ((c = (46 : Int)) ∨ ((c = (45 : Int)) ∨ (c = (95 : Int)))))))))))], fit_mk (fun _ _ => rfl) (by kernel_rfl) (vs_cons (Eq.trans (b := (.bool true)) (by kernel_rfl) (dec_t (by simp [z1, z2, z3, z5, z7])).symm) vs_nil), rfl, rfl⟩))
      ·
       refine pw (.bool false) (x_df (p := c = (46 : Int)) (by kernel_rfl) z7) ?_
       refine pv (.bool false) ?_
       refine pv (.bool false) ?_
       refine pv (.int .u8 c) ?_
       by_cases y1 : c = (45 : Int)
       ·
        refine pw (.bool true) (x_dt (p := c = (45 : Int)) (by kernel_rfl) y1) ?_
        refine pv (.bool true) ?_
        refine pv (.bool true) ?_
        refine no ?_
        refine no ?_
        refine pv (.bool true) ?_
        refine pv (.bool true) ?_
        refine nil_ (then_normal (z0 _ _ _ ⟨[(2, (.bool (decide (((c ≥ (97 : Int)) ∧ ((c ≤ (122 : Int)) ∨ (((c ≥ (48 : Int)) ∧ ((c ≤ (57 : Int)) ∨ ((c = (46 : Int)) ∨ ((c = (45 : Int)) ∨ (c = (95 : Int)))))) ∨ ((¬ (c ≥ (48 : Int))) ∧ ((c = (46 : Int)) ∨ ((c = (45 : Int)) ∨ (c = (95 : Int)))))))) ∨ ((¬ (c ≥ (97 : Int))) ∧ (((c ≥ (48 : Int)) ∧ ((c ≤ (57 : Int)) ∨ ((c = (46 : Int)) ∨ ((c = (45 : Int)) ∨ (c = (95 : Int)))))) ∨ ((¬ (c ≥ (48 : Int))) ∧ ((c = (46 : Int)) ∨ ((c = (45 : Int)) ∨ (c = (95 : Int)))))))))))], fit_mk (fun _ _ => rfl) (by kernel_rfl) (vs_cons (Eq.trans (b := (.bool true)) (by kernel_rfl) (dec_t (by simp [z1, z2, z3, z5, z7, y1])).symm) vs_nil), rfl, rfl⟩))
       ·
        refine pw (.bool false) (x_df (p := c = (45 : Int)) (by kernel_rfl) y1) ?_
        refine pv (.bool false) ?_
        refine pv (.bool false) ?_
        refine pv (.int .u8 c) ?_
        refine pv (.bool (decide (c = (95 : Int)))) ?_
        refine pv (.bool (decide (c = (95 : Int)))) ?_
        refine pv (.bool (decide (c = (95 : Int)))) ?_
        refine nil_ (then_normal (z0 _ _ _ ⟨[(2, (.bool (decide (((c ≥ (97 : Int)) ∧ ((c ≤ (122 : Int)) ∨ (((c ≥ (48 : Int)) ∧ ((c ≤ (57 : Int)) ∨ ((c = (46 : Int)) ∨ ((c = (45 : Int)) ∨ (c = (95 : Int)))))) ∨ ((¬ (c ≥ (48 : Int))) ∧ ((c = (46 : Int)) ∨ ((c = (45 : Int)) ∨ (c = (95 : Int)))))))) ∨ ((¬ (c ≥ (97 : Int))) ∧ (((c ≥ (48 : Int)) ∧ ((c ≤ (57 : Int)) ∨ ((c = (46 : Int)) ∨ ((c = (45 : Int)) ∨ (c = (95 : Int)))))) ∨ ((¬ (c ≥ (48 : Int))) ∧ ((c = (46 : Int)) ∨ ((c = (45 : Int)) ∨ (c = (95 : Int)))))))))))], fit_mk (fun _ _ => rfl) (by kernel_rfl) (vs_cons (Eq.trans (b := (.bool (decide (c = (95 : Int))))) (by kernel_rfl) (dec_d (by simp [z1, z2, z3, z5, z7, y1])).symm) vs_nil), rfl, rfl⟩))
    ·
     refine pw (.bool false) (x_df (p := c ≥ (48 : Int)) (by kernel_rfl) z3) ?_
     refine pv (.bool false) ?_
     refine no ?_
     refine no ?_
     refine pv (.bool false) ?_
     refine pv (.bool false) ?_
     refine pv (.bool false) ?_
     refine pv (.int .u8 c) ?_
     by_cases z8 : c = (46 : Int)
     ·
      refine pw (.bool true) (x_dt (p := c = (46 : Int)) (by kernel_rfl) z8) ?_
      refine pv (.bool true) ?_
      refine pv (.bool true) ?_
      refine no ?_
      refine no ?_
      refine pv (.bool true) ?_
      refine pv (.bool true) ?_
      refine no ?_
      refine no ?_
      refine pv (.bool true) ?_
      refine pv (.bool true) ?_
      refine nil_ (then_normal (z0 _ _ _ ⟨[(2, (.bool (decide (((c ≥ (97 : Int)) ∧ ((c ≤ (122 : Int)) ∨ (((c ≥ (48 : Int)) ∧ ((c ≤ (57 : Int)) ∨ ((c = (46 : Int)) ∨ ((c = (45 : Int)) ∨ (c = (95 : Int)))))) ∨ ((¬ (c ≥ (48 : Int))) ∧ ((c = (46 : Int)) ∨ ((c = (45 : Int)) ∨ (c = (95 : Int)))))))) ∨ ((¬ (c ≥ (97 : Int))) ∧ (((c ≥ (48 : Int)) ∧ ((c ≤ (57 : Int)) ∨ ((c = (46 : Int)) ∨ ((c = (45 : Int)) ∨ (c = (95 : Int)))))) ∨ ((¬ (c ≥ (48 : Int))) ∧ ((c = (46 : Int)) ∨ ((c = (45 : Int)) ∨ (c = (95 : Int)))))))))))], fit_mk (fun _ _ => rfl) (by kernel_rfl) (vs_cons (Eq.trans (b := (.bool true)) (by kernel_rfl) (dec_t (by simp [z1, z2, z3, z8])).symm) vs_nil), rfl, rfl⟩))
     ·
      refine pw (.bool false) (x_df (p := c = (46 : Int)) (by kernel_rfl) z8) ?_
      refine pv (.bool false) ?_
      refine pv (.bool false) ?_
      refine pv (.int .u8 c) ?_
      by_cases y2 : c = (45 : Int)
      ·
       refine pw (.bool true) (x_dt (p := c = (45 : Int)) (by kernel_rfl) y2) ?_
       refine pv (.bool true) ?_
       refine pv (.bool true) ?_
       refine no ?_
       refine no ?_
       refine pv (.bool true) ?_
       refine pv (.bool true) ?_
       refine nil_ (then_normal (z0 _ _ _ ⟨[(2, (.bool (decide (((c ≥ (97 : Int)) ∧ ((c ≤ (122 : Int)) ∨ (((c ≥ (48 : Int)) ∧ ((c ≤ (57 : Int)) ∨ ((c = (46 : Int)) ∨ ((c = (45 : Int)) ∨ (c = (95 : Int)))))) ∨ ((¬ (c ≥ (48 : Int))) ∧ ((c = (46 : Int)) ∨ ((c = (45 : Int)) ∨ (c = (95 : Int)))))))) ∨ ((¬ (c ≥ (97 : Int))) ∧ (((c ≥ (48 : Int)) ∧ ((c ≤ (57 : Int)) ∨ ((c = (46 : Int)) ∨ ((c = (45 : Int)) ∨ (c = (95 : Int)))))) ∨ ((¬ (c ≥ (48 : Int))) ∧ ((c = (46 : Int)) ∨ ((c = (45 : Int)) ∨ (c = (95 : Int)))))))))))], fit_mk (fun _ _ => rfl) (by kernel_rfl) (vs_cons (Eq.trans (b := (.bool true)) (by kernel_rfl) (dec_t (by simp [z1, z2, z3, z8, y2])).symm) vs_nil), rfl, rfl⟩))
      ·
       refine pw (.bool false) (x_df (p := c = (45 : Int)) (by kernel_rfl) y2) ?_
       refine pv (.bool false) ?_
       refine pv (.bool false) ?_
       refine pv (.int .u8 c) ?_
       refine pv (.bool (decide (c = (95 : Int)))) ?_
       refine pv (.bool (decide (c = (95 : Int)))) ?_
       refine pv (.bool (decide (c = (95 : Int)))) ?_
       refine nil_ (then_normal (z0 _ _ _ ⟨[(2, (.bool (decide (((c ≥ (97 : Int)) ∧ ((c ≤ (122 : Int)) ∨ (((c ≥ (48 : Int)) ∧ ((c ≤ (57 : Int)) ∨ ((c = (46 : Int)) ∨ ((c = (45 : Int)) ∨ (c = (95 : Int)))))) ∨ ((¬ (c ≥ (48 : Int))) ∧ ((c = (46 : Int)) ∨ ((c = (45 : Int)) ∨ (c = (95 : Int)))))))) ∨ ((¬ (c ≥ (97 : Int))) ∧ (((c ≥ (48 : Int)) ∧ ((c ≤ (57 : Int)) ∨ ((c = (46 : Int)) ∨ ((c = (45 : Int)) ∨ (c = (95 : Int)))))) ∨ ((¬ (c ≥ (48 : Int))) ∧ ((c = (46 : Int)) ∨ ((c = (45 : Int)) ∨ (c = (95 : Int)))))))))))], fit_mk (fun _ _ => rfl) (by kernel_rfl) (vs_cons (Eq.trans (b := (.bool (decide (c = (95 : Int))))) (by kernel_rfl) (dec_d (by simp [z1, z2, z3, z8, y2])).symm) vs_nil), rfl, rfl⟩))
  ·
   refine pw (.bool false) (x_df (p := c ≥ (97 : Int)) (by kernel_rfl) z1) ?_
   refine pv (.bool false) ?_
   refine no ?_
   refine no ?_
   refine pv (.bool false) ?_
   refine pv (.bool false) ?_
   refine pv (.int .u8 c) ?_
   by_cases z4 : c ≥ (48 : Int)
   ·
    refine pw (.bool true) (x_dt (p := c ≥ (48 : Int)) (by kernel_rfl) z4) ?_
    refine pv (.bool true) ?_
    refine pv (.int .u8 c) ?_
    by_cases z6 : c ≤ (57 : Int)
    ·
     refine pw (.bool true) (x_dt (p := c ≤ (57 : Int)) (by kernel_rfl) z6) ?_
     refine pv (.bool true) ?_
     refine pv (.bool true) ?_
     refine pv (.bool true) ?_
     refine no ?_
     refine no ?_
     refine pv (.bool true) ?_
     refine pv (.bool true) ?_
     refine no ?_
     refine no ?_
     refine pv (.bool true) ?_
     refine pv (.bool true) ?_
     refine no ?_
     refine no ?_
     refine pv (.bool true) ?_
     refine pv (.bool true) ?_
     refine nil_ (then_normal (z0 _ _ _ ⟨[(2, (.bool (decide (((c ≥ (97 : Int)) ∧ ((c ≤ (122 : Int)) ∨ (((c ≥ (48 : Int)) ∧ ((c ≤ (57 : Int)) ∨ ((c = (46 : Int)) ∨ ((c = (45 : Int)) ∨ (c = (95 : Int)))))) ∨ ((¬ (c ≥ (48 : Int))) ∧ ((c = (46 : Int)) ∨ ((c = (45 : Int)) ∨ (c = (95 : Int)))))))) ∨ ((¬ (c ≥ (97 : Int))) ∧ (((c ≥ (48 : Int)) ∧ ((c ≤ (57 : Int)) ∨ ((c = (46 : Int)) ∨ ((c = (45 : Int)) ∨ (c = (95 : Int)))))) ∨ ((¬ (c ≥ (48 : Int))) ∧ ((c = (46 : Int)) ∨ ((c = (45 : Int)) ∨ (c = (95 : Int)))))))))))], fit_mk (fun _ _ => rfl) (by kernel_rfl) (vs_cons (Eq.trans (b := (.bool true)) (by kernel_rfl) (dec_t (by simp [z1, z4, z6])).symm) vs_nil), rfl, rfl⟩))
    ·
     refine pw (.bool false) (x_df (p := c ≤ (57 : Int)) (by kernel_rfl) z6) ?_
     refine pv (.bool false) ?_
     refine pv (.bool false) ?_
     refine pv (.bool false) ?_
     refine pv (.int .u8 c) ?_
     by_cases z9 : c = (46 : Int)
     ·
      refine pw (.bool true) (x_dt (p := c = (46 : Int)) (by kernel_rfl) z9) ?_
      refine pv (.bool true) ?_
      refine pv (.bool true) ?_
      refine no ?_
      refine no ?_
      refine pv (.bool true) ?_
      refine pv (.bool true) ?_
      refine no ?_
      refine no ?_
      refine pv (.bool true) ?_
      refine pv (.bool true) ?_
      refine nil_ (then_normal (z0 _ _ _ ⟨[(2, (.bool (decide (((c ≥ (97 : Int)) ∧ ((c ≤ (122 : Int)) ∨ (((c ≥ (48 : Int)) ∧ ((c ≤ (57 : Int)) ∨ ((c = (46 : Int)) ∨ ((c = (45 : Int)) ∨ (c = (95 : Int)))))) ∨ ((¬ (c ≥ (48 : Int))) ∧ ((c = (46 : Int)) ∨ ((c = (45 : Int)) ∨ (c = (95 : Int)))))))) ∨ ((¬ (c ≥ (97 : Int))) ∧ (((c ≥ (48 : Int)) ∧ ((c ≤ (57 : Int)) ∨ ((c = (46 : Int)) ∨ ((c = (45 : Int)) ∨ (c = (95 : Int)))))) ∨ ((¬ (c ≥ (48 : Int))) ∧ ((c = (46 : Int)) ∨ ((c = (45 : Int)) ∨ (c = (95 : Int)))))))))))], fit_mk (fun _ _ => rfl) (by kernel_rfl) (vs_cons (Eq.trans (b := (.bool true)) (by kernel_rfl) (dec_t (by simp [z1, z4, z6, z9])).symm) vs_nil), rfl, rfl⟩))
     ·
      refine pw (.bool false) (x_df (p := c = (46 : Int)) (by kernel_rfl) z9) ?_
      refine pv (.bool false) ?_
      refine pv (.bool false) ?_
      refine pv (.int .u8 c) ?_
      by_cases y3 : c = (45 : Int)
      ·
       refine pw (.bool true) (x_dt (p := c = (45 : Int)) (by kernel_rfl) y3) ?_
       refine pv (.bool true) ?_
       refine pv (.bool true) ?_
       refine no ?_
       refine no ?_
       refine pv (.bool true) ?_
       refine pv (.bool true) ?_
       refine nil_ (then_normal (z0 _ _ _ ⟨[(2, (.bool (decide (((c ≥ (97 : Int)) ∧ ((c ≤ (122 : Int)) ∨ (((c ≥ (48 : Int)) ∧ ((c ≤ (57 : Int)) ∨ ((c = (46 : Int)) ∨ ((c = (45 : Int)) ∨ (c = (95 : Int)))))) ∨ ((¬ (c ≥ (48 : Int))) ∧ ((c = (46 : Int)) ∨ ((c = (45 : Int)) ∨ (c = (95 : Int)))))))) ∨ ((¬ (c ≥ (97 : Int))) ∧ (((c ≥ (48 : Int)) ∧ ((c ≤ (57 : Int)) ∨ ((c = (46 : Int)) ∨ ((c = (45 : Int)) ∨ (c = (95 : Int)))))) ∨ ((¬ (c ≥ (48 : Int))) ∧ ((c = (46 : Int)) ∨ ((c = (45 : Int)) ∨ (c = (95 : Int)))))))))))], fit_mk (fun _ _ => rfl) (by kernel_rfl) (vs_cons (Eq.trans (b := (.bool true)) (by kernel_rfl) (dec_t (by simp [z1, z4, z6, z9, y3])).symm) vs_nil), rfl, rfl⟩))
      ·
       refine pw (.bool false) (x_df (p := c = (45 : Int)) (by kernel_rfl) y3) ?_
       refine pv (.bool false) ?_
       refine pv (.bool false) ?_
       refine pv (.int .u8 c) ?_
       refine pv (.bool (decide (c = (95 : Int)))) ?_
       refine pv (.bool (decide (c = (95 : Int)))) ?_
       refine pv (.bool (decide (c = (95 : Int)))) ?_
       refine nil_ (then_normal (z0 _ _ _ ⟨[(2, (.bool (decide (((c ≥ (97 : Int)) ∧ ((c ≤ (122 : Int)) ∨ (((c ≥ (48 : Int)) ∧ ((c ≤ (57 : Int)) ∨ ((c = (46 : Int)) ∨ ((c = (45 : Int)) ∨ (c = (95 : Int)))))) ∨ ((¬ (c ≥ (48 : Int))) ∧ ((c = (46 : Int)) ∨ ((c = (45 : Int)) ∨ (c = (95 : Int)))))))) ∨ ((¬ (c ≥ (97 : Int))) ∧ (((c ≥ (48 : Int)) ∧ ((c ≤ (57 : Int)) ∨ ((c = (46 : Int)) ∨ ((c = (45 : Int)) ∨ (c = (95 : Int)))))) ∨ ((¬ (c ≥ (48 : Int))) ∧ ((c = (46 : Int)) ∨ ((c = (45 : Int)) ∨ (c = (95 : Int)))))))))))], fit_mk (fun _ _ => rfl) (by kernel_rfl) (vs_cons (Eq.trans (b := (.bool (decide (c = (95 : Int))))) (by kernel_rfl) (dec_d (by simp [z1, z4, z6, z9, y3])).symm) vs_nil), rfl, rfl⟩))
   ·
    refine pw (.bool false) (x_df (p := c ≥ (48 : Int)) (by kernel_rfl) z4) ?_
    refine pv (.bool false) ?_
    refine no ?_
    refine no ?_
    refine pv (.bool false) ?_
    refine pv (.bool false) ?_
    refine pv (.bool false) ?_
    refine pv (.int .u8 c) ?_
    by_cases y0 : c = (46 : Int)
    ·
     refine pw (.bool true) (x_dt (p := c = (46 : Int)) (by kernel_rfl) y0) ?_
     refine pv (.bool true) ?_
     refine pv (.bool true) ?_
     refine no ?_
     refine no ?_
     refine pv (.bool true) ?_
     refine pv (.bool true) ?_
     refine no ?_
     refine no ?_
     refine pv (.bool true) ?_
     refine pv (.bool true) ?_
     refine nil_ (then_normal (z0 _ _ _ ⟨[(2, (.bool (decide (((c ≥ (97 : Int)) ∧ ((c ≤ (122 : Int)) ∨ (((c ≥ (48 : Int)) ∧ ((c ≤ (57 : Int)) ∨ ((c = (46 : Int)) ∨ ((c = (45 : Int)) ∨ (c = (95 : Int)))))) ∨ ((¬ (c ≥ (48 : Int))) ∧ ((c = (46 : Int)) ∨ ((c = (45 : Int)) ∨ (c = (95 : Int)))))))) ∨ ((¬ (c ≥ (97 : Int))) ∧ (((c ≥ (48 : Int)) ∧ ((c ≤ (57 : Int)) ∨ ((c = (46 : Int)) ∨ ((c = (45 : Int)) ∨ (c = (95 : Int)))))) ∨ ((¬ (c ≥ (48 : Int))) ∧ ((c = (46 : Int)) ∨ ((c = (45 : Int)) ∨ (c = (95 : Int)))))))))))], fit_mk (fun _ _ => rfl) (by kernel_rfl) (vs_cons (Eq.trans (b := (.bool true)) (by kernel_rfl) (dec_t (by simp [z1, z4, y0])).symm) vs_nil), rfl, rfl⟩))
    ·
     refine pw (.bool false) (x_df (p := c = (46 : Int)) (by kernel_rfl) y0) ?_
     refine pv (.bool false) ?_
     refine pv (.bool false) ?_
     refine pv (.int .u8 c) ?_
     by_cases y4 : c = (45 : Int)
     ·
      refine pw (.bool true) (x_dt (p := c = (45 : Int)) (by kernel_rfl) y4) ?_
      refine pv (.bool true) ?_
      refine pv (.bool true) ?_
      refine no ?_
      refine no ?_
      refine pv (.bool true) ?_
      refine pv (.bool true) ?_
      refine nil_ (then_normal (z0 _ _ _ ⟨[(2, (.bool (decide (((c ≥ (97 : Int)) ∧ ((c ≤ (122 : Int)) ∨ (((c ≥ (48 : Int)) ∧ ((c ≤ (57 : Int)) ∨ ((c = (46 : Int)) ∨ ((c = (45 : Int)) ∨ (c = (95 : Int)))))) ∨ ((¬ (c ≥ (48 : Int))) ∧ ((c = (46 : Int)) ∨ ((c = (45 : Int)) ∨ (c = (95 : Int)))))))) ∨ ((¬ (c ≥ (97 : Int))) ∧ (((c ≥ (48 : Int)) ∧ ((c ≤ (57 : Int)) ∨ ((c = (46 : Int)) ∨ ((c = (45 : Int)) ∨ (c = (95 : Int)))))) ∨ ((¬ (c ≥ (48 : Int))) ∧ ((c = (46 : Int)) ∨ ((c = (45 : Int)) ∨ (c = (95 : Int)))))))))))], fit_mk (fun _ _ => rfl) (by kernel_rfl) (vs_cons (Eq.trans (b := (.bool true)) (by kernel_rfl) (dec_t (by simp [z1, z4, y0, y4])).symm) vs_nil), rfl, rfl⟩))
     ·
      refine pw (.bool false) (x_df (p := c = (45 : Int)) (by kernel_rfl) y4) ?_
      refine pv (.bool false) ?_
      refine pv (.bool false) ?_
      refine pv (.int .u8 c) ?_
      refine pv (.bool (decide (c = (95 : Int)))) ?_
      refine pv (.bool (decide (c = (95 : Int)))) ?_
      refine pv (.bool (decide (c = (95 : Int)))) ?_
      refine nil_ (then_normal (z0 _ _ _ ⟨[(2, (.bool (decide (((c ≥ (97 : Int)) ∧ ((c ≤ (122 : Int)) ∨ (((c ≥ (48 : Int)) ∧ ((c ≤ (57 : Int)) ∨ ((c = (46 : Int)) ∨ ((c = (45 : Int)) ∨ (c = (95 : Int)))))) ∨ ((¬ (c ≥ (48 : Int))) ∧ ((c = (46 : Int)) ∨ ((c = (45 : Int)) ∨ (c = (95 : Int)))))))) ∨ ((¬ (c ≥ (97 : Int))) ∧ (((c ≥ (48 : Int)) ∧ ((c ≤ (57 : Int)) ∨ ((c = (46 : Int)) ∨ ((c = (45 : Int)) ∨ (c = (95 : Int)))))) ∨ ((¬ (c ≥ (48 : Int))) ∧ ((c = (46 : Int)) ∨ ((c = (45 : Int)) ∨ (c = (95 : Int)))))))))))], fit_mk (fun _ _ => rfl) (by kernel_rfl) (vs_cons (Eq.trans (b := (.bool (decide (c = (95 : Int))))) (by kernel_rfl) (dec_d (by simp [z1, z4, y0, y4])).symm) vs_nil), rfl, rfl⟩))
 ·
  rintro _ y5 v2 ⟨rfl, hw⟩
  subst hw
  refine then_normal (v0 _ _ _ _ (wp_ret ?_))
  refine end_ret hQ (.bool (decide (((c ≥ (97 : Int)) ∧ ((c ≤ (122 : Int)) ∨ (((c ≥ (48 : Int)) ∧ ((c ≤ (57 : Int)) ∨ ((c = (46 : Int)) ∨ ((c = (45 : Int)) ∨ (c = (95 : Int)))))) ∨ ((¬ (c ≥ (48 : Int))) ∧ ((c = (46 : Int)) ∨ ((c = (45 : Int)) ∨ (c = (95 : Int)))))))) ∨ ((¬ (c ≥ (97 : Int))) ∧ (((c ≥ (48 : Int)) ∧ ((c ≤ (57 : Int)) ∨ ((c = (46 : Int)) ∨ ((c = (45 : Int)) ∨ (c = (95 : Int)))))) ∨ ((¬ (c ≥ (48 : Int))) ∧ ((c = (46 : Int)) ∨ ((c = (45 : Int)) ∨ (c = (95 : Int)))))))))) (by kernel_rfl) ?_
  exact ⟨(decide (((c ≥ (97 : Int)) ∧ ((c ≤ (122 : Int)) ∨ (((c ≥ (48 : Int)) ∧ ((c ≤ (57 : Int)) ∨ ((c = (46 : Int)) ∨ ((c = (45 : Int)) ∨ (c = (95 : Int)))))) ∨ ((¬ (c ≥ (48 : Int))) ∧ ((c = (46 : Int)) ∨ ((c = (45 : Int)) ∨ (c = (95 : Int)))))))) ∨ ((¬ (c ≥ (97 : Int))) ∧ (((c ≥ (48 : Int)) ∧ ((c ≤ (57 : Int)) ∨ ((c = (46 : Int)) ∨ ((c = (45 : Int)) ∨ (c = (95 : Int)))))) ∨ ((¬ (c ≥ (48 : Int))) ∧ ((c = (46 : Int)) ∨ ((c = (45 : Int)) ∨ (c = (95 : Int))))))))), hp, E0, rfl⟩
def rectoref1_Check_p (p : ByteArray) (Q : Int → Prop) : Prop :=
 ((p.size ≤ maxLen) → ((((p.size : Int) > (64 : Int)) → Q (4 : Int)) ∧ ((¬ ((p.size : Int) > (64 : Int))) → (rectoref1_Parts_p p (fun (z1 : (List ByteArray)) => ((z1.length ≤ 9223372036854775807) → ((((z1.length : Int) = (0 : Int)) → Q (5 : Int)) ∧ ((¬ ((z1.length : Int) = (0 : Int))) → (∃ (z4 : Int → Prop) (z7 : Int → Nat), (z4 (0 : Int)) ∧ (∀ (z0 : Int), (z4 z0) → (inR .i64 z0) → (((z0 < (z1.length : Int)) → (∃ z3 : Bool → Prop, (∀ (z5 : Bool), z3 z5 → (((z5 = true) → Q (5 : Int)) ∧ ((z5 = false) → (∃ (z6 : Int → Prop) (z8 : Int → Nat), (z6 (0 : Int)) ∧ (∀ (z2 : Int), (z6 z2) → (inR .i64 z2) → ((inL z1 z0) ∧ (((lget z1 z0).size ≤ maxLen) → (((z2 < ((lget z1 z0).size : Int)) → ((inL z1 z0) ∧ (((lget z1 z0).size ≤ maxLen) → ((0 ≤ z2 ∧ z2 < ((lget z1 z0).size : Int)) ∧ (rectoref1_good_p (bget (lget z1 z0) z2) (fun (z9 : Bool) => ((((!z9) = true) → Q (5 : Int)) ∧ (((!z9) = false) → ((inR .i64 (z2 + (1 : Int))) ∧ ((z6 (z2 + (1 : Int))) ∧ z8 (z2 + (1 : Int)) < z8 z2)))))))))) ∧ ((¬ (z2 < ((lget z1 z0).size : Int))) → ((inR .i64 (z0 + (1 : Int))) ∧ ((z4 (z0 + (1 : Int))) ∧ z7 (z0 + (1 : Int)) < z7 z0))))))))))) ∧ ((inL z1 z0) ∧ (((lget z1 z0).size ≤ maxLen) → ((((lget z1 z0 : ByteArray) = (ByteArray.mk #[])) → (z3 true)) ∧ ((¬ ((lget z1 z0 : ByteArray) = (ByteArray.mk #[]))) → ((inL z1 z0) ∧ (((lget z1 z0).size ≤ maxLen) → ((((lget z1 z0 : ByteArray) = (ByteArray.mk #[46])) → (z3 true)) ∧ ((¬ ((lget z1 z0 : ByteArray) = (ByteArray.mk #[46]))) → ((inL z1 z0) ∧ (((lget z1 z0).size ≤ maxLen) → (z3 (decide ((lget z1 z0 : ByteArray) = (ByteArray.mk #[46, 46])))))))))))))))) ∧ ((¬ (z0 < (z1.length : Int))) → Q (0 : Int)))))))))))))
set_option maxRecDepth 20000 in
set_option maxHeartbeats 4000000 in
theorem rectoref1_Check_w {X : List Nat} {w : World} {p : ByteArray} {Q : Int → Prop} (d7 : Old X w) (k2 : p.size ≤ maxLen) (hp : rectoref1_Check_p p Q) :
  Calls Tryz.prog 24 #[(.string p)] w (Ret fun v w' => ∃ (k4 : Int), Q k4 ∧ Evo [] w w' ∧ v = (.int .i64 k4) ∧ inR .i64 k4) := by
 have hXo := d7
 have E0 : Evo [] w w := RB.refl _ _ _
 have hS : Sub X X := Sub.refl _
 unfold rectoref1_Check_p at hp
 refine enter_ Tryz.func24 rfl 56 [(0, (.string p))] (by kernel_rfl) (fun Qe hQ => ?_)
 replace hp := hp k2
 refine sr (fun _ n2 => pv (.int .i64 (0 : Int)) ?_)
 refine nt n2 (seq_ (fun _ n3 => sr (fun _ n4 => pv (.string p) ?_)))
 refine pv (.int .i64 (p.size : Int)) ?_
 refine pv (.bool (decide ((p.size : Int) > (64 : Int)))) ?_
 refine nt n4 ?_
 refine cond_d ((p.size : Int) > (64 : Int)) (by kernel_rfl) (fun k5 => ?_) (fun k5 => ?_)
 ·
  replace hp := hp.1 k5
  refine sr (fun _ n5 => pv (.int .i64 (4 : Int)) ?_)
  refine nt n5 (wp_ret (then_ret ?_))
  refine end_ret hQ (.int .i64 (4 : Int)) (by kernel_rfl) ?_
  exact ⟨(4 : Int), hp, E0, rfl, (by decide : inR .i64 (4 : Int))⟩
 ·
  replace hp := hp.2 k5
  refine wp_skip (then_normal (n3 _ _ _ _ (sr (fun _ n6 => pv (.string p) ?_))))
  refine sq (o_call 46 #[(.string p)] rfl (x_call Tryz.call46 (by kernel_rfl)) (rectoref1_Parts_w (X := X) (p := p) hXo k2 hp) ?_)
  rintro _ o1 ⟨z1, hp, v9, z4, z3, rfl, u1⟩
  have k3 := Step.of0 X v9
  replace hp := hp (Sl.len u1)
  refine pv (.slice z4 z1.length z3) ?_
  refine nt n6 (seq_ (fun _ d8 => sr (fun _ d9 => pv (.slice z4 z1.length z3) ?_)))
  refine pv (.int .i64 (z1.length : Int)) ?_
  refine pv (.bool (decide ((z1.length : Int) = (0 : Int)))) ?_
  refine nt d9 ?_
  refine cond_d ((z1.length : Int) = (0 : Int)) (by kernel_rfl) (fun u2 => ?_) (fun u2 => ?_)
  ·
   replace hp := hp.1 u2
   refine sr (fun _ l0 => pv (.int .i64 (5 : Int)) ?_)
   refine nt l0 (wp_ret (then_ret ?_))
   have l1 := Evo.then0 E0 v9
   refine end_ret hQ (.int .i64 (5 : Int)) (by kernel_rfl) ?_
   exact ⟨(5 : Int), hp, l1, rfl, (by decide : inR .i64 (5 : Int))⟩
  ·
   replace hp := hp.2 u2
   refine wp_skip (then_normal (d8 _ _ _ _ (seq_ (fun _ l2 => sr (fun _ l3 => pv (.int .i64 (0 : Int)) ?_)))))
   refine nt l3 (wp_block ?_)
   have u3 := Old.step hXo k3
   have k6 := Evo.then0 E0 v9
   have t8 := Sub.trans hS (Step.up k3)
   obtain ⟨k7, u4, t9, hp⟩ := hp
   refine loop_ 72057594037911604 (fun kq lq y2 => ∃ (z6 : List Nat) (z0 : Int), (lq = [(4, (.int .i64 z0))]) ∧ (kq = u4 z0) ∧ (Evo [] w y2) ∧ (Old z6 y2) ∧ (Sub X z6) ∧ (Sl rStr z6 y2 z4 z3 z1) ∧ (inR .i64 z0) ∧ (k7 z0)) (u4 (0 : Int)) [(4, (.int .i64 (0 : Int)))] (vs_cons (by kernel_rfl) vs_nil) ⟨X, (0 : Int), rfl, rfl, k6, u3, t8, u1, (by decide : inR .i64 (0 : Int)), t9⟩ ?_
   rintro _ _ y2 n7 ⟨z6, z0, rfl, rfl, y3, z9, y4, z5, k8, s0⟩ l4 s1
   replace hp := hp z0 s0 k8
   refine seq_ (fun _ k9 => sr (fun _ j0 => pv (.int .i64 z0) ?_))
   refine pv (.slice z4 z1.length z3) ?_
   refine pv (.int .i64 (z1.length : Int)) ?_
   refine pv (.bool (decide (z0 < (z1.length : Int)))) ?_
   refine nt j0 ?_
   refine cond_d (z0 < (z1.length : Int)) (by kernel_rfl) (fun v1 => ?_) (fun v1 => ?_)
   ·
    replace hp := hp.1 v1
    refine wp_skip (then_normal (k9 _ _ _ _ (seq_ (fun _ j1 => wp_block (seq_ (fun _ j2 => seq_ (fun _ j3 => ?_)))))))
    obtain ⟨j4, s2, hp⟩ := hp
    refine ground_ ?_
    refine join_ 549754765312 (fun lq y5 => ∃ (y0 : List Nat) (y1 : Bool), (lq = [(38, (.bool y1))]) ∧ (Evo [] w y5) ∧ (Old y0 y5) ∧ (Sub X y0) ∧ (Sl rStr y0 y5 z4 z3 z1) ∧ (j4 y1)) (fun l5 y6 => ?_) ?_
    ·
     refine reg_ (pv (.slice z4 z1.length z3) ?_)
     refine pv (.int .i64 z0) ?_
     obtain ⟨u5, hp⟩ := hp
     obtain ⟨j5, j6, l6, s3, l7, l8, s4, s5⟩ := Sl.atI z5 z0 u5
     obtain ⟨rfl, s6⟩ := s4
     replace hp := hp s6
     refine pw (.pointer (some ⟨j5, j6 + z0.toNat * 1, none⟩)) (x_ixA (m := z1.length) (c := z3) (k := .i64) (i := z0) Tryz.underlying65 Tryz.sizeOf9 (by rw [← s3]; kernel_rfl) (by kernel_rfl) u5) ?_
     refine pw (.string (lget z1 z0)) (x_load1 (by kernel_rfl) Tryz.isAgg9 (s5 0 _ rfl)) ?_
     by_cases y7 : (lget z1 z0 : ByteArray) = (ByteArray.mk #[])
     ·
      replace hp := hp.1 y7
      refine pw (.bool true) (x_dt (p := (lget z1 z0 : ByteArray) = (ByteArray.mk #[])) (x_streq (by kernel_rfl) (by kernel_rfl)) y7) ?_
      refine pv (.bool true) ?_
      refine no ?_
      refine no ?_
      refine no ?_
      refine no ?_
      refine no ?_
      refine pv (.bool true) ?_
      refine pv (.bool true) ?_
      refine no ?_
      refine no ?_
      refine no ?_
      refine no ?_
      refine no ?_
      refine pv (.bool true) ?_
      refine nil_ (then_normal (y6 _ _ _ ⟨[(38, (.bool true))], fit_mk (fun _ _ => rfl) (by kernel_rfl) (vs_cons (by kernel_rfl) vs_nil), ?_⟩))
      exact ⟨z6, true, rfl, y3, z9, y4, z5, hp⟩
     ·
      replace hp := hp.2 y7
      refine pw (.bool false) (x_df (p := (lget z1 z0 : ByteArray) = (ByteArray.mk #[])) (x_streq (by kernel_rfl) (by kernel_rfl)) y7) ?_
      refine pv (.bool false) ?_
      refine pv (.slice z4 z1.length z3) ?_
      refine pv (.int .i64 z0) ?_
      obtain ⟨u6, hp⟩ := hp
      obtain ⟨j7, j8, l9, s7, m0, m1, s8, s9⟩ := Sl.atI z5 z0 u6
      obtain ⟨rfl, r0⟩ := s8
      replace hp := hp r0
      refine pw (.pointer (some ⟨j7, j8 + z0.toNat * 1, none⟩)) (x_ixA (m := z1.length) (c := z3) (k := .i64) (i := z0) Tryz.underlying65 Tryz.sizeOf9 (by rw [← s7]; kernel_rfl) (by kernel_rfl) u6) ?_
      refine pw (.string (lget z1 z0)) (x_load1 (by kernel_rfl) Tryz.isAgg9 (s9 0 _ rfl)) ?_
      by_cases y8 : (lget z1 z0 : ByteArray) = (ByteArray.mk #[46])
      ·
       replace hp := hp.1 y8
       refine pw (.bool true) (x_dt (p := (lget z1 z0 : ByteArray) = (ByteArray.mk #[46])) (x_streq (by kernel_rfl) (by kernel_rfl)) y8) ?_
       refine pv (.bool true) ?_
       refine pv (.bool true) ?_
       refine no ?_
       refine no ?_
       refine no ?_
       refine no ?_
       refine no ?_
       refine pv (.bool true) ?_
       refine nil_ (then_normal (y6 _ _ _ ⟨[(38, (.bool true))], fit_mk (fun _ _ => rfl) (by kernel_rfl) (vs_cons (by kernel_rfl) vs_nil), ?_⟩))
       exact ⟨z6, true, rfl, y3, z9, y4, z5, hp⟩
      ·
       replace hp := hp.2 y8
       refine pw (.bool false) (x_df (p := (lget z1 z0 : ByteArray) = (ByteArray.mk #[46])) (x_streq (by kernel_rfl) (by kernel_rfl)) y8) ?_
       refine pv (.bool false) ?_
       refine pv (.bool false) ?_
       refine pv (.slice z4 z1.length z3) ?_
       refine pv (.int .i64 z0) ?_
       obtain ⟨u7, hp⟩ := hp
       obtain ⟨j9, g0, m2, r1, m3, m4, r2, r3⟩ := Sl.atI z5 z0 u7
       obtain ⟨rfl, r4⟩ := r2
       replace hp := hp r4
       refine pw (.pointer (some ⟨j9, g0 + z0.toNat * 1, none⟩)) (x_ixA (m := z1.length) (c := z3) (k := .i64) (i := z0) Tryz.underlying65 Tryz.sizeOf9 (by rw [← r1]; kernel_rfl) (by kernel_rfl) u7) ?_
       refine pw (.string (lget z1 z0)) (x_load1 (by kernel_rfl) Tryz.isAgg9 (r3 0 _ rfl)) ?_
       refine pw (.bool (decide ((lget z1 z0 : ByteArray) = (ByteArray.mk #[46, 46])))) (x_streq (by kernel_rfl) (by kernel_rfl)) ?_
       refine pv (.bool (decide ((lget z1 z0 : ByteArray) = (ByteArray.mk #[46, 46])))) ?_
       refine nil_ (then_normal (y6 _ _ _ ⟨[(38, (.bool (decide ((lget z1 z0 : ByteArray) = (ByteArray.mk #[46, 46])))))], fit_mk (fun _ _ => rfl) (by kernel_rfl) (vs_cons (by kernel_rfl) vs_nil), ?_⟩))
       exact ⟨z6, (decide ((lget z1 z0 : ByteArray) = (ByteArray.mk #[46, 46]))), rfl, y3, z9, y4, z5, hp⟩
    ·
     rintro _ y5 n8 ⟨y0, y1, rfl, u9, t0, r5, r6, r7⟩
     replace hp := s2 y1 r7
     refine then_normal (j3 _ _ _ _ ?_)
     refine cond_b y1 (by kernel_rfl) (fun v2 => ?_) (fun v2 => ?_)
     ·
      replace hp := hp.1 v2
      refine sr (fun _ g1 => pv (.int .i64 (5 : Int)) ?_)
      refine nt g1 (wp_ret (then_ret (blk_ret (then_ret (then_ret (blk_ret (then_ret ?_)))))))
      refine end_ret hQ (.int .i64 (5 : Int)) (by kernel_rfl) ?_
      exact ⟨(5 : Int), hp, u9, rfl, (by decide : inR .i64 (5 : Int))⟩
     ·
      replace hp := hp.2 v2
      refine wp_skip (then_normal (j2 _ _ _ _ (sr (fun _ g2 => pv (.int .i64 (0 : Int)) ?_))))
      refine nt g2 (wp_block ?_)
      obtain ⟨g3, t1, r8, hp⟩ := hp
      refine loop_ 72057044282114084 (fun kq lq y9 => ∃ (z7 : List Nat) (z2 : Int), (lq = [(5, (.int .i64 z2))]) ∧ (kq = t1 z2) ∧ (Evo [] w y9) ∧ (Old z7 y9) ∧ (Sub X z7) ∧ (Sl rStr z7 y9 z4 z3 z1) ∧ (inR .i64 z2) ∧ (g3 z2)) (t1 (0 : Int)) [(5, (.int .i64 (0 : Int)))] (vs_cons (by kernel_rfl) vs_nil) ⟨y0, (0 : Int), rfl, rfl, u9, t0, r5, r6, (by decide : inR .i64 (0 : Int)), r8⟩ ?_
      rintro _ _ y9 n9 ⟨z7, z2, rfl, rfl, v3, v0, v8, z8, r9, q0⟩ m5 q1
      replace hp := hp z2 q0 r9
      refine seq_ (fun _ g4 => sr (fun _ g5 => pv (.int .i64 z2) ?_))
      refine pv (.slice z4 z1.length z3) ?_
      refine pv (.int .i64 z0) ?_
      obtain ⟨t2, hp⟩ := hp
      obtain ⟨g6, g7, m6, q2, m7, m8, q3, q4⟩ := Sl.atI z8 z0 t2
      obtain ⟨rfl, q5⟩ := q3
      replace hp := hp q5
      refine pw (.pointer (some ⟨g6, g7 + z0.toNat * 1, none⟩)) (x_ixA (m := z1.length) (c := z3) (k := .i64) (i := z0) Tryz.underlying65 Tryz.sizeOf9 (by rw [← q2]; kernel_rfl) (by kernel_rfl) t2) ?_
      refine pw (.string (lget z1 z0)) (x_load1 (by kernel_rfl) Tryz.isAgg9 (q4 0 _ rfl)) ?_
      refine pv (.int .i64 ((lget z1 z0).size : Int)) ?_
      refine pv (.bool (decide (z2 < ((lget z1 z0).size : Int)))) ?_
      refine nt g5 ?_
      refine cond_d (z2 < ((lget z1 z0).size : Int)) (by kernel_rfl) (fun v4 => ?_) (fun v4 => ?_)
      ·
       replace hp := hp.1 v4
       refine wp_skip (then_normal (g4 _ _ _ _ (seq_ (fun _ g8 => wp_block (sr (fun _ g9 => pv (.slice z4 z1.length z3) ?_))))))
       refine pv (.int .i64 z0) ?_
       obtain ⟨t3, hp⟩ := hp
       obtain ⟨d0, d1, m9, q6, n0, n1, q7, q8⟩ := Sl.atI z8 z0 t3
       obtain ⟨rfl, q9⟩ := q7
       replace hp := hp q9
       refine pw (.pointer (some ⟨d0, d1 + z0.toNat * 1, none⟩)) (x_ixA (m := z1.length) (c := z3) (k := .i64) (i := z0) Tryz.underlying65 Tryz.sizeOf9 (by rw [← q6]; kernel_rfl) (by kernel_rfl) t3) ?_
       refine pw (.string (lget z1 z0)) (x_load1 (by kernel_rfl) Tryz.isAgg9 (q8 0 _ rfl)) ?_
       refine pv (.int .i64 z2) ?_
       obtain ⟨d2, hp⟩ := hp
       refine pw (.int .u8 (bget (lget z1 z0) z2)) (x_bget (k := .i64) (by kernel_rfl) (by kernel_rfl) Tryz.underlying9 d2) ?_
       refine sq (o_call 47 #[(.int .u8 (bget (lget z1 z0) z2))] rfl (x_call Tryz.call47 (by kernel_rfl)) (rectoref1_good_w (X := []) (c := bget (lget z1 z0) z2) (Old.nil _) (bget_u8 _ _) hp) ?_)
       rintro _ o0 ⟨t4, hp, v5, rfl⟩
       have v6 := Step.of0 z7 v5
       refine pv (.bool (!t4)) ?_
       refine nt g9 ?_
       refine cond_b (!t4) (by kernel_rfl) (fun v7 => ?_) (fun v7 => ?_)
       ·
        replace hp := hp.1 v7
        refine sr (fun _ d3 => pv (.int .i64 (5 : Int)) ?_)
        refine nt d3 (wp_ret (blk_ret (then_ret (then_ret (blk_ret (blk_ret (then_ret (then_ret (blk_ret (then_ret ?_))))))))))
        have d4 := Evo.then0 v3 v5
        refine end_ret hQ (.int .i64 (5 : Int)) (by kernel_rfl) ?_
        exact ⟨(5 : Int), hp, d4, rfl, (by decide : inR .i64 (5 : Int))⟩
       ·
        replace hp := hp.2 v7
        refine wp_skip (blk_normal (then_normal (g8 _ _ _ _ (reg_ (pv (.int .i64 z2) ?_)))))
        obtain ⟨t5, hp⟩ := hp
        refine pw (.int .i64 (z2 + (1 : Int))) (x_add2 (k := .i64) (a := z2) (b := (1 : Int)) (z2 + (1 : Int)) (by kernel_rfl) (by kernel_rfl) (wrap_inR t5)) ?_
        refine pv (.int .i64 (z2 + (1 : Int))) ?_
        refine nil_ ?_
        have d5 := Evo.then0 v3 v5
        have t6 := Old.step v0 v6
        have k0 := Sub.trans v8 (Step.up v6)
        have k1 := Sl.step z8 v6
        refine then_normal (q1 _ _ _ ⟨_, [(5, (.int .i64 (z2 + (1 : Int))))], hp.2, fit_mk (AgB.mix _ _ _) (by kernel_rfl) (vs_cons (by kernel_rfl) vs_nil), ?_⟩)
        exact ⟨z7, (z2 + (1 : Int)), rfl, rfl, d5, t6, k0, k1, t5, hp.1⟩
      ·
       replace hp := hp.2 v4
       refine wp_exit ?_
       refine then_exit (then_exit (blk_exit (blk_normal (then_normal (j1 _ _ _ _ (reg_ (pv (.int .i64 z0) ?_)))))))
       obtain ⟨t7, hp⟩ := hp
       refine pw (.int .i64 (z0 + (1 : Int))) (x_add2 (k := .i64) (a := z0) (b := (1 : Int)) (z0 + (1 : Int)) (by kernel_rfl) (by kernel_rfl) (wrap_inR t7)) ?_
       refine pv (.int .i64 (z0 + (1 : Int))) ?_
       refine nil_ (then_normal (s1 _ _ _ ⟨_, [(4, (.int .i64 (z0 + (1 : Int))))], hp.2, fit_mk (AgB.nest (AgB.nest (AgB.look (AgB.mix _ _ _) (by kernel_rfl)) (by kernel_rfl) (by kernel_rfl)) (by kernel_rfl) (by kernel_rfl)) (by kernel_rfl) (vs_cons (by kernel_rfl) vs_nil), ?_⟩))
       exact ⟨z7, (z0 + (1 : Int)), rfl, rfl, v3, v0, v8, z8, t7, hp.1⟩
   ·
    replace hp := hp.2 v1
    refine wp_exit ?_
    refine then_exit (then_exit (blk_exit (then_normal (l2 _ _ _ _ (sr (fun _ d6 => pv (.int .i64 (0 : Int)) ?_))))))
    refine nt d6 (wp_ret ?_)
    refine end_ret hQ (.int .i64 (0 : Int)) (by kernel_rfl) ?_
    exact ⟨(0 : Int), hp, y3, rfl, (by decide : inR .i64 (0 : Int))⟩
def rectoref1_Clash_p (a : ByteArray) (b : ByteArray) (Q : Bool → Prop) : Prop :=
 ((a.size ≤ maxLen) → ((b.size ≤ maxLen) → (∃ z0 : Bool → Prop, (∀ (z1 : Bool), z0 z1 → Q z1) ∧ ((((a : ByteArray) = (ByteArray.mk #[])) → (z0 false)) ∧ ((¬ ((a : ByteArray) = (ByteArray.mk #[]))) → ((((b : ByteArray) = (ByteArray.mk #[])) → (z0 false)) ∧ ((¬ ((b : ByteArray) = (ByteArray.mk #[]))) → (rectoref1_Under_p a b (fun (z2 : Bool) => (((z2 = true) → (z0 true)) ∧ ((z2 = false) → (rectoref1_Under_p b a (fun (z3 : Bool) => (z0 z3))))))))))))))
set_option maxRecDepth 20000 in
set_option maxHeartbeats 4000000 in
theorem rectoref1_Clash_w {X : List Nat} {w : World} {a : ByteArray} {b : ByteArray} {Q : Bool → Prop} (y9 : Old X w) (z6 : a.size ≤ maxLen) (z7 : b.size ≤ maxLen) (hp : rectoref1_Clash_p a b Q) :
  Calls Tryz.prog 26 #[(.string a), (.string b)] w (Ret fun v w' => ∃ (v0 : Bool), Q v0 ∧ Evo [] w w' ∧ v = (.bool v0)) := by
 have hXo := y9
 have E0 : Evo [] w w := RB.refl _ _ _
 have hS : Sub X X := Sub.refl _
 unfold rectoref1_Clash_p at hp
 refine enter_ Tryz.func26 rfl 21 [(0, (.string a)), (1, (.string b))] (by kernel_rfl) (fun Qe hQ => ?_)
 replace hp := hp z6 z7
 refine sr (fun _ v7 => pv (.bool false) ?_)
 refine nt v7 (seq_ (fun _ v8 => ?_))
 obtain ⟨v1, y5, hp⟩ := hp
 refine ground_ ?_
 refine join_ 2097136 (fun lq z8 => ∃ (z9 : List Nat) (z0 : Bool), (lq = [(4, (.bool z0))]) ∧ (Evo [] w z8) ∧ (Old z9 z8) ∧ (Sub X z9) ∧ (v1 z0)) (fun v9 z1 => ?_) ?_
 ·
  refine reg_ (pv (.string a) ?_)
  by_cases z3 : (a : ByteArray) = (ByteArray.mk #[])
  ·
   replace hp := hp.1 z3
   refine pw (.bool false) (x_ndf (p := (a : ByteArray) = (ByteArray.mk #[])) (x_strne (by kernel_rfl) (by kernel_rfl)) z3) ?_
   refine pv (.bool false) ?_
   refine no ?_
   refine no ?_
   refine pv (.bool false) ?_
   refine pv (.bool false) ?_
   refine no ?_
   refine no ?_
   refine no ?_
   refine no ?_
   refine no ?_
   refine no ?_
   refine no ?_
   refine no ?_
   refine pv (.bool false) ?_
   refine pv (.bool false) ?_
   refine nil_ (then_normal (z1 _ _ _ ⟨[(4, (.bool false))], fit_mk (fun _ _ => rfl) (by kernel_rfl) (vs_cons (by kernel_rfl) vs_nil), ?_⟩))
   exact ⟨X, false, rfl, E0, hXo, hS, hp⟩
  ·
   replace hp := hp.2 z3
   refine pw (.bool true) (x_ndt (p := (a : ByteArray) = (ByteArray.mk #[])) (x_strne (by kernel_rfl) (by kernel_rfl)) z3) ?_
   refine pv (.bool true) ?_
   refine pv (.string b) ?_
   by_cases z4 : (b : ByteArray) = (ByteArray.mk #[])
   ·
    replace hp := hp.1 z4
    refine pw (.bool false) (x_ndf (p := (b : ByteArray) = (ByteArray.mk #[])) (x_strne (by kernel_rfl) (by kernel_rfl)) z4) ?_
    refine pv (.bool false) ?_
    refine pv (.bool false) ?_
    refine no ?_
    refine no ?_
    refine no ?_
    refine no ?_
    refine no ?_
    refine no ?_
    refine no ?_
    refine no ?_
    refine pv (.bool false) ?_
    refine pv (.bool false) ?_
    refine nil_ (then_normal (z1 _ _ _ ⟨[(4, (.bool false))], fit_mk (fun _ _ => rfl) (by kernel_rfl) (vs_cons (by kernel_rfl) vs_nil), ?_⟩))
    exact ⟨X, false, rfl, E0, hXo, hS, hp⟩
   ·
    replace hp := hp.2 z4
    refine pw (.bool true) (x_ndt (p := (b : ByteArray) = (ByteArray.mk #[])) (x_strne (by kernel_rfl) (by kernel_rfl)) z4) ?_
    refine pv (.bool true) ?_
    refine pv (.bool true) ?_
    refine pv (.string a) ?_
    refine pv (.string b) ?_
    refine sq (o_call 32 #[(.string a), (.string b)] (by kernel_rfl) (x_call Tryz.call32 (by kernel_rfl)) (rectoref1_Under_w (X := []) (p := a) (dir := b) (Old.nil _) z6 z7 hp) ?_)
    rintro _ u2 ⟨v2, hp, y0, rfl⟩
    have z5 := Step.of0 X y0
    cases v2
    ·
     replace hp := hp.2 rfl
     refine pv (.bool false) ?_
     refine pv (.string b) ?_
     refine pv (.string a) ?_
     refine sq (o_call 32 #[(.string b), (.string a)] (by kernel_rfl) (x_call Tryz.call32 (by kernel_rfl)) (rectoref1_Under_w (X := []) (p := b) (dir := a) (Old.nil _) z7 z6 hp) ?_)
     rintro _ u3 ⟨z2, hp, y3, rfl⟩
     have y4 := Step.of0 X y3
     refine pv (.bool z2) ?_
     refine pv (.bool z2) ?_
     refine pv (.bool z2) ?_
     refine nil_ ?_
     have v3 := Evo.then0 (Evo.then0 E0 y0) y3
     have y1 := Old.step (Old.step hXo z5) y4
     have y6 := Sub.trans (Sub.trans hS (Step.up z5)) (Step.up y4)
     refine then_normal (z1 _ _ _ ⟨[(4, (.bool z2))], fit_mk (fun _ _ => rfl) (by kernel_rfl) (vs_cons (by kernel_rfl) vs_nil), ?_⟩)
     exact ⟨X, z2, rfl, v3, y1, y6, hp⟩
    ·
     replace hp := hp.1 rfl
     refine pv (.bool true) ?_
     refine no ?_
     refine no ?_
     refine no ?_
     refine pv (.bool true) ?_
     refine pv (.bool true) ?_
     refine pv (.bool true) ?_
     refine nil_ ?_
     have v4 := Evo.then0 E0 y0
     have y2 := Old.step hXo z5
     have y7 := Sub.trans hS (Step.up z5)
     refine then_normal (z1 _ _ _ ⟨[(4, (.bool true))], fit_mk (fun _ _ => rfl) (by kernel_rfl) (vs_cons (by kernel_rfl) vs_nil), ?_⟩)
     exact ⟨X, true, rfl, v4, y2, y7, hp⟩
 ·
  rintro _ z8 u4 ⟨z9, z0, rfl, v5, v6, u1, y8⟩
  replace hp := y5 z0 y8
  refine then_normal (v8 _ _ _ _ (wp_ret ?_))
  refine end_ret hQ (.bool z0) (by kernel_rfl) ?_
  exact ⟨z0, hp, v5, rfl⟩
def rectolaw6_one_p (dir : ByteArray) (l : (List S_journal_Change)) (i : Int) (Q : Int → Prop) : Prop :=
 ((dir.size ≤ maxLen) → ((l.length ≤ 9223372036854775807) → ((inR .i64 i) → ((inL l i) ∧ ((((lget l i).Path).size ≤ maxLen) → ((inR .i64 ((lget l i).Mode)) → ((((lget l i).Data).length ≤ 9223372036854775807) → (rectoref1_Check_p ((lget l i).Path) (fun (z1 : Int) => ((inR .i64 z1) → (((¬ (z1 = (0 : Int))) → Q z1) ∧ ((z1 = (0 : Int)) → (∃ z2 : Bool → Prop, (∀ (z3 : Bool), z2 z3 → (((z3 = true) → Q (5 : Int)) ∧ ((z3 = false) → (∃ (z4 : Int → Prop) (z5 : Int → Nat), (z4 (0 : Int)) ∧ (∀ (z0 : Int), (z4 z0) → (inR .i64 z0) → (((z0 < i) → ((inL l z0) ∧ ((((lget l z0).Path).size ≤ maxLen) → ((inR .i64 ((lget l z0).Mode)) → ((((lget l z0).Data).length ≤ 9223372036854775807) → (((((lget l z0).Path : ByteArray) = (lget l i).Path) → Q (6 : Int)) ∧ ((¬ (((lget l z0).Path : ByteArray) = (lget l i).Path)) → ((inR .i64 (z0 + (1 : Int))) ∧ ((z4 (z0 + (1 : Int))) ∧ z5 (z0 + (1 : Int)) < z5 z0))))))))) ∧ ((¬ (z0 < i)) → (((inL l i) ∧ ((((lget l i).Path).size ≤ maxLen) → ((inR .i64 ((lget l i).Mode)) → ((((lget l i).Data).length ≤ 9223372036854775807) → (((((lget l i).Gone) = true) → True) ∧ ((¬ (((lget l i).Gone) = true)) → ((inL l i) ∧ ((((lget l i).Path).size ≤ maxLen) → ((inR .i64 ((lget l i).Mode)) → ((((lget l i).Data).length ≤ 9223372036854775807) → (((((lget l i).Mode) = (1 : Int)) → True) ∧ ((¬ (((lget l i).Mode) = (1 : Int))) → ((inL l i) ∧ ((((lget l i).Path).size ≤ maxLen) → ((inR .i64 ((lget l i).Mode)) → ((((lget l i).Data).length ≤ 9223372036854775807) → True)))))))))))))))) ∧ ((((¬ (((lget l i).Gone) = true)) ∧ ((¬ (((lget l i).Mode) = (1 : Int))) ∧ (¬ (((lget l i).Mode) = (2 : Int))))) → Q (1 : Int)) ∧ ((¬ ((¬ (((lget l i).Gone) = true)) ∧ ((¬ (((lget l i).Mode) = (1 : Int))) ∧ (¬ (((lget l i).Mode) = (2 : Int)))))) → Q (0 : Int))))))))))) ∧ (((((lget l i).Path : ByteArray) = dir) → (z2 true)) ∧ ((¬ (((lget l i).Path : ByteArray) = dir)) → (rectoref1_Clash_p ((lget l i).Path) dir (fun (z6 : Bool) => (z2 z6))))))))))))))))))
set_option maxRecDepth 20000 in
set_option maxHeartbeats 4000000 in
theorem rectolaw6_one_w {X : List Nat} {w : World} {dir : ByteArray} {l : (List S_journal_Change)} {i : Int} {z2 : Option Addr} {z1 : Nat} {Q : Int → Prop} (d7 : Old X w) (u2 : dir.size ≤ maxLen) (u7 : Sl r_journal_Change X w z2 z1 l) (d8 : inR .i64 i) (hp : rectolaw6_one_p dir l i Q) :
  Calls Tryz.prog 25 #[(.string dir), (.slice z2 l.length z1), (.int .i64 i)] w (Ret fun v w' => ∃ (j3 : Int), Q j3 ∧ Evo [] w w' ∧ v = (.int .i64 j3) ∧ inR .i64 j3) := by
 have hXo := d7
 have E0 : Evo [] w w := RB.refl _ _ _
 have hS : Sub X X := Sub.refl _
 unfold rectolaw6_one_p at hp
 refine enter_ Tryz.func25 rfl 62 [(0, (.string dir)), (1, (.slice z2 l.length z1)), (2, (.int .i64 i))] (by kernel_rfl) (fun Qe hQ => ?_)
 replace hp := hp u2 (Sl.len u7) d8
 refine sr (fun _ n8 => pv (.int .i64 (0 : Int)) ?_)
 refine nt n8 (sr (fun _ n9 => pv (.slice z2 l.length z1) ?_))
 refine pv (.int .i64 i) ?_
 obtain ⟨d9, hp⟩ := hp
 obtain ⟨l0, k0, o0, j4, o1, o2, j5, j6⟩ := Sl.atI u7 i d9
 obtain ⟨j7, j8, rfl, z3, v6, v7⟩ := r_journal_Change_open j5
 replace hp := hp z3 v6 (Sl.len v7)
 refine pw (.pointer (some ⟨l0, k0 + i.toNat * 4, none⟩)) (x_ixA (m := l.length) (c := z1) (k := .i64) (i := i) Tryz.underlying22 Tryz.sizeOf34 (by rw [← j4]; kernel_rfl) (by kernel_rfl) d9) ?_
 refine pv (.pointer (some ⟨l0, k0 + i.toNat * 4, none⟩)) ?_
 refine pw (.string ((lget l i).Path)) (x_load1 (by kernel_rfl) Tryz.isAgg9 (j6 0 _ rfl)) ?_
 refine pv (.string ((lget l i).Path)) ?_
 refine nt n9 (seq_ (fun _ l1 => sr (fun _ l2 => pv (.string ((lget l i).Path)) ?_)))
 refine sq (o_call 24 #[(.string ((lget l i).Path))] rfl (x_call Tryz.call24 (by kernel_rfl)) (rectoref1_Check_w (X := []) (p := (lget l i).Path) (Old.nil _) z3 hp) ?_)
 rintro _ o6 ⟨z7, hp, u9, rfl, t0⟩
 have t1 := Step.of0 X u9
 replace hp := hp t0
 refine pv (.int .i64 z7) ?_
 refine nt l2 (sr (fun _ l3 => pv (.int .i64 z7) ?_))
 refine pv (.bool (!decide (z7 = (0 : Int)))) ?_
 refine nt l3 ?_
 refine cond_nd (z7 = (0 : Int)) (by kernel_rfl) (fun t2 => ?_) (fun t2 => ?_)
 ·
  replace hp := hp.1 t2
  refine sr (fun _ l4 => pv (.int .i64 z7) ?_)
  refine pv (.int .i64 z7) ?_
  refine nt l4 (wp_ret (then_ret ?_))
  have l5 := Evo.then0 E0 u9
  refine end_ret hQ (.int .i64 z7) (by kernel_rfl) ?_
  exact ⟨z7, hp, l5, rfl, t0⟩
 ·
  replace hp := hp.2 t2
  refine wp_skip (then_normal (l1 _ _ _ _ (seq_ (fun _ l6 => seq_ (fun _ l7 => ?_)))))
  have t3 := Sl.step u7 t1
  have u3 := Old.step hXo t1
  have k1 := Evo.then0 E0 u9
  have t4 := Sub.trans hS (Step.up t1)
  obtain ⟨l8, j9, hp⟩ := hp
  refine ground_ ?_
  refine join_ 267386880 (fun lq u4 => ∃ (y2 : List Nat) (y3 : Bool), (lq = [(27, (.bool y3))]) ∧ (Evo [] w u4) ∧ (Old y2 u4) ∧ (Sub X y2) ∧ (Sl r_journal_Change y2 u4 z2 z1 l) ∧ (l8 y3)) (fun o3 t5 => ?_) ?_
  ·
   refine reg_ (pv (.string ((lget l i).Path)) ?_)
   refine pv (.string dir) ?_
   by_cases u5 : ((lget l i).Path : ByteArray) = dir
   ·
    replace hp := hp.1 u5
    refine pw (.bool true) (x_dt (p := ((lget l i).Path : ByteArray) = dir) (x_streq (by kernel_rfl) (by kernel_rfl)) u5) ?_
    refine pv (.bool true) ?_
    refine no ?_
    refine no ?_
    refine no ?_
    refine pv (.bool true) ?_
    refine nil_ (then_normal (t5 _ _ _ ⟨[(27, (.bool true))], fit_mk (fun _ _ => rfl) (by kernel_rfl) (vs_cons (by kernel_rfl) vs_nil), ?_⟩))
    exact ⟨X, true, rfl, k1, u3, t4, t3, hp⟩
   ·
    replace hp := hp.2 u5
    refine pw (.bool false) (x_df (p := ((lget l i).Path : ByteArray) = dir) (x_streq (by kernel_rfl) (by kernel_rfl)) u5) ?_
    refine pv (.bool false) ?_
    refine pv (.string ((lget l i).Path)) ?_
    refine pv (.string dir) ?_
    refine sq (o_call 26 #[(.string ((lget l i).Path)), (.string dir)] (by kernel_rfl) (x_call Tryz.call26 (by kernel_rfl)) (rectoref1_Clash_w (X := []) (a := (lget l i).Path) (b := dir) (Old.nil _) z3 u2 hp) ?_)
    rintro _ o7 ⟨t6, hp, k2, rfl⟩
    have t7 := Step.of0 X k2
    refine pv (.bool t6) ?_
    refine nil_ ?_
    have l9 := Evo.then0 k1 k2
    have r4 := Old.step u3 t7
    have g0 := Sub.trans t4 (Step.up t7)
    have g1 := Sl.step t3 t7
    refine then_normal (t5 _ _ _ ⟨[(27, (.bool t6))], fit_mk (fun _ _ => rfl) (by kernel_rfl) (vs_cons (by kernel_rfl) vs_nil), ?_⟩)
    exact ⟨X, t6, rfl, l9, r4, g0, g1, hp⟩
  ·
   rintro _ u4 o8 ⟨y2, y3, rfl, k3, r5, g2, g3, g4⟩
   replace hp := j9 y3 g4
   refine then_normal (l7 _ _ _ _ ?_)
   refine cond_b y3 (by kernel_rfl) (fun t8 => ?_) (fun t8 => ?_)
   ·
    replace hp := hp.1 t8
    refine sr (fun _ m0 => pv (.int .i64 (5 : Int)) ?_)
    refine nt m0 (wp_ret (then_ret ?_))
    refine end_ret hQ (.int .i64 (5 : Int)) (by kernel_rfl) ?_
    exact ⟨(5 : Int), hp, k3, rfl, (by decide : inR .i64 (5 : Int))⟩
   ·
    replace hp := hp.2 t8
    refine wp_skip (then_normal (l6 _ _ _ _ (seq_ (fun _ m1 => sr (fun _ m2 => pv (.int .i64 (0 : Int)) ?_)))))
    refine nt m2 (wp_block ?_)
    obtain ⟨m3, k4, g5, hp⟩ := hp
    refine loop_ 1099243192896 (fun kq lq z8 => ∃ (z9 : List Nat) (z0 : Int), (lq = [(9, (.int .i64 z0))]) ∧ (kq = k4 z0) ∧ (Evo [] w z8) ∧ (Old z9 z8) ∧ (Sub X z9) ∧ (Sl r_journal_Change z9 z8 z2 z1 l) ∧ (inR .i64 z0) ∧ (m3 z0)) (k4 (0 : Int)) [(9, (.int .i64 (0 : Int)))] (vs_cons (by kernel_rfl) vs_nil) ⟨y2, (0 : Int), rfl, rfl, k3, r5, g2, g3, (by decide : inR .i64 (0 : Int)), g5⟩ ?_
    rintro _ _ z8 o4 ⟨z9, z0, rfl, rfl, y0, t9, r6, z5, g6, r7⟩ m4 r8
    replace hp := hp z0 r7 g6
    refine seq_ (fun _ g7 => sr (fun _ g8 => pv (.int .i64 z0) ?_))
    refine pv (.int .i64 i) ?_
    refine pv (.bool (decide (z0 < i))) ?_
    refine nt g8 ?_
    refine cond_d (z0 < i) (by kernel_rfl) (fun v8 => ?_) (fun v8 => ?_)
    ·
     replace hp := hp.1 v8
     refine wp_skip (then_normal (g7 _ _ _ _ (seq_ (fun _ g9 => wp_block (sr (fun _ d0 => pv (.slice z2 l.length z1) ?_))))))
     refine pv (.int .i64 z0) ?_
     obtain ⟨s0, hp⟩ := hp
     obtain ⟨s1, s2, m5, r9, m6, m7, q0, q1⟩ := Sl.atI z5 z0 s0
     obtain ⟨k5, k6, rfl, y4, y5, y6⟩ := r_journal_Change_open q0
     replace hp := hp y4 y5 (Sl.len y6)
     refine pw (.pointer (some ⟨s1, s2 + z0.toNat * 4, none⟩)) (x_ixA (m := l.length) (c := z1) (k := .i64) (i := z0) Tryz.underlying22 Tryz.sizeOf34 (by rw [← r9]; kernel_rfl) (by kernel_rfl) s0) ?_
     refine pv (.pointer (some ⟨s1, s2 + z0.toNat * 4, none⟩)) ?_
     refine pw (.string ((lget l z0).Path)) (x_load1 (by kernel_rfl) Tryz.isAgg9 (q1 0 _ rfl)) ?_
     refine pv (.string ((lget l i).Path)) ?_
     refine pw (.bool (decide (((lget l z0).Path : ByteArray) = (lget l i).Path))) (x_streq (by kernel_rfl) (by kernel_rfl)) ?_
     refine nt d0 ?_
     refine cond_d (((lget l z0).Path : ByteArray) = (lget l i).Path) (by kernel_rfl) (fun v9 => ?_) (fun v9 => ?_)
     ·
      replace hp := hp.1 v9
      refine sr (fun _ d1 => pv (.int .i64 (6 : Int)) ?_)
      refine nt d1 (wp_ret (blk_ret (then_ret (then_ret (blk_ret (then_ret ?_))))))
      refine end_ret hQ (.int .i64 (6 : Int)) (by kernel_rfl) ?_
      exact ⟨(6 : Int), hp, y0, rfl, (by decide : inR .i64 (6 : Int))⟩
     ·
      replace hp := hp.2 v9
      refine wp_skip (blk_normal (then_normal (g9 _ _ _ _ (reg_ (pv (.int .i64 z0) ?_)))))
      obtain ⟨s3, hp⟩ := hp
      refine pw (.int .i64 (z0 + (1 : Int))) (x_add2 (k := .i64) (a := z0) (b := (1 : Int)) (z0 + (1 : Int)) (by kernel_rfl) (by kernel_rfl) (wrap_inR s3)) ?_
      refine pv (.int .i64 (z0 + (1 : Int))) ?_
      refine nil_ (then_normal (r8 _ _ _ ⟨_, [(9, (.int .i64 (z0 + (1 : Int))))], hp.2, fit_mk (AgB.mix _ _ _) (by kernel_rfl) (vs_cons (by kernel_rfl) vs_nil), ?_⟩))
      exact ⟨z9, (z0 + (1 : Int)), rfl, rfl, y0, t9, r6, z5, s3, hp.1⟩
    ·
     replace hp := hp.2 v8
     refine wp_exit ?_
     refine then_exit (then_exit (blk_exit (then_normal (m1 _ _ _ _ (seq_ (fun _ d2 => seq_ (fun _ d3 => ?_)))))))
     obtain ⟨hp, hq⟩ := hp
     refine ground_ ?_
     refine join_ 4611684918915760128 (fun lq s4 => lq = [(61, (.bool (decide ((¬ (((lget l i).Gone) = true)) ∧ ((¬ (((lget l i).Mode) = (1 : Int))) ∧ (¬ (((lget l i).Mode) = (2 : Int))))))))] ∧ z8 = s4) (fun m8 y1 => ?_) ?_
     ·
      refine reg_ (pv (.slice z2 l.length z1) ?_)
      refine pv (.int .i64 i) ?_
      obtain ⟨s5, hp⟩ := hp
      obtain ⟨s6, s7, m9, q2, n0, n1, q3, u6⟩ := Sl.atI z5 i s5
      obtain ⟨k7, k8, rfl, y7, y8, y9⟩ := r_journal_Change_open q3
      replace hp := hp y7 y8 (Sl.len y9)
      refine pw (.pointer (some ⟨s6, s7 + i.toNat * 4, none⟩)) (x_ixA (m := l.length) (c := z1) (k := .i64) (i := i) Tryz.underlying22 Tryz.sizeOf34 (by rw [← q2]; kernel_rfl) (by kernel_rfl) s5) ?_
      refine pv (.pointer (some ⟨s6, s7 + i.toNat * 4 + 1, none⟩)) ?_
      by_cases z4 : ((lget l i).Gone) = true
      ·
       replace hp := hp.1 z4
       refine pw (.bool true) (x_bt (x_load1 (by kernel_rfl) Tryz.isAgg4 (u6 1 _ rfl)) z4) ?_
       refine pv (.bool false) ?_
       refine pv (.bool false) ?_
       refine no ?_
       refine no ?_
       refine no ?_
       refine no ?_
       refine no ?_
       refine no ?_
       refine pv (.bool false) ?_
       refine pv (.bool false) ?_
       refine no ?_
       refine no ?_
       refine no ?_
       refine no ?_
       refine no ?_
       refine no ?_
       refine pv (.bool false) ?_
       refine nil_ (then_normal (y1 _ _ _ ⟨[(61, (.bool (decide ((¬ (((lget l i).Gone) = true)) ∧ ((¬ (((lget l i).Mode) = (1 : Int))) ∧ (¬ (((lget l i).Mode) = (2 : Int))))))))], fit_mk (fun _ _ => rfl) (by kernel_rfl) (vs_cons (Eq.trans (b := (.bool false)) (by kernel_rfl) (dec_f (iff_false_intro (fun h => (fun d4 => d4 z4) h.1))).symm) vs_nil), rfl, rfl⟩))
      ·
       replace hp := hp.2 z4
       refine pw (.bool false) (x_bf (x_load1 (by kernel_rfl) Tryz.isAgg4 (u6 1 _ rfl)) z4) ?_
       refine pv (.bool true) ?_
       refine pv (.bool true) ?_
       refine pv (.slice z2 l.length z1) ?_
       refine pv (.int .i64 i) ?_
       obtain ⟨s8, hp⟩ := hp
       obtain ⟨s9, r0, n2, q4, n3, n4, q5, q6⟩ := Sl.atI z5 i s8
       obtain ⟨k9, j0, rfl, v0, v1, v2⟩ := r_journal_Change_open q5
       replace hp := hp v0 v1 (Sl.len v2)
       refine pw (.pointer (some ⟨s9, r0 + i.toNat * 4, none⟩)) (x_ixA (m := l.length) (c := z1) (k := .i64) (i := i) Tryz.underlying22 Tryz.sizeOf34 (by rw [← q4]; kernel_rfl) (by kernel_rfl) s8) ?_
       refine pv (.pointer (some ⟨s9, r0 + i.toNat * 4 + 2, none⟩)) ?_
       refine pw (.int .i64 ((lget l i).Mode)) (x_load1 (by kernel_rfl) Tryz.isAgg3 (q6 2 _ rfl)) ?_
       by_cases z6 : ((lget l i).Mode) = (1 : Int)
       ·
        replace hp := hp.1 z6
        refine pw (.bool false) (x_ndf (p := ((lget l i).Mode) = (1 : Int)) (by kernel_rfl) z6) ?_
        refine pv (.bool false) ?_
        refine pv (.bool false) ?_
        refine no ?_
        refine no ?_
        refine no ?_
        refine no ?_
        refine no ?_
        refine no ?_
        refine pv (.bool false) ?_
        refine nil_ (then_normal (y1 _ _ _ ⟨[(61, (.bool (decide ((¬ (((lget l i).Gone) = true)) ∧ ((¬ (((lget l i).Mode) = (1 : Int))) ∧ (¬ (((lget l i).Mode) = (2 : Int))))))))], fit_mk (fun _ _ => rfl) (by kernel_rfl) (vs_cons (Eq.trans (b := (.bool false)) (by kernel_rfl) (dec_f ((and_iff_right z4).trans (iff_false_intro (fun h => (fun d4 => d4 z6) h.1)))).symm) vs_nil), rfl, rfl⟩))
       ·
        replace hp := hp.2 z6
        refine pw (.bool true) (x_ndt (p := ((lget l i).Mode) = (1 : Int)) (by kernel_rfl) z6) ?_
        refine pv (.bool true) ?_
        refine pv (.bool true) ?_
        refine pv (.slice z2 l.length z1) ?_
        refine pv (.int .i64 i) ?_
        obtain ⟨r1, hp⟩ := hp
        obtain ⟨r2, r3, n5, q7, n6, n7, q8, q9⟩ := Sl.atI z5 i r1
        obtain ⟨j1, j2, rfl, v3, v4, v5⟩ := r_journal_Change_open q8
        replace hp := hp v3 v4 (Sl.len v5)
        refine pw (.pointer (some ⟨r2, r3 + i.toNat * 4, none⟩)) (x_ixA (m := l.length) (c := z1) (k := .i64) (i := i) Tryz.underlying22 Tryz.sizeOf34 (by rw [← q7]; kernel_rfl) (by kernel_rfl) r1) ?_
        refine pv (.pointer (some ⟨r2, r3 + i.toNat * 4 + 2, none⟩)) ?_
        refine pw (.int .i64 ((lget l i).Mode)) (x_load1 (by kernel_rfl) Tryz.isAgg3 (q9 2 _ rfl)) ?_
        refine pv (.bool (!decide (((lget l i).Mode) = (2 : Int)))) ?_
        refine pv (.bool (!decide (((lget l i).Mode) = (2 : Int)))) ?_
        refine nil_ (then_normal (y1 _ _ _ ⟨[(61, (.bool (decide ((¬ (((lget l i).Gone) = true)) ∧ ((¬ (((lget l i).Mode) = (1 : Int))) ∧ (¬ (((lget l i).Mode) = (2 : Int))))))))], fit_mk (fun _ _ => rfl) (by kernel_rfl) (vs_cons (Eq.trans (b := (.bool (!decide (((lget l i).Mode) = (2 : Int))))) (by kernel_rfl) (dec_n ((and_iff_right z4).trans ((and_iff_right z6).trans Iff.rfl))).symm) vs_nil), rfl, rfl⟩))
     ·
      rintro _ s4 o5 ⟨rfl, hw⟩
      subst hw
      have hp := hq
      refine then_normal (d3 _ _ _ _ ?_)
      refine cond_d ((¬ (((lget l i).Gone) = true)) ∧ ((¬ (((lget l i).Mode) = (1 : Int))) ∧ (¬ (((lget l i).Mode) = (2 : Int))))) (by kernel_rfl) (fun u1 => ?_) (fun u1 => ?_)
      ·
       replace hp := hp.1 u1
       refine sr (fun _ d5 => pv (.int .i64 (1 : Int)) ?_)
       refine nt d5 (wp_ret (then_ret ?_))
       refine end_ret hQ (.int .i64 (1 : Int)) (by kernel_rfl) ?_
       exact ⟨(1 : Int), hp, y0, rfl, (by decide : inR .i64 (1 : Int))⟩
      ·
       replace hp := hp.2 u1
       refine wp_skip (then_normal (d2 _ _ _ _ (sr (fun _ d6 => pv (.int .i64 (0 : Int)) ?_))))
       refine nt d6 (wp_ret ?_)
       refine end_ret hQ (.int .i64 (0 : Int)) (by kernel_rfl) ?_
       exact ⟨(0 : Int), hp, y0, rfl, (by decide : inR .i64 (0 : Int))⟩
def rectolaw6_wrong_p (dir : ByteArray) (l : (List S_journal_Change)) (Q : Int → Prop) : Prop :=
 ((dir.size ≤ maxLen) → ((l.length ≤ 9223372036854775807) → (∃ z2 : Bool → Prop, (∀ (z3 : Bool), z2 z3 → (((z3 = true) → Q (5 : Int)) ∧ ((z3 = false) → (∃ (z4 : Int → Prop) (z6 : Int → Nat), (z4 (0 : Int)) ∧ (∀ (z0 : Int), (z4 z0) → (inR .i64 z0) → (((z0 < (l.length : Int)) → (rectolaw6_one_p dir l z0 (fun (z1 : Int) => ((inR .i64 z1) → (((¬ (z1 = (0 : Int))) → Q z1) ∧ ((z1 = (0 : Int)) → ((inR .i64 (z0 + (1 : Int))) ∧ ((z4 (z0 + (1 : Int))) ∧ z6 (z0 + (1 : Int)) < z6 z0)))))))) ∧ ((¬ (z0 < (l.length : Int))) → Q (0 : Int)))))))) ∧ (rectoref1_Check_p dir (fun (z5 : Int) => ((inR .i64 z5) → (((z5 = (0 : Int)) → (z2 (decide ((dir.size : Int) > (16 : Int))))) ∧ ((¬ (z5 = (0 : Int))) → (z2 true)))))))))
set_option maxRecDepth 20000 in
set_option maxHeartbeats 4000000 in
theorem rectolaw6_wrong_w {X : List Nat} {w : World} {dir : ByteArray} {l : (List S_journal_Change)} {z1 : Option Addr} {z2 : Nat} {Q : Int → Prop} (s1 : Old X w) (z6 : dir.size ≤ maxLen) (y2 : Sl r_journal_Change X w z1 z2 l) (hp : rectolaw6_wrong_p dir l Q) :
  Calls Tryz.prog 9 #[(.string dir), (.slice z1 l.length z2)] w (Ret fun v w' => ∃ (u4 : Int), Q u4 ∧ Evo [] w w' ∧ v = (.int .i64 u4) ∧ inR .i64 u4) := by
 have hXo := s1
 have E0 : Evo [] w w := RB.refl _ _ _
 have hS : Sub X X := Sub.refl _
 unfold rectolaw6_wrong_p at hp
 refine enter_ Tryz.func9 rfl 28 [(0, (.string dir)), (1, (.slice z1 l.length z2))] (by kernel_rfl) (fun Qe hQ => ?_)
 replace hp := hp z6 (Sl.len y2)
 refine sr (fun _ r8 => pv (.int .i64 (0 : Int)) ?_)
 refine nt r8 (seq_ (fun _ r9 => seq_ (fun _ q0 => ?_)))
 obtain ⟨s2, u5, hp⟩ := hp
 refine ground_ ?_
 refine join_ 32640 (fun lq z9 => ∃ (z7 : List Nat) (z8 : Bool), (lq = [(14, (.bool z8))]) ∧ (Evo [] w z9) ∧ (Old z7 z9) ∧ (Sub X z7) ∧ (Sl r_journal_Change z7 z9 z1 z2 l) ∧ (s2 z8)) (fun q1 y3 => ?_) ?_
 ·
  refine reg_ (pv (.string dir) ?_)
  refine sq (o_call 24 #[(.string dir)] rfl (x_call Tryz.call24 (by kernel_rfl)) (rectoref1_Check_w (X := []) (p := dir) (Old.nil _) z6 hp) ?_)
  rintro _ q3 ⟨y4, hp, y5, rfl, u6⟩
  have z4 := Step.of0 X y5
  replace hp := hp u6
  by_cases y0 : y4 = (0 : Int)
  ·
   replace hp := hp.1 y0
   refine pw (.bool false) (x_ndf (p := y4 = (0 : Int)) (by kernel_rfl) y0) ?_
   refine pv (.bool false) ?_
   refine pv (.string dir) ?_
   refine pv (.int .i64 (dir.size : Int)) ?_
   refine pv (.bool (decide ((dir.size : Int) > (16 : Int)))) ?_
   refine pv (.bool (decide ((dir.size : Int) > (16 : Int)))) ?_
   refine nil_ ?_
   have s3 := Evo.then0 E0 y5
   have v5 := Old.step hXo z4
   have u7 := Sub.trans hS (Step.up z4)
   have u9 := Sl.step y2 z4
   refine then_normal (y3 _ _ _ ⟨[(14, (.bool (decide ((dir.size : Int) > (16 : Int)))))], fit_mk (fun _ _ => rfl) (by kernel_rfl) (vs_cons (by kernel_rfl) vs_nil), ?_⟩)
   exact ⟨X, (decide ((dir.size : Int) > (16 : Int))), rfl, s3, v5, u7, u9, hp⟩
  ·
   replace hp := hp.2 y0
   refine pw (.bool true) (x_ndt (p := y4 = (0 : Int)) (by kernel_rfl) y0) ?_
   refine pv (.bool true) ?_
   refine no ?_
   refine no ?_
   refine no ?_
   refine pv (.bool true) ?_
   refine nil_ ?_
   have s4 := Evo.then0 E0 y5
   have v6 := Old.step hXo z4
   have t0 := Sub.trans hS (Step.up z4)
   have t1 := Sl.step y2 z4
   refine then_normal (y3 _ _ _ ⟨[(14, (.bool true))], fit_mk (fun _ _ => rfl) (by kernel_rfl) (vs_cons (by kernel_rfl) vs_nil), ?_⟩)
   exact ⟨X, true, rfl, s4, v6, t0, t1, hp⟩
 ·
  rintro _ z9 q4 ⟨z7, z8, rfl, u1, v7, t2, t3, t4⟩
  replace hp := u5 z8 t4
  refine then_normal (q0 _ _ _ _ ?_)
  refine cond_b z8 (by kernel_rfl) (fun y6 => ?_) (fun y6 => ?_)
  ·
   replace hp := hp.1 y6
   refine sr (fun _ s5 => pv (.int .i64 (5 : Int)) ?_)
   refine nt s5 (wp_ret (then_ret ?_))
   refine end_ret hQ (.int .i64 (5 : Int)) (by kernel_rfl) ?_
   exact ⟨(5 : Int), hp, u1, rfl, (by decide : inR .i64 (5 : Int))⟩
  ·
   replace hp := hp.2 y6
   refine wp_skip (then_normal (r9 _ _ _ _ (seq_ (fun _ s6 => sr (fun _ s7 => pv (.int .i64 (0 : Int)) ?_)))))
   refine nt s7 (wp_block ?_)
   obtain ⟨s8, u2, t5, hp⟩ := hp
   refine loop_ 268402800 (fun kq lq y1 => ∃ (z5 : List Nat) (z0 : Int), (lq = [(5, (.int .i64 z0))]) ∧ (kq = u2 z0) ∧ (Evo [] w y1) ∧ (Old z5 y1) ∧ (Sub X z5) ∧ (Sl r_journal_Change z5 y1 z1 z2 l) ∧ (inR .i64 z0) ∧ (s8 z0)) (u2 (0 : Int)) [(5, (.int .i64 (0 : Int)))] (vs_cons (by kernel_rfl) vs_nil) ⟨z7, (0 : Int), rfl, rfl, u1, v7, t2, t3, (by decide : inR .i64 (0 : Int)), t5⟩ ?_
   rintro _ _ y1 q5 ⟨z5, z0, rfl, rfl, y7, v8, t6, y8, y9, t7⟩ q2 t8
   replace hp := hp z0 t7 y9
   refine seq_ (fun _ s9 => sr (fun _ r0 => pv (.int .i64 z0) ?_))
   refine pv (.slice z1 l.length z2) ?_
   refine pv (.int .i64 (l.length : Int)) ?_
   refine pv (.bool (decide (z0 < (l.length : Int)))) ?_
   refine nt r0 ?_
   refine cond_d (z0 < (l.length : Int)) (by kernel_rfl) (fun v0 => ?_) (fun v0 => ?_)
   ·
    replace hp := hp.1 v0
    refine wp_skip (then_normal (s9 _ _ _ _ (seq_ (fun _ r1 => wp_block (sr (fun _ r2 => pv (.string dir) ?_))))))
    refine pv (.slice z1 l.length z2) ?_
    refine pv (.int .i64 z0) ?_
    refine sq (o_call 25 #[(.string dir), (.slice z1 l.length z2), (.int .i64 z0)] rfl (x_call Tryz.call25 (by kernel_rfl)) (rectolaw6_one_w (X := []) (dir := dir) (l := l) (i := z0) (Old.nil _) z6 (Sl.less y8 (Sub.nil _)) y9 hp) ?_)
    rintro _ q6 ⟨z3, hp, v1, rfl, v2⟩
    have v3 := Step.of0 z5 v1
    replace hp := hp v2
    refine pv (.int .i64 z3) ?_
    refine nt r2 (sr (fun _ r3 => pv (.int .i64 z3) ?_))
    refine pv (.bool (!decide (z3 = (0 : Int)))) ?_
    refine nt r3 ?_
    refine cond_nd (z3 = (0 : Int)) (by kernel_rfl) (fun v4 => ?_) (fun v4 => ?_)
    ·
     replace hp := hp.1 v4
     refine sr (fun _ r4 => pv (.int .i64 z3) ?_)
     refine pv (.int .i64 z3) ?_
     refine nt r4 (wp_ret (blk_ret (then_ret (then_ret (blk_ret (then_ret ?_))))))
     have r5 := Evo.then0 y7 v1
     refine end_ret hQ (.int .i64 z3) (by kernel_rfl) ?_
     exact ⟨z3, hp, r5, rfl, v2⟩
    ·
     replace hp := hp.2 v4
     refine wp_skip (blk_normal (then_normal (r1 _ _ _ _ (reg_ (pv (.int .i64 z0) ?_)))))
     obtain ⟨u3, hp⟩ := hp
     refine pw (.int .i64 (z0 + (1 : Int))) (x_add2 (k := .i64) (a := z0) (b := (1 : Int)) (z0 + (1 : Int)) (by kernel_rfl) (by kernel_rfl) (wrap_inR u3)) ?_
     refine pv (.int .i64 (z0 + (1 : Int))) ?_
     refine nil_ ?_
     have r6 := Evo.then0 y7 v1
     have v9 := Old.step v8 v3
     have t9 := Sub.trans t6 (Step.up v3)
     have s0 := Sl.step y8 v3
     refine then_normal (t8 _ _ _ ⟨_, [(5, (.int .i64 (z0 + (1 : Int))))], hp.2, fit_mk (AgB.mix _ _ _) (by kernel_rfl) (vs_cons (by kernel_rfl) vs_nil), ?_⟩)
     exact ⟨z5, (z0 + (1 : Int)), rfl, rfl, r6, v9, t9, s0, u3, hp.1⟩
   ·
    replace hp := hp.2 v0
    refine wp_exit ?_
    refine then_exit (then_exit (blk_exit (then_normal (s6 _ _ _ _ (sr (fun _ r7 => pv (.int .i64 (0 : Int)) ?_))))))
    refine nt r7 (wp_ret ?_)
    refine end_ret hQ (.int .i64 (0 : Int)) (by kernel_rfl) ?_
    exact ⟨(0 : Int), hp, y7, rfl, (by decide : inR .i64 (0 : Int))⟩
end Go.Proofs.YtlkfoebophjhfaaGreatDoor
