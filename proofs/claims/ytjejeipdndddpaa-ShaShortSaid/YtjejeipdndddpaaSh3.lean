/- Walks of functions: what each asks and computes, as a plain predicate, and the contract from it. -/
import Derived.Test.YtjejeipdndddpaaChecked
import Derived.Test.YtjejeipdndddpaaSh2
namespace Go.Proofs.Ytjejeipdndddpaa
open Go


def rectoref2_turn_p (x : Int) (n_ : Int) (Q : Int → Prop) : Prop :=
  ((inR .u32 x) → ((inR .i64 n_) → ((inR .i64 ((32 : Int) - n_)) ∧ (∀ y6 : Int, y6 = (ior .u32 (ishr .u32 x (iwrap .u64 n_)) (ishl .u32 x (iwrap .u64 ((32 : Int) - n_)))) → Q y6))))
set_option maxRecDepth 20000 in
set_option maxHeartbeats 4000000 in
theorem rectoref2_turn_w {X : List Nat} {w : World} {x : Int} {n_ : Int} {Q : Int → Prop} (hX0 : Old X w) (rx1 : inR .u32 x) (rn_2 : inR .i64 n_) (hp : rectoref2_turn_p x n_ Q) :
    Calls Try.prog 29 #[(.int .u32 x), (.int .i64 n_)] w (Ret fun v w' => ∃ (r0 : Int), Q r0 ∧ Evo [] w w' ∧ v = (.int .u32 r0) ∧ inR .u32 r0) := by
  have hXo := hX0
  have E0 : Evo [] w w := RB.refl _ _ _
  have hS : Sub X X := Sub.refl _
  unfold rectoref2_turn_p at hp
  refine enter_ Try.func29 rfl 15 [(0, (.int .u32 x)), (1, (.int .i64 n_))] (by kernel_rfl) (fun Qe hQ => ?_)
  replace hp := hp rx1
  replace hp := hp rn_2
  refine seq_ (fun _ K3 => ?_)
  refine reg_ ?_
  refine sq (o_pv (.int .u32 (0 : Int)) rfl (by kernel_rfl) ?_)
  refine nil_ ?_
  refine then_normal (K3 _ _ _ _ ?_)
  refine seq_ (fun _ K4 => ?_)
  refine reg_ ?_
  refine sq (o_pv (.int .u32 x) rfl (by kernel_rfl) ?_)
  refine sq (o_pv (.int .i64 n_) rfl (by kernel_rfl) ?_)
  refine sq (o_pv (.int .u64 (iwrap .u64 n_)) rfl (x_convw (k := .i64) Try.underlying3 Try.underlying56 (by kernel_rfl)) ?_)
  refine sq (o_pv (.int .u32 (ishr .u32 x (iwrap .u64 n_))) rfl (x_shr (k := .u32) (k' := .u64) (a := x) (b := iwrap .u64 n_) (by kernel_rfl) (by kernel_rfl) (inR_nn (inR_iwrap _ _))) ?_)
  refine sq (o_pv (.int .u32 x) rfl (by kernel_rfl) ?_)
  refine sq (o_pv (.int .i64 n_) rfl (by kernel_rfl) ?_)
  obtain ⟨h5, hp⟩ := hp
  refine sq (o_pv (.int .i64 ((32 : Int) - n_)) rfl (x_sub2 (k := .i64) (a := (32 : Int)) (b := n_) ((32 : Int) - n_) (by kernel_rfl) (by kernel_rfl) (wrap_inR h5)) ?_)
  refine sq (o_pv (.int .u64 (iwrap .u64 ((32 : Int) - n_))) rfl (x_convw (k := .i64) Try.underlying3 Try.underlying56 (by kernel_rfl)) ?_)
  refine sq (o_pv (.int .u32 (ishl .u32 x (iwrap .u64 ((32 : Int) - n_)))) rfl (x_shl (k := .u32) (k' := .u64) (a := x) (b := iwrap .u64 ((32 : Int) - n_)) (by kernel_rfl) (by kernel_rfl) (inR_nn (inR_iwrap _ _))) ?_)
  obtain ⟨y6, qy6⟩ : ∃ y, y = (ior .u32 (ishr .u32 x (iwrap .u64 n_)) (ishl .u32 x (iwrap .u64 ((32 : Int) - n_)))) := ⟨_, rfl⟩
  replace hp := hp y6 qy6
  have r7 : inR .u32 y6 := by rw [qy6]; exact (inR_ior _ _ _)
  refine sq (o_pv (.int .u32 y6) rfl (by rw [qy6]; exact (x_or (k := .u32) (a := ishr .u32 x (iwrap .u64 n_)) (b := ishl .u32 x (iwrap .u64 ((32 : Int) - n_))) (by kernel_rfl) (by kernel_rfl))) ?_)
  refine sq (o_pv (.int .u32 y6) rfl (by kernel_rfl) ?_)
  refine nil_ ?_
  refine then_normal (K4 _ _ _ _ ?_)
  refine wp_ret ?_
  refine end_ret hQ (.int .u32 y6) (by kernel_rfl) ?_
  exact ⟨y6, hp, E0, rfl, r7⟩

end Go.Proofs.Ytjejeipdndddpaa
