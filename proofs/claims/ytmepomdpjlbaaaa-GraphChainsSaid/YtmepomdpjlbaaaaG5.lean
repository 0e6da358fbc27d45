/- Walks of functions: what each asks and computes, as a plain predicate, and the contract from it. -/
import Derived.Test.YtmepomdpjlbaaaaChecked
import Derived.Test.YtmepomdpjlbaaaaG4
namespace Go.Proofs.Ytmepomdpjlbaaaa
open Go

theorem elT55 : ElemT Try.prog 55 61 1 24 := elemT_mk (i := Try.t61) (z := (.slice none 0 0)) (by kernel_rfl) (by kernel_rfl) (by kernel_rfl) (by kernel_rfl) Try.underlying55 Try.sizeOf61 (by decide) (by decide)
def rectolaw17_GraphChains_p (stem : Int) (a : Int) (b : Int) (Q : Bool → Prop) : Prop :=
  ((inR .u8 stem) → ((inR .u8 a) → ((inR .u8 b) → (rectolaw17_known_p  (fun (r7 : Bool) => ((((!r7) = true) → Q false) ∧ (((!r7) = false) → ((inR .i64 ((1 : Int) + (stem % (20 : Int)))) ∧ ((inR .i64 ((1 : Int) + (a % (20 : Int)))) ∧ ((inR .i64 ((1 : Int) + (b % (20 : Int)))) ∧ (∃ (I489 : (List (List Int)) → Int → Prop) (m490 : (List (List Int)) → Int → Nat), (I489 ([] : List (List Int)) (1 : Int)) ∧ ∀ (g243 : (List (List Int))) (i248 : Int), (I489 g243 i248) → (g243.length ≤ 9223372036854775807) → (inR .i64 i248) → ((inR .i64 (((1 : Int) + (stem % (20 : Int))) + ((1 : Int) + (a % (20 : Int))))) ∧ ((inR .i64 ((((1 : Int) + (stem % (20 : Int))) + ((1 : Int) + (a % (20 : Int)))) + ((1 : Int) + (b % (20 : Int))))) ∧ (∀ y509 : Int, y509 = ((((1 : Int) + (stem % (20 : Int))) + ((1 : Int) + (a % (20 : Int)))) + ((1 : Int) + (b % (20 : Int)))) → (((i248 ≤ y509) → (∃ k617 : (List (List Int)) → Prop, (∀ (g612 : (List (List Int))), k617 g612 → (g612.length ≤ 9223372036854775807) → ((inR .i64 (i248 + (1 : Int))) ∧ ((I489 g612 (i248 + (1 : Int))) ∧ m490 g612 (i248 + (1 : Int)) < m490 g243 i248))) ∧ (((i248 = (1 : Int)) → (((g243.length + ([([] : List Int)]).length) * 24 ≤ 140737488355328) ∧ (k617 (g243 ++ ([([] : List Int)]))))) ∧ ((¬ (i248 = (1 : Int))) → ((inR .i64 (((1 : Int) + (stem % (20 : Int))) + ((1 : Int) + (a % (20 : Int))))) ∧ ((inR .i64 ((((1 : Int) + (stem % (20 : Int))) + ((1 : Int) + (a % (20 : Int)))) + (1 : Int))) ∧ (∀ y653 : Int, y653 = ((((1 : Int) + (stem % (20 : Int))) + ((1 : Int) + (a % (20 : Int)))) + (1 : Int)) → (((i248 = y653) → (((g243.length + ([[(1 : Int) + (stem % (20 : Int))]]).length) * 24 ≤ 140737488355328) ∧ (k617 (g243 ++ ([[(1 : Int) + (stem % (20 : Int))]]))))) ∧ ((¬ (i248 = y653)) → ((inR .i64 (i248 - (1 : Int))) ∧ (((g243.length + ([[i248 - (1 : Int)]]).length) * 24 ≤ 140737488355328) ∧ (k617 (g243 ++ ([[i248 - (1 : Int)]])))))))))))))) ∧ ((¬ (i248 ≤ y509)) → (∃ k848 : Bool → Prop, (∀ (s847 : Bool), k848 s847 → Q s847) ∧ (graph_Graph_Check_p g243 (fun (r858 : Int) => ((inR .i64 r858) → (((r858 = (0 : Int)) → ((inR .i64 (((1 : Int) + (stem % (20 : Int))) + ((1 : Int) + (a % (20 : Int))))) ∧ ((inR .i64 (((1 : Int) + (stem % (20 : Int))) + ((1 : Int) + (a % (20 : Int))))) ∧ ((inR .i64 ((((1 : Int) + (stem % (20 : Int))) + ((1 : Int) + (a % (20 : Int)))) + ((1 : Int) + (b % (20 : Int))))) ∧ (∀ y867 : Int, y867 = ((((1 : Int) + (stem % (20 : Int))) + ((1 : Int) + (a % (20 : Int)))) + ((1 : Int) + (b % (20 : Int)))) → (graph_Graph_Base_p g243 (((1 : Int) + (stem % (20 : Int))) + ((1 : Int) + (a % (20 : Int)))) y867 (fun (r870 : Int) => ((inR .i64 r870) → (((r870 = ((1 : Int) + (stem % (20 : Int)))) → ((inR .i64 (((1 : Int) + (stem % (20 : Int))) + ((1 : Int) + (a % (20 : Int))))) ∧ (graph_Graph_Ancestors_p g243 ([((1 : Int) + (stem % (20 : Int))) + ((1 : Int) + (a % (20 : Int)))]) (fun (r889 : (List Int)) => ((r889.length ≤ 9223372036854775807) → ((inR .i64 (((1 : Int) + (stem % (20 : Int))) + ((1 : Int) + (a % (20 : Int))))) ∧ ((((r889.length : Int) = (((1 : Int) + (stem % (20 : Int))) + ((1 : Int) + (a % (20 : Int))))) → ((inR .i64 (((1 : Int) + (stem % (20 : Int))) + ((1 : Int) + (a % (20 : Int))))) ∧ ((inR .i64 ((((1 : Int) + (stem % (20 : Int))) + ((1 : Int) + (a % (20 : Int)))) + ((1 : Int) + (b % (20 : Int))))) ∧ (∀ y900 : Int, y900 = ((((1 : Int) + (stem % (20 : Int))) + ((1 : Int) + (a % (20 : Int)))) + ((1 : Int) + (b % (20 : Int)))) → (graph_Graph_Ancestors_p g243 ([y900]) (fun (r916 : (List Int)) => ((r916.length ≤ 9223372036854775807) → ((inR .i64 (((1 : Int) + (stem % (20 : Int))) + ((1 : Int) + (b % (20 : Int))))) ∧ ((((r916.length : Int) = (((1 : Int) + (stem % (20 : Int))) + ((1 : Int) + (b % (20 : Int))))) → ((inR .i64 (((1 : Int) + (stem % (20 : Int))) + ((1 : Int) + (a % (20 : Int))))) ∧ ((inR .i64 (((1 : Int) + (stem % (20 : Int))) + ((1 : Int) + (a % (20 : Int))))) ∧ ((inR .i64 ((((1 : Int) + (stem % (20 : Int))) + ((1 : Int) + (a % (20 : Int)))) + ((1 : Int) + (b % (20 : Int))))) ∧ (∀ y928 : Int, y928 = ((((1 : Int) + (stem % (20 : Int))) + ((1 : Int) + (a % (20 : Int)))) + ((1 : Int) + (b % (20 : Int)))) → (graph_Graph_Only_p g243 (((1 : Int) + (stem % (20 : Int))) + ((1 : Int) + (a % (20 : Int)))) y928 (fun (r933 : (List Int)) => ((r933.length ≤ 9223372036854775807) → ((((r933.length : Int) = ((1 : Int) + (a % (20 : Int)))) → ((inR .i64 (((1 : Int) + (stem % (20 : Int))) + ((1 : Int) + (a % (20 : Int))))) ∧ ((inR .i64 ((((1 : Int) + (stem % (20 : Int))) + ((1 : Int) + (a % (20 : Int)))) + ((1 : Int) + (b % (20 : Int))))) ∧ (∀ y943 : Int, y943 = ((((1 : Int) + (stem % (20 : Int))) + ((1 : Int) + (a % (20 : Int)))) + ((1 : Int) + (b % (20 : Int)))) → (graph_Graph_Only_p g243 y943 ((1 : Int) + (stem % (20 : Int))) (fun (r948 : (List Int)) => ((r948.length ≤ 9223372036854775807) → ((((r948.length : Int) = ((1 : Int) + (b % (20 : Int)))) → ((inR .i64 (((1 : Int) + (stem % (20 : Int))) + ((1 : Int) + (a % (20 : Int))))) ∧ (graph_Graph_Bases_p g243 (((1 : Int) + (stem % (20 : Int))) + ((1 : Int) + (a % (20 : Int)))) ((1 : Int) + (stem % (20 : Int))) (fun (r960 : (List Int)) => ((r960.length ≤ 9223372036854775807) → (k848 (decide ((r960.length : Int) = (1 : Int))))))))) ∧ ((¬ ((r948.length : Int) = ((1 : Int) + (b % (20 : Int))))) → (k848 false)))))))))) ∧ ((¬ ((r933.length : Int) = ((1 : Int) + (a % (20 : Int))))) → (k848 false))))))))))) ∧ ((¬ ((r916.length : Int) = (((1 : Int) + (stem % (20 : Int))) + ((1 : Int) + (b % (20 : Int)))))) → (k848 false))))))))))) ∧ ((¬ ((r889.length : Int) = (((1 : Int) + (stem % (20 : Int))) + ((1 : Int) + (a % (20 : Int)))))) → (k848 false))))))))) ∧ ((¬ (r870 = ((1 : Int) + (stem % (20 : Int))))) → (k848 false))))))))))) ∧ ((¬ (r858 = (0 : Int))) → (k848 false)))))))))))))))))))))))
set_option maxRecDepth 20000 in
set_option maxHeartbeats 4000000 in
theorem rectolaw17_GraphChains_w {X : List Nat} {w : World} {stem : Int} {a : Int} {b : Int} {Q : Bool → Prop} (hX0 : Old X w) (rstem1 : inR .u8 stem) (ra2 : inR .u8 a) (rb3 : inR .u8 b) (hp : rectolaw17_GraphChains_p stem a b Q) :
    Calls Try.prog 9 #[(.int .u8 stem), (.int .u8 a), (.int .u8 b)] w (Ret fun v w' => ∃ (r0 : Bool), Q r0 ∧ Evo [] w w' ∧ v = (.bool r0)) := by
  have hXo := hX0
  have E0 : Evo [] w w := RB.refl _ _ _
  have hS : Sub X X := Sub.refl _
  unfold rectolaw17_GraphChains_p at hp
  refine enter_ Try.func9 rfl 142 [(0, (.int .u8 stem)), (1, (.int .u8 a)), (2, (.int .u8 b))] (by kernel_rfl) (fun Qe hQ => ?_)
  replace hp := hp rstem1
  replace hp := hp ra2
  replace hp := hp rb3
  refine seq_ (fun _ K4 => ?_)
  refine reg_ ?_
  refine sq (o_pv (.bool false) rfl (by kernel_rfl) ?_)
  refine nil_ ?_
  refine then_normal (K4 _ _ _ _ ?_)
  refine seq_ (fun _ K5 => ?_)
  refine seq_ (fun _ K6 => ?_)
  refine reg_ ?_
  refine sq (o_call 32 #[] rfl (x_call Try.call32 (by kernel_rfl)) (rectolaw17_known_w (X := [])  (Old.nil _) hp) ?_)
  rintro _ w8 ⟨r7, hp, e9, rfl⟩
  have s10 := Step.of0 X e9
  refine sq (o_pv (.bool (!r7)) rfl (by kernel_rfl) ?_)
  refine nil_ ?_
  refine then_normal (K6 _ _ _ _ ?_)
  refine cond_b (!r7) (by kernel_rfl) (fun h11 => ?_) (fun h11 => ?_)
  ·
    replace hp := hp.1 h11
    refine seq_ (fun _ K12 => ?_)
    refine reg_ ?_
    refine sq (o_pv (.bool false) rfl (by kernel_rfl) ?_)
    refine nil_ ?_
    refine then_normal (K12 _ _ _ _ ?_)
    refine wp_ret ?_
    refine then_ret ?_
    have E13 := (Evo.then0 E0 e9)
    refine end_ret hQ (.bool false) (by kernel_rfl) ?_
    exact ⟨false, hp, E13, rfl⟩
  ·
    replace hp := hp.2 h11
    refine wp_skip ?_
    refine then_normal (K5 _ _ _ _ ?_)
    refine seq_ (fun _ K14 => ?_)
    refine reg_ ?_
    refine sq (o_pv (.int .u8 stem) rfl (by kernel_rfl) ?_)
    refine sq (o_pv (.int .u8 (stem % (20 : Int))) rfl (x_rem2 (k := .u8) (a := stem) (b := (20 : Int)) (stem % (20 : Int)) (by kernel_rfl) (by kernel_rfl) (inR_nn rstem1) (by decide) rfl (wrap_inR (inR_rem (inR_nn rstem1) (by decide) rstem1 (by decide)))) ?_)
    have r15 : inR .i64 (stem % (20 : Int)) := inR_up (by decide) (by decide) (inR_rem (inR_nn rstem1) (by decide) rstem1 (by decide))
    refine sq (o_pv (.int .i64 (stem % (20 : Int))) rfl (x_conv (k := .u8) Try.underlying5 Try.underlying3 (by kernel_rfl) (wrap_inR r15)) ?_)
    obtain ⟨h16, hp⟩ := hp
    refine sq (o_pv (.int .i64 ((1 : Int) + (stem % (20 : Int)))) rfl (x_add2 (k := .i64) (a := (1 : Int)) (b := stem % (20 : Int)) ((1 : Int) + (stem % (20 : Int))) (by kernel_rfl) (by kernel_rfl) (wrap_inR h16)) ?_)
    refine sq (o_pv (.int .i64 ((1 : Int) + (stem % (20 : Int)))) rfl (by kernel_rfl) ?_)
    refine nil_ ?_
    refine then_normal (K14 _ _ _ _ ?_)
    refine seq_ (fun _ K17 => ?_)
    refine reg_ ?_
    refine sq (o_pv (.int .u8 a) rfl (by kernel_rfl) ?_)
    refine sq (o_pv (.int .u8 (a % (20 : Int))) rfl (x_rem2 (k := .u8) (a := a) (b := (20 : Int)) (a % (20 : Int)) (by kernel_rfl) (by kernel_rfl) (inR_nn ra2) (by decide) rfl (wrap_inR (inR_rem (inR_nn ra2) (by decide) ra2 (by decide)))) ?_)
    have r18 : inR .i64 (a % (20 : Int)) := inR_up (by decide) (by decide) (inR_rem (inR_nn ra2) (by decide) ra2 (by decide))
    refine sq (o_pv (.int .i64 (a % (20 : Int))) rfl (x_conv (k := .u8) Try.underlying5 Try.underlying3 (by kernel_rfl) (wrap_inR r18)) ?_)
    obtain ⟨h19, hp⟩ := hp
    refine sq (o_pv (.int .i64 ((1 : Int) + (a % (20 : Int)))) rfl (x_add2 (k := .i64) (a := (1 : Int)) (b := a % (20 : Int)) ((1 : Int) + (a % (20 : Int))) (by kernel_rfl) (by kernel_rfl) (wrap_inR h19)) ?_)
    refine sq (o_pv (.int .i64 ((1 : Int) + (a % (20 : Int)))) rfl (by kernel_rfl) ?_)
    refine nil_ ?_
    refine then_normal (K17 _ _ _ _ ?_)
    refine seq_ (fun _ K20 => ?_)
    refine reg_ ?_
    refine sq (o_pv (.int .u8 b) rfl (by kernel_rfl) ?_)
    refine sq (o_pv (.int .u8 (b % (20 : Int))) rfl (x_rem2 (k := .u8) (a := b) (b := (20 : Int)) (b % (20 : Int)) (by kernel_rfl) (by kernel_rfl) (inR_nn rb3) (by decide) rfl (wrap_inR (inR_rem (inR_nn rb3) (by decide) rb3 (by decide)))) ?_)
    have r21 : inR .i64 (b % (20 : Int)) := inR_up (by decide) (by decide) (inR_rem (inR_nn rb3) (by decide) rb3 (by decide))
    refine sq (o_pv (.int .i64 (b % (20 : Int))) rfl (x_conv (k := .u8) Try.underlying5 Try.underlying3 (by kernel_rfl) (wrap_inR r21)) ?_)
    obtain ⟨h22, hp⟩ := hp
    refine sq (o_pv (.int .i64 ((1 : Int) + (b % (20 : Int)))) rfl (x_add2 (k := .i64) (a := (1 : Int)) (b := b % (20 : Int)) ((1 : Int) + (b % (20 : Int))) (by kernel_rfl) (by kernel_rfl) (wrap_inR h22)) ?_)
    refine sq (o_pv (.int .i64 ((1 : Int) + (b % (20 : Int)))) rfl (by kernel_rfl) ?_)
    refine nil_ ?_
    refine then_normal (K20 _ _ _ _ ?_)
    refine seq_ (fun _ K23 => ?_)
    refine reg_ ?_
    refine sq (o_pv (.slice none 0 0) rfl (by kernel_rfl) ?_)
    refine nil_ ?_
    refine then_normal (K23 _ _ _ _ ?_)
    refine seq_ (fun _ K24 => ?_)
    refine seq_ (fun _ K25 => ?_)
    refine reg_ ?_
    refine sq (o_pv (.int .i64 (1 : Int)) rfl (by kernel_rfl) ?_)
    refine nil_ ?_
    refine then_normal (K25 _ _ _ _ ?_)
    refine wp_block ?_
    have hXo499 := (Old.step hXo s10)
    have E500 := (Evo.then0 E0 e9)
    have hS501 := (Sub.trans hS (Step.up s10))
    obtain ⟨I489, m490, hI491, hp⟩ := hp
    refine loop_ 576460752236317696 (fun kq lq w493 => ∃ (X494 : List Nat) (g243 : (List (List Int))) (i248 : Int) (a244 : Option Addr) (n245 : Nat) (c246 : Nat), (lq = [(10, (.slice a244 n245 c246)), (11, (.int .i64 i248))]) ∧ (kq = m490 g243 i248) ∧ (Evo [] w w493) ∧ (Old X494 w493) ∧ (Sub X X494) ∧ (OS (rSl (rInt .i64)) ([]) w.heap.size X494 w493 61 a244 n245 c246 g243) ∧ (inR .i64 i248) ∧ (I489 g243 i248)) (m490 ([] : List (List Int)) (1 : Int)) [(10, (.slice none 0 0)), (11, (.int .i64 (1 : Int)))] (vs_cons (by kernel_rfl) (vs_cons (by kernel_rfl) vs_nil)) ⟨X, ([] : List (List Int)), (1 : Int), none, 0, 0, rfl, rfl, E500, hXo499, hS501, (OS.nil _ _ _ _), (by decide), hI491⟩ ?_
    rintro _ _ w493 g496 ⟨X494, g243, i248, a244, n245, c246, rfl, rfl, E502, hXo503, hS504, O247, ri249, hI492⟩ Kl497 hA498
    replace hp := hp g243 i248 hI492 (OS.len O247) ri249
    refine seq_ (fun _ K505 => ?_)
    refine seq_ (fun _ K506 => ?_)
    refine reg_ ?_
    refine sq (o_pv (.int .i64 i248) rfl (by kernel_rfl) ?_)
    refine sq (o_pv (.int .i64 ((1 : Int) + (stem % (20 : Int)))) rfl (by kernel_rfl) ?_)
    refine sq (o_pv (.int .i64 ((1 : Int) + (a % (20 : Int)))) rfl (by kernel_rfl) ?_)
    obtain ⟨h507, hp⟩ := hp
    refine sq (o_pv (.int .i64 (((1 : Int) + (stem % (20 : Int))) + ((1 : Int) + (a % (20 : Int))))) rfl (x_add2 (k := .i64) (a := (1 : Int) + (stem % (20 : Int))) (b := (1 : Int) + (a % (20 : Int))) (((1 : Int) + (stem % (20 : Int))) + ((1 : Int) + (a % (20 : Int)))) (by kernel_rfl) (by kernel_rfl) (wrap_inR h507)) ?_)
    refine sq (o_pv (.int .i64 ((1 : Int) + (b % (20 : Int)))) rfl (by kernel_rfl) ?_)
    obtain ⟨h508, hp⟩ := hp
    obtain ⟨y509, qy509⟩ : ∃ y, y = ((((1 : Int) + (stem % (20 : Int))) + ((1 : Int) + (a % (20 : Int)))) + ((1 : Int) + (b % (20 : Int)))) := ⟨_, rfl⟩
    replace hp := hp y509 qy509
    have r510 : inR .i64 y509 := by rw [qy509]; exact h508
    refine sq (o_pv (.int .i64 y509) rfl (by rw [qy509]; exact (x_add2 (k := .i64) (a := ((1 : Int) + (stem % (20 : Int))) + ((1 : Int) + (a % (20 : Int)))) (b := (1 : Int) + (b % (20 : Int))) ((((1 : Int) + (stem % (20 : Int))) + ((1 : Int) + (a % (20 : Int)))) + ((1 : Int) + (b % (20 : Int)))) (by kernel_rfl) (by kernel_rfl) (wrap_inR h508))) ?_)
    refine sq (o_pv (.bool (decide (i248 ≤ y509))) rfl (by kernel_rfl) ?_)
    refine nil_ ?_
    refine then_normal (K506 _ _ _ _ ?_)
    refine cond_d (i248 ≤ y509) (by kernel_rfl) (fun h511 => ?_) (fun h511 => ?_)
    ·
      replace hp := hp.1 h511
      refine wp_skip ?_
      refine then_normal (K505 _ _ _ _ ?_)
      refine seq_ (fun _ K512 => ?_)
      obtain ⟨k617, hk618, hp⟩ := hp
      refine ground_ ?_
      refine join_ 576460717943686144 (fun lq w619 => ∃ (X620 : List Nat) (g612 : (List (List Int))) (a613 : Option Addr) (n614 : Nat) (c615 : Nat), (lq = [(10, (.slice a613 n614 c615))]) ∧ (Evo [] w w619) ∧ (Old X620 w619) ∧ (Sub X X620) ∧ (OS (rSl (rInt .i64)) ([]) w.heap.size X620 w619 61 a613 n614 c615 g612) ∧ (k617 g612)) (fun Kj621 hJ622 => ?_) ?_
      ·
        refine wp_block ?_
        refine wp_block ?_
        refine seq_ (fun _ K627 => ?_)
        refine reg_ ?_
        refine sq (o_pv (.int .i64 i248) rfl (by kernel_rfl) ?_)
        refine sq (o_pv (.bool (decide (i248 = (1 : Int)))) rfl (by kernel_rfl) ?_)
        refine sq (o_pv (.bool (decide (i248 = (1 : Int)))) rfl (by kernel_rfl) ?_)
        refine nil_ ?_
        refine then_normal (K627 _ _ _ _ ?_)
        refine cond_d (i248 = (1 : Int)) (by kernel_rfl) (fun h628 => ?_) (fun h628 => ?_)
        ·
          replace hp := hp.1 h628
          refine reg_ ?_
          refine sq (o_pv (.slice a244 n245 c246) rfl (by kernel_rfl) ?_)
          refine sq (o_rowX (R := (rSl (rInt .i64))) [(.slice none 0 0)] [([] : List Int)] 61 1 (X := X494) (B := w.heap.size) E502.size rfl (by kernel_rfl) (Flat.cons (cs := [(.slice none 0 0)]) (rSl_mk' (Sl.nil) rfl) Flat.nil) rfl (by decide) ?_)
          intro b629 w630 X631 s632 O633 n634
          have p635 := n634 _ (OS.old O247)
          obtain ⟨h636, hp⟩ := hp
          have O637 := (OS.step0 O247 s632)
          have E638 := (Evo.then0 E502 (Step.evo s632))
          refine sq (o_appX (R := (rSl (rInt .i64))) (X := X631) (B := w.heap.size) (L := g243) (M := [([] : List Int)]) rfl elT55 rfl E638.size O637 (OS.src O633) O633.1 (by kernel_rfl) (by kernel_rfl) h636 ?_)
          intro a639 n640 c641 w642 X643 s644 O645 gr646
          refine sq (o_pv (.slice a639 n640 c641) rfl (by kernel_rfl) ?_)
          refine nil_ ?_
          refine blk_normal ?_
          refine blk_normal ?_
          have E647 := (Evo.thenW E638 (Step.evo s644) O637.2.2)
          have hXo648 := (Old.step (Old.step hXo503 s632) s644)
          have hS649 := (Sub.trans (Sub.trans hS504 (Step.up s632)) (Step.up s644))
          refine then_normal (hJ622 _ _ _ ⟨[(10, (.slice a639 n640 c641))], fit_mk (fun _ _ => rfl) (by kernel_rfl) (vs_cons (by kernel_rfl) vs_nil), ?_⟩)
          exact ⟨X643, (g243 ++ ([([] : List Int)])), a639, n640, c641, rfl, E647, hXo648, hS649, O645, hp⟩
        ·
          replace hp := hp.2 h628
          refine seq_ (fun _ K650 => ?_)
          refine reg_ ?_
          refine sq (o_pv (.int .i64 i248) rfl (by kernel_rfl) ?_)
          refine sq (o_pv (.int .i64 ((1 : Int) + (stem % (20 : Int)))) rfl (by kernel_rfl) ?_)
          refine sq (o_pv (.int .i64 ((1 : Int) + (a % (20 : Int)))) rfl (by kernel_rfl) ?_)
          obtain ⟨h651, hp⟩ := hp
          refine sq (o_pv (.int .i64 (((1 : Int) + (stem % (20 : Int))) + ((1 : Int) + (a % (20 : Int))))) rfl (x_add2 (k := .i64) (a := (1 : Int) + (stem % (20 : Int))) (b := (1 : Int) + (a % (20 : Int))) (((1 : Int) + (stem % (20 : Int))) + ((1 : Int) + (a % (20 : Int)))) (by kernel_rfl) (by kernel_rfl) (wrap_inR h651)) ?_)
          obtain ⟨h652, hp⟩ := hp
          obtain ⟨y653, qy653⟩ : ∃ y, y = ((((1 : Int) + (stem % (20 : Int))) + ((1 : Int) + (a % (20 : Int)))) + (1 : Int)) := ⟨_, rfl⟩
          replace hp := hp y653 qy653
          have r654 : inR .i64 y653 := by rw [qy653]; exact h652
          refine sq (o_pv (.int .i64 y653) rfl (by rw [qy653]; exact (x_add2 (k := .i64) (a := ((1 : Int) + (stem % (20 : Int))) + ((1 : Int) + (a % (20 : Int)))) (b := (1 : Int)) ((((1 : Int) + (stem % (20 : Int))) + ((1 : Int) + (a % (20 : Int)))) + (1 : Int)) (by kernel_rfl) (by kernel_rfl) (wrap_inR h652))) ?_)
          refine sq (o_pv (.bool (decide (i248 = y653))) rfl (by kernel_rfl) ?_)
          refine sq (o_pv (.bool (decide (i248 = y653))) rfl (by kernel_rfl) ?_)
          refine nil_ ?_
          refine then_normal (K650 _ _ _ _ ?_)
          refine cond_d (i248 = y653) (by kernel_rfl) (fun h655 => ?_) (fun h655 => ?_)
          ·
            replace hp := hp.1 h655
            refine reg_ ?_
            refine sq (o_pv (.slice a244 n245 c246) rfl (by kernel_rfl) ?_)
            refine sq (o_pv (.int .i64 ((1 : Int) + (stem % (20 : Int)))) rfl (by kernel_rfl) ?_)
            refine sq (o_rowX (R := (rInt .i64)) [(.int .i64 ((1 : Int) + (stem % (20 : Int))))] [(1 : Int) + (stem % (20 : Int))] 3 1 (X := X494) (B := w.heap.size) E502.size rfl (by kernel_rfl) (Flat.cons (cs := [(.int .i64 ((1 : Int) + (stem % (20 : Int))))]) (rInt_mk h16) Flat.nil) rfl (by decide) ?_)
            intro b656 w657 X658 s659 O660 n661
            have p662 := n661 _ (OS.old O247)
            have hS663 := (Sub.trans hS504 (Step.up s659))
            have E669 := (Evo.then0 E502 (Step.evo s659))
            have hXo670 := (Old.step hXo503 s659)
            have O671 := (OS.step0 O247 s659)
            have ax668 := OS.apold O660 hX0
            obtain ⟨X664, u665, r666, hm667⟩ := OS.release O660
            have O672 := (OS.less O671 u665 (hm667 _ p662 (OS.mem O671)))
            have E679 := E669
            refine sq (o_rowX (R := (rSl (rInt .i64))) [(.slice (some ⟨b656, 0, none⟩) 1 1)] [[(1 : Int) + (stem % (20 : Int))]] 61 1 (X := X664) (B := w.heap.size) E679.size rfl (by kernel_rfl) (Flat.cons (cs := [(.slice (some ⟨b656, 0, none⟩) 1 1)]) (rSl_mk' r666 rfl) Flat.nil) rfl (by decide) ?_)
            intro b673 w674 X675 s676 O677 n678
            have p680 := n678 _ (OS.old O672)
            obtain ⟨h681, hp⟩ := hp
            have O682 := (OS.step0 O672 s676)
            have E683 := (Evo.then0 E679 (Step.evo s676))
            refine sq (o_appX (R := (rSl (rInt .i64))) (X := X675) (B := w.heap.size) (L := g243) (M := [[(1 : Int) + (stem % (20 : Int))]]) rfl elT55 rfl E683.size O682 (OS.src O677) O677.1 (by kernel_rfl) (by kernel_rfl) h681 ?_)
            intro a684 n685 c686 w687 X688 s689 O690 gr691
            refine sq (o_pv (.slice a684 n685 c686) rfl (by kernel_rfl) ?_)
            refine nil_ ?_
            refine blk_normal ?_
            refine blk_normal ?_
            have E692 := (Evo.thenW E683 (Step.evo s689) O682.2.2)
            have hXo693 := (Old.step (Old.step (Old.less hXo670 u665) s676) s689)
            have hS694 := (Sub.trans (Sub.trans (hm667 _ ax668 hS663) (Step.up s676)) (Step.up s689))
            refine then_normal (hJ622 _ _ _ ⟨[(10, (.slice a684 n685 c686))], fit_mk (fun _ _ => rfl) (by kernel_rfl) (vs_cons (by kernel_rfl) vs_nil), ?_⟩)
            exact ⟨X688, (g243 ++ ([[(1 : Int) + (stem % (20 : Int))]])), a684, n685, c686, rfl, E692, hXo693, hS694, O690, hp⟩
          ·
            replace hp := hp.2 h655
            refine reg_ ?_
            refine sq (o_pv (.slice a244 n245 c246) rfl (by kernel_rfl) ?_)
            refine sq (o_pv (.int .i64 i248) rfl (by kernel_rfl) ?_)
            obtain ⟨h695, hp⟩ := hp
            refine sq (o_pv (.int .i64 (i248 - (1 : Int))) rfl (x_sub2 (k := .i64) (a := i248) (b := (1 : Int)) (i248 - (1 : Int)) (by kernel_rfl) (by kernel_rfl) (wrap_inR h695)) ?_)
            refine sq (o_rowX (R := (rInt .i64)) [(.int .i64 (i248 - (1 : Int)))] [i248 - (1 : Int)] 3 1 (X := X494) (B := w.heap.size) E502.size rfl (by kernel_rfl) (Flat.cons (cs := [(.int .i64 (i248 - (1 : Int)))]) (rInt_mk h695) Flat.nil) rfl (by decide) ?_)
            intro b696 w697 X698 s699 O700 n701
            have p702 := n701 _ (OS.old O247)
            have hS703 := (Sub.trans hS504 (Step.up s699))
            have E709 := (Evo.then0 E502 (Step.evo s699))
            have hXo710 := (Old.step hXo503 s699)
            have O711 := (OS.step0 O247 s699)
            have ax708 := OS.apold O700 hX0
            obtain ⟨X704, u705, r706, hm707⟩ := OS.release O700
            have O712 := (OS.less O711 u705 (hm707 _ p702 (OS.mem O711)))
            have E719 := E709
            refine sq (o_rowX (R := (rSl (rInt .i64))) [(.slice (some ⟨b696, 0, none⟩) 1 1)] [[i248 - (1 : Int)]] 61 1 (X := X704) (B := w.heap.size) E719.size rfl (by kernel_rfl) (Flat.cons (cs := [(.slice (some ⟨b696, 0, none⟩) 1 1)]) (rSl_mk' r706 rfl) Flat.nil) rfl (by decide) ?_)
            intro b713 w714 X715 s716 O717 n718
            have p720 := n718 _ (OS.old O712)
            obtain ⟨h721, hp⟩ := hp
            have O722 := (OS.step0 O712 s716)
            have E723 := (Evo.then0 E719 (Step.evo s716))
            refine sq (o_appX (R := (rSl (rInt .i64))) (X := X715) (B := w.heap.size) (L := g243) (M := [[i248 - (1 : Int)]]) rfl elT55 rfl E723.size O722 (OS.src O717) O717.1 (by kernel_rfl) (by kernel_rfl) h721 ?_)
            intro a724 n725 c726 w727 X728 s729 O730 gr731
            refine sq (o_pv (.slice a724 n725 c726) rfl (by kernel_rfl) ?_)
            refine nil_ ?_
            refine blk_normal ?_
            refine blk_normal ?_
            have E732 := (Evo.thenW E723 (Step.evo s729) O722.2.2)
            have hXo733 := (Old.step (Old.step (Old.less hXo710 u705) s716) s729)
            have hS734 := (Sub.trans (Sub.trans (hm707 _ ax708 hS703) (Step.up s716)) (Step.up s729))
            refine then_normal (hJ622 _ _ _ ⟨[(10, (.slice a724 n725 c726))], fit_mk (fun _ _ => rfl) (by kernel_rfl) (vs_cons (by kernel_rfl) vs_nil), ?_⟩)
            exact ⟨X728, (g243 ++ ([[i248 - (1 : Int)]])), a724, n725, c726, rfl, E732, hXo733, hS734, O730, hp⟩
      ·
        rintro _ w619 g735 ⟨X620, g612, a613, n614, c615, rfl, E624, hXo625, hS626, O616, hv623⟩
        replace hp := hk618 g612 hv623 (OS.len O616)
        refine then_normal (K512 _ _ _ _ ?_)
        refine reg_ ?_
        refine sq (o_pv (.int .i64 i248) rfl (by kernel_rfl) ?_)
        obtain ⟨h736, hp⟩ := hp
        refine sq (o_pv (.int .i64 (i248 + (1 : Int))) rfl (x_add2 (k := .i64) (a := i248) (b := (1 : Int)) (i248 + (1 : Int)) (by kernel_rfl) (by kernel_rfl) (wrap_inR h736)) ?_)
        refine sq (o_pv (.int .i64 (i248 + (1 : Int))) rfl (by kernel_rfl) ?_)
        refine nil_ ?_
        refine then_normal (hA498 _ _ _ ⟨_, [(10, (.slice a613 n614 c615)), (11, (.int .i64 (i248 + (1 : Int))))], hp.2, fit_mk (AgB.nest (AgB.look (AgB.mix _ _ _) (by kernel_rfl)) (by kernel_rfl) (by kernel_rfl)) (by kernel_rfl) (vs_cons (by kernel_rfl) (vs_cons (by kernel_rfl) vs_nil)), ?_⟩)
        exact ⟨X620, g612, (i248 + (1 : Int)), a613, n614, c615, rfl, rfl, E624, hXo625, hS626, O616, h736, hp.1⟩
    ·
      replace hp := hp.2 h511
      refine wp_exit ?_
      refine then_exit ?_
      refine then_exit ?_
      refine blk_exit ?_
      refine then_normal (K24 _ _ _ _ ?_)
      refine seq_ (fun _ K737 => ?_)
      obtain ⟨k848, hk849, hp⟩ := hp
      refine ground_ ?_
      refine join_ 5575186299632655785383928991701338073071680 (fun lq w850 => ∃ (X851 : List Nat) (s847 : Bool), (lq = [(6, (.bool s847))]) ∧ (Evo [] w w850) ∧ (Old X851 w850) ∧ (Sub X X851) ∧ (k848 s847)) (fun Kj852 hJ853 => ?_) ?_
      ·
        refine reg_ ?_
        refine sq (o_pv (.slice a244 n245 c246) rfl (by kernel_rfl) ?_)
        refine sq (o_call 34 #[(.slice a244 g243.length c246)] rfl (x_call Try.call34 (by rw [← show n245 = g243.length from O247.1]; kernel_rfl)) (graph_Graph_Check_w (X := []) (g := g243) (Old.nil _) (OS.rd O247) hp) ?_)
        rintro _ w859 ⟨r858, hp, e860, rfl, rr862⟩
        have s861 := Step.of0 X494 e860
        replace hp := hp rr862
        by_cases h863 : r858 = (0 : Int)
        ·
          replace hp := hp.1 h863
          refine sq (o_pv (.bool true) rfl (x_dt (p := r858 = (0 : Int)) (by kernel_rfl) h863) ?_)
          refine sq (o_pv (.bool true) rfl (by kernel_rfl) ?_)
          refine sq (o_pv (.slice a244 n245 c246) (by kernel_rfl) (by kernel_rfl) ?_)
          refine sq (o_pv (.int .i64 ((1 : Int) + (stem % (20 : Int)))) (by kernel_rfl) (by kernel_rfl) ?_)
          refine sq (o_pv (.int .i64 ((1 : Int) + (a % (20 : Int)))) (by kernel_rfl) (by kernel_rfl) ?_)
          obtain ⟨h864, hp⟩ := hp
          refine sq (o_pv (.int .i64 (((1 : Int) + (stem % (20 : Int))) + ((1 : Int) + (a % (20 : Int))))) (by kernel_rfl) (x_add2 (k := .i64) (a := (1 : Int) + (stem % (20 : Int))) (b := (1 : Int) + (a % (20 : Int))) (((1 : Int) + (stem % (20 : Int))) + ((1 : Int) + (a % (20 : Int)))) (by kernel_rfl) (by kernel_rfl) (wrap_inR h864)) ?_)
          refine sq (o_pv (.int .i64 ((1 : Int) + (stem % (20 : Int)))) (by kernel_rfl) (by kernel_rfl) ?_)
          refine sq (o_pv (.int .i64 ((1 : Int) + (a % (20 : Int)))) (by kernel_rfl) (by kernel_rfl) ?_)
          obtain ⟨h865, hp⟩ := hp
          refine sq (o_pv (.int .i64 (((1 : Int) + (stem % (20 : Int))) + ((1 : Int) + (a % (20 : Int))))) (by kernel_rfl) (x_add2 (k := .i64) (a := (1 : Int) + (stem % (20 : Int))) (b := (1 : Int) + (a % (20 : Int))) (((1 : Int) + (stem % (20 : Int))) + ((1 : Int) + (a % (20 : Int)))) (by kernel_rfl) (by kernel_rfl) (wrap_inR h865)) ?_)
          refine sq (o_pv (.int .i64 ((1 : Int) + (b % (20 : Int)))) (by kernel_rfl) (by kernel_rfl) ?_)
          obtain ⟨h866, hp⟩ := hp
          obtain ⟨y867, qy867⟩ : ∃ y, y = ((((1 : Int) + (stem % (20 : Int))) + ((1 : Int) + (a % (20 : Int)))) + ((1 : Int) + (b % (20 : Int)))) := ⟨_, rfl⟩
          replace hp := hp y867 qy867
          have r868 : inR .i64 y867 := by rw [qy867]; exact h866
          refine sq (o_pv (.int .i64 y867) (by kernel_rfl) (by rw [qy867]; exact (x_add2 (k := .i64) (a := ((1 : Int) + (stem % (20 : Int))) + ((1 : Int) + (a % (20 : Int)))) (b := (1 : Int) + (b % (20 : Int))) ((((1 : Int) + (stem % (20 : Int))) + ((1 : Int) + (a % (20 : Int)))) + ((1 : Int) + (b % (20 : Int)))) (by kernel_rfl) (by kernel_rfl) (wrap_inR h866))) ?_)
          have O869 := (OS.step0 O247 s861)
          refine sq (o_call 41 #[(.slice a244 g243.length c246), (.int .i64 (((1 : Int) + (stem % (20 : Int))) + ((1 : Int) + (a % (20 : Int))))), (.int .i64 y867)] (by kernel_rfl) (x_call Try.call41 (by rw [← show n245 = g243.length from O869.1]; kernel_rfl)) (graph_Graph_Base_w (X := []) (g := g243) (a := ((1 : Int) + (stem % (20 : Int))) + ((1 : Int) + (a % (20 : Int)))) (b := y867) (Old.nil _) (OS.rd O869) h864 r868 hp) ?_)
          rintro _ w871 ⟨r870, hp, e872, rfl, rr874⟩
          have s873 := Step.of0 X494 e872
          replace hp := hp rr874
          refine sq (o_pv (.int .i64 ((1 : Int) + (stem % (20 : Int)))) (by kernel_rfl) (by kernel_rfl) ?_)
          by_cases h875 : r870 = ((1 : Int) + (stem % (20 : Int)))
          ·
            replace hp := hp.1 h875
            refine sq (o_pv (.bool true) (by kernel_rfl) (x_dt (p := r870 = ((1 : Int) + (stem % (20 : Int)))) (by kernel_rfl) h875) ?_)
            refine sq (o_pv (.bool true) rfl (by kernel_rfl) ?_)
            refine sq (o_pv (.bool true) rfl (by kernel_rfl) ?_)
            refine sq (o_pv (.slice a244 n245 c246) (by kernel_rfl) (by kernel_rfl) ?_)
            refine sq (o_pv (.int .i64 ((1 : Int) + (stem % (20 : Int)))) (by kernel_rfl) (by kernel_rfl) ?_)
            refine sq (o_pv (.int .i64 ((1 : Int) + (a % (20 : Int)))) (by kernel_rfl) (by kernel_rfl) ?_)
            obtain ⟨h876, hp⟩ := hp
            refine sq (o_pv (.int .i64 (((1 : Int) + (stem % (20 : Int))) + ((1 : Int) + (a % (20 : Int))))) (by kernel_rfl) (x_add2 (k := .i64) (a := (1 : Int) + (stem % (20 : Int))) (b := (1 : Int) + (a % (20 : Int))) (((1 : Int) + (stem % (20 : Int))) + ((1 : Int) + (a % (20 : Int)))) (by kernel_rfl) (by kernel_rfl) (wrap_inR h876)) ?_)
            have O877 := (OS.step0 O869 s873)
            have E884 := (Evo.then0 (Evo.then0 E502 e860) e872)
            refine sq (o_rowX (R := (rInt .i64)) [(.int .i64 (((1 : Int) + (stem % (20 : Int))) + ((1 : Int) + (a % (20 : Int)))))] [((1 : Int) + (stem % (20 : Int))) + ((1 : Int) + (a % (20 : Int)))] 3 1 (X := X494) (B := w.heap.size) E884.size (by kernel_rfl) (by kernel_rfl) (Flat.cons (cs := [(.int .i64 (((1 : Int) + (stem % (20 : Int))) + ((1 : Int) + (a % (20 : Int)))))]) (rInt_mk h876) Flat.nil) rfl (by decide) ?_)
            intro b878 w879 X880 s881 O882 n883
            have p885 := n883 _ (OS.old O877)
            have O886 := (OS.step0 O877 s881)
            have hS887 := (Sub.trans (Sub.trans (Sub.trans hS504 (Step.up s861)) (Step.up s873)) (Step.up s881))
            have hXo888 := (Old.step (Old.step (Old.step hXo503 s861) s873) s881)
            refine sq (o_call 37 #[(.slice a244 g243.length c246), (.slice (some ⟨b878, 0, none⟩) ([((1 : Int) + (stem % (20 : Int))) + ((1 : Int) + (a % (20 : Int)))]).length 1)] (by kernel_rfl) (x_call Try.call37 (by rw [← show n245 = g243.length from O886.1, ← show 1 = ([((1 : Int) + (stem % (20 : Int))) + ((1 : Int) + (a % (20 : Int)))]).length from O882.1]; kernel_rfl)) (graph_Graph_Ancestors_w (X := X) (g := g243) (c := [((1 : Int) + (stem % (20 : Int))) + ((1 : Int) + (a % (20 : Int)))]) (Old.less hXo888 hS887) (OS.out O886 hS887 hX0) (OS.out O882 hS887 hX0) hp) ?_)
            rintro _ w890 ⟨r889, hp, e891, ar893, cr894, rfl, hr895⟩
            have s892 := Step.of0 X880 e891
            replace hp := hp (Sl.len hr895)
            refine sq (o_pv (.int .i64 (r889.length : Int)) (by kernel_rfl) (by kernel_rfl) ?_)
            refine sq (o_pv (.int .i64 ((1 : Int) + (stem % (20 : Int)))) (by kernel_rfl) (by kernel_rfl) ?_)
            refine sq (o_pv (.int .i64 ((1 : Int) + (a % (20 : Int)))) (by kernel_rfl) (by kernel_rfl) ?_)
            obtain ⟨h896, hp⟩ := hp
            refine sq (o_pv (.int .i64 (((1 : Int) + (stem % (20 : Int))) + ((1 : Int) + (a % (20 : Int))))) (by kernel_rfl) (x_add2 (k := .i64) (a := (1 : Int) + (stem % (20 : Int))) (b := (1 : Int) + (a % (20 : Int))) (((1 : Int) + (stem % (20 : Int))) + ((1 : Int) + (a % (20 : Int)))) (by kernel_rfl) (by kernel_rfl) (wrap_inR h896)) ?_)
            by_cases h897 : (r889.length : Int) = (((1 : Int) + (stem % (20 : Int))) + ((1 : Int) + (a % (20 : Int))))
            ·
              replace hp := hp.1 h897
              refine sq (o_pv (.bool true) (by kernel_rfl) (x_dt (p := (r889.length : Int) = (((1 : Int) + (stem % (20 : Int))) + ((1 : Int) + (a % (20 : Int))))) (by kernel_rfl) h897) ?_)
              refine sq (o_pv (.bool true) rfl (by kernel_rfl) ?_)
              refine sq (o_pv (.bool true) rfl (by kernel_rfl) ?_)
              refine sq (o_pv (.slice a244 n245 c246) (by kernel_rfl) (by kernel_rfl) ?_)
              refine sq (o_pv (.int .i64 ((1 : Int) + (stem % (20 : Int)))) (by kernel_rfl) (by kernel_rfl) ?_)
              refine sq (o_pv (.int .i64 ((1 : Int) + (a % (20 : Int)))) (by kernel_rfl) (by kernel_rfl) ?_)
              obtain ⟨h898, hp⟩ := hp
              refine sq (o_pv (.int .i64 (((1 : Int) + (stem % (20 : Int))) + ((1 : Int) + (a % (20 : Int))))) (by kernel_rfl) (x_add2 (k := .i64) (a := (1 : Int) + (stem % (20 : Int))) (b := (1 : Int) + (a % (20 : Int))) (((1 : Int) + (stem % (20 : Int))) + ((1 : Int) + (a % (20 : Int)))) (by kernel_rfl) (by kernel_rfl) (wrap_inR h898)) ?_)
              refine sq (o_pv (.int .i64 ((1 : Int) + (b % (20 : Int)))) (by kernel_rfl) (by kernel_rfl) ?_)
              obtain ⟨h899, hp⟩ := hp
              obtain ⟨y900, qy900⟩ : ∃ y, y = ((((1 : Int) + (stem % (20 : Int))) + ((1 : Int) + (a % (20 : Int)))) + ((1 : Int) + (b % (20 : Int)))) := ⟨_, rfl⟩
              replace hp := hp y900 qy900
              have r901 : inR .i64 y900 := by rw [qy900]; exact h899
              refine sq (o_pv (.int .i64 y900) (by kernel_rfl) (by rw [qy900]; exact (x_add2 (k := .i64) (a := ((1 : Int) + (stem % (20 : Int))) + ((1 : Int) + (a % (20 : Int)))) (b := (1 : Int) + (b % (20 : Int))) ((((1 : Int) + (stem % (20 : Int))) + ((1 : Int) + (a % (20 : Int)))) + ((1 : Int) + (b % (20 : Int)))) (by kernel_rfl) (by kernel_rfl) (wrap_inR h899))) ?_)
              have O902 := (OS.step0 O886 s892)
              have O903 := (OS.step0 O882 s892)
              have E910 := (Evo.then0 (Evo.then0 E884 (Step.evo s881)) e891)
              refine sq (o_rowX (R := (rInt .i64)) [(.int .i64 y900)] [y900] 3 1 (X := X880) (B := w.heap.size) E910.size (by kernel_rfl) (by kernel_rfl) (Flat.cons (cs := [(.int .i64 y900)]) (rInt_mk r901) Flat.nil) rfl (by decide) ?_)
              intro b904 w905 X906 s907 O908 n909
              have p911 := n909 _ (OS.old O902)
              have p912 := n909 _ (OS.old O903)
              have O913 := (OS.step0 O902 s907)
              have hS914 := (Sub.trans (Sub.trans hS887 (Step.up s892)) (Step.up s907))
              have hXo915 := (Old.step (Old.step hXo888 s892) s907)
              refine sq (o_call 37 #[(.slice a244 g243.length c246), (.slice (some ⟨b904, 0, none⟩) ([y900]).length 1)] (by kernel_rfl) (x_call Try.call37 (by rw [← show n245 = g243.length from O913.1, ← show 1 = ([y900]).length from O908.1]; kernel_rfl)) (graph_Graph_Ancestors_w (X := X) (g := g243) (c := [y900]) (Old.less hXo915 hS914) (OS.out O913 hS914 hX0) (OS.out O908 hS914 hX0) hp) ?_)
              rintro _ w917 ⟨r916, hp, e918, ar920, cr921, rfl, hr922⟩
              have s919 := Step.of0 X906 e918
              replace hp := hp (Sl.len hr922)
              refine sq (o_pv (.int .i64 (r916.length : Int)) (by kernel_rfl) (by kernel_rfl) ?_)
              refine sq (o_pv (.int .i64 ((1 : Int) + (stem % (20 : Int)))) (by kernel_rfl) (by kernel_rfl) ?_)
              refine sq (o_pv (.int .i64 ((1 : Int) + (b % (20 : Int)))) (by kernel_rfl) (by kernel_rfl) ?_)
              obtain ⟨h923, hp⟩ := hp
              refine sq (o_pv (.int .i64 (((1 : Int) + (stem % (20 : Int))) + ((1 : Int) + (b % (20 : Int))))) (by kernel_rfl) (x_add2 (k := .i64) (a := (1 : Int) + (stem % (20 : Int))) (b := (1 : Int) + (b % (20 : Int))) (((1 : Int) + (stem % (20 : Int))) + ((1 : Int) + (b % (20 : Int)))) (by kernel_rfl) (by kernel_rfl) (wrap_inR h923)) ?_)
              by_cases h924 : (r916.length : Int) = (((1 : Int) + (stem % (20 : Int))) + ((1 : Int) + (b % (20 : Int))))
              ·
                replace hp := hp.1 h924
                refine sq (o_pv (.bool true) (by kernel_rfl) (x_dt (p := (r916.length : Int) = (((1 : Int) + (stem % (20 : Int))) + ((1 : Int) + (b % (20 : Int))))) (by kernel_rfl) h924) ?_)
                refine sq (o_pv (.bool true) rfl (by kernel_rfl) ?_)
                refine sq (o_pv (.bool true) rfl (by kernel_rfl) ?_)
                refine sq (o_pv (.slice a244 n245 c246) (by kernel_rfl) (by kernel_rfl) ?_)
                refine sq (o_pv (.int .i64 ((1 : Int) + (stem % (20 : Int)))) (by kernel_rfl) (by kernel_rfl) ?_)
                refine sq (o_pv (.int .i64 ((1 : Int) + (a % (20 : Int)))) (by kernel_rfl) (by kernel_rfl) ?_)
                obtain ⟨h925, hp⟩ := hp
                refine sq (o_pv (.int .i64 (((1 : Int) + (stem % (20 : Int))) + ((1 : Int) + (a % (20 : Int))))) (by kernel_rfl) (x_add2 (k := .i64) (a := (1 : Int) + (stem % (20 : Int))) (b := (1 : Int) + (a % (20 : Int))) (((1 : Int) + (stem % (20 : Int))) + ((1 : Int) + (a % (20 : Int)))) (by kernel_rfl) (by kernel_rfl) (wrap_inR h925)) ?_)
                refine sq (o_pv (.int .i64 ((1 : Int) + (stem % (20 : Int)))) (by kernel_rfl) (by kernel_rfl) ?_)
                refine sq (o_pv (.int .i64 ((1 : Int) + (a % (20 : Int)))) (by kernel_rfl) (by kernel_rfl) ?_)
                obtain ⟨h926, hp⟩ := hp
                refine sq (o_pv (.int .i64 (((1 : Int) + (stem % (20 : Int))) + ((1 : Int) + (a % (20 : Int))))) (by kernel_rfl) (x_add2 (k := .i64) (a := (1 : Int) + (stem % (20 : Int))) (b := (1 : Int) + (a % (20 : Int))) (((1 : Int) + (stem % (20 : Int))) + ((1 : Int) + (a % (20 : Int)))) (by kernel_rfl) (by kernel_rfl) (wrap_inR h926)) ?_)
                refine sq (o_pv (.int .i64 ((1 : Int) + (b % (20 : Int)))) (by kernel_rfl) (by kernel_rfl) ?_)
                obtain ⟨h927, hp⟩ := hp
                obtain ⟨y928, qy928⟩ : ∃ y, y = ((((1 : Int) + (stem % (20 : Int))) + ((1 : Int) + (a % (20 : Int)))) + ((1 : Int) + (b % (20 : Int)))) := ⟨_, rfl⟩
                replace hp := hp y928 qy928
                have r929 : inR .i64 y928 := by rw [qy928]; exact h927
                refine sq (o_pv (.int .i64 y928) (by kernel_rfl) (by rw [qy928]; exact (x_add2 (k := .i64) (a := ((1 : Int) + (stem % (20 : Int))) + ((1 : Int) + (a % (20 : Int)))) (b := (1 : Int) + (b % (20 : Int))) ((((1 : Int) + (stem % (20 : Int))) + ((1 : Int) + (a % (20 : Int)))) + ((1 : Int) + (b % (20 : Int)))) (by kernel_rfl) (by kernel_rfl) (wrap_inR h927))) ?_)
                have O930 := (OS.step0 O913 s919)
                have hS931 := (Sub.trans hS914 (Step.up s919))
                have hXo932 := (Old.step hXo915 s919)
                refine sq (o_call 45 #[(.slice a244 g243.length c246), (.int .i64 (((1 : Int) + (stem % (20 : Int))) + ((1 : Int) + (a % (20 : Int))))), (.int .i64 y928)] (by kernel_rfl) (x_call Try.call45 (by rw [← show n245 = g243.length from O930.1]; kernel_rfl)) (graph_Graph_Only_w (X := X) (g := g243) (a := ((1 : Int) + (stem % (20 : Int))) + ((1 : Int) + (a % (20 : Int)))) (b := y928) (Old.less hXo932 hS931) (OS.out O930 hS931 hX0) h925 r929 hp) ?_)
                rintro _ w934 ⟨r933, hp, e935, ar937, cr938, rfl, hr939⟩
                have s936 := Step.of0 X906 e935
                replace hp := hp (Sl.len hr939)
                refine sq (o_pv (.int .i64 (r933.length : Int)) (by kernel_rfl) (by kernel_rfl) ?_)
                refine sq (o_pv (.int .i64 ((1 : Int) + (a % (20 : Int)))) (by kernel_rfl) (by kernel_rfl) ?_)
                by_cases h940 : (r933.length : Int) = ((1 : Int) + (a % (20 : Int)))
                ·
                  replace hp := hp.1 h940
                  refine sq (o_pv (.bool true) (by kernel_rfl) (x_dt (p := (r933.length : Int) = ((1 : Int) + (a % (20 : Int)))) (by kernel_rfl) h940) ?_)
                  refine sq (o_pv (.bool true) rfl (by kernel_rfl) ?_)
                  refine sq (o_pv (.bool true) rfl (by kernel_rfl) ?_)
                  refine sq (o_pv (.slice a244 n245 c246) (by kernel_rfl) (by kernel_rfl) ?_)
                  refine sq (o_pv (.int .i64 ((1 : Int) + (stem % (20 : Int)))) (by kernel_rfl) (by kernel_rfl) ?_)
                  refine sq (o_pv (.int .i64 ((1 : Int) + (a % (20 : Int)))) (by kernel_rfl) (by kernel_rfl) ?_)
                  obtain ⟨h941, hp⟩ := hp
                  refine sq (o_pv (.int .i64 (((1 : Int) + (stem % (20 : Int))) + ((1 : Int) + (a % (20 : Int))))) (by kernel_rfl) (x_add2 (k := .i64) (a := (1 : Int) + (stem % (20 : Int))) (b := (1 : Int) + (a % (20 : Int))) (((1 : Int) + (stem % (20 : Int))) + ((1 : Int) + (a % (20 : Int)))) (by kernel_rfl) (by kernel_rfl) (wrap_inR h941)) ?_)
                  refine sq (o_pv (.int .i64 ((1 : Int) + (b % (20 : Int)))) (by kernel_rfl) (by kernel_rfl) ?_)
                  obtain ⟨h942, hp⟩ := hp
                  obtain ⟨y943, qy943⟩ : ∃ y, y = ((((1 : Int) + (stem % (20 : Int))) + ((1 : Int) + (a % (20 : Int)))) + ((1 : Int) + (b % (20 : Int)))) := ⟨_, rfl⟩
                  replace hp := hp y943 qy943
                  have r944 : inR .i64 y943 := by rw [qy943]; exact h942
                  refine sq (o_pv (.int .i64 y943) (by kernel_rfl) (by rw [qy943]; exact (x_add2 (k := .i64) (a := ((1 : Int) + (stem % (20 : Int))) + ((1 : Int) + (a % (20 : Int)))) (b := (1 : Int) + (b % (20 : Int))) ((((1 : Int) + (stem % (20 : Int))) + ((1 : Int) + (a % (20 : Int)))) + ((1 : Int) + (b % (20 : Int)))) (by kernel_rfl) (by kernel_rfl) (wrap_inR h942))) ?_)
                  refine sq (o_pv (.int .i64 ((1 : Int) + (stem % (20 : Int)))) (by kernel_rfl) (by kernel_rfl) ?_)
                  have O945 := (OS.step0 O930 s936)
                  have hS946 := (Sub.trans hS931 (Step.up s936))
                  have hXo947 := (Old.step hXo932 s936)
                  refine sq (o_call 45 #[(.slice a244 g243.length c246), (.int .i64 y943), (.int .i64 ((1 : Int) + (stem % (20 : Int))))] (by kernel_rfl) (x_call Try.call45 (by rw [← show n245 = g243.length from O945.1]; kernel_rfl)) (graph_Graph_Only_w (X := X) (g := g243) (a := y943) (b := (1 : Int) + (stem % (20 : Int))) (Old.less hXo947 hS946) (OS.out O945 hS946 hX0) r944 h16 hp) ?_)
                  rintro _ w949 ⟨r948, hp, e950, ar952, cr953, rfl, hr954⟩
                  have s951 := Step.of0 X906 e950
                  replace hp := hp (Sl.len hr954)
                  refine sq (o_pv (.int .i64 (r948.length : Int)) (by kernel_rfl) (by kernel_rfl) ?_)
                  refine sq (o_pv (.int .i64 ((1 : Int) + (b % (20 : Int)))) (by kernel_rfl) (by kernel_rfl) ?_)
                  by_cases h955 : (r948.length : Int) = ((1 : Int) + (b % (20 : Int)))
                  ·
                    replace hp := hp.1 h955
                    refine sq (o_pv (.bool true) (by kernel_rfl) (x_dt (p := (r948.length : Int) = ((1 : Int) + (b % (20 : Int)))) (by kernel_rfl) h955) ?_)
                    refine sq (o_pv (.bool true) rfl (by kernel_rfl) ?_)
                    refine sq (o_pv (.bool true) rfl (by kernel_rfl) ?_)
                    refine sq (o_pv (.slice a244 n245 c246) (by kernel_rfl) (by kernel_rfl) ?_)
                    refine sq (o_pv (.int .i64 ((1 : Int) + (stem % (20 : Int)))) (by kernel_rfl) (by kernel_rfl) ?_)
                    refine sq (o_pv (.int .i64 ((1 : Int) + (a % (20 : Int)))) (by kernel_rfl) (by kernel_rfl) ?_)
                    obtain ⟨h956, hp⟩ := hp
                    refine sq (o_pv (.int .i64 (((1 : Int) + (stem % (20 : Int))) + ((1 : Int) + (a % (20 : Int))))) (by kernel_rfl) (x_add2 (k := .i64) (a := (1 : Int) + (stem % (20 : Int))) (b := (1 : Int) + (a % (20 : Int))) (((1 : Int) + (stem % (20 : Int))) + ((1 : Int) + (a % (20 : Int)))) (by kernel_rfl) (by kernel_rfl) (wrap_inR h956)) ?_)
                    refine sq (o_pv (.int .i64 ((1 : Int) + (stem % (20 : Int)))) (by kernel_rfl) (by kernel_rfl) ?_)
                    have O957 := (OS.step0 O945 s951)
                    have hS958 := (Sub.trans hS946 (Step.up s951))
                    have hXo959 := (Old.step hXo947 s951)
                    refine sq (o_call 43 #[(.slice a244 g243.length c246), (.int .i64 (((1 : Int) + (stem % (20 : Int))) + ((1 : Int) + (a % (20 : Int))))), (.int .i64 ((1 : Int) + (stem % (20 : Int))))] (by kernel_rfl) (x_call Try.call43 (by rw [← show n245 = g243.length from O957.1]; kernel_rfl)) (graph_Graph_Bases_w (X := X) (g := g243) (a := ((1 : Int) + (stem % (20 : Int))) + ((1 : Int) + (a % (20 : Int)))) (b := (1 : Int) + (stem % (20 : Int))) (Old.less hXo959 hS958) (OS.out O957 hS958 hX0) h956 h16 hp) ?_)
                    rintro _ w961 ⟨r960, hp, e962, ar964, cr965, rfl, hr966⟩
                    have s963 := Step.of0 X906 e962
                    replace hp := hp (Sl.len hr966)
                    refine sq (o_pv (.int .i64 (r960.length : Int)) (by kernel_rfl) (by kernel_rfl) ?_)
                    refine sq (o_pv (.bool (decide ((r960.length : Int) = (1 : Int)))) (by kernel_rfl) (by kernel_rfl) ?_)
                    refine sq (o_pv (.bool (decide ((r960.length : Int) = (1 : Int)))) rfl (by kernel_rfl) ?_)
                    refine sq (o_pv (.bool (decide ((r960.length : Int) = (1 : Int)))) rfl (by kernel_rfl) ?_)
                    refine nil_ ?_
                    have E967 := (Evo.then0 (Evo.then0 (Evo.then0 (Evo.then0 (Evo.then0 E910 (Step.evo s907)) e918) e935) e950) e962)
                    have hXo968 := (Old.step hXo959 s963)
                    have hS969 := (Sub.trans hS958 (Step.up s963))
                    refine then_normal (hJ853 _ _ _ ⟨[(6, (.bool (decide ((r960.length : Int) = (1 : Int)))))], fit_mk (fun _ _ => rfl) (by kernel_rfl) (vs_cons (by kernel_rfl) vs_nil), ?_⟩)
                    exact ⟨X906, (decide ((r960.length : Int) = (1 : Int))), rfl, E967, hXo968, hS969, hp⟩
                  ·
                    replace hp := hp.2 h955
                    refine sq (o_pv (.bool false) (by kernel_rfl) (x_df (p := (r948.length : Int) = ((1 : Int) + (b % (20 : Int)))) (by kernel_rfl) h955) ?_)
                    refine sq (o_pv (.bool false) rfl (by kernel_rfl) ?_)
                    refine sq (o_pv (.bool false) rfl (by kernel_rfl) ?_)
                    refine sq (o_not (by kernel_rfl) ?_)
                    refine sq (o_not (by kernel_rfl) ?_)
                    refine sq (o_not (by kernel_rfl) ?_)
                    refine sq (o_not (by kernel_rfl) ?_)
                    refine sq (o_not (by kernel_rfl) ?_)
                    refine sq (o_not (by kernel_rfl) ?_)
                    refine sq (o_not (by kernel_rfl) ?_)
                    refine sq (o_not (by kernel_rfl) ?_)
                    refine sq (o_pv (.bool false) rfl (by kernel_rfl) ?_)
                    refine sq (o_pv (.bool false) rfl (by kernel_rfl) ?_)
                    refine nil_ ?_
                    have E970 := (Evo.then0 (Evo.then0 (Evo.then0 (Evo.then0 E910 (Step.evo s907)) e918) e935) e950)
                    have hXo971 := (Old.step hXo947 s951)
                    have hS972 := (Sub.trans hS946 (Step.up s951))
                    refine then_normal (hJ853 _ _ _ ⟨[(6, (.bool false))], fit_mk (fun _ _ => rfl) (by kernel_rfl) (vs_cons (by kernel_rfl) vs_nil), ?_⟩)
                    exact ⟨X906, false, rfl, E970, hXo971, hS972, hp⟩
                ·
                  replace hp := hp.2 h940
                  refine sq (o_pv (.bool false) (by kernel_rfl) (x_df (p := (r933.length : Int) = ((1 : Int) + (a % (20 : Int)))) (by kernel_rfl) h940) ?_)
                  refine sq (o_pv (.bool false) rfl (by kernel_rfl) ?_)
                  refine sq (o_pv (.bool false) rfl (by kernel_rfl) ?_)
                  refine sq (o_not (by kernel_rfl) ?_)
                  refine sq (o_not (by kernel_rfl) ?_)
                  refine sq (o_not (by kernel_rfl) ?_)
                  refine sq (o_not (by kernel_rfl) ?_)
                  refine sq (o_not (by kernel_rfl) ?_)
                  refine sq (o_not (by kernel_rfl) ?_)
                  refine sq (o_not (by kernel_rfl) ?_)
                  refine sq (o_not (by kernel_rfl) ?_)
                  refine sq (o_not (by kernel_rfl) ?_)
                  refine sq (o_not (by kernel_rfl) ?_)
                  refine sq (o_not (by kernel_rfl) ?_)
                  refine sq (o_pv (.bool false) rfl (by kernel_rfl) ?_)
                  refine sq (o_pv (.bool false) rfl (by kernel_rfl) ?_)
                  refine sq (o_not (by kernel_rfl) ?_)
                  refine sq (o_not (by kernel_rfl) ?_)
                  refine sq (o_not (by kernel_rfl) ?_)
                  refine sq (o_not (by kernel_rfl) ?_)
                  refine sq (o_not (by kernel_rfl) ?_)
                  refine sq (o_not (by kernel_rfl) ?_)
                  refine sq (o_not (by kernel_rfl) ?_)
                  refine sq (o_not (by kernel_rfl) ?_)
                  refine sq (o_pv (.bool false) rfl (by kernel_rfl) ?_)
                  refine sq (o_pv (.bool false) rfl (by kernel_rfl) ?_)
                  refine nil_ ?_
                  have E973 := (Evo.then0 (Evo.then0 (Evo.then0 E910 (Step.evo s907)) e918) e935)
                  have hXo974 := (Old.step hXo932 s936)
                  have hS975 := (Sub.trans hS931 (Step.up s936))
                  refine then_normal (hJ853 _ _ _ ⟨[(6, (.bool false))], fit_mk (fun _ _ => rfl) (by kernel_rfl) (vs_cons (by kernel_rfl) vs_nil), ?_⟩)
                  exact ⟨X906, false, rfl, E973, hXo974, hS975, hp⟩
              ·
                replace hp := hp.2 h924
                refine sq (o_pv (.bool false) (by kernel_rfl) (x_df (p := (r916.length : Int) = (((1 : Int) + (stem % (20 : Int))) + ((1 : Int) + (b % (20 : Int))))) (by kernel_rfl) h924) ?_)
                refine sq (o_pv (.bool false) rfl (by kernel_rfl) ?_)
                refine sq (o_pv (.bool false) rfl (by kernel_rfl) ?_)
                refine sq (o_not (by kernel_rfl) ?_)
                refine sq (o_not (by kernel_rfl) ?_)
                refine sq (o_not (by kernel_rfl) ?_)
                refine sq (o_not (by kernel_rfl) ?_)
                refine sq (o_not (by kernel_rfl) ?_)
                refine sq (o_not (by kernel_rfl) ?_)
                refine sq (o_not (by kernel_rfl) ?_)
                refine sq (o_not (by kernel_rfl) ?_)
                refine sq (o_not (by kernel_rfl) ?_)
                refine sq (o_not (by kernel_rfl) ?_)
                refine sq (o_not (by kernel_rfl) ?_)
                refine sq (o_not (by kernel_rfl) ?_)
                refine sq (o_not (by kernel_rfl) ?_)
                refine sq (o_pv (.bool false) rfl (by kernel_rfl) ?_)
                refine sq (o_pv (.bool false) rfl (by kernel_rfl) ?_)
                refine sq (o_not (by kernel_rfl) ?_)
                refine sq (o_not (by kernel_rfl) ?_)
                refine sq (o_not (by kernel_rfl) ?_)
                refine sq (o_not (by kernel_rfl) ?_)
                refine sq (o_not (by kernel_rfl) ?_)
                refine sq (o_not (by kernel_rfl) ?_)
                refine sq (o_not (by kernel_rfl) ?_)
                refine sq (o_not (by kernel_rfl) ?_)
                refine sq (o_not (by kernel_rfl) ?_)
                refine sq (o_not (by kernel_rfl) ?_)
                refine sq (o_not (by kernel_rfl) ?_)
                refine sq (o_pv (.bool false) rfl (by kernel_rfl) ?_)
                refine sq (o_pv (.bool false) rfl (by kernel_rfl) ?_)
                refine sq (o_not (by kernel_rfl) ?_)
                refine sq (o_not (by kernel_rfl) ?_)
                refine sq (o_not (by kernel_rfl) ?_)
                refine sq (o_not (by kernel_rfl) ?_)
                refine sq (o_not (by kernel_rfl) ?_)
                refine sq (o_not (by kernel_rfl) ?_)
                refine sq (o_not (by kernel_rfl) ?_)
                refine sq (o_not (by kernel_rfl) ?_)
                refine sq (o_pv (.bool false) rfl (by kernel_rfl) ?_)
                refine sq (o_pv (.bool false) rfl (by kernel_rfl) ?_)
                refine nil_ ?_
                have E976 := (Evo.then0 (Evo.then0 E910 (Step.evo s907)) e918)
                have hXo977 := (Old.step hXo915 s919)
                have hS978 := (Sub.trans hS914 (Step.up s919))
                refine then_normal (hJ853 _ _ _ ⟨[(6, (.bool false))], fit_mk (fun _ _ => rfl) (by kernel_rfl) (vs_cons (by kernel_rfl) vs_nil), ?_⟩)
                exact ⟨X906, false, rfl, E976, hXo977, hS978, hp⟩
            ·
              replace hp := hp.2 h897
              refine sq (o_pv (.bool false) (by kernel_rfl) (x_df (p := (r889.length : Int) = (((1 : Int) + (stem % (20 : Int))) + ((1 : Int) + (a % (20 : Int))))) (by kernel_rfl) h897) ?_)
              refine sq (o_pv (.bool false) rfl (by kernel_rfl) ?_)
              refine sq (o_pv (.bool false) rfl (by kernel_rfl) ?_)
              refine sq (o_not (by kernel_rfl) ?_)
              refine sq (o_not (by kernel_rfl) ?_)
              refine sq (o_not (by kernel_rfl) ?_)
              refine sq (o_not (by kernel_rfl) ?_)
              refine sq (o_not (by kernel_rfl) ?_)
              refine sq (o_not (by kernel_rfl) ?_)
              refine sq (o_not (by kernel_rfl) ?_)
              refine sq (o_not (by kernel_rfl) ?_)
              refine sq (o_not (by kernel_rfl) ?_)
              refine sq (o_not (by kernel_rfl) ?_)
              refine sq (o_not (by kernel_rfl) ?_)
              refine sq (o_not (by kernel_rfl) ?_)
              refine sq (o_not (by kernel_rfl) ?_)
              refine sq (o_pv (.bool false) rfl (by kernel_rfl) ?_)
              refine sq (o_pv (.bool false) rfl (by kernel_rfl) ?_)
              refine sq (o_not (by kernel_rfl) ?_)
              refine sq (o_not (by kernel_rfl) ?_)
              refine sq (o_not (by kernel_rfl) ?_)
              refine sq (o_not (by kernel_rfl) ?_)
              refine sq (o_not (by kernel_rfl) ?_)
              refine sq (o_not (by kernel_rfl) ?_)
              refine sq (o_not (by kernel_rfl) ?_)
              refine sq (o_not (by kernel_rfl) ?_)
              refine sq (o_not (by kernel_rfl) ?_)
              refine sq (o_not (by kernel_rfl) ?_)
              refine sq (o_not (by kernel_rfl) ?_)
              refine sq (o_not (by kernel_rfl) ?_)
              refine sq (o_not (by kernel_rfl) ?_)
              refine sq (o_pv (.bool false) rfl (by kernel_rfl) ?_)
              refine sq (o_pv (.bool false) rfl (by kernel_rfl) ?_)
              refine sq (o_not (by kernel_rfl) ?_)
              refine sq (o_not (by kernel_rfl) ?_)
              refine sq (o_not (by kernel_rfl) ?_)
              refine sq (o_not (by kernel_rfl) ?_)
              refine sq (o_not (by kernel_rfl) ?_)
              refine sq (o_not (by kernel_rfl) ?_)
              refine sq (o_not (by kernel_rfl) ?_)
              refine sq (o_not (by kernel_rfl) ?_)
              refine sq (o_not (by kernel_rfl) ?_)
              refine sq (o_not (by kernel_rfl) ?_)
              refine sq (o_not (by kernel_rfl) ?_)
              refine sq (o_pv (.bool false) rfl (by kernel_rfl) ?_)
              refine sq (o_pv (.bool false) rfl (by kernel_rfl) ?_)
              refine sq (o_not (by kernel_rfl) ?_)
              refine sq (o_not (by kernel_rfl) ?_)
              refine sq (o_not (by kernel_rfl) ?_)
              refine sq (o_not (by kernel_rfl) ?_)
              refine sq (o_not (by kernel_rfl) ?_)
              refine sq (o_not (by kernel_rfl) ?_)
              refine sq (o_not (by kernel_rfl) ?_)
              refine sq (o_not (by kernel_rfl) ?_)
              refine sq (o_pv (.bool false) rfl (by kernel_rfl) ?_)
              refine sq (o_pv (.bool false) rfl (by kernel_rfl) ?_)
              refine nil_ ?_
              have E979 := (Evo.then0 (Evo.then0 E884 (Step.evo s881)) e891)
              have hXo980 := (Old.step hXo888 s892)
              have hS981 := (Sub.trans hS887 (Step.up s892))
              refine then_normal (hJ853 _ _ _ ⟨[(6, (.bool false))], fit_mk (fun _ _ => rfl) (by kernel_rfl) (vs_cons (by kernel_rfl) vs_nil), ?_⟩)
              exact ⟨X880, false, rfl, E979, hXo980, hS981, hp⟩
          ·
            replace hp := hp.2 h875
            refine sq (o_pv (.bool false) (by kernel_rfl) (x_df (p := r870 = ((1 : Int) + (stem % (20 : Int)))) (by kernel_rfl) h875) ?_)
            refine sq (o_pv (.bool false) rfl (by kernel_rfl) ?_)
            refine sq (o_pv (.bool false) rfl (by kernel_rfl) ?_)
            refine sq (o_not (by kernel_rfl) ?_)
            refine sq (o_not (by kernel_rfl) ?_)
            refine sq (o_not (by kernel_rfl) ?_)
            refine sq (o_not (by kernel_rfl) ?_)
            refine sq (o_not (by kernel_rfl) ?_)
            refine sq (o_not (by kernel_rfl) ?_)
            refine sq (o_not (by kernel_rfl) ?_)
            refine sq (o_not (by kernel_rfl) ?_)
            refine sq (o_not (by kernel_rfl) ?_)
            refine sq (o_not (by kernel_rfl) ?_)
            refine sq (o_not (by kernel_rfl) ?_)
            refine sq (o_pv (.bool false) rfl (by kernel_rfl) ?_)
            refine sq (o_pv (.bool false) rfl (by kernel_rfl) ?_)
            refine sq (o_not (by kernel_rfl) ?_)
            refine sq (o_not (by kernel_rfl) ?_)
            refine sq (o_not (by kernel_rfl) ?_)
            refine sq (o_not (by kernel_rfl) ?_)
            refine sq (o_not (by kernel_rfl) ?_)
            refine sq (o_not (by kernel_rfl) ?_)
            refine sq (o_not (by kernel_rfl) ?_)
            refine sq (o_not (by kernel_rfl) ?_)
            refine sq (o_not (by kernel_rfl) ?_)
            refine sq (o_not (by kernel_rfl) ?_)
            refine sq (o_not (by kernel_rfl) ?_)
            refine sq (o_not (by kernel_rfl) ?_)
            refine sq (o_not (by kernel_rfl) ?_)
            refine sq (o_pv (.bool false) rfl (by kernel_rfl) ?_)
            refine sq (o_pv (.bool false) rfl (by kernel_rfl) ?_)
            refine sq (o_not (by kernel_rfl) ?_)
            refine sq (o_not (by kernel_rfl) ?_)
            refine sq (o_not (by kernel_rfl) ?_)
            refine sq (o_not (by kernel_rfl) ?_)
            refine sq (o_not (by kernel_rfl) ?_)
            refine sq (o_not (by kernel_rfl) ?_)
            refine sq (o_not (by kernel_rfl) ?_)
            refine sq (o_not (by kernel_rfl) ?_)
            refine sq (o_not (by kernel_rfl) ?_)
            refine sq (o_not (by kernel_rfl) ?_)
            refine sq (o_not (by kernel_rfl) ?_)
            refine sq (o_not (by kernel_rfl) ?_)
            refine sq (o_not (by kernel_rfl) ?_)
            refine sq (o_pv (.bool false) rfl (by kernel_rfl) ?_)
            refine sq (o_pv (.bool false) rfl (by kernel_rfl) ?_)
            refine sq (o_not (by kernel_rfl) ?_)
            refine sq (o_not (by kernel_rfl) ?_)
            refine sq (o_not (by kernel_rfl) ?_)
            refine sq (o_not (by kernel_rfl) ?_)
            refine sq (o_not (by kernel_rfl) ?_)
            refine sq (o_not (by kernel_rfl) ?_)
            refine sq (o_not (by kernel_rfl) ?_)
            refine sq (o_not (by kernel_rfl) ?_)
            refine sq (o_not (by kernel_rfl) ?_)
            refine sq (o_not (by kernel_rfl) ?_)
            refine sq (o_not (by kernel_rfl) ?_)
            refine sq (o_pv (.bool false) rfl (by kernel_rfl) ?_)
            refine sq (o_pv (.bool false) rfl (by kernel_rfl) ?_)
            refine sq (o_not (by kernel_rfl) ?_)
            refine sq (o_not (by kernel_rfl) ?_)
            refine sq (o_not (by kernel_rfl) ?_)
            refine sq (o_not (by kernel_rfl) ?_)
            refine sq (o_not (by kernel_rfl) ?_)
            refine sq (o_not (by kernel_rfl) ?_)
            refine sq (o_not (by kernel_rfl) ?_)
            refine sq (o_not (by kernel_rfl) ?_)
            refine sq (o_pv (.bool false) rfl (by kernel_rfl) ?_)
            refine sq (o_pv (.bool false) rfl (by kernel_rfl) ?_)
            refine nil_ ?_
            have E982 := (Evo.then0 (Evo.then0 E502 e860) e872)
            have hXo983 := (Old.step (Old.step hXo503 s861) s873)
            have hS984 := (Sub.trans (Sub.trans hS504 (Step.up s861)) (Step.up s873))
            refine then_normal (hJ853 _ _ _ ⟨[(6, (.bool false))], fit_mk (fun _ _ => rfl) (by kernel_rfl) (vs_cons (by kernel_rfl) vs_nil), ?_⟩)
            exact ⟨X494, false, rfl, E982, hXo983, hS984, hp⟩
        ·
          replace hp := hp.2 h863
          refine sq (o_pv (.bool false) rfl (x_df (p := r858 = (0 : Int)) (by kernel_rfl) h863) ?_)
          refine sq (o_pv (.bool false) rfl (by kernel_rfl) ?_)
          refine sq (o_not (by kernel_rfl) ?_)
          refine sq (o_not (by kernel_rfl) ?_)
          refine sq (o_not (by kernel_rfl) ?_)
          refine sq (o_not (by kernel_rfl) ?_)
          refine sq (o_not (by kernel_rfl) ?_)
          refine sq (o_not (by kernel_rfl) ?_)
          refine sq (o_not (by kernel_rfl) ?_)
          refine sq (o_not (by kernel_rfl) ?_)
          refine sq (o_not (by kernel_rfl) ?_)
          refine sq (o_not (by kernel_rfl) ?_)
          refine sq (o_not (by kernel_rfl) ?_)
          refine sq (o_not (by kernel_rfl) ?_)
          refine sq (o_pv (.bool false) rfl (by kernel_rfl) ?_)
          refine sq (o_pv (.bool false) rfl (by kernel_rfl) ?_)
          refine sq (o_not (by kernel_rfl) ?_)
          refine sq (o_not (by kernel_rfl) ?_)
          refine sq (o_not (by kernel_rfl) ?_)
          refine sq (o_not (by kernel_rfl) ?_)
          refine sq (o_not (by kernel_rfl) ?_)
          refine sq (o_not (by kernel_rfl) ?_)
          refine sq (o_not (by kernel_rfl) ?_)
          refine sq (o_not (by kernel_rfl) ?_)
          refine sq (o_not (by kernel_rfl) ?_)
          refine sq (o_not (by kernel_rfl) ?_)
          refine sq (o_not (by kernel_rfl) ?_)
          refine sq (o_pv (.bool false) rfl (by kernel_rfl) ?_)
          refine sq (o_pv (.bool false) rfl (by kernel_rfl) ?_)
          refine sq (o_not (by kernel_rfl) ?_)
          refine sq (o_not (by kernel_rfl) ?_)
          refine sq (o_not (by kernel_rfl) ?_)
          refine sq (o_not (by kernel_rfl) ?_)
          refine sq (o_not (by kernel_rfl) ?_)
          refine sq (o_not (by kernel_rfl) ?_)
          refine sq (o_not (by kernel_rfl) ?_)
          refine sq (o_not (by kernel_rfl) ?_)
          refine sq (o_not (by kernel_rfl) ?_)
          refine sq (o_not (by kernel_rfl) ?_)
          refine sq (o_not (by kernel_rfl) ?_)
          refine sq (o_not (by kernel_rfl) ?_)
          refine sq (o_not (by kernel_rfl) ?_)
          refine sq (o_pv (.bool false) rfl (by kernel_rfl) ?_)
          refine sq (o_pv (.bool false) rfl (by kernel_rfl) ?_)
          refine sq (o_not (by kernel_rfl) ?_)
          refine sq (o_not (by kernel_rfl) ?_)
          refine sq (o_not (by kernel_rfl) ?_)
          refine sq (o_not (by kernel_rfl) ?_)
          refine sq (o_not (by kernel_rfl) ?_)
          refine sq (o_not (by kernel_rfl) ?_)
          refine sq (o_not (by kernel_rfl) ?_)
          refine sq (o_not (by kernel_rfl) ?_)
          refine sq (o_not (by kernel_rfl) ?_)
          refine sq (o_not (by kernel_rfl) ?_)
          refine sq (o_not (by kernel_rfl) ?_)
          refine sq (o_not (by kernel_rfl) ?_)
          refine sq (o_not (by kernel_rfl) ?_)
          refine sq (o_pv (.bool false) rfl (by kernel_rfl) ?_)
          refine sq (o_pv (.bool false) rfl (by kernel_rfl) ?_)
          refine sq (o_not (by kernel_rfl) ?_)
          refine sq (o_not (by kernel_rfl) ?_)
          refine sq (o_not (by kernel_rfl) ?_)
          refine sq (o_not (by kernel_rfl) ?_)
          refine sq (o_not (by kernel_rfl) ?_)
          refine sq (o_not (by kernel_rfl) ?_)
          refine sq (o_not (by kernel_rfl) ?_)
          refine sq (o_not (by kernel_rfl) ?_)
          refine sq (o_not (by kernel_rfl) ?_)
          refine sq (o_not (by kernel_rfl) ?_)
          refine sq (o_not (by kernel_rfl) ?_)
          refine sq (o_pv (.bool false) rfl (by kernel_rfl) ?_)
          refine sq (o_pv (.bool false) rfl (by kernel_rfl) ?_)
          refine sq (o_not (by kernel_rfl) ?_)
          refine sq (o_not (by kernel_rfl) ?_)
          refine sq (o_not (by kernel_rfl) ?_)
          refine sq (o_not (by kernel_rfl) ?_)
          refine sq (o_not (by kernel_rfl) ?_)
          refine sq (o_not (by kernel_rfl) ?_)
          refine sq (o_not (by kernel_rfl) ?_)
          refine sq (o_not (by kernel_rfl) ?_)
          refine sq (o_pv (.bool false) rfl (by kernel_rfl) ?_)
          refine sq (o_pv (.bool false) rfl (by kernel_rfl) ?_)
          refine nil_ ?_
          have E985 := (Evo.then0 E502 e860)
          have hXo986 := (Old.step hXo503 s861)
          have hS987 := (Sub.trans hS504 (Step.up s861))
          refine then_normal (hJ853 _ _ _ ⟨[(6, (.bool false))], fit_mk (fun _ _ => rfl) (by kernel_rfl) (vs_cons (by kernel_rfl) vs_nil), ?_⟩)
          exact ⟨X494, false, rfl, E985, hXo986, hS987, hp⟩
      ·
        rintro _ w850 g988 ⟨X851, s847, rfl, E855, hXo856, hS857, hv854⟩
        replace hp := hk849 s847 hv854
        refine then_normal (K737 _ _ _ _ ?_)
        refine wp_ret ?_
        refine end_ret hQ (.bool s847) (by kernel_rfl) ?_
        exact ⟨s847, hp, E855, rfl⟩

end Go.Proofs.Ytmepomdpjlbaaaa
