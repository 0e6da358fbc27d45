/- Walks of functions: what each asks and computes, as a plain predicate, and the contract from it. -/
import Derived.Test.YtmepomdpjlbaaaaChecked
import Derived.Test.YtmepomdpjlbaaaaG3
namespace Go.Proofs.Ytmepomdpjlbaaaa
open Go


def rectolaw17_GraphBases_p (g : (List (List Int))) (a : Int) (b : Int) (Q : Bool → Prop) : Prop :=
  ((g.length ≤ 9223372036854775807) → ((inR .i64 a) → ((inR .i64 b) → (rectolaw17_known_p  (fun (r9 : Bool) => ((((!r9) = true) → Q false) ∧ (((!r9) = false) → (∃ k34 : Bool → Prop, (∀ (s33 : Bool), k34 s33 → (((s33 = true) → Q true) ∧ ((s33 = false) → (graph_Graph_Bases_p g a b (fun (r91 : (List Int)) => ((r91.length ≤ 9223372036854775807) → (∃ k127 : Bool → Prop, (∀ (s126 : Bool), k127 s126 → (((s126 = true) → Q false) ∧ ((s126 = false) → (∃ (I501 : Int → Prop) (m502 : Int → Nat), (I501 (0 : Int)) ∧ ∀ (i182 : Int), (I501 i182) → (inR .i64 i182) → (((i182 < (r91.length : Int)) → (∃ k553 : Bool → Prop, (∀ (s552 : Bool), k553 s552 → (((s552 = true) → Q false) ∧ ((s552 = false) → (∃ (I714 : Int → Prop) (m715 : Int → Nat), (I714 (0 : Int)) ∧ ∀ (k609 : Int), (I714 k609) → (inR .i64 k609) → (((k609 < (r91.length : Int)) → (∃ k772 : Bool → Prop, (∀ (s771 : Bool), k772 s771 → (((s771 = true) → Q false) ∧ ((s771 = false) → ((inR .i64 (k609 + (1 : Int))) ∧ ((I714 (k609 + (1 : Int))) ∧ m715 (k609 + (1 : Int)) < m715 k609))))) ∧ (((i182 = k609) → (k772 false)) ∧ ((¬ (i182 = k609)) → ((inL r91 i182) ∧ ((inR .i64 (lget r91 i182)) → ((inL r91 k609) ∧ ((inR .i64 (lget r91 k609)) → (graph_Graph_Is_p g (lget r91 i182) (lget r91 k609) (fun (r816 : Bool) => (k772 r816))))))))))) ∧ ((¬ (k609 < (r91.length : Int))) → ((inR .i64 (i182 + (1 : Int))) ∧ ((I501 (i182 + (1 : Int))) ∧ m502 (i182 + (1 : Int)) < m502 i182)))))))) ∧ ((inL r91 i182) ∧ ((inR .i64 (lget r91 i182)) → (graph_Graph_Is_p g (lget r91 i182) a (fun (r575 : Bool) => (((r575 = true) → ((inL r91 i182) ∧ ((inR .i64 (lget r91 i182)) → (graph_Graph_Is_p g (lget r91 i182) b (fun (r596 : Bool) => (k553 (!r596))))))) ∧ ((r575 = false) → (k553 true))))))))) ∧ ((¬ (i182 < (r91.length : Int))) → (graph_Graph_Ancestors_p g ([a]) (fun (r841 : (List Int)) => ((r841.length ≤ 9223372036854775807) → (∃ (I1413 : Int → Prop) (m1414 : Int → Nat), (I1413 (0 : Int)) ∧ ∀ (i850 : Int), (I1413 i850) → (inR .i64 i850) → (((i850 < (r841.length : Int)) → (∃ k1706 : Prop, (k1706 → ((inR .i64 (i850 + (1 : Int))) ∧ ((I1413 (i850 + (1 : Int))) ∧ m1414 (i850 + (1 : Int)) < m1414 i850))) ∧ ((inL r841 i850) ∧ ((inR .i64 (lget r841 i850)) → (graph_Graph_Is_p g (lget r841 i850) b (fun (r1731 : Bool) => ((((!r1731) = true) → (k1706)) ∧ (((!r1731) = false) → (∃ (I1859 : Bool → Int → Prop) (m1860 : Bool → Int → Nat), (I1859 false (0 : Int)) ∧ ∀ (under1745 : Bool) (k1746 : Int), (I1859 under1745 k1746) → (inR .i64 k1746) → (((k1746 < (r91.length : Int)) → (∃ k1924 : Bool → Prop, (∀ (under1923 : Bool), k1924 under1923 → ((inR .i64 (k1746 + (1 : Int))) ∧ ((I1859 under1923 (k1746 + (1 : Int))) ∧ m1860 under1923 (k1746 + (1 : Int)) < m1860 under1745 k1746))) ∧ (((under1745 = true) → (k1924 true)) ∧ ((¬ (under1745 = true)) → ((inL r841 i850) ∧ ((inR .i64 (lget r841 i850)) → ((inL r91 k1746) ∧ ((inR .i64 (lget r91 k1746)) → (graph_Graph_Is_p g (lget r841 i850) (lget r91 k1746) (fun (r1970 : Bool) => (((r1970 = true) → (k1924 true)) ∧ ((r1970 = false) → (k1924 false))))))))))))) ∧ ((¬ (k1746 < (r91.length : Int))) → ((((!under1745) = true) → Q false) ∧ (((!under1745) = false) → (k1706)))))))))))))) ∧ ((¬ (i850 < (r841.length : Int))) → (∃ k2007 : Bool → Prop, (∀ (s2006 : Bool), k2007 s2006 → Q s2006) ∧ (graph_Graph_Is_p g a b (fun (r2017 : Bool) => (((r2017 = true) → (graph_Graph_Base_p g a b (fun (r2025 : Int) => ((inR .i64 r2025) → (((r2025 = a) → (k2007 (decide ((r91.length : Int) = (1 : Int))))) ∧ ((¬ (r2025 = a)) → (k2007 false))))))) ∧ ((r2017 = false) → (k2007 true)))))))))))))))))) ∧ (graph_Graph_Bases_p g b a (fun (r143 : (List Int)) => ((r143.length ≤ 9223372036854775807) → (rectolaw8_Ints_p r91 r143 (fun (r151 : Bool) => (((r151 = true) → (graph_Graph_Base_p g a b (fun (r161 : Int) => ((inR .i64 r161) → (graph_Graph_Base_p g b a (fun (r167 : Int) => ((inR .i64 r167) → (k127 (!decide (r161 = r167)))))))))) ∧ ((r151 = false) → (k127 true))))))))))))))) ∧ (rectolaw17_few_p g (fun (r49 : Bool) => (((r49 = true) → (rectoref17_Check_p g (fun (r58 : Int) => ((inR .i64 r58) → (((r58 = (0 : Int)) → (((a < (1 : Int)) → (k34 true)) ∧ ((¬ (a < (1 : Int))) → (((a > (g.length : Int)) → (k34 true)) ∧ ((¬ (a > (g.length : Int))) → (((b < (1 : Int)) → (k34 true)) ∧ ((¬ (b < (1 : Int))) → (k34 (decide (b > (g.length : Int))))))))))) ∧ ((¬ (r58 = (0 : Int))) → (k34 true))))))) ∧ ((r49 = false) → (k34 true)))))))))))))
set_option maxRecDepth 20000 in
set_option maxHeartbeats 4000000 in
theorem rectolaw17_GraphBases_w {X : List Nat} {w : World} {g : (List (List Int))} {a : Int} {b : Int} {ag1 : Option Addr} {cg2 : Nat} {Q : Bool → Prop} (hX0 : Old X w) (hg3 : Sl (rSl (rInt .i64)) X w ag1 cg2 g) (ra4 : inR .i64 a) (rb5 : inR .i64 b) (hp : rectolaw17_GraphBases_p g a b Q) :
    Calls Try.prog 8 #[(.slice ag1 g.length cg2), (.int .i64 a), (.int .i64 b)] w (Ret fun v w' => ∃ (r0 : Bool), Q r0 ∧ Evo [] w w' ∧ v = (.bool r0)) := by
  have hXo := hX0
  have E0 : Evo [] w w := RB.refl _ _ _
  have hS : Sub X X := Sub.refl _
  unfold rectolaw17_GraphBases_p at hp
  refine enter_ Try.func8 rfl 168 [(0, (.slice ag1 g.length cg2)), (1, (.int .i64 a)), (2, (.int .i64 b))] (by kernel_rfl) (fun Qe hQ => ?_)
  replace hp := hp (Sl.len hg3)
  replace hp := hp ra4
  replace hp := hp rb5
  refine seq_ (fun _ K6 => ?_)
  refine reg_ ?_
  refine sq (o_pv (.bool false) rfl (by kernel_rfl) ?_)
  refine nil_ ?_
  refine then_normal (K6 _ _ _ _ ?_)
  refine seq_ (fun _ K7 => ?_)
  refine seq_ (fun _ K8 => ?_)
  refine reg_ ?_
  refine sq (o_call 32 #[] rfl (x_call Try.call32 (by kernel_rfl)) (rectolaw17_known_w (X := [])  (Old.nil _) hp) ?_)
  rintro _ w10 ⟨r9, hp, e11, rfl⟩
  have s12 := Step.of0 X e11
  refine sq (o_pv (.bool (!r9)) rfl (by kernel_rfl) ?_)
  refine nil_ ?_
  refine then_normal (K8 _ _ _ _ ?_)
  refine cond_b (!r9) (by kernel_rfl) (fun h13 => ?_) (fun h13 => ?_)
  ·
    replace hp := hp.1 h13
    refine seq_ (fun _ K14 => ?_)
    refine reg_ ?_
    refine sq (o_pv (.bool false) rfl (by kernel_rfl) ?_)
    refine nil_ ?_
    refine then_normal (K14 _ _ _ _ ?_)
    refine wp_ret ?_
    refine then_ret ?_
    have E15 := (Evo.then0 E0 e11)
    refine end_ret hQ (.bool false) (by kernel_rfl) ?_
    exact ⟨false, hp, E15, rfl⟩
  ·
    replace hp := hp.2 h13
    refine wp_skip ?_
    refine then_normal (K7 _ _ _ _ ?_)
    refine seq_ (fun _ K16 => ?_)
    refine seq_ (fun _ K17 => ?_)
    have hg41 := (Sl.step hg3 s12)
    have hXo42 := (Old.step hXo s12)
    have E43 := (Evo.then0 E0 e11)
    have hS44 := (Sub.trans hS (Step.up s12))
    obtain ⟨k34, hk35, hp⟩ := hp
    refine ground_ ?_
    refine join_ 17592185978880 (fun lq w36 => ∃ (X37 : List Nat) (s33 : Bool), (lq = [(43, (.bool s33))]) ∧ (Evo [] w w36) ∧ (Old X37 w36) ∧ (Sub X X37) ∧ (Sl (rSl (rInt .i64)) X37 w36 ag1 cg2 g) ∧ (k34 s33)) (fun Kj38 hJ39 => ?_) ?_
    ·
      refine reg_ ?_
      refine sq (o_pv (.slice ag1 g.length cg2) rfl (by kernel_rfl) ?_)
      refine sq (o_call 33 #[(.slice ag1 g.length cg2)] rfl (x_call Try.call33 (by kernel_rfl)) (rectolaw17_few_w (X := []) (g := g) (Old.nil _) (Sl.less hg41 (Sub.nil _)) hp) ?_)
      rintro _ w50 ⟨r49, hp, e51, rfl⟩
      have s52 := Step.of0 X e51
      cases r49
      ·
        replace hp := hp.2 rfl
        refine sq (o_pv (.bool true) rfl (by kernel_rfl) ?_)
        refine sq (o_pv (.bool true) rfl (by kernel_rfl) ?_)
        refine sq (o_not (by kernel_rfl) ?_)
        refine sq (o_not (by kernel_rfl) ?_)
        refine sq (o_not (by kernel_rfl) ?_)
        refine sq (o_pv (.bool true) rfl (by kernel_rfl) ?_)
        refine sq (o_pv (.bool true) rfl (by kernel_rfl) ?_)
        refine sq (o_not (by kernel_rfl) ?_)
        refine sq (o_not (by kernel_rfl) ?_)
        refine sq (o_pv (.bool true) rfl (by kernel_rfl) ?_)
        refine sq (o_pv (.bool true) rfl (by kernel_rfl) ?_)
        refine sq (o_not (by kernel_rfl) ?_)
        refine sq (o_not (by kernel_rfl) ?_)
        refine sq (o_not (by kernel_rfl) ?_)
        refine sq (o_not (by kernel_rfl) ?_)
        refine sq (o_pv (.bool true) rfl (by kernel_rfl) ?_)
        refine sq (o_pv (.bool true) rfl (by kernel_rfl) ?_)
        refine sq (o_not (by kernel_rfl) ?_)
        refine sq (o_not (by kernel_rfl) ?_)
        refine sq (o_pv (.bool true) rfl (by kernel_rfl) ?_)
        refine sq (o_pv (.bool true) rfl (by kernel_rfl) ?_)
        refine sq (o_not (by kernel_rfl) ?_)
        refine sq (o_not (by kernel_rfl) ?_)
        refine sq (o_not (by kernel_rfl) ?_)
        refine sq (o_not (by kernel_rfl) ?_)
        refine sq (o_pv (.bool true) rfl (by kernel_rfl) ?_)
        refine nil_ ?_
        have E53 := (Evo.then0 E43 e51)
        have hXo54 := (Old.step hXo42 s52)
        have hS55 := (Sub.trans hS44 (Step.up s52))
        have hg56 := (Sl.step hg41 s52)
        refine then_normal (hJ39 _ _ _ ⟨[(43, (.bool true))], fit_mk (fun _ _ => rfl) (by kernel_rfl) (vs_cons (by kernel_rfl) vs_nil), ?_⟩)
        exact ⟨X, true, rfl, E53, hXo54, hS55, hg56, hp⟩
      ·
        replace hp := hp.1 rfl
        refine sq (o_pv (.bool false) rfl (by kernel_rfl) ?_)
        refine sq (o_pv (.bool false) rfl (by kernel_rfl) ?_)
        refine sq (o_pv (.slice ag1 g.length cg2) (by kernel_rfl) (by kernel_rfl) ?_)
        have hg57 := (Sl.step hg41 s52)
        refine sq (o_call 35 #[(.slice ag1 g.length cg2)] (by kernel_rfl) (x_call Try.call35 (by kernel_rfl)) (rectoref17_Check_w (X := []) (g := g) (Old.nil _) (Sl.less hg57 (Sub.nil _)) hp) ?_)
        rintro _ w59 ⟨r58, hp, e60, rfl, rr62⟩
        have s61 := Step.of0 X e60
        replace hp := hp rr62
        by_cases h63 : r58 = (0 : Int)
        ·
          replace hp := hp.1 h63
          refine sq (o_pv (.bool false) (by kernel_rfl) (x_ndf (p := r58 = (0 : Int)) (by kernel_rfl) h63) ?_)
          refine sq (o_pv (.bool false) rfl (by kernel_rfl) ?_)
          refine sq (o_pv (.bool false) rfl (by kernel_rfl) ?_)
          refine sq (o_pv (.int .i64 a) (by kernel_rfl) (by kernel_rfl) ?_)
          by_cases h64 : a < (1 : Int)
          ·
            replace hp := hp.1 h64
            refine sq (o_pv (.bool true) (by kernel_rfl) (x_dt (p := a < (1 : Int)) (by kernel_rfl) h64) ?_)
            refine sq (o_pv (.bool true) rfl (by kernel_rfl) ?_)
            refine sq (o_pv (.bool true) rfl (by kernel_rfl) ?_)
            refine sq (o_not (by kernel_rfl) ?_)
            refine sq (o_not (by kernel_rfl) ?_)
            refine sq (o_not (by kernel_rfl) ?_)
            refine sq (o_not (by kernel_rfl) ?_)
            refine sq (o_pv (.bool true) rfl (by kernel_rfl) ?_)
            refine sq (o_pv (.bool true) rfl (by kernel_rfl) ?_)
            refine sq (o_not (by kernel_rfl) ?_)
            refine sq (o_not (by kernel_rfl) ?_)
            refine sq (o_pv (.bool true) rfl (by kernel_rfl) ?_)
            refine sq (o_pv (.bool true) rfl (by kernel_rfl) ?_)
            refine sq (o_not (by kernel_rfl) ?_)
            refine sq (o_not (by kernel_rfl) ?_)
            refine sq (o_not (by kernel_rfl) ?_)
            refine sq (o_not (by kernel_rfl) ?_)
            refine sq (o_pv (.bool true) rfl (by kernel_rfl) ?_)
            refine nil_ ?_
            have E65 := (Evo.then0 (Evo.then0 E43 e51) e60)
            have hXo66 := (Old.step (Old.step hXo42 s52) s61)
            have hS67 := (Sub.trans (Sub.trans hS44 (Step.up s52)) (Step.up s61))
            have hg68 := (Sl.step hg57 s61)
            refine then_normal (hJ39 _ _ _ ⟨[(43, (.bool true))], fit_mk (fun _ _ => rfl) (by kernel_rfl) (vs_cons (by kernel_rfl) vs_nil), ?_⟩)
            exact ⟨X, true, rfl, E65, hXo66, hS67, hg68, hp⟩
          ·
            replace hp := hp.2 h64
            refine sq (o_pv (.bool false) (by kernel_rfl) (x_df (p := a < (1 : Int)) (by kernel_rfl) h64) ?_)
            refine sq (o_pv (.bool false) rfl (by kernel_rfl) ?_)
            refine sq (o_pv (.bool false) rfl (by kernel_rfl) ?_)
            refine sq (o_pv (.int .i64 a) (by kernel_rfl) (by kernel_rfl) ?_)
            refine sq (o_pv (.slice ag1 g.length cg2) (by kernel_rfl) (by kernel_rfl) ?_)
            refine sq (o_pv (.int .i64 (g.length : Int)) (by kernel_rfl) (by kernel_rfl) ?_)
            by_cases h69 : a > (g.length : Int)
            ·
              replace hp := hp.1 h69
              refine sq (o_pv (.bool true) (by kernel_rfl) (x_dt (p := a > (g.length : Int)) (by kernel_rfl) h69) ?_)
              refine sq (o_pv (.bool true) rfl (by kernel_rfl) ?_)
              refine sq (o_pv (.bool true) rfl (by kernel_rfl) ?_)
              refine sq (o_not (by kernel_rfl) ?_)
              refine sq (o_not (by kernel_rfl) ?_)
              refine sq (o_pv (.bool true) rfl (by kernel_rfl) ?_)
              refine sq (o_pv (.bool true) rfl (by kernel_rfl) ?_)
              refine sq (o_not (by kernel_rfl) ?_)
              refine sq (o_not (by kernel_rfl) ?_)
              refine sq (o_not (by kernel_rfl) ?_)
              refine sq (o_not (by kernel_rfl) ?_)
              refine sq (o_pv (.bool true) rfl (by kernel_rfl) ?_)
              refine nil_ ?_
              have E70 := (Evo.then0 (Evo.then0 E43 e51) e60)
              have hXo71 := (Old.step (Old.step hXo42 s52) s61)
              have hS72 := (Sub.trans (Sub.trans hS44 (Step.up s52)) (Step.up s61))
              have hg73 := (Sl.step hg57 s61)
              refine then_normal (hJ39 _ _ _ ⟨[(43, (.bool true))], fit_mk (fun _ _ => rfl) (by kernel_rfl) (vs_cons (by kernel_rfl) vs_nil), ?_⟩)
              exact ⟨X, true, rfl, E70, hXo71, hS72, hg73, hp⟩
            ·
              replace hp := hp.2 h69
              refine sq (o_pv (.bool false) (by kernel_rfl) (x_df (p := a > (g.length : Int)) (by kernel_rfl) h69) ?_)
              refine sq (o_pv (.bool false) rfl (by kernel_rfl) ?_)
              refine sq (o_pv (.bool false) rfl (by kernel_rfl) ?_)
              refine sq (o_pv (.int .i64 b) (by kernel_rfl) (by kernel_rfl) ?_)
              by_cases h74 : b < (1 : Int)
              ·
                replace hp := hp.1 h74
                refine sq (o_pv (.bool true) (by kernel_rfl) (x_dt (p := b < (1 : Int)) (by kernel_rfl) h74) ?_)
                refine sq (o_pv (.bool true) rfl (by kernel_rfl) ?_)
                refine sq (o_pv (.bool true) rfl (by kernel_rfl) ?_)
                refine sq (o_not (by kernel_rfl) ?_)
                refine sq (o_not (by kernel_rfl) ?_)
                refine sq (o_not (by kernel_rfl) ?_)
                refine sq (o_not (by kernel_rfl) ?_)
                refine sq (o_pv (.bool true) rfl (by kernel_rfl) ?_)
                refine nil_ ?_
                have E75 := (Evo.then0 (Evo.then0 E43 e51) e60)
                have hXo76 := (Old.step (Old.step hXo42 s52) s61)
                have hS77 := (Sub.trans (Sub.trans hS44 (Step.up s52)) (Step.up s61))
                have hg78 := (Sl.step hg57 s61)
                refine then_normal (hJ39 _ _ _ ⟨[(43, (.bool true))], fit_mk (fun _ _ => rfl) (by kernel_rfl) (vs_cons (by kernel_rfl) vs_nil), ?_⟩)
                exact ⟨X, true, rfl, E75, hXo76, hS77, hg78, hp⟩
              ·
                replace hp := hp.2 h74
                refine sq (o_pv (.bool false) (by kernel_rfl) (x_df (p := b < (1 : Int)) (by kernel_rfl) h74) ?_)
                refine sq (o_pv (.bool false) rfl (by kernel_rfl) ?_)
                refine sq (o_pv (.bool false) rfl (by kernel_rfl) ?_)
                refine sq (o_pv (.int .i64 b) (by kernel_rfl) (by kernel_rfl) ?_)
                refine sq (o_pv (.slice ag1 g.length cg2) (by kernel_rfl) (by kernel_rfl) ?_)
                refine sq (o_pv (.int .i64 (g.length : Int)) (by kernel_rfl) (by kernel_rfl) ?_)
                refine sq (o_pv (.bool (decide (b > (g.length : Int)))) (by kernel_rfl) (by kernel_rfl) ?_)
                refine sq (o_pv (.bool (decide (b > (g.length : Int)))) rfl (by kernel_rfl) ?_)
                refine nil_ ?_
                have E79 := (Evo.then0 (Evo.then0 E43 e51) e60)
                have hXo80 := (Old.step (Old.step hXo42 s52) s61)
                have hS81 := (Sub.trans (Sub.trans hS44 (Step.up s52)) (Step.up s61))
                have hg82 := (Sl.step hg57 s61)
                refine then_normal (hJ39 _ _ _ ⟨[(43, (.bool (decide (b > (g.length : Int)))))], fit_mk (fun _ _ => rfl) (by kernel_rfl) (vs_cons (by kernel_rfl) vs_nil), ?_⟩)
                exact ⟨X, (decide (b > (g.length : Int))), rfl, E79, hXo80, hS81, hg82, hp⟩
        ·
          replace hp := hp.2 h63
          refine sq (o_pv (.bool true) (by kernel_rfl) (x_ndt (p := r58 = (0 : Int)) (by kernel_rfl) h63) ?_)
          refine sq (o_pv (.bool true) rfl (by kernel_rfl) ?_)
          refine sq (o_pv (.bool true) rfl (by kernel_rfl) ?_)
          refine sq (o_not (by kernel_rfl) ?_)
          refine sq (o_not (by kernel_rfl) ?_)
          refine sq (o_pv (.bool true) rfl (by kernel_rfl) ?_)
          refine sq (o_pv (.bool true) rfl (by kernel_rfl) ?_)
          refine sq (o_not (by kernel_rfl) ?_)
          refine sq (o_not (by kernel_rfl) ?_)
          refine sq (o_not (by kernel_rfl) ?_)
          refine sq (o_not (by kernel_rfl) ?_)
          refine sq (o_pv (.bool true) rfl (by kernel_rfl) ?_)
          refine sq (o_pv (.bool true) rfl (by kernel_rfl) ?_)
          refine sq (o_not (by kernel_rfl) ?_)
          refine sq (o_not (by kernel_rfl) ?_)
          refine sq (o_pv (.bool true) rfl (by kernel_rfl) ?_)
          refine sq (o_pv (.bool true) rfl (by kernel_rfl) ?_)
          refine sq (o_not (by kernel_rfl) ?_)
          refine sq (o_not (by kernel_rfl) ?_)
          refine sq (o_not (by kernel_rfl) ?_)
          refine sq (o_not (by kernel_rfl) ?_)
          refine sq (o_pv (.bool true) rfl (by kernel_rfl) ?_)
          refine nil_ ?_
          have E83 := (Evo.then0 (Evo.then0 E43 e51) e60)
          have hXo84 := (Old.step (Old.step hXo42 s52) s61)
          have hS85 := (Sub.trans (Sub.trans hS44 (Step.up s52)) (Step.up s61))
          have hg86 := (Sl.step hg57 s61)
          refine then_normal (hJ39 _ _ _ ⟨[(43, (.bool true))], fit_mk (fun _ _ => rfl) (by kernel_rfl) (vs_cons (by kernel_rfl) vs_nil), ?_⟩)
          exact ⟨X, true, rfl, E83, hXo84, hS85, hg86, hp⟩
    ·
      rintro _ w36 g87 ⟨X37, s33, rfl, E45, hXo46, hS47, hg48, hv40⟩
      replace hp := hk35 s33 hv40
      refine then_normal (K17 _ _ _ _ ?_)
      refine cond_b s33 (by kernel_rfl) (fun h88 => ?_) (fun h88 => ?_)
      ·
        replace hp := hp.1 h88
        refine seq_ (fun _ K89 => ?_)
        refine reg_ ?_
        refine sq (o_pv (.bool true) rfl (by kernel_rfl) ?_)
        refine nil_ ?_
        refine then_normal (K89 _ _ _ _ ?_)
        refine wp_ret ?_
        refine then_ret ?_
        refine end_ret hQ (.bool true) (by kernel_rfl) ?_
        exact ⟨true, hp, E45, rfl⟩
      ·
        replace hp := hp.2 h88
        refine wp_skip ?_
        refine then_normal (K16 _ _ _ _ ?_)
        refine seq_ (fun _ K90 => ?_)
        refine reg_ ?_
        refine sq (o_pv (.slice ag1 g.length cg2) rfl (by kernel_rfl) ?_)
        refine sq (o_pv (.int .i64 a) rfl (by kernel_rfl) ?_)
        refine sq (o_pv (.int .i64 b) rfl (by kernel_rfl) ?_)
        refine sq (o_call 43 #[(.slice ag1 g.length cg2), (.int .i64 a), (.int .i64 b)] rfl (x_call Try.call43 (by kernel_rfl)) (graph_Graph_Bases_w (X := X37) (g := g) (a := a) (b := b) hXo46 hg48 ra4 rb5 hp) ?_)
        rintro _ w92 ⟨r91, hp, e93, ar95, cr96, rfl, hr97⟩
        have s94 := Step.of0 X37 e93
        replace hp := hp (Sl.len hr97)
        refine sq (o_pv (.slice ar95 r91.length cr96) rfl (by kernel_rfl) ?_)
        refine nil_ ?_
        refine then_normal (K90 _ _ _ _ ?_)
        refine seq_ (fun _ K98 => ?_)
        refine seq_ (fun _ K99 => ?_)
        have E134 := (Evo.then0 E45 e93)
        have hXo135 := (Old.step hXo46 s94)
        have hS136 := (Sub.trans hS47 (Step.up s94))
        have hg137 := (Sl.step hg48 s94)
        obtain ⟨k127, hk128, hp⟩ := hp
        refine ground_ ?_
        refine join_ 73786694819861495808 (fun lq w129 => ∃ (X130 : List Nat) (s126 : Bool), (lq = [(65, (.bool s126))]) ∧ (Evo [] w w129) ∧ (Old X130 w129) ∧ (Sub X X130) ∧ (Sl (rSl (rInt .i64)) X130 w129 ag1 cg2 g) ∧ (Sl (rInt .i64) X130 w129 ar95 cr96 r91) ∧ (k127 s126)) (fun Kj131 hJ132 => ?_) ?_
        ·
          refine reg_ ?_
          refine sq (o_pv (.slice ar95 r91.length cr96) rfl (by kernel_rfl) ?_)
          refine sq (o_pv (.slice ag1 g.length cg2) rfl (by kernel_rfl) ?_)
          refine sq (o_pv (.int .i64 b) rfl (by kernel_rfl) ?_)
          refine sq (o_pv (.int .i64 a) rfl (by kernel_rfl) ?_)
          refine sq (o_call 43 #[(.slice ag1 g.length cg2), (.int .i64 b), (.int .i64 a)] rfl (x_call Try.call43 (by kernel_rfl)) (graph_Graph_Bases_w (X := X37) (g := g) (a := b) (b := a) hXo135 hg137 rb5 ra4 hp) ?_)
          rintro _ w144 ⟨r143, hp, e145, ar147, cr148, rfl, hr149⟩
          have s146 := Step.of0 X37 e145
          replace hp := hp (Sl.len hr149)
          have hr150 := (Sl.step hr97 s146)
          refine sq (o_call 36 #[(.slice ar95 r91.length cr96), (.slice ar147 r143.length cr148)] rfl (x_call Try.call36 (by kernel_rfl)) (rectolaw8_Ints_w (X := []) (a := r91) (b := r143) (Old.nil _) (Sl.less hr150 (Sub.nil _)) (Sl.less hr149 (Sub.nil _)) hp) ?_)
          rintro _ w152 ⟨r151, hp, e153, rfl⟩
          have s154 := Step.of0 X37 e153
          cases r151
          ·
            replace hp := hp.2 rfl
            refine sq (o_pv (.bool true) rfl (by kernel_rfl) ?_)
            refine sq (o_pv (.bool true) rfl (by kernel_rfl) ?_)
            refine sq (o_not (by kernel_rfl) ?_)
            refine sq (o_not (by kernel_rfl) ?_)
            refine sq (o_not (by kernel_rfl) ?_)
            refine sq (o_not (by kernel_rfl) ?_)
            refine sq (o_not (by kernel_rfl) ?_)
            refine sq (o_not (by kernel_rfl) ?_)
            refine sq (o_not (by kernel_rfl) ?_)
            refine sq (o_not (by kernel_rfl) ?_)
            refine sq (o_not (by kernel_rfl) ?_)
            refine sq (o_pv (.bool true) rfl (by kernel_rfl) ?_)
            refine nil_ ?_
            have E155 := (Evo.then0 (Evo.then0 E134 e145) e153)
            have hXo156 := (Old.step (Old.step hXo135 s146) s154)
            have hS157 := (Sub.trans (Sub.trans hS136 (Step.up s146)) (Step.up s154))
            have hg158 := (Sl.step (Sl.step hg137 s146) s154)
            have hr159 := (Sl.step hr150 s154)
            refine then_normal (hJ132 _ _ _ ⟨[(65, (.bool true))], fit_mk (fun _ _ => rfl) (by kernel_rfl) (vs_cons (by kernel_rfl) vs_nil), ?_⟩)
            exact ⟨X37, true, rfl, E155, hXo156, hS157, hg158, hr159, hp⟩
          ·
            replace hp := hp.1 rfl
            refine sq (o_pv (.bool false) rfl (by kernel_rfl) ?_)
            refine sq (o_pv (.bool false) rfl (by kernel_rfl) ?_)
            refine sq (o_pv (.slice ag1 g.length cg2) (by kernel_rfl) (by kernel_rfl) ?_)
            refine sq (o_pv (.int .i64 a) (by kernel_rfl) (by kernel_rfl) ?_)
            refine sq (o_pv (.int .i64 b) (by kernel_rfl) (by kernel_rfl) ?_)
            have hg160 := (Sl.step (Sl.step hg137 s146) s154)
            refine sq (o_call 41 #[(.slice ag1 g.length cg2), (.int .i64 a), (.int .i64 b)] (by kernel_rfl) (x_call Try.call41 (by kernel_rfl)) (graph_Graph_Base_w (X := []) (g := g) (a := a) (b := b) (Old.nil _) (Sl.less hg160 (Sub.nil _)) ra4 rb5 hp) ?_)
            rintro _ w162 ⟨r161, hp, e163, rfl, rr165⟩
            have s164 := Step.of0 X37 e163
            replace hp := hp rr165
            refine sq (o_pv (.slice ag1 g.length cg2) (by kernel_rfl) (by kernel_rfl) ?_)
            refine sq (o_pv (.int .i64 b) (by kernel_rfl) (by kernel_rfl) ?_)
            refine sq (o_pv (.int .i64 a) (by kernel_rfl) (by kernel_rfl) ?_)
            have hg166 := (Sl.step hg160 s164)
            refine sq (o_call 41 #[(.slice ag1 g.length cg2), (.int .i64 b), (.int .i64 a)] (by kernel_rfl) (x_call Try.call41 (by kernel_rfl)) (graph_Graph_Base_w (X := []) (g := g) (a := b) (b := a) (Old.nil _) (Sl.less hg166 (Sub.nil _)) rb5 ra4 hp) ?_)
            rintro _ w168 ⟨r167, hp, e169, rfl, rr171⟩
            have s170 := Step.of0 X37 e169
            replace hp := hp rr171
            refine sq (o_pv (.bool (!decide (r161 = r167))) (by kernel_rfl) (by kernel_rfl) ?_)
            refine sq (o_pv (.bool (!decide (r161 = r167))) rfl (by kernel_rfl) ?_)
            refine nil_ ?_
            have E172 := (Evo.then0 (Evo.then0 (Evo.then0 (Evo.then0 E134 e145) e153) e163) e169)
            have hXo173 := (Old.step (Old.step (Old.step (Old.step hXo135 s146) s154) s164) s170)
            have hS174 := (Sub.trans (Sub.trans (Sub.trans (Sub.trans hS136 (Step.up s146)) (Step.up s154)) (Step.up s164)) (Step.up s170))
            have hg175 := (Sl.step hg166 s170)
            have hr176 := (Sl.step (Sl.step (Sl.step hr150 s154) s164) s170)
            refine then_normal (hJ132 _ _ _ ⟨[(65, (.bool (!decide (r161 = r167))))], fit_mk (fun _ _ => rfl) (by kernel_rfl) (vs_cons (by kernel_rfl) vs_nil), ?_⟩)
            exact ⟨X37, (!decide (r161 = r167)), rfl, E172, hXo173, hS174, hg175, hr176, hp⟩
        ·
          rintro _ w129 g177 ⟨X130, s126, rfl, E138, hXo139, hS140, hg141, hr142, hv133⟩
          replace hp := hk128 s126 hv133
          refine then_normal (K99 _ _ _ _ ?_)
          refine cond_b s126 (by kernel_rfl) (fun h178 => ?_) (fun h178 => ?_)
          ·
            replace hp := hp.1 h178
            refine seq_ (fun _ K179 => ?_)
            refine reg_ ?_
            refine sq (o_pv (.bool false) rfl (by kernel_rfl) ?_)
            refine nil_ ?_
            refine then_normal (K179 _ _ _ _ ?_)
            refine wp_ret ?_
            refine then_ret ?_
            refine end_ret hQ (.bool false) (by kernel_rfl) ?_
            exact ⟨false, hp, E138, rfl⟩
          ·
            replace hp := hp.2 h178
            refine wp_skip ?_
            refine then_normal (K98 _ _ _ _ ?_)
            refine seq_ (fun _ K180 => ?_)
            refine seq_ (fun _ K181 => ?_)
            refine reg_ ?_
            refine sq (o_pv (.int .i64 (0 : Int)) rfl (by kernel_rfl) ?_)
            refine nil_ ?_
            refine then_normal (K181 _ _ _ _ ?_)
            refine wp_block ?_
            obtain ⟨I501, m502, hI503, hp⟩ := hp
            refine loop_ 2596148429267340027288953326404416 (fun kq lq w505 => ∃ (X506 : List Nat) (i182 : Int), (lq = [(8, (.int .i64 i182))]) ∧ (kq = m502 i182) ∧ (Evo [] w w505) ∧ (Old X506 w505) ∧ (Sub X X506) ∧ (Sl (rSl (rInt .i64)) X506 w505 ag1 cg2 g) ∧ (Sl (rInt .i64) X506 w505 ar95 cr96 r91) ∧ (inR .i64 i182) ∧ (I501 i182)) (m502 (0 : Int)) [(8, (.int .i64 (0 : Int)))] (vs_cons (by kernel_rfl) vs_nil) ⟨X130, (0 : Int), rfl, rfl, E138, hXo139, hS140, hg141, hr142, (by decide), hI503⟩ ?_
            rintro _ _ w505 g508 ⟨X506, i182, rfl, rfl, E511, hXo512, hS513, hg514, hr515, ri183, hI504⟩ Kl509 hA510
            replace hp := hp i182 hI504 ri183
            refine seq_ (fun _ K516 => ?_)
            refine seq_ (fun _ K517 => ?_)
            refine reg_ ?_
            refine sq (o_pv (.int .i64 i182) rfl (by kernel_rfl) ?_)
            refine sq (o_pv (.slice ar95 r91.length cr96) rfl (by kernel_rfl) ?_)
            refine sq (o_pv (.int .i64 (r91.length : Int)) rfl (by kernel_rfl) ?_)
            refine sq (o_pv (.bool (decide (i182 < (r91.length : Int)))) rfl (by kernel_rfl) ?_)
            refine nil_ ?_
            refine then_normal (K517 _ _ _ _ ?_)
            refine cond_d (i182 < (r91.length : Int)) (by kernel_rfl) (fun h518 => ?_) (fun h518 => ?_)
            ·
              replace hp := hp.1 h518
              refine wp_skip ?_
              refine then_normal (K516 _ _ _ _ ?_)
              refine seq_ (fun _ K519 => ?_)
              refine wp_block ?_
              refine seq_ (fun _ K520 => ?_)
              refine seq_ (fun _ K521 => ?_)
              obtain ⟨k553, hk554, hp⟩ := hp
              refine ground_ ?_
              refine join_ 1237935316918897405253910528 (fun lq w555 => ∃ (X556 : List Nat) (s552 : Bool), (lq = [(89, (.bool s552))]) ∧ (Evo [] w w555) ∧ (Old X556 w555) ∧ (Sub X X556) ∧ (Sl (rSl (rInt .i64)) X556 w555 ag1 cg2 g) ∧ (Sl (rInt .i64) X556 w555 ar95 cr96 r91) ∧ (k553 s552)) (fun Kj557 hJ558 => ?_) ?_
              ·
                refine reg_ ?_
                refine sq (o_pv (.slice ag1 g.length cg2) rfl (by kernel_rfl) ?_)
                refine sq (o_pv (.slice ar95 r91.length cr96) rfl (by kernel_rfl) ?_)
                refine sq (o_pv (.int .i64 i182) rfl (by kernel_rfl) ?_)
                obtain ⟨h565, hp⟩ := hp
                obtain ⟨b566, o567, cs568, ha569, nx570, lt571, ok572, hc573⟩ := Sl.atI hr515 i182 h565
                obtain ⟨rfl, re574⟩ := ok572
                replace hp := hp re574
                refine sq (o_pv (.pointer (some ⟨b566, o567 + i182.toNat * 1, none⟩)) rfl (x_ixA (m := r91.length) (c := cr96) (k := .i64) (i := i182) Try.underlying61 Try.sizeOf3 (by rw [← ha569]; kernel_rfl) (by kernel_rfl) h565) ?_)
                refine sq (o_pv (.int .i64 (lget r91 i182)) rfl (x_load1 (by kernel_rfl) Try.isAgg3 (hc573 0 _ rfl)) ?_)
                refine sq (o_pv (.int .i64 a) rfl (by kernel_rfl) ?_)
                refine sq (o_call 39 #[(.slice ag1 g.length cg2), (.int .i64 (lget r91 i182)), (.int .i64 a)] rfl (x_call Try.call39 (by kernel_rfl)) (graph_Graph_Is_w (X := []) (g := g) (a := lget r91 i182) (c := a) (Old.nil _) (Sl.less hg514 (Sub.nil _)) re574 ra4 hp) ?_)
                rintro _ w576 ⟨r575, hp, e577, rfl⟩
                have s578 := Step.of0 X506 e577
                cases r575
                ·
                  replace hp := hp.2 rfl
                  refine sq (o_pv (.bool true) rfl (by kernel_rfl) ?_)
                  refine sq (o_pv (.bool true) rfl (by kernel_rfl) ?_)
                  refine sq (o_not (by kernel_rfl) ?_)
                  refine sq (o_not (by kernel_rfl) ?_)
                  refine sq (o_not (by kernel_rfl) ?_)
                  refine sq (o_not (by kernel_rfl) ?_)
                  refine sq (o_not (by kernel_rfl) ?_)
                  refine sq (o_not (by kernel_rfl) ?_)
                  refine sq (o_not (by kernel_rfl) ?_)
                  refine sq (o_not (by kernel_rfl) ?_)
                  refine sq (o_pv (.bool true) rfl (by kernel_rfl) ?_)
                  refine nil_ ?_
                  have E579 := (Evo.then0 E511 e577)
                  have hXo580 := (Old.step hXo512 s578)
                  have hS581 := (Sub.trans hS513 (Step.up s578))
                  have hg582 := (Sl.step hg514 s578)
                  have hr583 := (Sl.step hr515 s578)
                  refine then_normal (hJ558 _ _ _ ⟨[(89, (.bool true))], fit_mk (fun _ _ => rfl) (by kernel_rfl) (vs_cons (by kernel_rfl) vs_nil), ?_⟩)
                  exact ⟨X506, true, rfl, E579, hXo580, hS581, hg582, hr583, hp⟩
                ·
                  replace hp := hp.1 rfl
                  refine sq (o_pv (.bool false) rfl (by kernel_rfl) ?_)
                  refine sq (o_pv (.bool false) rfl (by kernel_rfl) ?_)
                  refine sq (o_pv (.slice ag1 g.length cg2) (by kernel_rfl) (by kernel_rfl) ?_)
                  refine sq (o_pv (.slice ar95 r91.length cr96) (by kernel_rfl) (by kernel_rfl) ?_)
                  refine sq (o_pv (.int .i64 i182) (by kernel_rfl) (by kernel_rfl) ?_)
                  obtain ⟨h584, hp⟩ := hp
                  have hr585 := (Sl.step hr515 s578)
                  obtain ⟨b586, o587, cs588, ha589, nx590, lt591, ok592, hc593⟩ := Sl.atI hr585 i182 h584
                  obtain ⟨rfl, re594⟩ := ok592
                  replace hp := hp re594
                  refine sq (o_pv (.pointer (some ⟨b586, o587 + i182.toNat * 1, none⟩)) (by kernel_rfl) (x_ixA (m := r91.length) (c := cr96) (k := .i64) (i := i182) Try.underlying61 Try.sizeOf3 (by rw [← ha589]; kernel_rfl) (by kernel_rfl) h584) ?_)
                  refine sq (o_pv (.int .i64 (lget r91 i182)) (by kernel_rfl) (x_load1 (by kernel_rfl) Try.isAgg3 (hc593 0 _ rfl)) ?_)
                  refine sq (o_pv (.int .i64 b) (by kernel_rfl) (by kernel_rfl) ?_)
                  have hg595 := (Sl.step hg514 s578)
                  refine sq (o_call 39 #[(.slice ag1 g.length cg2), (.int .i64 (lget r91 i182)), (.int .i64 b)] (by kernel_rfl) (x_call Try.call39 (by kernel_rfl)) (graph_Graph_Is_w (X := []) (g := g) (a := lget r91 i182) (c := b) (Old.nil _) (Sl.less hg595 (Sub.nil _)) re594 rb5 hp) ?_)
                  rintro _ w597 ⟨r596, hp, e598, rfl⟩
                  have s599 := Step.of0 X506 e598
                  refine sq (o_pv (.bool (!r596)) (by kernel_rfl) (by kernel_rfl) ?_)
                  refine sq (o_pv (.bool (!r596)) rfl (by kernel_rfl) ?_)
                  refine nil_ ?_
                  have E600 := (Evo.then0 (Evo.then0 E511 e577) e598)
                  have hXo601 := (Old.step (Old.step hXo512 s578) s599)
                  have hS602 := (Sub.trans (Sub.trans hS513 (Step.up s578)) (Step.up s599))
                  have hg603 := (Sl.step hg595 s599)
                  have hr604 := (Sl.step hr585 s599)
                  refine then_normal (hJ558 _ _ _ ⟨[(89, (.bool (!r596)))], fit_mk (fun _ _ => rfl) (by kernel_rfl) (vs_cons (by kernel_rfl) vs_nil), ?_⟩)
                  exact ⟨X506, (!r596), rfl, E600, hXo601, hS602, hg603, hr604, hp⟩
              ·
                rintro _ w555 g605 ⟨X556, s552, rfl, E560, hXo561, hS562, hg563, hr564, hv559⟩
                replace hp := hk554 s552 hv559
                refine then_normal (K521 _ _ _ _ ?_)
                refine cond_b s552 (by kernel_rfl) (fun h606 => ?_) (fun h606 => ?_)
                ·
                  replace hp := hp.1 h606
                  refine seq_ (fun _ K607 => ?_)
                  refine reg_ ?_
                  refine sq (o_pv (.bool false) rfl (by kernel_rfl) ?_)
                  refine nil_ ?_
                  refine then_normal (K607 _ _ _ _ ?_)
                  refine wp_ret ?_
                  refine then_ret ?_
                  refine blk_ret ?_
                  refine then_ret ?_
                  refine then_ret ?_
                  refine blk_ret ?_
                  refine then_ret ?_
                  refine end_ret hQ (.bool false) (by kernel_rfl) ?_
                  exact ⟨false, hp, E560, rfl⟩
                ·
                  replace hp := hp.2 h606
                  refine wp_skip ?_
                  refine then_normal (K520 _ _ _ _ ?_)
                  refine seq_ (fun _ K608 => ?_)
                  refine reg_ ?_
                  refine sq (o_pv (.int .i64 (0 : Int)) rfl (by kernel_rfl) ?_)
                  refine nil_ ?_
                  refine then_normal (K608 _ _ _ _ ?_)
                  refine wp_block ?_
                  obtain ⟨I714, m715, hI716, hp⟩ := hp
                  refine loop_ 2596147191327374528884973265486400 (fun kq lq w718 => ∃ (X719 : List Nat) (k609 : Int), (lq = [(9, (.int .i64 k609))]) ∧ (kq = m715 k609) ∧ (Evo [] w w718) ∧ (Old X719 w718) ∧ (Sub X X719) ∧ (Sl (rSl (rInt .i64)) X719 w718 ag1 cg2 g) ∧ (Sl (rInt .i64) X719 w718 ar95 cr96 r91) ∧ (inR .i64 k609) ∧ (I714 k609)) (m715 (0 : Int)) [(9, (.int .i64 (0 : Int)))] (vs_cons (by kernel_rfl) vs_nil) ⟨X556, (0 : Int), rfl, rfl, E560, hXo561, hS562, hg563, hr564, (by decide), hI716⟩ ?_
                  rintro _ _ w718 g721 ⟨X719, k609, rfl, rfl, E724, hXo725, hS726, hg727, hr728, rk610, hI717⟩ Kl722 hA723
                  replace hp := hp k609 hI717 rk610
                  refine seq_ (fun _ K729 => ?_)
                  refine seq_ (fun _ K730 => ?_)
                  refine reg_ ?_
                  refine sq (o_pv (.int .i64 k609) rfl (by kernel_rfl) ?_)
                  refine sq (o_pv (.slice ar95 r91.length cr96) rfl (by kernel_rfl) ?_)
                  refine sq (o_pv (.int .i64 (r91.length : Int)) rfl (by kernel_rfl) ?_)
                  refine sq (o_pv (.bool (decide (k609 < (r91.length : Int)))) rfl (by kernel_rfl) ?_)
                  refine nil_ ?_
                  refine then_normal (K730 _ _ _ _ ?_)
                  refine cond_d (k609 < (r91.length : Int)) (by kernel_rfl) (fun h731 => ?_) (fun h731 => ?_)
                  ·
                    replace hp := hp.1 h731
                    refine wp_skip ?_
                    refine then_normal (K729 _ _ _ _ ?_)
                    refine seq_ (fun _ K732 => ?_)
                    refine wp_block ?_
                    refine seq_ (fun _ K733 => ?_)
                    obtain ⟨k772, hk773, hp⟩ := hp
                    refine ground_ ?_
                    refine join_ 2596069201104899549927654620659712 (fun lq w774 => ∃ (X775 : List Nat) (s771 : Bool), (lq = [(110, (.bool s771))]) ∧ (Evo [] w w774) ∧ (Old X775 w774) ∧ (Sub X X775) ∧ (Sl (rSl (rInt .i64)) X775 w774 ag1 cg2 g) ∧ (Sl (rInt .i64) X775 w774 ar95 cr96 r91) ∧ (k772 s771)) (fun Kj776 hJ777 => ?_) ?_
                    ·
                      refine reg_drawn (RB w718.heap.size []) 15 (by kernel_rfl) (fun w784 hd785 => ?_)
                      have e786 := Evo.of_drew hd785
                      have z787 : w784.heap.size = w718.heap.size := by rw [hd785]
                      clear hd785
                      have s789 := Step.of0 X719 e786
                      have er788 := RB.refl w718.heap.size [] w784
                      have E790 := (Evo.then0 E724 (Step.evo s789))
                      have hXo791 := (Old.step hXo725 s789)
                      have hS792 := (Sub.trans hS726 (Step.up s789))
                      have hg793 := (Sl.step hg727 s789)
                      have hr794 := (Sl.step hr728 s789)
                      refine r_take 0 (.int .i64 i182) (RB.pre _ _) rfl (by kernel_rfl) (fun _ _ _ h => hQ.panic _ _ _ _ _ h) (.inl ⟨rfl, fun wq hq => (by kernel_rfl)⟩) ?_
                      refine r_take 1 (.int .i64 k609) (RB.pre _ _) rfl (by kernel_rfl) (fun _ _ _ h => hQ.panic _ _ _ _ _ h) (.inl ⟨rfl, fun wq hq => (by kernel_rfl)⟩) ?_
                      by_cases h795 : i182 = k609
                      ·
                        replace hp := hp.1 h795
                        refine r_take 2 (.bool false) (RB.pre _ _) rfl (by kernel_rfl) (fun _ _ _ h => hQ.panic _ _ _ _ _ h) (.inl ⟨rfl, fun wq hq => (x_ndf (p := i182 = k609) (by kernel_rfl) h795)⟩) ?_
                        refine r_take 3 (.bool false) (RB.pre _ _) rfl (by kernel_rfl) (fun _ _ _ h => hQ.panic _ _ _ _ _ h) (.inl ⟨rfl, fun wq hq => (by kernel_rfl)⟩) ?_
                        refine r_take 4 undef (RB.pre _ _) rfl (by kernel_rfl) (fun _ _ _ h => hQ.panic _ _ _ _ _ h) (.inr ⟨by kernel_rfl, rfl⟩) ?_
                        refine r_take 5 undef (RB.pre _ _) rfl (by kernel_rfl) (fun _ _ _ h => hQ.panic _ _ _ _ _ h) (.inr ⟨by kernel_rfl, rfl⟩) ?_
                        refine r_take 6 undef (RB.pre _ _) rfl (by kernel_rfl) (fun _ _ _ h => hQ.panic _ _ _ _ _ h) (.inr ⟨by kernel_rfl, rfl⟩) ?_
                        refine r_take 7 undef (RB.pre _ _) rfl (by kernel_rfl) (fun _ _ _ h => hQ.panic _ _ _ _ _ h) (.inr ⟨by kernel_rfl, rfl⟩) ?_
                        refine r_take 8 undef (RB.pre _ _) rfl (by kernel_rfl) (fun _ _ _ h => hQ.panic _ _ _ _ _ h) (.inr ⟨by kernel_rfl, rfl⟩) ?_
                        refine r_take 9 undef (RB.pre _ _) rfl (by kernel_rfl) (fun _ _ _ h => hQ.panic _ _ _ _ _ h) (.inr ⟨by kernel_rfl, rfl⟩) ?_
                        refine r_take 10 undef (RB.pre _ _) rfl (by kernel_rfl) (fun _ _ _ h => hQ.panic _ _ _ _ _ h) (.inr ⟨by kernel_rfl, rfl⟩) ?_
                        refine r_take 11 undef (RB.pre _ _) rfl (by kernel_rfl) (fun _ _ _ h => hQ.panic _ _ _ _ _ h) (.inr ⟨by kernel_rfl, rfl⟩) ?_
                        refine r_take 12 undef (RB.pre _ _) rfl (by kernel_rfl) (fun _ _ _ h => hQ.panic _ _ _ _ _ h) (.inr ⟨by kernel_rfl, rfl⟩) ?_
                        refine r_take 13 undef (RB.pre _ _) rfl (by kernel_rfl) (fun _ _ _ h => hQ.panic _ _ _ _ _ h) (.inr ⟨by kernel_rfl, rfl⟩) ?_
                        refine r_take 14 (.bool false) (RB.pre _ _) rfl (by kernel_rfl) (fun _ _ _ h => hQ.panic _ _ _ _ _ h) (.inl ⟨rfl, fun wq hq => (by kernel_rfl)⟩) ?_
                        refine r_done (by kernel_rfl) ?_
                        refine then_normal (hJ777 _ _ _ ⟨[(110, (.bool false))], fit_mk (fun _ _ => rfl) (by kernel_rfl) (vs_cons (by kernel_rfl) vs_nil), ?_⟩)
                        exact ⟨X719, false, rfl, E790, hXo791, hS792, hg793, hr794, hp⟩
                      ·
                        replace hp := hp.2 h795
                        refine r_take 2 (.bool true) (RB.pre _ _) rfl (by kernel_rfl) (fun _ _ _ h => hQ.panic _ _ _ _ _ h) (.inl ⟨rfl, fun wq hq => (x_ndt (p := i182 = k609) (by kernel_rfl) h795)⟩) ?_
                        refine r_take 3 (.bool true) (RB.pre _ _) rfl (by kernel_rfl) (fun _ _ _ h => hQ.panic _ _ _ _ _ h) (.inl ⟨rfl, fun wq hq => (by kernel_rfl)⟩) ?_
                        refine r_take 4 (.slice ag1 g.length cg2) (RB.pre _ _) rfl (by kernel_rfl) (fun _ _ _ h => hQ.panic _ _ _ _ _ h) (.inl ⟨(by kernel_rfl), fun wq hq => (by kernel_rfl)⟩) ?_
                        refine r_take 5 (.slice ar95 r91.length cr96) (RB.pre _ _) rfl (by kernel_rfl) (fun _ _ _ h => hQ.panic _ _ _ _ _ h) (.inl ⟨(by kernel_rfl), fun wq hq => (by kernel_rfl)⟩) ?_
                        refine r_take 6 (.int .i64 i182) (RB.pre _ _) rfl (by kernel_rfl) (fun _ _ _ h => hQ.panic _ _ _ _ _ h) (.inl ⟨(by kernel_rfl), fun wq hq => (by kernel_rfl)⟩) ?_
                        obtain ⟨h796, hp⟩ := hp
                        obtain ⟨b797, o798, cs799, ha800, nx801, lt802, ok803, hc804⟩ := Sl.atI hr794 i182 h796
                        obtain ⟨rfl, re805⟩ := ok803
                        replace hp := hp re805
                        refine r_take 7 (.pointer (some ⟨b797, o798 + i182.toNat * 1, none⟩)) (RB.pre _ _) rfl (by kernel_rfl) (fun _ _ _ h => hQ.panic _ _ _ _ _ h) (.inl ⟨(by kernel_rfl), fun wq hq => (x_ixA (m := r91.length) (c := cr96) (k := .i64) (i := i182) Try.underlying61 Try.sizeOf3 (by rw [← ha800]; kernel_rfl) (by kernel_rfl) h796)⟩) ?_
                        refine r_take 8 (.int .i64 (lget r91 i182)) (RB.pre _ _) rfl (by kernel_rfl) (fun _ _ _ h => hQ.panic _ _ _ _ _ h) (.inl ⟨(by kernel_rfl), fun wq hq => (x_load1 (by kernel_rfl) Try.isAgg3 ((CellsAt.rb hc804 (RB.trans er788 hq) (Nat.lt_of_lt_of_eq lt802 z787) (fun h => by cases h)) 0 _ rfl))⟩) ?_
                        refine r_take 9 (.slice ar95 r91.length cr96) (RB.pre _ _) rfl (by kernel_rfl) (fun _ _ _ h => hQ.panic _ _ _ _ _ h) (.inl ⟨(by kernel_rfl), fun wq hq => (by kernel_rfl)⟩) ?_
                        refine r_take 10 (.int .i64 k609) (RB.pre _ _) rfl (by kernel_rfl) (fun _ _ _ h => hQ.panic _ _ _ _ _ h) (.inl ⟨(by kernel_rfl), fun wq hq => (by kernel_rfl)⟩) ?_
                        obtain ⟨h806, hp⟩ := hp
                        obtain ⟨b807, o808, cs809, ha810, nx811, lt812, ok813, hc814⟩ := Sl.atI hr794 k609 h806
                        obtain ⟨rfl, re815⟩ := ok813
                        replace hp := hp re815
                        refine r_take 11 (.pointer (some ⟨b807, o808 + k609.toNat * 1, none⟩)) (RB.pre _ _) rfl (by kernel_rfl) (fun _ _ _ h => hQ.panic _ _ _ _ _ h) (.inl ⟨(by kernel_rfl), fun wq hq => (x_ixA (m := r91.length) (c := cr96) (k := .i64) (i := k609) Try.underlying61 Try.sizeOf3 (by rw [← ha810]; kernel_rfl) (by kernel_rfl) h806)⟩) ?_
                        refine r_take 12 (.int .i64 (lget r91 k609)) (RB.pre _ _) rfl (by kernel_rfl) (fun _ _ _ h => hQ.panic _ _ _ _ _ h) (.inl ⟨(by kernel_rfl), fun wq hq => (x_load1 (by kernel_rfl) Try.isAgg3 ((CellsAt.rb hc814 (RB.trans er788 hq) (Nat.lt_of_lt_of_eq lt812 z787) (fun h => by cases h)) 0 _ rfl))⟩) ?_
                        refine r_ready [13] (by kernel_rfl) rfl (all_cons ⟨_, _, _, _, _, _, rfl, ?_⟩ all_nil)
                        refine o_call 39 #[(.slice ag1 g.length cg2), (.int .i64 (lget r91 i182)), (.int .i64 (lget r91 k609))] (by kernel_rfl) (x_call Try.call39 (by kernel_rfl)) (graph_Graph_Is_w (X := []) (g := g) (a := lget r91 i182) (c := lget r91 k609) (Old.nil _) (Sl.less hg793 (Sub.nil _)) re805 re815 hp) ?_
                        rintro _ w817 ⟨r816, hp, e818, rfl⟩
                        have rm := RB.mono (F' := []) e818 (Nat.le_trans (Nat.le_of_eq z787.symm) (RB.size er788)) (fun _ h => by cases h)
                        have er820 := RB.trans er788 rm
                        refine ⟨fun _ => rm, ?_⟩
                        have s819 := Step.of0 X719 e818
                        refine r_take 14 (.bool r816) (RB.pre _ _) rfl (by kernel_rfl) (fun _ _ _ h => hQ.panic _ _ _ _ _ h) (.inl ⟨rfl, fun wq hq => (by kernel_rfl)⟩) ?_
                        refine r_done (by kernel_rfl) ?_
                        have E821 := (Evo.then0 E790 e818)
                        have hXo822 := (Old.step hXo791 s819)
                        have hS823 := (Sub.trans hS792 (Step.up s819))
                        have hg824 := (Sl.step hg793 s819)
                        have hr825 := (Sl.step hr794 s819)
                        refine then_normal (hJ777 _ _ _ ⟨[(110, (.bool r816))], fit_mk (fun _ _ => rfl) (by kernel_rfl) (vs_cons (by kernel_rfl) vs_nil), ?_⟩)
                        exact ⟨X719, r816, rfl, E821, hXo822, hS823, hg824, hr825, hp⟩
                    ·
                      rintro _ w774 g826 ⟨X775, s771, rfl, E779, hXo780, hS781, hg782, hr783, hv778⟩
                      replace hp := hk773 s771 hv778
                      refine then_normal (K733 _ _ _ _ ?_)
                      refine cond_b s771 (by kernel_rfl) (fun h827 => ?_) (fun h827 => ?_)
                      ·
                        replace hp := hp.1 h827
                        refine seq_ (fun _ K828 => ?_)
                        refine reg_ ?_
                        refine sq (o_pv (.bool false) rfl (by kernel_rfl) ?_)
                        refine nil_ ?_
                        refine then_normal (K828 _ _ _ _ ?_)
                        refine wp_ret ?_
                        refine blk_ret ?_
                        refine then_ret ?_
                        refine then_ret ?_
                        refine blk_ret ?_
                        refine blk_ret ?_
                        refine then_ret ?_
                        refine then_ret ?_
                        refine blk_ret ?_
                        refine then_ret ?_
                        refine end_ret hQ (.bool false) (by kernel_rfl) ?_
                        exact ⟨false, hp, E779, rfl⟩
                      ·
                        replace hp := hp.2 h827
                        refine wp_skip ?_
                        refine blk_normal ?_
                        refine then_normal (K732 _ _ _ _ ?_)
                        refine reg_ ?_
                        refine sq (o_pv (.int .i64 k609) rfl (by kernel_rfl) ?_)
                        obtain ⟨h829, hp⟩ := hp
                        refine sq (o_pv (.int .i64 (k609 + (1 : Int))) rfl (x_add2 (k := .i64) (a := k609) (b := (1 : Int)) (k609 + (1 : Int)) (by kernel_rfl) (by kernel_rfl) (wrap_inR h829)) ?_)
                        refine sq (o_pv (.int .i64 (k609 + (1 : Int))) rfl (by kernel_rfl) ?_)
                        refine nil_ ?_
                        refine then_normal (hA723 _ _ _ ⟨_, [(9, (.int .i64 (k609 + (1 : Int))))], hp.2, fit_mk (AgB.nest (AgB.look (AgB.mix _ _ _) (by kernel_rfl)) (by kernel_rfl) (by kernel_rfl)) (by kernel_rfl) (vs_cons (by kernel_rfl) vs_nil), ?_⟩)
                        exact ⟨X775, (k609 + (1 : Int)), rfl, rfl, E779, hXo780, hS781, hg782, hr783, h829, hp.1⟩
                  ·
                    replace hp := hp.2 h731
                    refine wp_exit ?_
                    refine then_exit ?_
                    refine then_exit ?_
                    refine blk_exit ?_
                    refine blk_normal ?_
                    refine then_normal (K519 _ _ _ _ ?_)
                    refine reg_ ?_
                    refine sq (o_pv (.int .i64 i182) rfl (by kernel_rfl) ?_)
                    obtain ⟨h830, hp⟩ := hp
                    refine sq (o_pv (.int .i64 (i182 + (1 : Int))) rfl (x_add2 (k := .i64) (a := i182) (b := (1 : Int)) (i182 + (1 : Int)) (by kernel_rfl) (by kernel_rfl) (wrap_inR h830)) ?_)
                    refine sq (o_pv (.int .i64 (i182 + (1 : Int))) rfl (by kernel_rfl) ?_)
                    refine nil_ ?_
                    refine then_normal (hA510 _ _ _ ⟨_, [(8, (.int .i64 (i182 + (1 : Int))))], hp.2, fit_mk (AgB.nest (AgB.nest (AgB.look (AgB.mix _ _ _) (by kernel_rfl)) (by kernel_rfl) (by kernel_rfl)) (by kernel_rfl) (by kernel_rfl)) (by kernel_rfl) (vs_cons (by kernel_rfl) vs_nil), ?_⟩)
                    exact ⟨X719, (i182 + (1 : Int)), rfl, rfl, E724, hXo725, hS726, hg727, hr728, h830, hp.1⟩
            ·
              replace hp := hp.2 h518
              refine wp_exit ?_
              refine then_exit ?_
              refine then_exit ?_
              refine blk_exit ?_
              refine then_normal (K180 _ _ _ _ ?_)
              refine seq_ (fun _ K831 => ?_)
              refine reg_ ?_
              refine sq (o_pv (.slice ag1 g.length cg2) rfl (by kernel_rfl) ?_)
              refine sq (o_pv (.int .i64 a) rfl (by kernel_rfl) ?_)
              refine sq (o_rowX (R := (rInt .i64)) [(.int .i64 a)] [a] 3 1 (X := X506) (B := w.heap.size) E511.size rfl (by kernel_rfl) (Flat.cons (cs := [(.int .i64 a)]) (rInt_mk ra4) Flat.nil) rfl (by decide) ?_)
              intro b832 w833 X834 s835 O836 n837
              have hg838 := (Sl.step hg514 s835)
              have hS839 := (Sub.trans hS513 (Step.up s835))
              have hXo840 := (Old.step hXo512 s835)
              refine sq (o_call 37 #[(.slice ag1 g.length cg2), (.slice (some ⟨b832, 0, none⟩) ([a]).length 1)] rfl (x_call Try.call37 (by rw [← show 1 = ([a]).length from O836.1]; kernel_rfl)) (graph_Graph_Ancestors_w (X := X) (g := g) (c := [a]) (Old.less hXo840 hS839) (Sl.less hg838 hS839) (OS.out O836 hS839 hX0) hp) ?_)
              rintro _ w842 ⟨r841, hp, e843, ar845, cr846, rfl, hr847⟩
              have s844 := Step.of0 X834 e843
              replace hp := hp (Sl.len hr847)
              refine sq (o_pv (.slice ar845 r841.length cr846) rfl (by kernel_rfl) ?_)
              refine nil_ ?_
              refine then_normal (K831 _ _ _ _ ?_)
              refine seq_ (fun _ K848 => ?_)
              refine seq_ (fun _ K849 => ?_)
              refine reg_ ?_
              refine sq (o_pv (.int .i64 (0 : Int)) rfl (by kernel_rfl) ?_)
              refine nil_ ?_
              refine then_normal (K849 _ _ _ _ ?_)
              refine wp_block ?_
              have E1423 := (Evo.then0 (Evo.then0 E511 (Step.evo s835)) e843)
              have hXo1424 := (Old.step hXo840 s844)
              have hS1425 := (Sub.trans hS839 (Step.up s844))
              have hg1426 := (Sl.step hg838 s844)
              have hr1427 := (Sl.step (Sl.step hr515 s835) s844)
              have O1428 := (OS.step0 O836 s844)
              obtain ⟨I1413, m1414, hI1415, hp⟩ := hp
              refine loop_ 1427247692664421506190007348421251165749000256 (fun kq lq w1417 => ∃ (X1418 : List Nat) (i850 : Int), (lq = [(11, (.int .i64 i850))]) ∧ (kq = m1414 i850) ∧ (Evo [] w w1417) ∧ (Old X1418 w1417) ∧ (Sub X X1418) ∧ (Sl (rSl (rInt .i64)) X1418 w1417 ag1 cg2 g) ∧ (Sl (rInt .i64) X1418 w1417 ar95 cr96 r91) ∧ (Sl (rInt .i64) X w1417 ar845 cr846 r841) ∧ (inR .i64 i850) ∧ (I1413 i850)) (m1414 (0 : Int)) [(11, (.int .i64 (0 : Int)))] (vs_cons (by kernel_rfl) vs_nil) ⟨X834, (0 : Int), rfl, rfl, E1423, hXo1424, hS1425, hg1426, hr1427, hr847, (by decide), hI1415⟩ ?_
              rintro _ _ w1417 g1420 ⟨X1418, i850, rfl, rfl, E1429, hXo1430, hS1431, hg1432, hr1433, hr1434, ri851, hI1416⟩ Kl1421 hA1422
              replace hp := hp i850 hI1416 ri851
              refine seq_ (fun _ K1435 => ?_)
              refine seq_ (fun _ K1436 => ?_)
              refine reg_ ?_
              refine sq (o_pv (.int .i64 i850) rfl (by kernel_rfl) ?_)
              refine sq (o_pv (.slice ar845 r841.length cr846) rfl (by kernel_rfl) ?_)
              refine sq (o_pv (.int .i64 (r841.length : Int)) rfl (by kernel_rfl) ?_)
              refine sq (o_pv (.bool (decide (i850 < (r841.length : Int)))) rfl (by kernel_rfl) ?_)
              refine nil_ ?_
              refine then_normal (K1436 _ _ _ _ ?_)
              refine cond_d (i850 < (r841.length : Int)) (by kernel_rfl) (fun h1437 => ?_) (fun h1437 => ?_)
              ·
                replace hp := hp.1 h1437
                refine wp_skip ?_
                refine then_normal (K1435 _ _ _ _ ?_)
                refine seq_ (fun _ K1438 => ?_)
                obtain ⟨k1706, hk1707, hp⟩ := hp
                refine ground_ ?_
                refine join_ 1427247690047503889488454223641881015822069824 (fun lq w1708 => ∃ (X1709 : List Nat), (lq = []) ∧ (Evo [] w w1708) ∧ (Old X1709 w1708) ∧ (Sub X X1709) ∧ (Sl (rSl (rInt .i64)) X1709 w1708 ag1 cg2 g) ∧ (Sl (rInt .i64) X1709 w1708 ar95 cr96 r91) ∧ (Sl (rInt .i64) X w1708 ar845 cr846 r841) ∧ (k1706)) (fun Kj1710 hJ1711 => ?_) ?_
                ·
                  refine wp_block ?_
                  refine seq_ (fun _ K1719 => ?_)
                  refine seq_ (fun _ K1720 => ?_)
                  refine reg_ ?_
                  refine sq (o_pv (.slice ag1 g.length cg2) rfl (by kernel_rfl) ?_)
                  refine sq (o_pv (.slice ar845 r841.length cr846) rfl (by kernel_rfl) ?_)
                  refine sq (o_pv (.int .i64 i850) rfl (by kernel_rfl) ?_)
                  obtain ⟨h1721, hp⟩ := hp
                  obtain ⟨b1722, o1723, cs1724, ha1725, nx1726, lt1727, ok1728, hc1729⟩ := Sl.atI hr1434 i850 h1721
                  obtain ⟨rfl, re1730⟩ := ok1728
                  replace hp := hp re1730
                  refine sq (o_pv (.pointer (some ⟨b1722, o1723 + i850.toNat * 1, none⟩)) rfl (x_ixA (m := r841.length) (c := cr846) (k := .i64) (i := i850) Try.underlying61 Try.sizeOf3 (by rw [← ha1725]; kernel_rfl) (by kernel_rfl) h1721) ?_)
                  refine sq (o_pv (.int .i64 (lget r841 i850)) rfl (x_load1 (by kernel_rfl) Try.isAgg3 (hc1729 0 _ rfl)) ?_)
                  refine sq (o_pv (.int .i64 b) rfl (by kernel_rfl) ?_)
                  refine sq (o_call 39 #[(.slice ag1 g.length cg2), (.int .i64 (lget r841 i850)), (.int .i64 b)] rfl (x_call Try.call39 (by kernel_rfl)) (graph_Graph_Is_w (X := []) (g := g) (a := lget r841 i850) (c := b) (Old.nil _) (Sl.less hg1432 (Sub.nil _)) re1730 rb5 hp) ?_)
                  rintro _ w1732 ⟨r1731, hp, e1733, rfl⟩
                  have s1734 := Step.of0 X1418 e1733
                  refine sq (o_pv (.bool (!r1731)) rfl (by kernel_rfl) ?_)
                  refine nil_ ?_
                  refine then_normal (K1720 _ _ _ _ ?_)
                  refine cond_b (!r1731) (by kernel_rfl) (fun h1735 => ?_) (fun h1735 => ?_)
                  ·
                    replace hp := hp.1 h1735
                    refine wp_exit ?_
                    refine then_exit ?_
                    refine blk_exit ?_
                    have E1736 := (Evo.then0 E1429 e1733)
                    have hXo1737 := (Old.step hXo1430 s1734)
                    have hS1738 := (Sub.trans hS1431 (Step.up s1734))
                    have hg1739 := (Sl.step hg1432 s1734)
                    have hr1740 := (Sl.step hr1433 s1734)
                    have hr1741 := (Sl.evo0 hr1434 e1733)
                    refine then_normal (hJ1711 _ _ _ ⟨[], fit_mk (fun _ _ => rfl) (by kernel_rfl) vs_nil, ?_⟩)
                    exact ⟨X1418, rfl, E1736, hXo1737, hS1738, hg1739, hr1740, hr1741, hp⟩
                  ·
                    replace hp := hp.2 h1735
                    refine wp_skip ?_
                    refine then_normal (K1719 _ _ _ _ ?_)
                    refine seq_ (fun _ K1742 => ?_)
                    refine reg_ ?_
                    refine sq (o_pv (.bool false) rfl (by kernel_rfl) ?_)
                    refine nil_ ?_
                    refine then_normal (K1742 _ _ _ _ ?_)
                    refine seq_ (fun _ K1743 => ?_)
                    refine seq_ (fun _ K1744 => ?_)
                    refine reg_ ?_
                    refine sq (o_pv (.int .i64 (0 : Int)) rfl (by kernel_rfl) ?_)
                    refine nil_ ?_
                    refine then_normal (K1744 _ _ _ _ ?_)
                    refine wp_block ?_
                    have E1869 := (Evo.then0 E1429 e1733)
                    have hXo1870 := (Old.step hXo1430 s1734)
                    have hS1871 := (Sub.trans hS1431 (Step.up s1734))
                    have hg1872 := (Sl.step hg1432 s1734)
                    have hr1873 := (Sl.step hr1433 s1734)
                    have hr1874 := (Sl.evo0 hr1434 e1733)
                    obtain ⟨I1859, m1860, hI1861, hp⟩ := hp
                    refine loop_ 356811242611756128387644565613158920559276032 (fun kq lq w1863 => ∃ (X1864 : List Nat) (under1745 : Bool) (k1746 : Int), (lq = [(12, (.bool under1745)), (13, (.int .i64 k1746))]) ∧ (kq = m1860 under1745 k1746) ∧ (Evo [] w w1863) ∧ (Old X1864 w1863) ∧ (Sub X X1864) ∧ (Sl (rSl (rInt .i64)) X1864 w1863 ag1 cg2 g) ∧ (Sl (rInt .i64) X1864 w1863 ar95 cr96 r91) ∧ (Sl (rInt .i64) X w1863 ar845 cr846 r841) ∧ (inR .i64 k1746) ∧ (I1859 under1745 k1746)) (m1860 false (0 : Int)) [(12, (.bool false)), (13, (.int .i64 (0 : Int)))] (vs_cons (by kernel_rfl) (vs_cons (by kernel_rfl) vs_nil)) ⟨X1418, false, (0 : Int), rfl, rfl, E1869, hXo1870, hS1871, hg1872, hr1873, hr1874, (by decide), hI1861⟩ ?_
                    rintro _ _ w1863 g1866 ⟨X1864, under1745, k1746, rfl, rfl, E1875, hXo1876, hS1877, hg1878, hr1879, hr1880, rk1747, hI1862⟩ Kl1867 hA1868
                    replace hp := hp under1745 k1746 hI1862 rk1747
                    refine seq_ (fun _ K1881 => ?_)
                    refine seq_ (fun _ K1882 => ?_)
                    refine reg_ ?_
                    refine sq (o_pv (.int .i64 k1746) rfl (by kernel_rfl) ?_)
                    refine sq (o_pv (.slice ar95 r91.length cr96) rfl (by kernel_rfl) ?_)
                    refine sq (o_pv (.int .i64 (r91.length : Int)) rfl (by kernel_rfl) ?_)
                    refine sq (o_pv (.bool (decide (k1746 < (r91.length : Int)))) rfl (by kernel_rfl) ?_)
                    refine nil_ ?_
                    refine then_normal (K1882 _ _ _ _ ?_)
                    refine cond_d (k1746 < (r91.length : Int)) (by kernel_rfl) (fun h1883 => ?_) (fun h1883 => ?_)
                    ·
                      replace hp := hp.1 h1883
                      refine wp_skip ?_
                      refine then_normal (K1881 _ _ _ _ ?_)
                      refine seq_ (fun _ K1884 => ?_)
                      obtain ⟨k1924, hk1925, hp⟩ := hp
                      refine ground_ ?_
                      refine join_ 356768367033524090141248180412622517764624384 (fun lq w1926 => ∃ (X1927 : List Nat) (under1923 : Bool), (lq = [(12, (.bool under1923))]) ∧ (Evo [] w w1926) ∧ (Old X1927 w1926) ∧ (Sub X X1927) ∧ (Sl (rSl (rInt .i64)) X1927 w1926 ag1 cg2 g) ∧ (Sl (rInt .i64) X1927 w1926 ar95 cr96 r91) ∧ (Sl (rInt .i64) X w1926 ar845 cr846 r841) ∧ (k1924 under1923)) (fun Kj1928 hJ1929 => ?_) ?_
                      ·
                        refine wp_block ?_
                        refine reg_drawn (RB w1863.heap.size []) 13 (by kernel_rfl) (fun w1937 hd1938 => ?_)
                        have e1939 := Evo.of_drew hd1938
                        have z1940 : w1937.heap.size = w1863.heap.size := by rw [hd1938]
                        clear hd1938
                        have s1942 := Step.of0 X1864 e1939
                        have er1941 := RB.refl w1863.heap.size [] w1937
                        have E1943 := (Evo.then0 E1875 (Step.evo s1942))
                        have hXo1944 := (Old.step hXo1876 s1942)
                        have hS1945 := (Sub.trans hS1877 (Step.up s1942))
                        have hg1946 := (Sl.step hg1878 s1942)
                        have hr1947 := (Sl.step hr1879 s1942)
                        have hr1948 := (Sl.evo0 hr1880 (Step.evo s1942))
                        by_cases h1949 : under1745 = true
                        ·
                          replace hp := hp.1 h1949
                          refine r_take 0 (.bool true) (RB.pre _ _) rfl (by kernel_rfl) (fun _ _ _ h => hQ.panic _ _ _ _ _ h) (.inl ⟨rfl, fun wq hq => (x_bt (by kernel_rfl) h1949)⟩) ?_
                          refine r_take 1 (.bool true) (RB.pre _ _) rfl (by kernel_rfl) (fun _ _ _ h => hQ.panic _ _ _ _ _ h) (.inl ⟨rfl, fun wq hq => (by kernel_rfl)⟩) ?_
                          refine r_take 2 undef (RB.pre _ _) rfl (by kernel_rfl) (fun _ _ _ h => hQ.panic _ _ _ _ _ h) (.inr ⟨by kernel_rfl, rfl⟩) ?_
                          refine r_take 3 undef (RB.pre _ _) rfl (by kernel_rfl) (fun _ _ _ h => hQ.panic _ _ _ _ _ h) (.inr ⟨by kernel_rfl, rfl⟩) ?_
                          refine r_take 4 undef (RB.pre _ _) rfl (by kernel_rfl) (fun _ _ _ h => hQ.panic _ _ _ _ _ h) (.inr ⟨by kernel_rfl, rfl⟩) ?_
                          refine r_take 5 undef (RB.pre _ _) rfl (by kernel_rfl) (fun _ _ _ h => hQ.panic _ _ _ _ _ h) (.inr ⟨by kernel_rfl, rfl⟩) ?_
                          refine r_take 6 undef (RB.pre _ _) rfl (by kernel_rfl) (fun _ _ _ h => hQ.panic _ _ _ _ _ h) (.inr ⟨by kernel_rfl, rfl⟩) ?_
                          refine r_take 7 undef (RB.pre _ _) rfl (by kernel_rfl) (fun _ _ _ h => hQ.panic _ _ _ _ _ h) (.inr ⟨by kernel_rfl, rfl⟩) ?_
                          refine r_take 8 undef (RB.pre _ _) rfl (by kernel_rfl) (fun _ _ _ h => hQ.panic _ _ _ _ _ h) (.inr ⟨by kernel_rfl, rfl⟩) ?_
                          refine r_take 9 undef (RB.pre _ _) rfl (by kernel_rfl) (fun _ _ _ h => hQ.panic _ _ _ _ _ h) (.inr ⟨by kernel_rfl, rfl⟩) ?_
                          refine r_take 10 undef (RB.pre _ _) rfl (by kernel_rfl) (fun _ _ _ h => hQ.panic _ _ _ _ _ h) (.inr ⟨by kernel_rfl, rfl⟩) ?_
                          refine r_take 11 undef (RB.pre _ _) rfl (by kernel_rfl) (fun _ _ _ h => hQ.panic _ _ _ _ _ h) (.inr ⟨by kernel_rfl, rfl⟩) ?_
                          refine r_take 12 (.bool true) (RB.pre _ _) rfl (by kernel_rfl) (fun _ _ _ h => hQ.panic _ _ _ _ _ h) (.inl ⟨rfl, fun wq hq => (by kernel_rfl)⟩) ?_
                          refine r_ready [13] (by kernel_rfl) rfl (all_cons ⟨_, _, _, _, _, _, rfl, ?_⟩ all_nil)
                          refine o_pv (.bool true) rfl (by kernel_rfl) ?_
                          refine ⟨fun h => absurd h (by decide), ?_⟩
                          refine r_done (by kernel_rfl) ?_
                          refine blk_normal ?_
                          refine then_normal (hJ1929 _ _ _ ⟨[(12, (.bool true))], fit_mk (fun _ _ => rfl) (by kernel_rfl) (vs_cons (by kernel_rfl) vs_nil), ?_⟩)
                          exact ⟨X1864, true, rfl, E1943, hXo1944, hS1945, hg1946, hr1947, hr1948, hp⟩
                        ·
                          replace hp := hp.2 h1949
                          refine r_take 0 (.bool false) (RB.pre _ _) rfl (by kernel_rfl) (fun _ _ _ h => hQ.panic _ _ _ _ _ h) (.inl ⟨rfl, fun wq hq => (x_bf (by kernel_rfl) h1949)⟩) ?_
                          refine r_take 1 (.bool false) (RB.pre _ _) rfl (by kernel_rfl) (fun _ _ _ h => hQ.panic _ _ _ _ _ h) (.inl ⟨rfl, fun wq hq => (by kernel_rfl)⟩) ?_
                          refine r_take 2 (.slice ag1 g.length cg2) (RB.pre _ _) rfl (by kernel_rfl) (fun _ _ _ h => hQ.panic _ _ _ _ _ h) (.inl ⟨(by kernel_rfl), fun wq hq => (by kernel_rfl)⟩) ?_
                          refine r_take 3 (.slice ar845 r841.length cr846) (RB.pre _ _) rfl (by kernel_rfl) (fun _ _ _ h => hQ.panic _ _ _ _ _ h) (.inl ⟨(by kernel_rfl), fun wq hq => (by kernel_rfl)⟩) ?_
                          refine r_take 4 (.int .i64 i850) (RB.pre _ _) rfl (by kernel_rfl) (fun _ _ _ h => hQ.panic _ _ _ _ _ h) (.inl ⟨(by kernel_rfl), fun wq hq => (by kernel_rfl)⟩) ?_
                          obtain ⟨h1950, hp⟩ := hp
                          obtain ⟨b1951, o1952, cs1953, ha1954, nx1955, lt1956, ok1957, hc1958⟩ := Sl.atI hr1948 i850 h1950
                          obtain ⟨rfl, re1959⟩ := ok1957
                          replace hp := hp re1959
                          refine r_take 5 (.pointer (some ⟨b1951, o1952 + i850.toNat * 1, none⟩)) (RB.pre _ _) rfl (by kernel_rfl) (fun _ _ _ h => hQ.panic _ _ _ _ _ h) (.inl ⟨(by kernel_rfl), fun wq hq => (x_ixA (m := r841.length) (c := cr846) (k := .i64) (i := i850) Try.underlying61 Try.sizeOf3 (by rw [← ha1954]; kernel_rfl) (by kernel_rfl) h1950)⟩) ?_
                          refine r_take 6 (.int .i64 (lget r841 i850)) (RB.pre _ _) rfl (by kernel_rfl) (fun _ _ _ h => hQ.panic _ _ _ _ _ h) (.inl ⟨(by kernel_rfl), fun wq hq => (x_load1 (by kernel_rfl) Try.isAgg3 ((CellsAt.rb hc1958 (RB.trans er1941 hq) (Nat.lt_of_lt_of_eq lt1956 z1940) (fun h => by cases h)) 0 _ rfl))⟩) ?_
                          refine r_take 7 (.slice ar95 r91.length cr96) (RB.pre _ _) rfl (by kernel_rfl) (fun _ _ _ h => hQ.panic _ _ _ _ _ h) (.inl ⟨(by kernel_rfl), fun wq hq => (by kernel_rfl)⟩) ?_
                          refine r_take 8 (.int .i64 k1746) (RB.pre _ _) rfl (by kernel_rfl) (fun _ _ _ h => hQ.panic _ _ _ _ _ h) (.inl ⟨(by kernel_rfl), fun wq hq => (by kernel_rfl)⟩) ?_
                          obtain ⟨h1960, hp⟩ := hp
                          obtain ⟨b1961, o1962, cs1963, ha1964, nx1965, lt1966, ok1967, hc1968⟩ := Sl.atI hr1947 k1746 h1960
                          obtain ⟨rfl, re1969⟩ := ok1967
                          replace hp := hp re1969
                          refine r_take 9 (.pointer (some ⟨b1961, o1962 + k1746.toNat * 1, none⟩)) (RB.pre _ _) rfl (by kernel_rfl) (fun _ _ _ h => hQ.panic _ _ _ _ _ h) (.inl ⟨(by kernel_rfl), fun wq hq => (x_ixA (m := r91.length) (c := cr96) (k := .i64) (i := k1746) Try.underlying61 Try.sizeOf3 (by rw [← ha1964]; kernel_rfl) (by kernel_rfl) h1960)⟩) ?_
                          refine r_take 10 (.int .i64 (lget r91 k1746)) (RB.pre _ _) rfl (by kernel_rfl) (fun _ _ _ h => hQ.panic _ _ _ _ _ h) (.inl ⟨(by kernel_rfl), fun wq hq => (x_load1 (by kernel_rfl) Try.isAgg3 ((CellsAt.rb hc1968 (RB.trans er1941 hq) (Nat.lt_of_lt_of_eq lt1966 z1940) (fun h => by cases h)) 0 _ rfl))⟩) ?_
                          refine r_ready [11] (by kernel_rfl) rfl (all_cons ⟨_, _, _, _, _, _, rfl, ?_⟩ all_nil)
                          refine o_call 39 #[(.slice ag1 g.length cg2), (.int .i64 (lget r841 i850)), (.int .i64 (lget r91 k1746))] (by kernel_rfl) (x_call Try.call39 (by kernel_rfl)) (graph_Graph_Is_w (X := []) (g := g) (a := lget r841 i850) (c := lget r91 k1746) (Old.nil _) (Sl.less hg1946 (Sub.nil _)) re1959 re1969 hp) ?_
                          rintro _ w1971 ⟨r1970, hp, e1972, rfl⟩
                          have rm := RB.mono (F' := []) e1972 (Nat.le_trans (Nat.le_of_eq z1940.symm) (RB.size er1941)) (fun _ h => by cases h)
                          have er1974 := RB.trans er1941 rm
                          refine ⟨fun _ => rm, ?_⟩
                          have s1973 := Step.of0 X1864 e1972
                          cases r1970
                          ·
                            replace hp := hp.2 rfl
                            refine r_take 12 (.bool false) (RB.pre _ _) rfl (by kernel_rfl) (fun _ _ _ h => hQ.panic _ _ _ _ _ h) (.inl ⟨rfl, fun wq hq => (by kernel_rfl)⟩) ?_
                            refine r_ready [13] (by kernel_rfl) rfl (all_cons ⟨_, _, _, _, _, _, rfl, ?_⟩ all_nil)
                            refine o_pv (.bool false) rfl (by kernel_rfl) ?_
                            refine ⟨fun h => absurd h (by decide), ?_⟩
                            refine r_done (by kernel_rfl) ?_
                            refine blk_normal ?_
                            have E1975 := (Evo.then0 E1943 e1972)
                            have hXo1976 := (Old.step hXo1944 s1973)
                            have hS1977 := (Sub.trans hS1945 (Step.up s1973))
                            have hg1978 := (Sl.step hg1946 s1973)
                            have hr1979 := (Sl.step hr1947 s1973)
                            have hr1980 := (Sl.evo0 hr1948 e1972)
                            refine then_normal (hJ1929 _ _ _ ⟨[(12, (.bool false))], fit_mk (fun _ _ => rfl) (by kernel_rfl) (vs_cons (by kernel_rfl) vs_nil), ?_⟩)
                            exact ⟨X1864, false, rfl, E1975, hXo1976, hS1977, hg1978, hr1979, hr1980, hp⟩
                          ·
                            replace hp := hp.1 rfl
                            refine r_take 12 (.bool true) (RB.pre _ _) rfl (by kernel_rfl) (fun _ _ _ h => hQ.panic _ _ _ _ _ h) (.inl ⟨rfl, fun wq hq => (by kernel_rfl)⟩) ?_
                            refine r_ready [13] (by kernel_rfl) rfl (all_cons ⟨_, _, _, _, _, _, rfl, ?_⟩ all_nil)
                            refine o_pv (.bool true) rfl (by kernel_rfl) ?_
                            refine ⟨fun h => absurd h (by decide), ?_⟩
                            refine r_done (by kernel_rfl) ?_
                            refine blk_normal ?_
                            have E1981 := (Evo.then0 E1943 e1972)
                            have hXo1982 := (Old.step hXo1944 s1973)
                            have hS1983 := (Sub.trans hS1945 (Step.up s1973))
                            have hg1984 := (Sl.step hg1946 s1973)
                            have hr1985 := (Sl.step hr1947 s1973)
                            have hr1986 := (Sl.evo0 hr1948 e1972)
                            refine then_normal (hJ1929 _ _ _ ⟨[(12, (.bool true))], fit_mk (fun _ _ => rfl) (by kernel_rfl) (vs_cons (by kernel_rfl) vs_nil), ?_⟩)
                            exact ⟨X1864, true, rfl, E1981, hXo1982, hS1983, hg1984, hr1985, hr1986, hp⟩
                      ·
                        rintro _ w1926 g1987 ⟨X1927, under1923, rfl, E1931, hXo1932, hS1933, hg1934, hr1935, hr1936, hv1930⟩
                        replace hp := hk1925 under1923 hv1930
                        refine then_normal (K1884 _ _ _ _ ?_)
                        refine reg_ ?_
                        refine sq (o_pv (.int .i64 k1746) rfl (by kernel_rfl) ?_)
                        obtain ⟨h1988, hp⟩ := hp
                        refine sq (o_pv (.int .i64 (k1746 + (1 : Int))) rfl (x_add2 (k := .i64) (a := k1746) (b := (1 : Int)) (k1746 + (1 : Int)) (by kernel_rfl) (by kernel_rfl) (wrap_inR h1988)) ?_)
                        refine sq (o_pv (.int .i64 (k1746 + (1 : Int))) rfl (by kernel_rfl) ?_)
                        refine nil_ ?_
                        refine then_normal (hA1868 _ _ _ ⟨_, [(12, (.bool under1923)), (13, (.int .i64 (k1746 + (1 : Int))))], hp.2, fit_mk (AgB.nest (AgB.look (AgB.mix _ _ _) (by kernel_rfl)) (by kernel_rfl) (by kernel_rfl)) (by kernel_rfl) (vs_cons (by kernel_rfl) (vs_cons (by kernel_rfl) vs_nil)), ?_⟩)
                        exact ⟨X1927, under1923, (k1746 + (1 : Int)), rfl, rfl, E1931, hXo1932, hS1933, hg1934, hr1935, hr1936, h1988, hp.1⟩
                    ·
                      replace hp := hp.2 h1883
                      refine wp_exit ?_
                      refine then_exit ?_
                      refine then_exit ?_
                      refine blk_exit ?_
                      refine then_normal (K1743 _ _ _ _ ?_)
                      refine seq_ (fun _ K1989 => ?_)
                      refine reg_ ?_
                      refine sq (o_pv (.bool under1745) rfl (by kernel_rfl) ?_)
                      refine sq (o_pv (.bool (!under1745)) rfl (by kernel_rfl) ?_)
                      refine nil_ ?_
                      refine then_normal (K1989 _ _ _ _ ?_)
                      refine cond_b (!under1745) (by kernel_rfl) (fun h1990 => ?_) (fun h1990 => ?_)
                      ·
                        replace hp := hp.1 h1990
                        refine seq_ (fun _ K1991 => ?_)
                        refine reg_ ?_
                        refine sq (o_pv (.bool false) rfl (by kernel_rfl) ?_)
                        refine nil_ ?_
                        refine then_normal (K1991 _ _ _ _ ?_)
                        refine wp_ret ?_
                        refine blk_ret ?_
                        refine then_ret ?_
                        refine then_ret ?_
                        refine then_ret ?_
                        refine blk_ret ?_
                        refine then_ret ?_
                        refine end_ret hQ (.bool false) (by kernel_rfl) ?_
                        exact ⟨false, hp, E1875, rfl⟩
                      ·
                        replace hp := hp.2 h1990
                        refine wp_skip ?_
                        refine blk_normal ?_
                        refine then_normal (hJ1711 _ _ _ ⟨[], fit_mk (AgB.nest (fun _ _ => rfl) (by kernel_rfl) (by kernel_rfl)) (by kernel_rfl) vs_nil, ?_⟩)
                        exact ⟨X1864, rfl, E1875, hXo1876, hS1877, hg1878, hr1879, hr1880, hp⟩
                ·
                  rintro _ w1708 g1992 ⟨X1709, rfl, E1713, hXo1714, hS1715, hg1716, hr1717, hr1718, hv1712⟩
                  replace hp := hk1707 hv1712
                  refine then_normal (K1438 _ _ _ _ ?_)
                  refine reg_ ?_
                  refine sq (o_pv (.int .i64 i850) rfl (by kernel_rfl) ?_)
                  obtain ⟨h1993, hp⟩ := hp
                  refine sq (o_pv (.int .i64 (i850 + (1 : Int))) rfl (x_add2 (k := .i64) (a := i850) (b := (1 : Int)) (i850 + (1 : Int)) (by kernel_rfl) (by kernel_rfl) (wrap_inR h1993)) ?_)
                  refine sq (o_pv (.int .i64 (i850 + (1 : Int))) rfl (by kernel_rfl) ?_)
                  refine nil_ ?_
                  refine then_normal (hA1422 _ _ _ ⟨_, [(11, (.int .i64 (i850 + (1 : Int))))], hp.2, fit_mk (AgB.nest (AgB.look (AgB.mix _ _ _) (by kernel_rfl)) (by kernel_rfl) (by kernel_rfl)) (by kernel_rfl) (vs_cons (by kernel_rfl) vs_nil), ?_⟩)
                  exact ⟨X1709, (i850 + (1 : Int)), rfl, rfl, E1713, hXo1714, hS1715, hg1716, hr1717, hr1718, h1993, hp.1⟩
              ·
                replace hp := hp.2 h1437
                refine wp_exit ?_
                refine then_exit ?_
                refine then_exit ?_
                refine blk_exit ?_
                refine then_normal (K848 _ _ _ _ ?_)
                refine seq_ (fun _ K1994 => ?_)
                obtain ⟨k2007, hk2008, hp⟩ := hp
                refine ground_ ?_
                refine join_ 374142991909018441100262258889399003536782348255296 (fun lq w2009 => ∃ (X2010 : List Nat) (s2006 : Bool), (lq = [(6, (.bool s2006))]) ∧ (Evo [] w w2009) ∧ (Old X2010 w2009) ∧ (Sub X X2010) ∧ (k2007 s2006)) (fun Kj2011 hJ2012 => ?_) ?_
                ·
                  refine reg_ ?_
                  refine sq (o_pv (.slice ag1 g.length cg2) rfl (by kernel_rfl) ?_)
                  refine sq (o_pv (.int .i64 a) rfl (by kernel_rfl) ?_)
                  refine sq (o_pv (.int .i64 b) rfl (by kernel_rfl) ?_)
                  refine sq (o_call 39 #[(.slice ag1 g.length cg2), (.int .i64 a), (.int .i64 b)] rfl (x_call Try.call39 (by kernel_rfl)) (graph_Graph_Is_w (X := []) (g := g) (a := a) (c := b) (Old.nil _) (Sl.less hg1432 (Sub.nil _)) ra4 rb5 hp) ?_)
                  rintro _ w2018 ⟨r2017, hp, e2019, rfl⟩
                  have s2020 := Step.of0 X1418 e2019
                  cases r2017
                  ·
                    replace hp := hp.2 rfl
                    refine sq (o_pv (.bool true) rfl (by kernel_rfl) ?_)
                    refine sq (o_pv (.bool true) rfl (by kernel_rfl) ?_)
                    refine sq (o_not (by kernel_rfl) ?_)
                    refine sq (o_not (by kernel_rfl) ?_)
                    refine sq (o_not (by kernel_rfl) ?_)
                    refine sq (o_not (by kernel_rfl) ?_)
                    refine sq (o_not (by kernel_rfl) ?_)
                    refine sq (o_not (by kernel_rfl) ?_)
                    refine sq (o_not (by kernel_rfl) ?_)
                    refine sq (o_not (by kernel_rfl) ?_)
                    refine sq (o_not (by kernel_rfl) ?_)
                    refine sq (o_not (by kernel_rfl) ?_)
                    refine sq (o_not (by kernel_rfl) ?_)
                    refine sq (o_pv (.bool true) rfl (by kernel_rfl) ?_)
                    refine sq (o_pv (.bool true) rfl (by kernel_rfl) ?_)
                    refine nil_ ?_
                    have E2021 := (Evo.then0 E1429 e2019)
                    have hXo2022 := (Old.step hXo1430 s2020)
                    have hS2023 := (Sub.trans hS1431 (Step.up s2020))
                    refine then_normal (hJ2012 _ _ _ ⟨[(6, (.bool true))], fit_mk (fun _ _ => rfl) (by kernel_rfl) (vs_cons (by kernel_rfl) vs_nil), ?_⟩)
                    exact ⟨X1418, true, rfl, E2021, hXo2022, hS2023, hp⟩
                  ·
                    replace hp := hp.1 rfl
                    refine sq (o_pv (.bool false) rfl (by kernel_rfl) ?_)
                    refine sq (o_pv (.bool false) rfl (by kernel_rfl) ?_)
                    refine sq (o_pv (.slice ag1 g.length cg2) (by kernel_rfl) (by kernel_rfl) ?_)
                    refine sq (o_pv (.int .i64 a) (by kernel_rfl) (by kernel_rfl) ?_)
                    refine sq (o_pv (.int .i64 b) (by kernel_rfl) (by kernel_rfl) ?_)
                    have hg2024 := (Sl.step hg1432 s2020)
                    refine sq (o_call 41 #[(.slice ag1 g.length cg2), (.int .i64 a), (.int .i64 b)] (by kernel_rfl) (x_call Try.call41 (by kernel_rfl)) (graph_Graph_Base_w (X := []) (g := g) (a := a) (b := b) (Old.nil _) (Sl.less hg2024 (Sub.nil _)) ra4 rb5 hp) ?_)
                    rintro _ w2026 ⟨r2025, hp, e2027, rfl, rr2029⟩
                    have s2028 := Step.of0 X1418 e2027
                    replace hp := hp rr2029
                    refine sq (o_pv (.int .i64 a) (by kernel_rfl) (by kernel_rfl) ?_)
                    by_cases h2030 : r2025 = a
                    ·
                      replace hp := hp.1 h2030
                      refine sq (o_pv (.bool true) (by kernel_rfl) (x_dt (p := r2025 = a) (by kernel_rfl) h2030) ?_)
                      refine sq (o_pv (.bool true) (by kernel_rfl) (by kernel_rfl) ?_)
                      refine sq (o_pv (.slice ar95 r91.length cr96) (by kernel_rfl) (by kernel_rfl) ?_)
                      refine sq (o_pv (.int .i64 (r91.length : Int)) (by kernel_rfl) (by kernel_rfl) ?_)
                      refine sq (o_pv (.bool (decide ((r91.length : Int) = (1 : Int)))) (by kernel_rfl) (by kernel_rfl) ?_)
                      refine sq (o_pv (.bool (decide ((r91.length : Int) = (1 : Int)))) (by kernel_rfl) (by kernel_rfl) ?_)
                      refine sq (o_pv (.bool (decide ((r91.length : Int) = (1 : Int)))) rfl (by kernel_rfl) ?_)
                      refine sq (o_pv (.bool (decide ((r91.length : Int) = (1 : Int)))) rfl (by kernel_rfl) ?_)
                      refine nil_ ?_
                      have E2031 := (Evo.then0 (Evo.then0 E1429 e2019) e2027)
                      have hXo2032 := (Old.step (Old.step hXo1430 s2020) s2028)
                      have hS2033 := (Sub.trans (Sub.trans hS1431 (Step.up s2020)) (Step.up s2028))
                      refine then_normal (hJ2012 _ _ _ ⟨[(6, (.bool (decide ((r91.length : Int) = (1 : Int)))))], fit_mk (fun _ _ => rfl) (by kernel_rfl) (vs_cons (by kernel_rfl) vs_nil), ?_⟩)
                      exact ⟨X1418, (decide ((r91.length : Int) = (1 : Int))), rfl, E2031, hXo2032, hS2033, hp⟩
                    ·
                      replace hp := hp.2 h2030
                      refine sq (o_pv (.bool false) (by kernel_rfl) (x_df (p := r2025 = a) (by kernel_rfl) h2030) ?_)
                      refine sq (o_pv (.bool false) (by kernel_rfl) (by kernel_rfl) ?_)
                      refine sq (o_not (by kernel_rfl) ?_)
                      refine sq (o_not (by kernel_rfl) ?_)
                      refine sq (o_not (by kernel_rfl) ?_)
                      refine sq (o_pv (.bool false) (by kernel_rfl) (by kernel_rfl) ?_)
                      refine sq (o_pv (.bool false) rfl (by kernel_rfl) ?_)
                      refine sq (o_pv (.bool false) rfl (by kernel_rfl) ?_)
                      refine nil_ ?_
                      have E2034 := (Evo.then0 (Evo.then0 E1429 e2019) e2027)
                      have hXo2035 := (Old.step (Old.step hXo1430 s2020) s2028)
                      have hS2036 := (Sub.trans (Sub.trans hS1431 (Step.up s2020)) (Step.up s2028))
                      refine then_normal (hJ2012 _ _ _ ⟨[(6, (.bool false))], fit_mk (fun _ _ => rfl) (by kernel_rfl) (vs_cons (by kernel_rfl) vs_nil), ?_⟩)
                      exact ⟨X1418, false, rfl, E2034, hXo2035, hS2036, hp⟩
                ·
                  rintro _ w2009 g2037 ⟨X2010, s2006, rfl, E2014, hXo2015, hS2016, hv2013⟩
                  replace hp := hk2008 s2006 hv2013
                  refine then_normal (K1994 _ _ _ _ ?_)
                  refine wp_ret ?_
                  refine end_ret hQ (.bool s2006) (by kernel_rfl) ?_
                  exact ⟨s2006, hp, E2014, rfl⟩

end Go.Proofs.Ytmepomdpjlbaaaa
