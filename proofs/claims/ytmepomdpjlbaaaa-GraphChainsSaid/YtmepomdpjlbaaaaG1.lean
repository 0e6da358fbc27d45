/- Walks of functions: what each asks and computes, as a plain predicate, and the contract from it. -/
import Derived.Test.YtmepomdpjlbaaaaChecked
import Derived.Test.YtmepomdpjlbaaaaAux
namespace Go.Proofs.Ytmepomdpjlbaaaa
open Go

theorem elT61 : ElemT Try.prog 61 3 1 8 := elemT_mk (i := Try.t3) (z := (.int .i64 0)) (by kernel_rfl) (by kernel_rfl) (by kernel_rfl) (by kernel_rfl) Try.underlying61 Try.sizeOf3 (by decide) (by decide)
def slices_Clone_int_int_p (s : (List Int)) (Q : (List Int) → Prop) : Prop :=
  ((s.length ≤ 9223372036854775807) → ((s.length * 8 ≤ 140737488355328) ∧ Q s))
set_option maxRecDepth 20000 in
set_option maxHeartbeats 4000000 in
theorem slices_Clone_int_int_w {X : List Nat} {w : World} {s : (List Int)} {as1 : Option Addr} {cs2 : Nat} {Q : (List Int) → Prop} (hX0 : Old X w) (hs3 : Sl (rInt .i64) X w as1 cs2 s) (hp : slices_Clone_int_int_p s Q) :
    Calls Try.prog 100 #[(.slice as1 s.length cs2)] w (Ret fun v w' => ∃ (r0 : (List Int)), Q r0 ∧ Evo [] w w' ∧ ∃ (a0 : Option Addr) (c0 : Nat), v = .slice a0 r0.length c0 ∧ OS (rInt .i64) [] w.heap.size (blkL a0 ++ X) w' 3 a0 r0.length c0 r0) := by
  have hXo := hX0
  have E0 : Evo [] w w := RB.refl _ _ _
  have hS : Sub X X := Sub.refl _
  unfold slices_Clone_int_int_p at hp
  refine enter_ Try.func100 rfl 8 [(0, (.slice as1 s.length cs2))] (by kernel_rfl) (fun Qe hQ => ?_)
  replace hp := hp (Sl.len hs3)
  refine seq_ (fun _ K4 => ?_)
  refine reg_ ?_
  refine sq (o_pv (.slice none 0 0) rfl (by kernel_rfl) ?_)
  refine nil_ ?_
  refine then_normal (K4 _ _ _ _ ?_)
  refine seq_ (fun _ K5 => ?_)
  refine seq_ (fun _ K6 => ?_)
  refine reg_ ?_
  refine sq (o_pv (.slice as1 s.length cs2) rfl (by kernel_rfl) ?_)
  rcases as1 with _ | ad
  ·
    obtain rfl : s = [] := hs3.2.2.elim (fun h => h.1) (fun ⟨b, o, xs, h, _⟩ => by cases h)
    replace hp := hp.2
    refine sq (o_pv (.bool true) rfl (by kernel_rfl) ?_)
    refine nil_ ?_
    refine then_normal (K6 _ _ _ _ ?_)
    refine cond_t (by kernel_rfl) ?_
    refine seq_ (fun _ K7 => ?_)
    refine reg_ ?_
    refine sq (o_pv (.slice none 0 0) rfl (by kernel_rfl) ?_)
    refine nil_ ?_
    refine then_normal (K7 _ _ _ _ ?_)
    refine wp_ret ?_
    refine then_ret ?_
    refine end_ret hQ (.slice none 0 0) (by kernel_rfl) ?_
    exact ⟨([] : List Int), hp, E0, none, 0, rfl, (OS.nil _ _ _ _)⟩
  ·
    refine sq (o_pv (.bool false) rfl (by kernel_rfl) ?_)
    refine nil_ ?_
    refine then_normal (K6 _ _ _ _ ?_)
    refine cond_f (by kernel_rfl) ?_
    refine wp_skip ?_
    refine then_normal (K5 _ _ _ _ ?_)
    refine seq_ (fun _ K8 => ?_)
    refine reg_ ?_
    refine sq (o_rowX (R := (rInt .i64)) [] ([] : List Int) 3 0 (X := X) (B := w.heap.size) E0.size rfl (by kernel_rfl) Flat.nil rfl (by decide) ?_)
    intro b9 w10 X11 s12 O13 n14
    refine sq (o_pv (.slice (some ad) s.length cs2) rfl (by kernel_rfl) ?_)
    obtain ⟨h15, hp⟩ := hp
    have hs16 := (Sl.step hs3 s12)
    have E17 := (Evo.then0 E0 (Step.evo s12))
    refine sq (o_appX (R := (rInt .i64)) (X := X11) (B := w.heap.size) (L := ([] : List Int)) (M := s) rfl elT61 rfl E17.size O13 (Sl.src hs16) rfl (by kernel_rfl) (by kernel_rfl) (by simpa using h15) ?_)
    intro a18 n19 c20 w21 X22 s23 O24 gr25
    rw [List.nil_append] at O24
    refine sq (o_pv (.slice a18 n19 c20) rfl (by kernel_rfl) ?_)
    refine nil_ ?_
    refine then_normal (K8 _ _ _ _ ?_)
    refine wp_ret ?_
    have hS26 := (Sub.trans (Sub.trans hS (Step.up s12)) (Step.up s23))
    have E27 := (Evo.thenW E17 (Step.evo s23) O13.2.2)
    refine end_ret hQ (.slice a18 n19 c20) (by kernel_rfl) ?_
    exact ⟨s, hp, E27, a18, c20, by rw [show n19 = s.length from O24.1], (OS.give O24 hS26)⟩

def graph_Graph_seen_p (g : (List (List Int))) (c : (List Int)) (Q : (List Bool) → Prop) : Prop :=
  ((g.length ≤ 9223372036854775807) → ((c.length ≤ 9223372036854775807) → ((inR .i64 ((g.length : Int) + (1 : Int))) ∧ ((0 ≤ ((g.length : Int) + (1 : Int)) ∧ (1 : Int) * ((g.length : Int) + (1 : Int)) ≤ 281474976710656) ∧ (slices_Clone_int_int_p c (fun (r21 : (List Int)) => ((r21.length ≤ 9223372036854775807) → (∃ (I255 : (List Bool) → (List Int) → Prop) (m256 : (List Bool) → (List Int) → Nat), (I255 (List.replicate ((g.length : Int) + (1 : Int)).toNat (default : Bool)) r21) ∧ ∀ (s141 : (List Bool)) (wait143 : (List Int)), (I255 s141 wait143) → (s141.length ≤ 9223372036854775807) → (wait143.length ≤ 9223372036854775807) → ((((wait143.length : Int) > (0 : Int)) → ((inR .i64 ((wait143.length : Int) - (1 : Int))) ∧ ((inL wait143 ((wait143.length : Int) - (1 : Int))) ∧ ((inR .i64 (lget wait143 ((wait143.length : Int) - (1 : Int)))) → ((inR .i64 ((wait143.length : Int) - (1 : Int))) ∧ ((0 ≤ ((wait143.length : Int) - (1 : Int)) ∧ ((wait143.length : Int) - (1 : Int)) ≤ (wait143.length : Int)) ∧ (∃ k309 : Bool → Prop, (∀ (s308 : Bool), k309 s308 → (((s308 = true) → ((I255 s141 (wait143.take ((wait143.length : Int) - (1 : Int)).toNat)) ∧ m256 s141 (wait143.take ((wait143.length : Int) - (1 : Int)).toNat) < m256 s141 wait143)) ∧ ((s308 = false) → ((inL s141 (lget wait143 ((wait143.length : Int) - (1 : Int)))) ∧ ((inR .i64 ((lget wait143 ((wait143.length : Int) - (1 : Int))) - (1 : Int))) ∧ ((inL g ((lget wait143 ((wait143.length : Int) - (1 : Int))) - (1 : Int))) ∧ (((lget g ((lget wait143 ((wait143.length : Int) - (1 : Int))) - (1 : Int))).length ≤ 9223372036854775807) → ((((wait143.take ((wait143.length : Int) - (1 : Int)).toNat).length + (lget g ((lget wait143 ((wait143.length : Int) - (1 : Int))) - (1 : Int))).length) * 8 ≤ 140737488355328) ∧ (∀ l374 : List Int, l374 = ((wait143.take ((wait143.length : Int) - (1 : Int)).toNat) ++ (lget g ((lget wait143 ((wait143.length : Int) - (1 : Int))) - (1 : Int)))) → ((I255 (lset s141 (lget wait143 ((wait143.length : Int) - (1 : Int))) true) l374) ∧ m256 (lset s141 (lget wait143 ((wait143.length : Int) - (1 : Int))) true) l374 < m256 s141 wait143)))))))))) ∧ ((((lget wait143 ((wait143.length : Int) - (1 : Int))) < (1 : Int)) → (k309 true)) ∧ ((¬ ((lget wait143 ((wait143.length : Int) - (1 : Int))) < (1 : Int))) → ((((lget wait143 ((wait143.length : Int) - (1 : Int))) > (g.length : Int)) → (k309 true)) ∧ ((¬ ((lget wait143 ((wait143.length : Int) - (1 : Int))) > (g.length : Int))) → ((inL s141 (lget wait143 ((wait143.length : Int) - (1 : Int)))) ∧ (k309 (lget s141 (lget wait143 ((wait143.length : Int) - (1 : Int))))))))))))))))) ∧ ((¬ ((wait143.length : Int) > (0 : Int))) → Q s141))))))))))
set_option maxRecDepth 20000 in
set_option maxHeartbeats 4000000 in
theorem graph_Graph_seen_w {X : List Nat} {w : World} {g : (List (List Int))} {c : (List Int)} {ag1 : Option Addr} {cg2 : Nat} {ac4 : Option Addr} {cc5 : Nat} {Q : (List Bool) → Prop} (hX0 : Old X w) (hg3 : Sl (rSl (rInt .i64)) X w ag1 cg2 g) (hc6 : Sl (rInt .i64) X w ac4 cc5 c) (hp : graph_Graph_seen_p g c Q) :
    Calls Try.prog 79 #[(.slice ag1 g.length cg2), (.slice ac4 c.length cc5)] w (Ret fun v w' => ∃ (r0 : (List Bool)), Q r0 ∧ Evo [] w w' ∧ ∃ (a0 : Option Addr) (c0 : Nat), v = .slice a0 r0.length c0 ∧ OS rBool [] w.heap.size (blkL a0 ++ X) w' 4 a0 r0.length c0 r0) := by
  have hXo := hX0
  have E0 : Evo [] w w := RB.refl _ _ _
  have hS : Sub X X := Sub.refl _
  unfold graph_Graph_seen_p at hp
  refine enter_ Try.func79 rfl 53 [(0, (.slice ag1 g.length cg2)), (1, (.slice ac4 c.length cc5))] (by kernel_rfl) (fun Qe hQ => ?_)
  replace hp := hp (Sl.len hg3)
  replace hp := hp (Sl.len hc6)
  refine seq_ (fun _ K7 => ?_)
  refine reg_ ?_
  refine sq (o_pv (.slice none 0 0) rfl (by kernel_rfl) ?_)
  refine nil_ ?_
  refine then_normal (K7 _ _ _ _ ?_)
  refine seq_ (fun _ K8 => ?_)
  refine reg_ ?_
  refine sq (o_pv (.slice ag1 g.length cg2) rfl (by kernel_rfl) ?_)
  refine sq (o_pv (.int .i64 (g.length : Int)) rfl (by kernel_rfl) ?_)
  obtain ⟨h9, hp⟩ := hp
  refine sq (o_pv (.int .i64 ((g.length : Int) + (1 : Int))) rfl (x_add2 (k := .i64) (a := (g.length : Int)) (b := (1 : Int)) ((g.length : Int) + (1 : Int)) (by kernel_rfl) (by kernel_rfl) (wrap_inR h9)) ?_)
  obtain ⟨h10, hp⟩ := hp
  refine sq (o_makeX (R := rBool) (kl := .i64) (kc := .i64) (X := X) (B := w.heap.size) (.bool false) ((g.length : Int) + (1 : Int)) E0.size rfl Try.underlying111 (by kernel_rfl) rfl rfl (fun _ _ => rfl) (by kernel_rfl) (by kernel_rfl) h10 h9 ?_)
  intro a11 n12 w13 X14 s15 O16 n17
  refine sq (o_pv (.slice a11 n12 n12) rfl (by kernel_rfl) ?_)
  refine nil_ ?_
  refine then_normal (K8 _ _ _ _ ?_)
  refine seq_ (fun _ K18 => ?_)
  refine reg_ ?_
  refine sq (o_pv (.slice ac4 c.length cc5) rfl (by kernel_rfl) ?_)
  have hc19 := (Sl.step hc6 s15)
  have hXo20 := (Old.step hXo s15)
  refine sq (o_call 100 #[(.slice ac4 c.length cc5)] rfl (x_call Try.call100 (by kernel_rfl)) (slices_Clone_int_int_w (X := X14) (s := c) hXo20 hc19 hp) ?_)
  rintro _ w22 ⟨r21, hp, e23, a25, c26, rfl, O27⟩
  have E31 := (Evo.then0 E0 (Step.evo s15))
  obtain ⟨X28, s24, O29, n30⟩ := OS.own_in O27 e23 E31.size
  have p32 := n30 _ (OS.old O16)
  replace hp := hp (OS.len O29)
  refine sq (o_pv (.slice a25 r21.length c26) rfl (by kernel_rfl) ?_)
  refine nil_ ?_
  refine then_normal (K18 _ _ _ _ ?_)
  refine seq_ (fun _ K33 => ?_)
  refine wp_block ?_
  have hg265 := (Sl.step (Sl.step hg3 s15) s24)
  have hc266 := (Sl.step hc19 s24)
  have hXo267 := (Old.step hXo20 s24)
  have E268 := (Evo.then0 E31 (Step.evo s24))
  have hS269 := (Sub.trans (Sub.trans hS (Step.up s15)) (Step.up s24))
  have O270 := (OS.step0 O16 s24)
  obtain ⟨I255, m256, hI257, hp⟩ := hp
  refine loop_ 4503599627354304 (fun kq lq w259 => ∃ (X260 : List Nat) (s141 : (List Bool)) (wait143 : (List Int)) (a144 : Option Addr) (n145 : Nat) (c146 : Nat), (lq = [(6, (.slice a144 n145 c146))]) ∧ (kq = m256 s141 wait143) ∧ (Evo [] w w259) ∧ (Old X260 w259) ∧ (Sub X X260) ∧ (Sl (rSl (rInt .i64)) X260 w259 ag1 cg2 g) ∧ (OS rBool ([]) w.heap.size X260 w259 4 a11 n12 n12 s141) ∧ (OS (rInt .i64) ([]) w.heap.size X260 w259 3 a144 n145 c146 wait143) ∧ (Ap (blkL a11) (blkL a144)) ∧ (I255 s141 wait143)) (m256 (List.replicate ((g.length : Int) + (1 : Int)).toNat (default : Bool)) r21) [(6, (.slice a25 r21.length c26))] (vs_cons (by kernel_rfl) vs_nil) ⟨X28, (List.replicate ((g.length : Int) + (1 : Int)).toNat (default : Bool)), r21, a25, r21.length, c26, rfl, rfl, E268, hXo267, hS269, hg265, O270, O29, p32, hI257⟩ ?_
  rintro _ _ w259 g262 ⟨X260, s141, wait143, a144, n145, c146, rfl, rfl, E271, hXo272, hS273, hg274, O142, O147, p275, hI258⟩ Kl263 hA264
  replace hp := hp s141 wait143 hI258 (OS.len O142) (OS.len O147)
  refine seq_ (fun _ K276 => ?_)
  refine seq_ (fun _ K277 => ?_)
  refine reg_ ?_
  refine sq (o_pv (.slice a144 n145 c146) rfl (by kernel_rfl) ?_)
  refine sq (o_pv (.int .i64 (wait143.length : Int)) rfl (by rw [← show n145 = wait143.length from O147.1]; kernel_rfl) ?_)
  refine sq (o_pv (.bool (decide ((wait143.length : Int) > (0 : Int)))) rfl (by kernel_rfl) ?_)
  refine nil_ ?_
  refine then_normal (K277 _ _ _ _ ?_)
  refine cond_d ((wait143.length : Int) > (0 : Int)) (by kernel_rfl) (fun h278 => ?_) (fun h278 => ?_)
  ·
    replace hp := hp.1 h278
    refine wp_skip ?_
    refine then_normal (K276 _ _ _ _ ?_)
    refine wp_block ?_
    refine seq_ (fun _ K279 => ?_)
    refine reg_ ?_
    refine sq (o_pv (.slice a144 n145 c146) rfl (by kernel_rfl) ?_)
    refine sq (o_pv (.slice a144 n145 c146) rfl (by kernel_rfl) ?_)
    refine sq (o_pv (.int .i64 (wait143.length : Int)) rfl (by rw [← show n145 = wait143.length from O147.1]; kernel_rfl) ?_)
    obtain ⟨h280, hp⟩ := hp
    refine sq (o_pv (.int .i64 ((wait143.length : Int) - (1 : Int))) rfl (x_sub2 (k := .i64) (a := (wait143.length : Int)) (b := (1 : Int)) ((wait143.length : Int) - (1 : Int)) (by kernel_rfl) (by kernel_rfl) (wrap_inR h280)) ?_)
    obtain ⟨h281, hp⟩ := hp
    obtain ⟨b282, o283, cs284, ha285, nx286, lt287, ok288, hc289⟩ := Sl.atI (OS.rd O147) ((wait143.length : Int) - (1 : Int)) h281
    obtain ⟨rfl, re290⟩ := ok288
    replace hp := hp re290
    refine sq (o_pv (.pointer (some ⟨b282, o283 + ((wait143.length : Int) - (1 : Int)).toNat * 1, none⟩)) rfl (x_ixA (m := n145) (c := c146) (k := .i64) (i := (wait143.length : Int) - (1 : Int)) Try.underlying61 Try.sizeOf3 (by rw [← ha285]; kernel_rfl) (by kernel_rfl) ⟨h281.1, by rw [O147.1]; exact h281.2⟩) ?_)
    refine sq (o_pv (.int .i64 (lget wait143 ((wait143.length : Int) - (1 : Int)))) rfl (x_load1 (by kernel_rfl) Try.isAgg3 (hc289 0 _ rfl)) ?_)
    refine sq (o_pv (.int .i64 (lget wait143 ((wait143.length : Int) - (1 : Int)))) rfl (by kernel_rfl) ?_)
    refine nil_ ?_
    refine then_normal (K279 _ _ _ _ ?_)
    refine seq_ (fun _ K291 => ?_)
    refine reg_ ?_
    refine sq (o_pv (.slice a144 n145 c146) rfl (by kernel_rfl) ?_)
    refine sq (o_pv (.slice a144 n145 c146) rfl (by kernel_rfl) ?_)
    refine sq (o_pv (.int .i64 (wait143.length : Int)) rfl (by rw [← show n145 = wait143.length from O147.1]; kernel_rfl) ?_)
    obtain ⟨h292, hp⟩ := hp
    refine sq (o_pv (.int .i64 ((wait143.length : Int) - (1 : Int))) rfl (x_sub2 (k := .i64) (a := (wait143.length : Int)) (b := (1 : Int)) ((wait143.length : Int) - (1 : Int)) (by kernel_rfl) (by kernel_rfl) (wrap_inR h292)) ?_)
    obtain ⟨h293, hp⟩ := hp
    have O294 := OS.cut O147 ((wait143.length : Int) - (1 : Int)).toNat (by omega)
    refine sq (o_pv (.slice a144 (((wait143.length : Int) - (1 : Int)).toNat) c146) rfl (x_cut (k := .i64) (m1 := n145) (i := (wait143.length : Int) - (1 : Int)) Try.underlying61 Try.sizeOf3 (by kernel_rfl) (by kernel_rfl) h293 O147) ?_)
    refine sq (o_pv (.slice a144 (((wait143.length : Int) - (1 : Int)).toNat) c146) rfl (by kernel_rfl) ?_)
    refine nil_ ?_
    refine then_normal (K291 _ _ _ _ ?_)
    refine seq_ (fun _ K295 => ?_)
    refine seq_ (fun _ K296 => ?_)
    obtain ⟨k309, hk310, hp⟩ := hp
    refine ground_ ?_
    refine join_ 4397778075648 (fun lq w311 => ∃ (X312 : List Nat) (s308 : Bool), (lq = [(41, (.bool s308))]) ∧ (Evo [] w w311) ∧ (Old X312 w311) ∧ (Sub X X312) ∧ (Sl (rSl (rInt .i64)) X312 w311 ag1 cg2 g) ∧ (OS rBool ([]) w.heap.size X312 w311 4 a11 n12 n12 s141) ∧ (OS (rInt .i64) ([]) w.heap.size X312 w311 3 a144 (((wait143.length : Int) - (1 : Int)).toNat) c146 (wait143.take ((wait143.length : Int) - (1 : Int)).toNat)) ∧ (Ap (blkL a11) (blkL a144)) ∧ (k309 s308)) (fun Kj313 hJ314 => ?_) ?_
    ·
      refine reg_ ?_
      refine sq (o_pv (.int .i64 (lget wait143 ((wait143.length : Int) - (1 : Int)))) rfl (by kernel_rfl) ?_)
      by_cases h323 : (lget wait143 ((wait143.length : Int) - (1 : Int))) < (1 : Int)
      ·
        replace hp := hp.1 h323
        refine sq (o_pv (.bool true) rfl (x_dt (p := (lget wait143 ((wait143.length : Int) - (1 : Int))) < (1 : Int)) (by kernel_rfl) h323) ?_)
        refine sq (o_pv (.bool true) rfl (by kernel_rfl) ?_)
        refine sq (o_not (by kernel_rfl) ?_)
        refine sq (o_not (by kernel_rfl) ?_)
        refine sq (o_not (by kernel_rfl) ?_)
        refine sq (o_not (by kernel_rfl) ?_)
        refine sq (o_pv (.bool true) rfl (by kernel_rfl) ?_)
        refine sq (o_pv (.bool true) rfl (by kernel_rfl) ?_)
        refine sq (o_not (by kernel_rfl) ?_)
        refine sq (o_not (by kernel_rfl) ?_)
        refine sq (o_not (by kernel_rfl) ?_)
        refine sq (o_not (by kernel_rfl) ?_)
        refine sq (o_pv (.bool true) rfl (by kernel_rfl) ?_)
        refine nil_ ?_
        refine then_normal (hJ314 _ _ _ ⟨[(41, (.bool true))], fit_mk (fun _ _ => rfl) (by kernel_rfl) (vs_cons (by kernel_rfl) vs_nil), ?_⟩)
        exact ⟨X260, true, rfl, E271, hXo272, hS273, hg274, O142, O294, p275, hp⟩
      ·
        replace hp := hp.2 h323
        refine sq (o_pv (.bool false) rfl (x_df (p := (lget wait143 ((wait143.length : Int) - (1 : Int))) < (1 : Int)) (by kernel_rfl) h323) ?_)
        refine sq (o_pv (.bool false) rfl (by kernel_rfl) ?_)
        refine sq (o_pv (.int .i64 (lget wait143 ((wait143.length : Int) - (1 : Int)))) (by kernel_rfl) (by kernel_rfl) ?_)
        refine sq (o_pv (.slice ag1 g.length cg2) (by kernel_rfl) (by kernel_rfl) ?_)
        refine sq (o_pv (.int .i64 (g.length : Int)) (by kernel_rfl) (by kernel_rfl) ?_)
        by_cases h324 : (lget wait143 ((wait143.length : Int) - (1 : Int))) > (g.length : Int)
        ·
          replace hp := hp.1 h324
          refine sq (o_pv (.bool true) (by kernel_rfl) (x_dt (p := (lget wait143 ((wait143.length : Int) - (1 : Int))) > (g.length : Int)) (by kernel_rfl) h324) ?_)
          refine sq (o_pv (.bool true) rfl (by kernel_rfl) ?_)
          refine sq (o_pv (.bool true) rfl (by kernel_rfl) ?_)
          refine sq (o_not (by kernel_rfl) ?_)
          refine sq (o_not (by kernel_rfl) ?_)
          refine sq (o_not (by kernel_rfl) ?_)
          refine sq (o_not (by kernel_rfl) ?_)
          refine sq (o_pv (.bool true) rfl (by kernel_rfl) ?_)
          refine nil_ ?_
          refine then_normal (hJ314 _ _ _ ⟨[(41, (.bool true))], fit_mk (fun _ _ => rfl) (by kernel_rfl) (vs_cons (by kernel_rfl) vs_nil), ?_⟩)
          exact ⟨X260, true, rfl, E271, hXo272, hS273, hg274, O142, O294, p275, hp⟩
        ·
          replace hp := hp.2 h324
          refine sq (o_pv (.bool false) (by kernel_rfl) (x_df (p := (lget wait143 ((wait143.length : Int) - (1 : Int))) > (g.length : Int)) (by kernel_rfl) h324) ?_)
          refine sq (o_pv (.bool false) rfl (by kernel_rfl) ?_)
          refine sq (o_pv (.bool false) rfl (by kernel_rfl) ?_)
          refine sq (o_pv (.slice a11 n12 n12) (by kernel_rfl) (by kernel_rfl) ?_)
          refine sq (o_pv (.int .i64 (lget wait143 ((wait143.length : Int) - (1 : Int)))) (by kernel_rfl) (by kernel_rfl) ?_)
          obtain ⟨h325, hp⟩ := hp
          obtain ⟨b326, o327, cs328, ha329, nx330, lt331, ok332, hc333⟩ := Sl.atI (OS.rd O142) (lget wait143 ((wait143.length : Int) - (1 : Int))) h325
          obtain rfl := ok332
          refine sq (o_pv (.pointer (some ⟨b326, o327 + (lget wait143 ((wait143.length : Int) - (1 : Int))).toNat * 1, none⟩)) (by kernel_rfl) (x_ixA (m := n12) (c := n12) (k := .i64) (i := lget wait143 ((wait143.length : Int) - (1 : Int))) Try.underlying111 Try.sizeOf4 (by rw [← ha329]; kernel_rfl) (by kernel_rfl) ⟨h325.1, by rw [O142.1]; exact h325.2⟩) ?_)
          refine sq (o_pv (.bool (lget s141 (lget wait143 ((wait143.length : Int) - (1 : Int))))) (by kernel_rfl) (x_load1 (by kernel_rfl) Try.isAgg4 (hc333 0 _ rfl)) ?_)
          refine sq (o_pv (.bool (lget s141 (lget wait143 ((wait143.length : Int) - (1 : Int))))) rfl (by kernel_rfl) ?_)
          refine nil_ ?_
          refine then_normal (hJ314 _ _ _ ⟨[(41, (.bool (lget s141 (lget wait143 ((wait143.length : Int) - (1 : Int))))))], fit_mk (fun _ _ => rfl) (by kernel_rfl) (vs_cons (by kernel_rfl) vs_nil), ?_⟩)
          exact ⟨X260, (lget s141 (lget wait143 ((wait143.length : Int) - (1 : Int)))), rfl, E271, hXo272, hS273, hg274, O142, O294, p275, hp⟩
    ·
      rintro _ w311 g334 ⟨X312, s308, rfl, E316, hXo317, hS318, hg319, O320, O321, p322, hv315⟩
      replace hp := hk310 s308 hv315
      refine then_normal (K296 _ _ _ _ ?_)
      refine cond_b s308 (by kernel_rfl) (fun h335 => ?_) (fun h335 => ?_)
      ·
        replace hp := hp.1 h335
        refine wp_exit ?_
        refine then_exit ?_
        refine blk_exit ?_
        refine then_normal (hA264 _ _ _ ⟨_, [(6, (.slice a144 (((wait143.length : Int) - (1 : Int)).toNat) c146))], hp.2, fit_mk (AgB.nest (AgB.look (AgB.mix _ _ _) (by kernel_rfl)) (by kernel_rfl) (by kernel_rfl)) (by kernel_rfl) (vs_cons (by kernel_rfl) vs_nil), ?_⟩)
        exact ⟨X312, s141, (wait143.take ((wait143.length : Int) - (1 : Int)).toNat), a144, (((wait143.length : Int) - (1 : Int)).toNat), c146, rfl, rfl, E316, hXo317, hS318, hg319, O320, O321, p322, hp.1⟩
      ·
        replace hp := hp.2 h335
        refine wp_skip ?_
        refine then_normal (K295 _ _ _ _ ?_)
        refine seq_ (fun _ K336 => ?_)
        refine reg_ ?_
        refine sq (o_pv (.slice a11 n12 n12) rfl (by kernel_rfl) ?_)
        refine sq (o_pv (.int .i64 (lget wait143 ((wait143.length : Int) - (1 : Int)))) rfl (by kernel_rfl) ?_)
        obtain ⟨h337, hp⟩ := hp
        obtain ⟨b338, o339, cs340, ha341, nx342, lt343, ok344, hc345⟩ := Sl.atI (OS.rd O320) (lget wait143 ((wait143.length : Int) - (1 : Int))) h337
        obtain rfl := ok344
        refine sq (o_pv (.pointer (some ⟨b338, o339 + (lget wait143 ((wait143.length : Int) - (1 : Int))).toNat * 1, none⟩)) rfl (x_ixA (m := n12) (c := n12) (k := .i64) (i := lget wait143 ((wait143.length : Int) - (1 : Int))) Try.underlying111 Try.sizeOf4 (by rw [← ha341]; kernel_rfl) (by kernel_rfl) ⟨h337.1, by rw [O320.1]; exact h337.2⟩) ?_)
        refine sq (o_stS (o := o339) (v := (.bool true)) (lget wait143 ((wait143.length : Int) - (1 : Int))) true rfl O320 ha341 (h337) (by kernel_rfl) (by kernel_rfl) Try.sizeOf4 (fun _ => rBool_mk) ?_)
        intro w346 s347 O348
        refine nil_ ?_
        refine then_normal (K336 _ _ _ _ ?_)
        refine reg_ ?_
        refine sq (o_pv (.slice a144 (((wait143.length : Int) - (1 : Int)).toNat) c146) rfl (by kernel_rfl) ?_)
        refine sq (o_pv (.slice ag1 g.length cg2) rfl (by kernel_rfl) ?_)
        refine sq (o_pv (.int .i64 (lget wait143 ((wait143.length : Int) - (1 : Int)))) rfl (by kernel_rfl) ?_)
        obtain ⟨h349, hp⟩ := hp
        refine sq (o_pv (.int .i64 ((lget wait143 ((wait143.length : Int) - (1 : Int))) - (1 : Int))) rfl (x_sub2 (k := .i64) (a := lget wait143 ((wait143.length : Int) - (1 : Int))) (b := (1 : Int)) ((lget wait143 ((wait143.length : Int) - (1 : Int))) - (1 : Int)) (by kernel_rfl) (by kernel_rfl) (wrap_inR h349)) ?_)
        obtain ⟨h350, hp⟩ := hp
        have hg351 := (Sl.step hg319 s347)
        obtain ⟨b352, o353, cs354, ha355, nx356, lt357, ok358, hc359⟩ := Sl.atI hg351 ((lget wait143 ((wait143.length : Int) - (1 : Int))) - (1 : Int)) h350
        obtain ⟨ae360, ce361, rfl, he362⟩ := ok358
        replace hp := hp (Sl.len he362)
        refine sq (o_pv (.pointer (some ⟨b352, o353 + ((lget wait143 ((wait143.length : Int) - (1 : Int))) - (1 : Int)).toNat * 1, none⟩)) rfl (x_ixA (m := g.length) (c := cg2) (k := .i64) (i := (lget wait143 ((wait143.length : Int) - (1 : Int))) - (1 : Int)) Try.underlying55 Try.sizeOf61 (by rw [← ha355]; kernel_rfl) (by kernel_rfl) h350) ?_)
        refine sq (o_pv (.slice ae360 ((lget g ((lget wait143 ((wait143.length : Int) - (1 : Int))) - (1 : Int))).length) ce361) rfl (x_load1 (by kernel_rfl) Try.isAgg61 (hc359 0 _ rfl)) ?_)
        obtain ⟨h363, hp⟩ := hp
        have O364 := (OS.step O321 s347 (Ap.symm p322))
        have E365 := (Evo.thenW E316 (Step.evo s347) O320.2.2)
        refine sq (o_appX (R := (rInt .i64)) (X := X312) (B := w.heap.size) (L := wait143.take ((wait143.length : Int) - (1 : Int)).toNat) (M := lget g ((lget wait143 ((wait143.length : Int) - (1 : Int))) - (1 : Int))) rfl elT61 rfl E365.size O364 (Sl.src he362) rfl (by kernel_rfl) (by kernel_rfl) h363 ?_)
        intro a366 n367 c368 w369 X370 s371 O372 gr373
        obtain ⟨l374, ql374⟩ : ∃ y, y = ((wait143.take ((wait143.length : Int) - (1 : Int)).toNat) ++ (lget g ((lget wait143 ((wait143.length : Int) - (1 : Int))) - (1 : Int)))) := ⟨_, rfl⟩
        replace hp := hp l374 ql374
        rw [← ql374] at O372
        have p375 := gr373 _ p322 (OS.old O348)
        refine sq (o_pv (.slice a366 n367 c368) rfl (by kernel_rfl) ?_)
        refine nil_ ?_
        refine blk_normal ?_
        have E376 := (Evo.thenW E365 (Step.evo s371) O364.2.2)
        have hXo377 := (Old.step (Old.step hXo317 s347) s371)
        have hS378 := (Sub.trans (Sub.trans hS318 (Step.up s347)) (Step.up s371))
        have hg379 := (Sl.step hg351 s371)
        have O380 := (OS.step O348 s371 p322)
        refine then_normal (hA264 _ _ _ ⟨_, [(6, (.slice a366 n367 c368))], hp.2, fit_mk (AgB.nest (AgB.look (AgB.mix _ _ _) (by kernel_rfl)) (by kernel_rfl) (by kernel_rfl)) (by kernel_rfl) (vs_cons (by kernel_rfl) vs_nil), ?_⟩)
        exact ⟨X370, (lset s141 (lget wait143 ((wait143.length : Int) - (1 : Int))) true), l374, a366, n367, c368, rfl, rfl, E376, hXo377, hS378, hg379, O380, O372, p375, hp.1⟩
  ·
    replace hp := hp.2 h278
    refine wp_exit ?_
    refine then_exit ?_
    refine then_exit ?_
    refine blk_exit ?_
    refine then_normal (K33 _ _ _ _ ?_)
    refine seq_ (fun _ K381 => ?_)
    refine reg_ ?_
    refine sq (o_pv (.slice a11 n12 n12) rfl (by kernel_rfl) ?_)
    refine sq (o_pv (.slice a11 n12 n12) rfl (by kernel_rfl) ?_)
    refine nil_ ?_
    refine then_normal (K381 _ _ _ _ ?_)
    refine wp_ret ?_
    refine end_ret hQ (.slice a11 n12 n12) (by kernel_rfl) ?_
    exact ⟨s141, hp, E271, a11, n12, by rw [show n12 = s141.length from O142.1], (OS.give O142 hS273)⟩

def slices_Clip_int_int_p (s : (List Int)) (Q : (List Int) → Prop) : Prop :=
  ((s.length ≤ 9223372036854775807) → ((0 ≤ (s.length : Int) ∧ (s.length : Int) ≤ (s.length : Int)) ∧ Q s))
set_option maxRecDepth 20000 in
set_option maxHeartbeats 4000000 in
theorem slices_Clip_int_int_w {X : List Nat} {w : World} {s : (List Int)} {as1 : Option Addr} {cs2 : Nat} {Q : (List Int) → Prop} (hX0 : Old X w) (hs3 : Sl (rInt .i64) X w as1 cs2 s) (hp : slices_Clip_int_int_p s Q) :
    Calls Try.prog 99 #[(.slice as1 s.length cs2)] w (Ret fun v w' => ∃ (r0 : (List Int)), Q r0 ∧ Evo [] w w' ∧ ∃ (aq01 : Option Addr) (cq02 : Nat), v = (.slice aq01 r0.length cq02) ∧ Sl (rInt .i64) X w' aq01 cq02 r0) := by
  have hXo := hX0
  have E0 : Evo [] w w := RB.refl _ _ _
  have hS : Sub X X := Sub.refl _
  unfold slices_Clip_int_int_p at hp
  refine enter_ Try.func99 rfl 9 [(0, (.slice as1 s.length cs2))] (by kernel_rfl) (fun Qe hQ => ?_)
  replace hp := hp (Sl.len hs3)
  refine seq_ (fun _ K4 => ?_)
  refine reg_ ?_
  refine sq (o_pv (.slice none 0 0) rfl (by kernel_rfl) ?_)
  refine nil_ ?_
  refine then_normal (K4 _ _ _ _ ?_)
  refine seq_ (fun _ K5 => ?_)
  refine reg_ ?_
  refine sq (o_pv (.slice as1 s.length cs2) rfl (by kernel_rfl) ?_)
  refine sq (o_pv (.slice as1 s.length cs2) rfl (by kernel_rfl) ?_)
  refine sq (o_pv (.int .i64 (s.length : Int)) rfl (by kernel_rfl) ?_)
  refine sq (o_pv (.slice as1 s.length cs2) rfl (by kernel_rfl) ?_)
  refine sq (o_pv (.int .i64 (s.length : Int)) rfl (by kernel_rfl) ?_)
  obtain ⟨h9, hp⟩ := hp
  refine sq (o_slice3I (R := (rInt .i64)) (k := .i64) (k' := .i64) (X := X) (L := s) (s.length : Int) Try.underlying61 Try.sizeOf3 hs3 (by kernel_rfl) rfl rfl (by kernel_rfl) (by kernel_rfl) h9 ?_)
  intro a6 c7 h8
  rw [take_len] at h8
  rw [take_len]
  refine sq (o_pv (.slice a6 s.length c7) rfl (by kernel_rfl) ?_)
  refine nil_ ?_
  refine then_normal (K5 _ _ _ _ ?_)
  refine wp_ret ?_
  refine end_ret hQ (.slice a6 s.length c7) (by kernel_rfl) ?_
  exact ⟨s, hp, E0, a6, c7, rfl, (Sl.less h8 hS)⟩

def graph_row_p (l : (List Bool)) (Q : (List Int) → Prop) : Prop :=
  ((l.length ≤ 9223372036854775807) → (∃ (I199 : (List Int) → Int → Prop) (m200 : (List Int) → Int → Nat), (I199 ([] : List Int) (0 : Int)) ∧ ∀ (out99 : (List Int)) (s104 : Int), (I199 out99 s104) → (out99.length ≤ 9223372036854775807) → (inR .i64 s104) → (((s104 < (l.length : Int)) → (∃ k252 : (List Int) → Prop, (∀ (out247 : (List Int)), k252 out247 → (out247.length ≤ 9223372036854775807) → ((inR .i64 (s104 + (1 : Int))) ∧ ((I199 out247 (s104 + (1 : Int))) ∧ m200 out247 (s104 + (1 : Int)) < m200 out99 s104))) ∧ ((inL l s104) ∧ ((((lget l s104) = true) → (((out99.length + ([s104]).length) * 8 ≤ 140737488355328) ∧ (k252 (out99 ++ ([s104]))))) ∧ (((lget l s104) = false) → (k252 out99)))))) ∧ ((¬ (s104 < (l.length : Int))) → (slices_Clip_int_int_p out99 (fun (r300 : (List Int)) => ((r300.length ≤ 9223372036854775807) → Q r300)))))))
set_option maxRecDepth 20000 in
set_option maxHeartbeats 4000000 in
theorem graph_row_w {X : List Nat} {w : World} {l : (List Bool)} {al1 : Option Addr} {cl2 : Nat} {Q : (List Int) → Prop} (hX0 : Old X w) (hl3 : Sl rBool X w al1 cl2 l) (hp : graph_row_p l Q) :
    Calls Try.prog 78 #[(.slice al1 l.length cl2)] w (Ret fun v w' => ∃ (r0 : (List Int)), Q r0 ∧ Evo [] w w' ∧ ∃ (aq01 : Option Addr) (cq02 : Nat), v = (.slice aq01 r0.length cq02) ∧ Sl (rInt .i64) X w' aq01 cq02 r0) := by
  have hXo := hX0
  have E0 : Evo [] w w := RB.refl _ _ _
  have hS : Sub X X := Sub.refl _
  unfold graph_row_p at hp
  refine enter_ Try.func78 rfl 21 [(0, (.slice al1 l.length cl2))] (by kernel_rfl) (fun Qe hQ => ?_)
  replace hp := hp (Sl.len hl3)
  refine seq_ (fun _ K4 => ?_)
  refine reg_ ?_
  refine sq (o_pv (.slice none 0 0) rfl (by kernel_rfl) ?_)
  refine nil_ ?_
  refine then_normal (K4 _ _ _ _ ?_)
  refine seq_ (fun _ K5 => ?_)
  refine reg_ ?_
  refine sq (o_pv (.slice none 0 0) rfl (by kernel_rfl) ?_)
  refine nil_ ?_
  refine then_normal (K5 _ _ _ _ ?_)
  refine seq_ (fun _ K6 => ?_)
  refine seq_ (fun _ K7 => ?_)
  refine reg_ ?_
  refine sq (o_pv (.slice al1 l.length cl2) rfl (by kernel_rfl) ?_)
  refine sq (o_pv (.int .i64 (l.length : Int)) rfl (by kernel_rfl) ?_)
  refine sq (o_pv (.int .i64 (0 : Int)) rfl (by kernel_rfl) ?_)
  refine nil_ ?_
  refine then_normal (K7 _ _ _ _ ?_)
  refine wp_block ?_
  obtain ⟨I199, m200, hI201, hp⟩ := hp
  refine loop_ 524088 (fun kq lq w203 => ∃ (X204 : List Nat) (out99 : (List Int)) (s104 : Int) (a100 : Option Addr) (n101 : Nat) (c102 : Nat), (lq = [(3, (.slice a100 n101 c102)), (8, (.int .i64 s104))]) ∧ (kq = m200 out99 s104) ∧ (Evo [] w w203) ∧ (Old X204 w203) ∧ (Sub X X204) ∧ (Sl rBool X204 w203 al1 cl2 l) ∧ (OS (rInt .i64) ([]) w.heap.size X204 w203 3 a100 n101 c102 out99) ∧ (inR .i64 s104) ∧ (I199 out99 s104)) (m200 ([] : List Int) (0 : Int)) [(3, (.slice none 0 0)), (8, (.int .i64 (0 : Int)))] (vs_cons (by kernel_rfl) (vs_cons (by kernel_rfl) vs_nil)) ⟨X, ([] : List Int), (0 : Int), none, 0, 0, rfl, rfl, E0, hXo, hS, hl3, (OS.nil _ _ _ _), (by decide), hI201⟩ ?_
  rintro _ _ w203 g206 ⟨X204, out99, s104, a100, n101, c102, rfl, rfl, E209, hXo210, hS211, hl212, O103, rs105, hI202⟩ Kl207 hA208
  replace hp := hp out99 s104 hI202 (OS.len O103) rs105
  refine seq_ (fun _ K213 => ?_)
  refine reg_ ?_
  refine sq (o_pv (.bool (decide (s104 < (l.length : Int)))) rfl (by kernel_rfl) ?_)
  refine nil_ ?_
  refine then_normal (K213 _ _ _ _ ?_)
  refine seq_ (fun _ K214 => ?_)
  refine cond_d (s104 < (l.length : Int)) (by kernel_rfl) (fun h215 => ?_) (fun h215 => ?_)
  ·
    replace hp := hp.1 h215
    refine wp_skip ?_
    refine then_normal (K214 _ _ _ _ ?_)
    refine seq_ (fun _ K216 => ?_)
    obtain ⟨k252, hk253, hp⟩ := hp
    refine ground_ ?_
    refine join_ 261176 (fun lq w254 => ∃ (X255 : List Nat) (out247 : (List Int)) (a248 : Option Addr) (n249 : Nat) (c250 : Nat), (lq = [(3, (.slice a248 n249 c250))]) ∧ (Evo [] w w254) ∧ (Old X255 w254) ∧ (Sub X X255) ∧ (Sl rBool X255 w254 al1 cl2 l) ∧ (OS (rInt .i64) ([]) w.heap.size X255 w254 3 a248 n249 c250 out247) ∧ (k252 out247)) (fun Kj256 hJ257 => ?_) ?_
    ·
      refine wp_block ?_
      refine seq_ (fun _ K263 => ?_)
      refine reg_ ?_
      refine sq (o_pv (.int .i64 s104) rfl (by kernel_rfl) ?_)
      obtain ⟨h264, hp⟩ := hp
      obtain ⟨b265, o266, cs267, ha268, nx269, lt270, ok271, hc272⟩ := Sl.atI hl212 s104 h264
      obtain rfl := ok271
      refine sq (o_pv (.pointer (some ⟨b265, o266 + s104.toNat * 1, none⟩)) rfl (x_ixA (m := l.length) (c := cl2) (k := .i64) (i := s104) Try.underlying111 Try.sizeOf4 (by rw [← ha268]; kernel_rfl) (by kernel_rfl) h264) ?_)
      refine sq (o_pv (.bool (lget l s104)) rfl (x_load1 (by kernel_rfl) Try.isAgg4 (hc272 0 _ rfl)) ?_)
      refine sq (o_pv (.int .i64 s104) rfl (by kernel_rfl) ?_)
      refine sq (o_pv (.bool (lget l s104)) rfl (by kernel_rfl) ?_)
      refine nil_ ?_
      refine then_normal (K263 _ _ _ _ ?_)
      refine seq_ (fun _ K273 => ?_)
      refine reg_ ?_
      refine sq (o_pv (.bool (lget l s104)) rfl (by kernel_rfl) ?_)
      refine nil_ ?_
      refine then_normal (K273 _ _ _ _ ?_)
      refine cond_b (lget l s104) (by kernel_rfl) (fun h274 => ?_) (fun h274 => ?_)
      ·
        replace hp := hp.1 h274
        refine reg_ ?_
        refine sq (o_pv (.slice a100 n101 c102) rfl (by kernel_rfl) ?_)
        refine sq (o_pv (.int .i64 s104) rfl (by kernel_rfl) ?_)
        refine sq (o_rowX (R := (rInt .i64)) [(.int .i64 s104)] [s104] 3 1 (X := X204) (B := w.heap.size) E209.size rfl (by kernel_rfl) (Flat.cons (cs := [(.int .i64 s104)]) (rInt_mk rs105) Flat.nil) rfl (by decide) ?_)
        intro b275 w276 X277 s278 O279 n280
        have p281 := n280 _ (OS.old O103)
        obtain ⟨h282, hp⟩ := hp
        have O283 := (OS.step0 O103 s278)
        have E284 := (Evo.then0 E209 (Step.evo s278))
        refine sq (o_appX (R := (rInt .i64)) (X := X277) (B := w.heap.size) (L := out99) (M := [s104]) rfl elT61 rfl E284.size O283 (OS.src O279) O279.1 (by kernel_rfl) (by kernel_rfl) h282 ?_)
        intro a285 n286 c287 w288 X289 s290 O291 gr292
        refine sq (o_pv (.slice a285 n286 c287) rfl (by kernel_rfl) ?_)
        refine nil_ ?_
        refine blk_normal ?_
        have E293 := (Evo.thenW E284 (Step.evo s290) O283.2.2)
        have hXo294 := (Old.step (Old.step hXo210 s278) s290)
        have hS295 := (Sub.trans (Sub.trans hS211 (Step.up s278)) (Step.up s290))
        have hl296 := (Sl.step (Sl.step hl212 s278) s290)
        refine then_normal (hJ257 _ _ _ ⟨[(3, (.slice a285 n286 c287))], fit_mk (fun _ _ => rfl) (by kernel_rfl) (vs_cons (by kernel_rfl) vs_nil), ?_⟩)
        exact ⟨X289, (out99 ++ ([s104])), a285, n286, c287, rfl, E293, hXo294, hS295, hl296, O291, hp⟩
      ·
        replace hp := hp.2 h274
        refine wp_skip ?_
        refine blk_normal ?_
        refine then_normal (hJ257 _ _ _ ⟨[(3, (.slice a100 n101 c102))], fit_mk (fun _ _ => rfl) (by kernel_rfl) (vs_cons (by kernel_rfl) vs_nil), ?_⟩)
        exact ⟨X204, out99, a100, n101, c102, rfl, E209, hXo210, hS211, hl212, O103, hp⟩
    ·
      rintro _ w254 g297 ⟨X255, out247, a248, n249, c250, rfl, E259, hXo260, hS261, hl262, O251, hv258⟩
      replace hp := hk253 out247 hv258 (OS.len O251)
      refine then_normal (K216 _ _ _ _ ?_)
      refine reg_ ?_
      obtain ⟨h298, hp⟩ := hp
      refine sq (o_pv (.int .i64 (s104 + (1 : Int))) rfl (x_add2 (k := .i64) (a := s104) (b := (1 : Int)) (s104 + (1 : Int)) (by kernel_rfl) (by kernel_rfl) (wrap_inR h298)) ?_)
      refine sq (o_pv (.int .i64 (s104 + (1 : Int))) rfl (by kernel_rfl) ?_)
      refine nil_ ?_
      refine then_normal (hA208 _ _ _ ⟨_, [(3, (.slice a248 n249 c250)), (8, (.int .i64 (s104 + (1 : Int))))], hp.2, fit_mk (AgB.nest (AgB.look (AgB.mix _ _ _) (by kernel_rfl)) (by kernel_rfl) (by kernel_rfl)) (by kernel_rfl) (vs_cons (by kernel_rfl) (vs_cons (by kernel_rfl) vs_nil)), ?_⟩)
      exact ⟨X255, out247, (s104 + (1 : Int)), a248, n249, c250, rfl, rfl, E259, hXo260, hS261, hl262, O251, h298, hp.1⟩
  ·
    replace hp := hp.2 h215
    refine wp_exit ?_
    refine then_exit ?_
    refine then_exit ?_
    refine blk_exit ?_
    refine then_normal (K6 _ _ _ _ ?_)
    refine seq_ (fun _ K299 => ?_)
    refine reg_ ?_
    refine sq (o_pv (.slice a100 n101 c102) rfl (by kernel_rfl) ?_)
    refine sq (o_call 99 #[(.slice a100 out99.length c102)] rfl (x_call Try.call99 (by rw [← show n101 = out99.length from O103.1]; kernel_rfl)) (slices_Clip_int_int_w (X := X) (s := out99) (Old.less hXo210 hS211) (OS.out O103 hS211 hX0) hp) ?_)
    rintro _ w301 ⟨r300, hp, e302, ar304, cr305, rfl, hr306⟩
    have s303 := Step.of0 X204 e302
    replace hp := hp (Sl.len hr306)
    refine sq (o_pv (.slice ar304 r300.length cr305) rfl (by kernel_rfl) ?_)
    refine nil_ ?_
    refine then_normal (K299 _ _ _ _ ?_)
    refine wp_ret ?_
    have E307 := (Evo.then0 E209 e302)
    refine end_ret hQ (.slice ar304 r300.length cr305) (by kernel_rfl) ?_
    exact ⟨r300, hp, E307, ar304, cr305, rfl, hr306⟩

def graph_Graph_Ancestors_p (g : (List (List Int))) (c : (List Int)) (Q : (List Int) → Prop) : Prop :=
  ((g.length ≤ 9223372036854775807) → ((c.length ≤ 9223372036854775807) → (graph_Graph_seen_p g c (fun (r9 : (List Bool)) => ((r9.length ≤ 9223372036854775807) → (graph_row_p r9 (fun (r21 : (List Int)) => ((r21.length ≤ 9223372036854775807) → Q r21))))))))
set_option maxRecDepth 20000 in
set_option maxHeartbeats 4000000 in
theorem graph_Graph_Ancestors_w {X : List Nat} {w : World} {g : (List (List Int))} {c : (List Int)} {ag1 : Option Addr} {cg2 : Nat} {ac4 : Option Addr} {cc5 : Nat} {Q : (List Int) → Prop} (hX0 : Old X w) (hg3 : Sl (rSl (rInt .i64)) X w ag1 cg2 g) (hc6 : Sl (rInt .i64) X w ac4 cc5 c) (hp : graph_Graph_Ancestors_p g c Q) :
    Calls Try.prog 37 #[(.slice ag1 g.length cg2), (.slice ac4 c.length cc5)] w (Ret fun v w' => ∃ (r0 : (List Int)), Q r0 ∧ Evo [] w w' ∧ ∃ (aq01 : Option Addr) (cq02 : Nat), v = (.slice aq01 r0.length cq02) ∧ Sl (rInt .i64) X w' aq01 cq02 r0) := by
  have hXo := hX0
  have E0 : Evo [] w w := RB.refl _ _ _
  have hS : Sub X X := Sub.refl _
  unfold graph_Graph_Ancestors_p at hp
  refine enter_ Try.func37 rfl 9 [(0, (.slice ag1 g.length cg2)), (1, (.slice ac4 c.length cc5))] (by kernel_rfl) (fun Qe hQ => ?_)
  replace hp := hp (Sl.len hg3)
  replace hp := hp (Sl.len hc6)
  refine seq_ (fun _ K7 => ?_)
  refine reg_ ?_
  refine sq (o_pv (.slice none 0 0) rfl (by kernel_rfl) ?_)
  refine nil_ ?_
  refine then_normal (K7 _ _ _ _ ?_)
  refine seq_ (fun _ K8 => ?_)
  refine reg_ ?_
  refine sq (o_pv (.slice ag1 g.length cg2) rfl (by kernel_rfl) ?_)
  refine sq (o_pv (.slice ac4 c.length cc5) rfl (by kernel_rfl) ?_)
  refine sq (o_call 79 #[(.slice ag1 g.length cg2), (.slice ac4 c.length cc5)] rfl (x_call Try.call79 (by kernel_rfl)) (graph_Graph_seen_w (X := X) (g := g) (c := c) hXo hg3 hc6 hp) ?_)
  rintro _ w10 ⟨r9, hp, e11, a13, c14, rfl, O15⟩
  obtain ⟨X16, s12, O17, n18⟩ := OS.own_in O15 e11 E0.size
  replace hp := hp (OS.len O17)
  have hS19 := (Sub.trans hS (Step.up s12))
  have hXo20 := (Old.step hXo s12)
  refine sq (o_call 78 #[(.slice a13 r9.length c14)] rfl (x_call Try.call78 (by kernel_rfl)) (graph_row_w (X := X) (l := r9) (Old.less hXo20 hS19) (OS.out O17 hS19 hX0) hp) ?_)
  rintro _ w22 ⟨r21, hp, e23, ar25, cr26, rfl, hr27⟩
  have s24 := Step.of0 X16 e23
  replace hp := hp (Sl.len hr27)
  refine sq (o_pv (.slice ar25 r21.length cr26) rfl (by kernel_rfl) ?_)
  refine nil_ ?_
  refine then_normal (K8 _ _ _ _ ?_)
  refine wp_ret ?_
  have E28 := (Evo.then0 (Evo.then0 E0 (Step.evo s12)) e23)
  refine end_ret hQ (.slice ar25 r21.length cr26) (by kernel_rfl) ?_
  exact ⟨r21, hp, E28, ar25, cr26, rfl, hr27⟩

def graph_Graph_Only_p (g : (List (List Int))) (a : Int) (b : Int) (Q : (List Int) → Prop) : Prop :=
  ((g.length ≤ 9223372036854775807) → ((inR .i64 a) → ((inR .i64 b) → (graph_Graph_seen_p g ([a]) (fun (r25 : (List Bool)) => ((r25.length ≤ 9223372036854775807) → (graph_Graph_seen_p g ([b]) (fun (r57 : (List Bool)) => ((r57.length ≤ 9223372036854775807) → (∃ (I316 : (List Bool) → Int → Prop) (m317 : (List Bool) → Int → Nat), (I316 r25 (0 : Int)) ∧ ∀ (s193 : (List Bool)) (s195 : Int), (I316 s193 s195) → (s193.length ≤ 9223372036854775807) → (inR .i64 s195) → (((s195 < (r25.length : Int)) → (∃ k387 : (List Bool) → Prop, (∀ (s385 : (List Bool)), k387 s385 → (s385.length ≤ 9223372036854775807) → ((inR .i64 (s195 + (1 : Int))) ∧ ((I316 s385 (s195 + (1 : Int))) ∧ m317 s385 (s195 + (1 : Int)) < m317 s193 s195))) ∧ ((inL s193 s195) ∧ ((((lget s193 s195) = true) → ((inL r57 s195) ∧ ((inL s193 s195) ∧ (k387 (lset s193 s195 (!(lget r57 s195))))))) ∧ ((¬ ((lget s193 s195) = true)) → ((inL s193 s195) ∧ (k387 (lset s193 s195 false)))))))) ∧ ((¬ (s195 < (r25.length : Int))) → (graph_row_p s193 (fun (r453 : (List Int)) => ((r453.length ≤ 9223372036854775807) → Q r453)))))))))))))))
set_option maxRecDepth 20000 in
set_option maxHeartbeats 4000000 in
theorem graph_Graph_Only_w {X : List Nat} {w : World} {g : (List (List Int))} {a : Int} {b : Int} {ag1 : Option Addr} {cg2 : Nat} {Q : (List Int) → Prop} (hX0 : Old X w) (hg3 : Sl (rSl (rInt .i64)) X w ag1 cg2 g) (ra4 : inR .i64 a) (rb5 : inR .i64 b) (hp : graph_Graph_Only_p g a b Q) :
    Calls Try.prog 45 #[(.slice ag1 g.length cg2), (.int .i64 a), (.int .i64 b)] w (Ret fun v w' => ∃ (r0 : (List Int)), Q r0 ∧ Evo [] w w' ∧ ∃ (aq01 : Option Addr) (cq02 : Nat), v = (.slice aq01 r0.length cq02) ∧ Sl (rInt .i64) X w' aq01 cq02 r0) := by
  have hXo := hX0
  have E0 : Evo [] w w := RB.refl _ _ _
  have hS : Sub X X := Sub.refl _
  unfold graph_Graph_Only_p at hp
  refine enter_ Try.func45 rfl 40 [(0, (.slice ag1 g.length cg2)), (1, (.int .i64 a)), (2, (.int .i64 b))] (by kernel_rfl) (fun Qe hQ => ?_)
  replace hp := hp (Sl.len hg3)
  replace hp := hp ra4
  replace hp := hp rb5
  refine seq_ (fun _ K6 => ?_)
  refine reg_ ?_
  refine sq (o_pv (.slice none 0 0) rfl (by kernel_rfl) ?_)
  refine nil_ ?_
  refine then_normal (K6 _ _ _ _ ?_)
  refine seq_ (fun _ K7 => ?_)
  refine reg_ ?_
  refine sq (o_pv (.slice ag1 g.length cg2) rfl (by kernel_rfl) ?_)
  refine sq (o_pv (.int .i64 a) rfl (by kernel_rfl) ?_)
  refine sq (o_rowX (R := (rInt .i64)) [(.int .i64 a)] [a] 3 1 (X := X) (B := w.heap.size) E0.size rfl (by kernel_rfl) (Flat.cons (cs := [(.int .i64 a)]) (rInt_mk ra4) Flat.nil) rfl (by decide) ?_)
  intro b8 w9 X10 s11 O12 n13
  have hS14 := (Sub.trans hS (Step.up s11))
  have hg20 := (Sl.step hg3 s11)
  have hXo21 := (Old.step hXo s11)
  have E22 := (Evo.then0 E0 (Step.evo s11))
  have ax19 := OS.apold O12 hX0
  obtain ⟨X15, u16, r17, hm18⟩ := OS.release O12
  have hg23 := (Sl.less hg20 u16)
  have hXo24 := (Old.less hXo21 u16)
  refine sq (o_call 79 #[(.slice ag1 g.length cg2), (.slice (some ⟨b8, 0, none⟩) ([a]).length 1)] rfl (x_call Try.call79 (by rw [← show 1 = ([a]).length from O12.1]; kernel_rfl)) (graph_Graph_seen_w (X := X15) (g := g) (c := [a]) hXo24 hg23 r17 hp) ?_)
  rintro _ w26 ⟨r25, hp, e27, a29, c30, rfl, O31⟩
  have E35 := E22
  obtain ⟨X32, s28, O33, n34⟩ := OS.own_in O31 e27 E35.size
  replace hp := hp (OS.len O33)
  refine sq (o_pv (.slice ag1 g.length cg2) rfl (by kernel_rfl) ?_)
  refine sq (o_pv (.int .i64 b) rfl (by kernel_rfl) ?_)
  have E42 := (Evo.then0 E35 (Step.evo s28))
  refine sq (o_rowX (R := (rInt .i64)) [(.int .i64 b)] [b] 3 1 (X := X32) (B := w.heap.size) E42.size rfl (by kernel_rfl) (Flat.cons (cs := [(.int .i64 b)]) (rInt_mk rb5) Flat.nil) rfl (by decide) ?_)
  intro b36 w37 X38 s39 O40 n41
  have p43 := n41 _ (OS.old O33)
  have hS44 := (Sub.trans (Sub.trans (hm18 _ ax19 hS14) (Step.up s28)) (Step.up s39))
  have hg50 := (Sl.step (Sl.step hg23 s28) s39)
  have hXo51 := (Old.step (Old.step hXo24 s28) s39)
  have E52 := (Evo.then0 E42 (Step.evo s39))
  have r53 := (Sl.step (Sl.step r17 s28) s39)
  have O54 := (OS.step0 O33 s39)
  have ax49 := OS.apold O40 hX0
  obtain ⟨X45, u46, r47, hm48⟩ := OS.release O40
  have hg55 := (Sl.less hg50 u46)
  have hXo56 := (Old.less hXo51 u46)
  have O64 := (OS.less O54 u46 (hm48 _ p43 (OS.mem O54)))
  refine sq (o_call 79 #[(.slice ag1 g.length cg2), (.slice (some ⟨b36, 0, none⟩) ([b]).length 1)] rfl (x_call Try.call79 (by rw [← show 1 = ([b]).length from O40.1]; kernel_rfl)) (graph_Graph_seen_w (X := X45) (g := g) (c := [b]) hXo56 hg55 r47 hp) ?_)
  rintro _ w58 ⟨r57, hp, e59, a61, c62, rfl, O63⟩
  have E68 := E52
  obtain ⟨X65, s60, O66, n67⟩ := OS.own_in O63 e59 E68.size
  have p69 := n67 _ (OS.old O64)
  replace hp := hp (OS.len O66)
  refine sq (o_pv (.slice a29 r25.length c30) rfl (by kernel_rfl) ?_)
  refine sq (o_pv (.slice a61 r57.length c62) rfl (by kernel_rfl) ?_)
  refine nil_ ?_
  refine then_normal (K7 _ _ _ _ ?_)
  refine seq_ (fun _ K70 => ?_)
  refine seq_ (fun _ K71 => ?_)
  refine reg_ ?_
  refine sq (o_pv (.slice a29 r25.length c30) rfl (by kernel_rfl) ?_)
  refine sq (o_pv (.int .i64 (r25.length : Int)) rfl (by kernel_rfl) ?_)
  refine sq (o_pv (.int .i64 (0 : Int)) rfl (by kernel_rfl) ?_)
  refine nil_ ?_
  refine then_normal (K71 _ _ _ _ ?_)
  refine wp_block ?_
  have hg326 := (Sl.step hg55 s60)
  have hXo327 := (Old.step hXo56 s60)
  have E328 := (Evo.then0 E68 (Step.evo s60))
  have hS329 := (Sub.trans (hm48 _ ax49 hS44) (Step.up s60))
  have r330 := (Sl.step (Sl.less r53 u46) s60)
  have O331 := (OS.step0 O64 s60)
  have r332 := (Sl.step r47 s60)
  obtain ⟨I316, m317, hI318, hp⟩ := hp
  refine loop_ 274876858880 (fun kq lq w320 => ∃ (X321 : List Nat) (s193 : (List Bool)) (s195 : Int), (lq = [(20, (.int .i64 s195))]) ∧ (kq = m317 s193 s195) ∧ (Evo [] w w320) ∧ (Old X321 w320) ∧ (Sub X X321) ∧ (OS rBool ([]) w.heap.size X321 w320 4 a61 r57.length c62 r57) ∧ (OS rBool ([]) w.heap.size X321 w320 4 a29 r25.length c30 s193) ∧ (inR .i64 s195) ∧ (I316 s193 s195)) (m317 r25 (0 : Int)) [(20, (.int .i64 (0 : Int)))] (vs_cons (by kernel_rfl) vs_nil) ⟨X65, r25, (0 : Int), rfl, rfl, E328, hXo327, hS329, O66, O331, (by decide), hI318⟩ ?_
  rintro _ _ w320 g323 ⟨X321, s193, s195, rfl, rfl, E333, hXo334, hS335, O336, O194, rs196, hI319⟩ Kl324 hA325
  replace hp := hp s193 s195 hI319 (OS.len O194) rs196
  refine seq_ (fun _ K337 => ?_)
  refine reg_ ?_
  refine sq (o_pv (.bool (decide (s195 < (r25.length : Int)))) rfl (by kernel_rfl) ?_)
  refine nil_ ?_
  refine then_normal (K337 _ _ _ _ ?_)
  refine seq_ (fun _ K338 => ?_)
  refine cond_d (s195 < (r25.length : Int)) (by kernel_rfl) (fun h339 => ?_) (fun h339 => ?_)
  ·
    replace hp := hp.1 h339
    refine wp_skip ?_
    refine then_normal (K338 _ _ _ _ ?_)
    refine seq_ (fun _ K340 => ?_)
    obtain ⟨k387, hk388, hp⟩ := hp
    refine ground_ ?_
    refine join_ 137434759680 (fun lq w389 => ∃ (X390 : List Nat) (s385 : (List Bool)), (lq = []) ∧ (Evo [] w w389) ∧ (Old X390 w389) ∧ (Sub X X390) ∧ (OS rBool ([]) w.heap.size X390 w389 4 a61 r57.length c62 r57) ∧ (OS rBool ([]) w.heap.size X390 w389 4 a29 r25.length c30 s385) ∧ (k387 s385)) (fun Kj391 hJ392 => ?_) ?_
    ·
      refine wp_block ?_
      refine seq_ (fun _ K398 => ?_)
      refine reg_ ?_
      refine sq (o_pv (.int .i64 s195) rfl (by kernel_rfl) ?_)
      refine sq (o_pv (.int .i64 s195) rfl (by kernel_rfl) ?_)
      refine nil_ ?_
      refine then_normal (K398 _ _ _ _ ?_)
      refine reg_ ?_
      refine sq (o_pv (.slice a29 r25.length c30) rfl (by kernel_rfl) ?_)
      refine sq (o_pv (.int .i64 s195) rfl (by kernel_rfl) ?_)
      refine sq (o_pv (.slice a29 r25.length c30) rfl (by kernel_rfl) ?_)
      refine sq (o_pv (.int .i64 s195) rfl (by kernel_rfl) ?_)
      obtain ⟨h399, hp⟩ := hp
      obtain ⟨b400, o401, cs402, ha403, nx404, lt405, ok406, hc407⟩ := Sl.atI (OS.rd O194) s195 h399
      obtain rfl := ok406
      refine sq (o_pv (.pointer (some ⟨b400, o401 + s195.toNat * 1, none⟩)) rfl (x_ixA (m := r25.length) (c := c30) (k := .i64) (i := s195) Try.underlying111 Try.sizeOf4 (by rw [← ha403]; kernel_rfl) (by kernel_rfl) ⟨h399.1, by rw [O194.1]; exact h399.2⟩) ?_)
      by_cases h408 : (lget s193 s195) = true
      ·
        replace hp := hp.1 h408
        refine sq (o_pv (.bool true) rfl (x_bt (x_load1 (by kernel_rfl) Try.isAgg4 (hc407 0 _ rfl)) h408) ?_)
        refine sq (o_pv (.bool true) rfl (by kernel_rfl) ?_)
        refine sq (o_pv (.slice a61 r57.length c62) (by kernel_rfl) (by kernel_rfl) ?_)
        refine sq (o_pv (.int .i64 s195) (by kernel_rfl) (by kernel_rfl) ?_)
        obtain ⟨h409, hp⟩ := hp
        obtain ⟨b410, o411, cs412, ha413, nx414, lt415, ok416, hc417⟩ := Sl.atI (OS.rd O336) s195 h409
        obtain rfl := ok416
        refine sq (o_pv (.pointer (some ⟨b410, o411 + s195.toNat * 1, none⟩)) (by kernel_rfl) (x_ixA (m := r57.length) (c := c62) (k := .i64) (i := s195) Try.underlying111 Try.sizeOf4 (by rw [← ha413]; kernel_rfl) (by kernel_rfl) ⟨h409.1, by rw [O336.1]; exact h409.2⟩) ?_)
        refine sq (o_pv (.bool (lget r57 s195)) (by kernel_rfl) (x_load1 (by kernel_rfl) Try.isAgg4 (hc417 0 _ rfl)) ?_)
        refine sq (o_pv (.bool (!(lget r57 s195))) (by kernel_rfl) (by kernel_rfl) ?_)
        refine sq (o_pv (.bool (!(lget r57 s195))) rfl (by kernel_rfl) ?_)
        obtain ⟨h418, hp⟩ := hp
        obtain ⟨b419, o420, cs421, ha422, nx423, lt424, ok425, hc426⟩ := Sl.atI (OS.rd O194) s195 h418
        obtain rfl := ok425
        refine sq (o_pv (.pointer (some ⟨b419, o420 + s195.toNat * 1, none⟩)) rfl (x_ixA (m := r25.length) (c := c30) (k := .i64) (i := s195) Try.underlying111 Try.sizeOf4 (by rw [← ha422]; kernel_rfl) (by kernel_rfl) ⟨h418.1, by rw [O194.1]; exact h418.2⟩) ?_)
        refine sq (o_stS (o := o420) (v := (.bool (!(lget r57 s195)))) s195 (!(lget r57 s195)) rfl O194 ha422 (h418) (by kernel_rfl) (by kernel_rfl) Try.sizeOf4 (fun _ => rBool_mk) ?_)
        intro w427 s428 O429
        refine nil_ ?_
        refine blk_normal ?_
        have E430 := (Evo.thenW E333 (Step.evo s428) O194.2.2)
        have hXo431 := (Old.step hXo334 s428)
        have hS432 := (Sub.trans hS335 (Step.up s428))
        have O433 := (OS.step O336 s428 (Ap.symm p69))
        refine then_normal (hJ392 _ _ _ ⟨[], fit_mk (fun _ _ => rfl) (by kernel_rfl) vs_nil, ?_⟩)
        exact ⟨X321, (lset s193 s195 (!(lget r57 s195))), rfl, E430, hXo431, hS432, O433, O429, hp⟩
      ·
        replace hp := hp.2 h408
        refine sq (o_pv (.bool false) rfl (x_bf (x_load1 (by kernel_rfl) Try.isAgg4 (hc407 0 _ rfl)) h408) ?_)
        refine sq (o_pv (.bool false) rfl (by kernel_rfl) ?_)
        refine sq (o_not (by kernel_rfl) ?_)
        refine sq (o_not (by kernel_rfl) ?_)
        refine sq (o_not (by kernel_rfl) ?_)
        refine sq (o_not (by kernel_rfl) ?_)
        refine sq (o_not (by kernel_rfl) ?_)
        refine sq (o_pv (.bool false) rfl (by kernel_rfl) ?_)
        obtain ⟨h434, hp⟩ := hp
        obtain ⟨b435, o436, cs437, ha438, nx439, lt440, ok441, hc442⟩ := Sl.atI (OS.rd O194) s195 h434
        obtain rfl := ok441
        refine sq (o_pv (.pointer (some ⟨b435, o436 + s195.toNat * 1, none⟩)) rfl (x_ixA (m := r25.length) (c := c30) (k := .i64) (i := s195) Try.underlying111 Try.sizeOf4 (by rw [← ha438]; kernel_rfl) (by kernel_rfl) ⟨h434.1, by rw [O194.1]; exact h434.2⟩) ?_)
        refine sq (o_stS (o := o436) (v := (.bool false)) s195 false rfl O194 ha438 (h434) (by kernel_rfl) (by kernel_rfl) Try.sizeOf4 (fun _ => rBool_mk) ?_)
        intro w443 s444 O445
        refine nil_ ?_
        refine blk_normal ?_
        have E446 := (Evo.thenW E333 (Step.evo s444) O194.2.2)
        have hXo447 := (Old.step hXo334 s444)
        have hS448 := (Sub.trans hS335 (Step.up s444))
        have O449 := (OS.step O336 s444 (Ap.symm p69))
        refine then_normal (hJ392 _ _ _ ⟨[], fit_mk (fun _ _ => rfl) (by kernel_rfl) vs_nil, ?_⟩)
        exact ⟨X321, (lset s193 s195 false), rfl, E446, hXo447, hS448, O449, O445, hp⟩
    ·
      rintro _ w389 g450 ⟨X390, s385, rfl, E394, hXo395, hS396, O397, O386, hv393⟩
      replace hp := hk388 s385 hv393 (OS.len O386)
      refine then_normal (K340 _ _ _ _ ?_)
      refine reg_ ?_
      obtain ⟨h451, hp⟩ := hp
      refine sq (o_pv (.int .i64 (s195 + (1 : Int))) rfl (x_add2 (k := .i64) (a := s195) (b := (1 : Int)) (s195 + (1 : Int)) (by kernel_rfl) (by kernel_rfl) (wrap_inR h451)) ?_)
      refine sq (o_pv (.int .i64 (s195 + (1 : Int))) rfl (by kernel_rfl) ?_)
      refine nil_ ?_
      refine then_normal (hA325 _ _ _ ⟨_, [(20, (.int .i64 (s195 + (1 : Int))))], hp.2, fit_mk (AgB.nest (AgB.look (AgB.mix _ _ _) (by kernel_rfl)) (by kernel_rfl) (by kernel_rfl)) (by kernel_rfl) (vs_cons (by kernel_rfl) vs_nil), ?_⟩)
      exact ⟨X390, s385, (s195 + (1 : Int)), rfl, rfl, E394, hXo395, hS396, O397, O386, h451, hp.1⟩
  ·
    replace hp := hp.2 h339
    refine wp_exit ?_
    refine then_exit ?_
    refine then_exit ?_
    refine blk_exit ?_
    refine then_normal (K70 _ _ _ _ ?_)
    refine seq_ (fun _ K452 => ?_)
    refine reg_ ?_
    refine sq (o_pv (.slice a29 r25.length c30) rfl (by kernel_rfl) ?_)
    refine sq (o_call 78 #[(.slice a29 s193.length c30)] rfl (x_call Try.call78 (by rw [← show r25.length = s193.length from O194.1]; kernel_rfl)) (graph_row_w (X := X) (l := s193) (Old.less hXo334 hS335) (OS.out O194 hS335 hX0) hp) ?_)
    rintro _ w454 ⟨r453, hp, e455, ar457, cr458, rfl, hr459⟩
    have s456 := Step.of0 X321 e455
    replace hp := hp (Sl.len hr459)
    refine sq (o_pv (.slice ar457 r453.length cr458) rfl (by kernel_rfl) ?_)
    refine nil_ ?_
    refine then_normal (K452 _ _ _ _ ?_)
    refine wp_ret ?_
    have E460 := (Evo.then0 E333 e455)
    refine end_ret hQ (.slice ar457 r453.length cr458) (by kernel_rfl) ?_
    exact ⟨r453, hp, E460, ar457, cr458, rfl, hr459⟩

def graph_wrong_1_p (p : Int) (cap0 : Int) (Q : Bool → Prop) : Prop :=
  ((inR .i64 p) → ((inR .i64 cap0) → Q (decide ((p < (1 : Int)) ∨ (p ≥ cap0)))))
set_option maxRecDepth 20000 in
set_option maxHeartbeats 4000000 in
theorem graph_wrong_1_w {X : List Nat} {w : World} {p : Int} {cap0 : Int} {bcap02 : Nat} {Q : Bool → Prop} (hX0 : Old X w) (rp1 : inR .i64 p) (kcap03 : RO X w bcap02 [(.int .i64 cap0)] 3) (rcap04 : inR .i64 cap0) (hp : graph_wrong_1_p p cap0 Q) :
    Calls Try.prog 98 #[(.int .i64 p), (.pointer (some ⟨bcap02, 0, none⟩))] w (Ret fun v w' => ∃ (r0 : Bool), Q r0 ∧ Evo [] w w' ∧ v = (.bool r0)) := by
  have hXo := hX0
  have E0 : Evo [] w w := RB.refl _ _ _
  have hS : Sub X X := Sub.refl _
  unfold graph_wrong_1_p at hp
  refine enter_ Try.func98 rfl 11 [(0, (.int .i64 p)), (1, (.pointer (some ⟨bcap02, 0, none⟩)))] (by kernel_rfl) (fun Qe hQ => ?_)
  replace hp := hp rp1
  replace hp := hp rcap04
  refine seq_ (fun _ K5 => ?_)
  refine reg_ ?_
  refine sq (o_pv (.bool false) rfl (by kernel_rfl) ?_)
  refine nil_ ?_
  refine then_normal (K5 _ _ _ _ ?_)
  refine seq_ (fun _ K6 => ?_)
  refine ground_ ?_
  refine join_ 2040 (fun lq w10 => lq = [(3, (.bool (decide ((p < (1 : Int)) ∨ (p ≥ cap0)))))] ∧ w = w10) (fun Kj8 hJ9 => ?_) ?_
  ·
    refine reg_ ?_
    refine sq (o_pv (.int .i64 p) rfl (by kernel_rfl) ?_)
    by_cases h12 : p < (1 : Int)
    ·
      refine sq (o_pv (.bool true) rfl (x_dt (p := p < (1 : Int)) (by kernel_rfl) h12) ?_)
      refine sq (o_pv (.bool true) rfl (by kernel_rfl) ?_)
      refine sq (o_not (by kernel_rfl) ?_)
      refine sq (o_not (by kernel_rfl) ?_)
      refine sq (o_not (by kernel_rfl) ?_)
      refine sq (o_pv (.bool true) rfl (by kernel_rfl) ?_)
      refine sq (o_pv (.bool true) rfl (by kernel_rfl) ?_)
      refine nil_ ?_
      refine then_normal (hJ9 _ _ _ ⟨[(3, (.bool (decide ((p < (1 : Int)) ∨ (p ≥ cap0)))))], fit_mk (fun _ _ => rfl) (by kernel_rfl) (vs_cons (Eq.trans (b := (.bool true)) (by kernel_rfl) (dec_t (iff_true_intro (Or.inl h12))).symm) vs_nil), rfl, rfl⟩)
    ·
      refine sq (o_pv (.bool false) rfl (x_df (p := p < (1 : Int)) (by kernel_rfl) h12) ?_)
      refine sq (o_pv (.bool false) rfl (by kernel_rfl) ?_)
      refine sq (o_pv (.int .i64 p) (by kernel_rfl) (by kernel_rfl) ?_)
      refine sq (o_pv (.int .i64 cap0) (by kernel_rfl) (x_load1 (by kernel_rfl) Try.isAgg3 (kcap03.2.cell' 0 rfl)) ?_)
      refine sq (o_pv (.bool (decide (p ≥ cap0))) (by kernel_rfl) (by kernel_rfl) ?_)
      refine sq (o_pv (.bool (decide (p ≥ cap0))) rfl (by kernel_rfl) ?_)
      refine sq (o_pv (.bool (decide (p ≥ cap0))) rfl (by kernel_rfl) ?_)
      refine nil_ ?_
      refine then_normal (hJ9 _ _ _ ⟨[(3, (.bool (decide ((p < (1 : Int)) ∨ (p ≥ cap0)))))], fit_mk (fun _ _ => rfl) (by kernel_rfl) (vs_cons (Eq.trans (b := (.bool (decide (p ≥ cap0)))) (by kernel_rfl) (dec_d ((or_iff_right h12).trans Iff.rfl)).symm) vs_nil), rfl, rfl⟩)
  ·
    rintro _ w10 g11 ⟨rfl, hw⟩
    subst hw
    refine then_normal (K6 _ _ _ _ ?_)
    refine wp_ret ?_
    refine end_ret hQ (.bool (decide ((p < (1 : Int)) ∨ (p ≥ cap0)))) (by kernel_rfl) ?_
    exact ⟨(decide ((p < (1 : Int)) ∨ (p ≥ cap0))), hp, E0, rfl⟩

def slices_IndexFunc_int_int__graph_wrong_1_p (s : (List Int)) (f_ : Int) (Q : Int → Prop) : Prop :=
  ((s.length ≤ 9223372036854775807) → ((inR .i64 f_) → (∃ (I37 : Int → Prop) (m38 : Int → Nat), (I37 (0 : Int)) ∧ ∀ (s10 : Int), (I37 s10) → (inR .i64 s10) → (((s10 < (s.length : Int)) → ((inL s s10) ∧ ((inR .i64 (lget s s10)) → (graph_wrong_1_p (lget s s10) f_ (fun (r68 : Bool) => (((r68 = true) → Q s10) ∧ ((r68 = false) → ((inR .i64 (s10 + (1 : Int))) ∧ ((I37 (s10 + (1 : Int))) ∧ m38 (s10 + (1 : Int)) < m38 s10))))))))) ∧ ((¬ (s10 < (s.length : Int))) → Q (-1 : Int))))))
set_option maxRecDepth 20000 in
set_option maxHeartbeats 4000000 in
theorem slices_IndexFunc_int_int__graph_wrong_1_w {X : List Nat} {w : World} {s : (List Int)} {f_ : Int} {as1 : Option Addr} {cs2 : Nat} {bf_c04 : Nat} {Q : Int → Prop} (hX0 : Old X w) (hs3 : Sl (rInt .i64) X w as1 cs2 s) (kf_c05 : RO X w bf_c04 [(.int .i64 f_)] 3) (rf_c06 : inR .i64 f_) (hp : slices_IndexFunc_int_int__graph_wrong_1_p s f_ Q) :
    Calls Try.prog 108 #[(.slice as1 s.length cs2), (.func (.func 98) #[] #[(.pointer (some ⟨bf_c04, 0, none⟩))])] w (Ret fun v w' => ∃ (r0 : Int), Q r0 ∧ Evo [] w w' ∧ v = (.int .i64 r0) ∧ inR .i64 r0) := by
  have hXo := hX0
  have E0 : Evo [] w w := RB.refl _ _ _
  have hS : Sub X X := Sub.refl _
  unfold slices_IndexFunc_int_int__graph_wrong_1_p at hp
  refine enter_ Try.func108 rfl 19 [(0, (.slice as1 s.length cs2)), (1, (.func (.func 98) #[] #[(.pointer (some ⟨bf_c04, 0, none⟩))]))] (by kernel_rfl) (fun Qe hQ => ?_)
  replace hp := hp (Sl.len hs3)
  replace hp := hp rf_c06
  refine seq_ (fun _ K7 => ?_)
  refine reg_ ?_
  refine sq (o_pv (.int .i64 (0 : Int)) rfl (by kernel_rfl) ?_)
  refine nil_ ?_
  refine then_normal (K7 _ _ _ _ ?_)
  refine seq_ (fun _ K8 => ?_)
  refine seq_ (fun _ K9 => ?_)
  refine reg_ ?_
  refine sq (o_pv (.slice as1 s.length cs2) rfl (by kernel_rfl) ?_)
  refine sq (o_pv (.int .i64 (s.length : Int)) rfl (by kernel_rfl) ?_)
  refine sq (o_pv (.int .i64 (0 : Int)) rfl (by kernel_rfl) ?_)
  refine nil_ ?_
  refine then_normal (K9 _ _ _ _ ?_)
  refine wp_block ?_
  obtain ⟨I37, m38, hI39, hp⟩ := hp
  refine loop_ 524080 (fun kq lq w41 => ∃ (X42 : List Nat) (s10 : Int), (lq = [(8, (.int .i64 s10))]) ∧ (kq = m38 s10) ∧ (Evo [] w w41) ∧ (Old X42 w41) ∧ (Sub X X42) ∧ (Sl (rInt .i64) X42 w41 as1 cs2 s) ∧ (RO X42 w41 bf_c04 [(.int .i64 f_)] 3) ∧ (inR .i64 s10) ∧ (I37 s10)) (m38 (0 : Int)) [(8, (.int .i64 (0 : Int)))] (vs_cons (by kernel_rfl) vs_nil) ⟨X, (0 : Int), rfl, rfl, E0, hXo, hS, hs3, kf_c05, (by decide), hI39⟩ ?_
  rintro _ _ w41 g44 ⟨X42, s10, rfl, rfl, E47, hXo48, hS49, hs50, kf_c51, rs11, hI40⟩ Kl45 hA46
  replace hp := hp s10 hI40 rs11
  refine seq_ (fun _ K52 => ?_)
  refine reg_ ?_
  refine sq (o_pv (.bool (decide (s10 < (s.length : Int)))) rfl (by kernel_rfl) ?_)
  refine nil_ ?_
  refine then_normal (K52 _ _ _ _ ?_)
  refine seq_ (fun _ K53 => ?_)
  refine cond_d (s10 < (s.length : Int)) (by kernel_rfl) (fun h54 => ?_) (fun h54 => ?_)
  ·
    replace hp := hp.1 h54
    refine wp_skip ?_
    refine then_normal (K53 _ _ _ _ ?_)
    refine seq_ (fun _ K55 => ?_)
    refine wp_block ?_
    refine seq_ (fun _ K56 => ?_)
    refine reg_ ?_
    refine sq (o_pv (.int .i64 s10) rfl (by kernel_rfl) ?_)
    refine sq (o_pv (.int .i64 s10) rfl (by kernel_rfl) ?_)
    refine nil_ ?_
    refine then_normal (K56 _ _ _ _ ?_)
    refine seq_ (fun _ K57 => ?_)
    refine reg_ ?_
    refine sq (o_pv (.func (.func 98) #[] #[(.pointer (some ⟨bf_c04, 0, none⟩))]) rfl (by kernel_rfl) ?_)
    refine sq (o_pv (.slice as1 s.length cs2) rfl (by kernel_rfl) ?_)
    refine sq (o_pv (.int .i64 s10) rfl (by kernel_rfl) ?_)
    obtain ⟨h58, hp⟩ := hp
    obtain ⟨b59, o60, cs61, ha62, nx63, lt64, ok65, hc66⟩ := Sl.atI hs50 s10 h58
    obtain ⟨rfl, re67⟩ := ok65
    replace hp := hp re67
    refine sq (o_pv (.pointer (some ⟨b59, o60 + s10.toNat * 1, none⟩)) rfl (x_ixA (m := s.length) (c := cs2) (k := .i64) (i := s10) Try.underlying61 Try.sizeOf3 (by rw [← ha62]; kernel_rfl) (by kernel_rfl) h58) ?_)
    refine sq (o_pv (.int .i64 (lget s s10)) rfl (x_load1 (by kernel_rfl) Try.isAgg3 (hc66 0 _ rfl)) ?_)
    refine sq (o_call 98 #[(.int .i64 (lget s s10)), (.pointer (some ⟨bf_c04, 0, none⟩))] rfl (x_callc (first := #[]) (cap := #[(.pointer (some ⟨bf_c04, 0, none⟩))]) (by kernel_rfl) Try.call98 (by kernel_rfl)) (graph_wrong_1_w (X := []) (p := lget s s10) (cap0 := f_) (Old.nil _) re67 ⟨(fun hm => by cases hm), kf_c51.2⟩ rf_c06 hp) ?_)
    rintro _ w69 ⟨r68, hp, e70, rfl⟩
    have s71 := Step.of0 X42 e70
    refine nil_ ?_
    refine then_normal (K57 _ _ _ _ ?_)
    refine cond_b r68 (by kernel_rfl) (fun h72 => ?_) (fun h72 => ?_)
    ·
      replace hp := hp.1 h72
      refine seq_ (fun _ K73 => ?_)
      refine reg_ ?_
      refine sq (o_pv (.int .i64 s10) rfl (by kernel_rfl) ?_)
      refine sq (o_pv (.int .i64 s10) rfl (by kernel_rfl) ?_)
      refine nil_ ?_
      refine then_normal (K73 _ _ _ _ ?_)
      refine wp_ret ?_
      refine blk_ret ?_
      refine then_ret ?_
      refine then_ret ?_
      refine blk_ret ?_
      refine then_ret ?_
      have E74 := (Evo.then0 E47 e70)
      refine end_ret hQ (.int .i64 s10) (by kernel_rfl) ?_
      exact ⟨s10, hp, E74, rfl, rs11⟩
    ·
      replace hp := hp.2 h72
      refine wp_skip ?_
      refine blk_normal ?_
      refine then_normal (K55 _ _ _ _ ?_)
      refine reg_ ?_
      obtain ⟨h75, hp⟩ := hp
      refine sq (o_pv (.int .i64 (s10 + (1 : Int))) rfl (x_add2 (k := .i64) (a := s10) (b := (1 : Int)) (s10 + (1 : Int)) (by kernel_rfl) (by kernel_rfl) (wrap_inR h75)) ?_)
      refine sq (o_pv (.int .i64 (s10 + (1 : Int))) rfl (by kernel_rfl) ?_)
      refine nil_ ?_
      have E76 := (Evo.then0 E47 e70)
      have hXo77 := (Old.step hXo48 s71)
      have hS78 := (Sub.trans hS49 (Step.up s71))
      have hs79 := (Sl.step hs50 s71)
      have kf_c80 := (RO.step kf_c51 s71)
      refine then_normal (hA46 _ _ _ ⟨_, [(8, (.int .i64 (s10 + (1 : Int))))], hp.2, fit_mk (AgB.mix _ _ _) (by kernel_rfl) (vs_cons (by kernel_rfl) vs_nil), ?_⟩)
      exact ⟨X42, (s10 + (1 : Int)), rfl, rfl, E76, hXo77, hS78, hs79, kf_c80, h75, hp.1⟩
  ·
    replace hp := hp.2 h54
    refine wp_exit ?_
    refine then_exit ?_
    refine then_exit ?_
    refine blk_exit ?_
    refine then_normal (K8 _ _ _ _ ?_)
    refine seq_ (fun _ K81 => ?_)
    refine reg_ ?_
    refine sq (o_pv (.int .i64 (-1 : Int)) rfl (by kernel_rfl) ?_)
    refine nil_ ?_
    refine then_normal (K81 _ _ _ _ ?_)
    refine wp_ret ?_
    refine end_ret hQ (.int .i64 (-1 : Int)) (by kernel_rfl) ?_
    exact ⟨(-1 : Int), hp, E47, rfl, (by decide)⟩

def slices_ContainsFunc_int_int__graph_wrong_1_p (s : (List Int)) (f_ : Int) (Q : Bool → Prop) : Prop :=
  ((s.length ≤ 9223372036854775807) → ((inR .i64 f_) → (slices_IndexFunc_int_int__graph_wrong_1_p s f_ (fun (r9 : Int) => ((inR .i64 r9) → Q (decide (r9 ≥ (0 : Int))))))))
set_option maxRecDepth 20000 in
set_option maxHeartbeats 4000000 in
theorem slices_ContainsFunc_int_int__graph_wrong_1_w {X : List Nat} {w : World} {s : (List Int)} {f_ : Int} {as1 : Option Addr} {cs2 : Nat} {bf_c04 : Nat} {Q : Bool → Prop} (hX0 : Old X w) (hs3 : Sl (rInt .i64) X w as1 cs2 s) (kf_c05 : RO X w bf_c04 [(.int .i64 f_)] 3) (rf_c06 : inR .i64 f_) (hp : slices_ContainsFunc_int_int__graph_wrong_1_p s f_ Q) :
    Calls Try.prog 97 #[(.slice as1 s.length cs2), (.func (.func 98) #[] #[(.pointer (some ⟨bf_c04, 0, none⟩))])] w (Ret fun v w' => ∃ (r0 : Bool), Q r0 ∧ Evo [] w w' ∧ v = (.bool r0)) := by
  have hXo := hX0
  have E0 : Evo [] w w := RB.refl _ _ _
  have hS : Sub X X := Sub.refl _
  unfold slices_ContainsFunc_int_int__graph_wrong_1_p at hp
  refine enter_ Try.func97 rfl 9 [(0, (.slice as1 s.length cs2)), (1, (.func (.func 98) #[] #[(.pointer (some ⟨bf_c04, 0, none⟩))]))] (by kernel_rfl) (fun Qe hQ => ?_)
  replace hp := hp (Sl.len hs3)
  replace hp := hp rf_c06
  refine seq_ (fun _ K7 => ?_)
  refine reg_ ?_
  refine sq (o_pv (.bool false) rfl (by kernel_rfl) ?_)
  refine nil_ ?_
  refine then_normal (K7 _ _ _ _ ?_)
  refine seq_ (fun _ K8 => ?_)
  refine reg_ ?_
  refine sq (o_pv (.slice as1 s.length cs2) rfl (by kernel_rfl) ?_)
  refine sq (o_pv (.func (.func 98) #[] #[(.pointer (some ⟨bf_c04, 0, none⟩))]) rfl (by kernel_rfl) ?_)
  refine sq (o_call 108 #[(.slice as1 s.length cs2), (.func (.func 98) #[] #[(.pointer (some ⟨bf_c04, 0, none⟩))])] rfl (x_call Try.call108 (by kernel_rfl)) (slices_IndexFunc_int_int__graph_wrong_1_w (X := []) (s := s) (f_ := f_) (Old.nil _) (Sl.less hs3 (Sub.nil _)) ⟨(fun hm => by cases hm), kf_c05.2⟩ rf_c06 hp) ?_)
  rintro _ w10 ⟨r9, hp, e11, rfl, rr13⟩
  have s12 := Step.of0 X e11
  replace hp := hp rr13
  refine sq (o_pv (.bool (decide (r9 ≥ (0 : Int)))) rfl (by kernel_rfl) ?_)
  refine sq (o_pv (.bool (decide (r9 ≥ (0 : Int)))) rfl (by kernel_rfl) ?_)
  refine nil_ ?_
  refine then_normal (K8 _ _ _ _ ?_)
  refine wp_ret ?_
  have E14 := (Evo.then0 E0 e11)
  refine end_ret hQ (.bool (decide (r9 ≥ (0 : Int)))) (by kernel_rfl) ?_
  exact ⟨(decide (r9 ≥ (0 : Int))), hp, E14, rfl⟩

def graph_wrong_p (id : Int) (l : (List Int)) (Q : Int → Prop) : Prop :=
  ((inR .i64 id) → ((l.length ≤ 9223372036854775807) → (∃ k21 : Bool → Prop, (∀ (s20 : Bool), k21 s20 → (((s20 = true) → Q (1 : Int)) ∧ ((s20 = false) → (∃ k82 : Bool → Prop, (∀ (s81 : Bool), k82 s81 → (((s81 = true) → Q (6 : Int)) ∧ ((s81 = false) → Q (0 : Int)))) ∧ ((((l.length : Int) = (2 : Int)) → ((inL l (0 : Int)) ∧ ((inR .i64 (lget l (0 : Int))) → ((inL l (1 : Int)) ∧ ((inR .i64 (lget l (1 : Int))) → (k82 (decide ((lget l (0 : Int)) = (lget l (1 : Int)))))))))) ∧ ((¬ ((l.length : Int) = (2 : Int))) → (k82 false))))))) ∧ ((((l.length : Int) > (2 : Int)) → (k21 true)) ∧ ((¬ ((l.length : Int) > (2 : Int))) → (slices_ContainsFunc_int_int__graph_wrong_1_p l id (fun (r37 : Bool) => (k21 r37))))))))
set_option maxRecDepth 20000 in
set_option maxHeartbeats 4000000 in
theorem graph_wrong_w {X : List Nat} {w : World} {id : Int} {l : (List Int)} {al2 : Option Addr} {cl3 : Nat} {Q : Int → Prop} (hX0 : Old X w) (rid1 : inR .i64 id) (hl4 : Sl (rInt .i64) X w al2 cl3 l) (hp : graph_wrong_p id l Q) :
    Calls Try.prog 76 #[(.int .i64 id), (.slice al2 l.length cl3)] w (Ret fun v w' => ∃ (r0 : Int), Q r0 ∧ Evo [] w w' ∧ v = (.int .i64 r0) ∧ inR .i64 r0) := by
  have hXo := hX0
  have E0 : Evo [] w w := RB.refl _ _ _
  have hS : Sub X X := Sub.refl _
  unfold graph_wrong_p at hp
  refine enter_ Try.func76 rfl 25 [(0, (.int .i64 id)), (1, (.slice al2 l.length cl3))] (by kernel_rfl) (fun Qe hQ => ?_)
  replace hp := hp rid1
  replace hp := hp (Sl.len hl4)
  refine seq_ (fun _ K5 => ?_)
  refine reg_ ?_
  refine sq (o_newX [(.int .i64 id)] 3 (X := X) (B := w.heap.size) E0.size rfl (by kernel_rfl) ?_)
  intro b6 w7 X8 s9 k10 n11
  refine sq (o_pv (.int .i64 (0 : Int)) rfl (by kernel_rfl) ?_)
  refine nil_ ?_
  refine then_normal (K5 _ _ _ _ ?_)
  refine seq_ (fun _ K12 => ?_)
  refine seq_ (fun _ K13 => ?_)
  have hl28 := (Sl.step hl4 s9)
  have hXo29 := (Old.step hXo s9)
  have E30 := (Evo.then0 E0 (Step.evo s9))
  have hS31 := (Sub.trans hS (Step.up s9))
  obtain ⟨k21, hk22, hp⟩ := hp
  refine ground_ ?_
  refine join_ 8160 (fun lq w23 => ∃ (X24 : List Nat) (s20 : Bool), (lq = [(12, (.bool s20))]) ∧ (Evo [] w w23) ∧ (Old X24 w23) ∧ (Sub X X24) ∧ (Sl (rInt .i64) X24 w23 al2 cl3 l) ∧ (k21 s20)) (fun Kj25 hJ26 => ?_) ?_
  ·
    refine reg_ ?_
    refine sq (o_pv (.slice al2 l.length cl3) rfl (by kernel_rfl) ?_)
    refine sq (o_pv (.int .i64 (l.length : Int)) rfl (by kernel_rfl) ?_)
    by_cases h36 : (l.length : Int) > (2 : Int)
    ·
      replace hp := hp.1 h36
      refine sq (o_pv (.bool true) rfl (x_dt (p := (l.length : Int) > (2 : Int)) (by kernel_rfl) h36) ?_)
      refine sq (o_pv (.bool true) rfl (by kernel_rfl) ?_)
      refine sq (o_not (by kernel_rfl) ?_)
      refine sq (o_not (by kernel_rfl) ?_)
      refine sq (o_not (by kernel_rfl) ?_)
      refine sq (o_pv (.bool true) rfl (by kernel_rfl) ?_)
      refine nil_ ?_
      refine then_normal (hJ26 _ _ _ ⟨[(12, (.bool true))], fit_mk (fun _ _ => rfl) (by kernel_rfl) (vs_cons (by kernel_rfl) vs_nil), ?_⟩)
      exact ⟨X8, true, rfl, E30, hXo29, hS31, hl28, hp⟩
    ·
      replace hp := hp.2 h36
      refine sq (o_pv (.bool false) rfl (x_df (p := (l.length : Int) > (2 : Int)) (by kernel_rfl) h36) ?_)
      refine sq (o_pv (.bool false) rfl (by kernel_rfl) ?_)
      refine sq (o_pv (.slice al2 l.length cl3) (by kernel_rfl) (by kernel_rfl) ?_)
      refine sq (o_pv (.func (.func 98) #[] #[(.pointer (some ⟨b6, 0, none⟩))]) (by kernel_rfl) (by kernel_rfl) ?_)
      refine sq (o_call 97 #[(.slice al2 l.length cl3), (.func (.func 98) #[] #[(.pointer (some ⟨b6, 0, none⟩))])] (by kernel_rfl) (x_call Try.call97 (by kernel_rfl)) (slices_ContainsFunc_int_int__graph_wrong_1_w (X := []) (s := l) (f_ := id) (Old.nil _) (Sl.less hl28 (Sub.nil _)) ⟨(fun hm => by cases hm), k10.2.1⟩ rid1 hp) ?_)
      rintro _ w38 ⟨r37, hp, e39, rfl⟩
      have s40 := Step.of0 X8 e39
      refine sq (o_pv (.bool r37) rfl (by kernel_rfl) ?_)
      refine nil_ ?_
      have E41 := (Evo.then0 E30 e39)
      have hXo42 := (Old.step hXo29 s40)
      have hS43 := (Sub.trans hS31 (Step.up s40))
      have hl44 := (Sl.step hl28 s40)
      refine then_normal (hJ26 _ _ _ ⟨[(12, (.bool r37))], fit_mk (fun _ _ => rfl) (by kernel_rfl) (vs_cons (by kernel_rfl) vs_nil), ?_⟩)
      exact ⟨X8, r37, rfl, E41, hXo42, hS43, hl44, hp⟩
  ·
    rintro _ w23 g45 ⟨X24, s20, rfl, E32, hXo33, hS34, hl35, hv27⟩
    replace hp := hk22 s20 hv27
    refine then_normal (K13 _ _ _ _ ?_)
    refine cond_b s20 (by kernel_rfl) (fun h46 => ?_) (fun h46 => ?_)
    ·
      replace hp := hp.1 h46
      refine seq_ (fun _ K47 => ?_)
      refine reg_ ?_
      refine sq (o_pv (.int .i64 (1 : Int)) rfl (by kernel_rfl) ?_)
      refine nil_ ?_
      refine then_normal (K47 _ _ _ _ ?_)
      refine wp_ret ?_
      refine then_ret ?_
      refine end_ret hQ (.int .i64 (1 : Int)) (by kernel_rfl) ?_
      exact ⟨(1 : Int), hp, E32, rfl, (by decide)⟩
    ·
      replace hp := hp.2 h46
      refine wp_skip ?_
      refine then_normal (K12 _ _ _ _ ?_)
      refine seq_ (fun _ K48 => ?_)
      refine seq_ (fun _ K49 => ?_)
      obtain ⟨k82, hk83, hp⟩ := hp
      refine ground_ ?_
      refine join_ 33546240 (fun lq w84 => ∃ (X85 : List Nat) (s81 : Bool), (lq = [(24, (.bool s81))]) ∧ (Evo [] w w84) ∧ (Old X85 w84) ∧ (Sub X X85) ∧ (k82 s81)) (fun Kj86 hJ87 => ?_) ?_
      ·
        refine reg_drawn (RB w23.heap.size []) 12 (by kernel_rfl) (fun w92 hd93 => ?_)
        have e94 := Evo.of_drew hd93
        have z95 : w92.heap.size = w23.heap.size := by rw [hd93]
        clear hd93
        have s97 := Step.of0 X24 e94
        have er96 := RB.refl w23.heap.size [] w92
        have E98 := (Evo.then0 E32 (Step.evo s97))
        have hXo99 := (Old.step hXo33 s97)
        have hS100 := (Sub.trans hS34 (Step.up s97))
        have hl101 := (Sl.step hl35 s97)
        refine r_take 0 (.slice al2 l.length cl3) (RB.pre _ _) rfl (by kernel_rfl) (fun _ _ _ h => hQ.panic _ _ _ _ _ h) (.inl ⟨rfl, fun wq hq => (by kernel_rfl)⟩) ?_
        refine r_take 1 (.int .i64 (l.length : Int)) (RB.pre _ _) rfl (by kernel_rfl) (fun _ _ _ h => hQ.panic _ _ _ _ _ h) (.inl ⟨rfl, fun wq hq => (by kernel_rfl)⟩) ?_
        by_cases h102 : (l.length : Int) = (2 : Int)
        ·
          replace hp := hp.1 h102
          refine r_take 2 (.bool true) (RB.pre _ _) rfl (by kernel_rfl) (fun _ _ _ h => hQ.panic _ _ _ _ _ h) (.inl ⟨rfl, fun wq hq => (x_dt (p := (l.length : Int) = (2 : Int)) (by kernel_rfl) h102)⟩) ?_
          refine r_take 3 (.bool true) (RB.pre _ _) rfl (by kernel_rfl) (fun _ _ _ h => hQ.panic _ _ _ _ _ h) (.inl ⟨rfl, fun wq hq => (by kernel_rfl)⟩) ?_
          refine r_take 4 (.slice al2 l.length cl3) (RB.pre _ _) rfl (by kernel_rfl) (fun _ _ _ h => hQ.panic _ _ _ _ _ h) (.inl ⟨(by kernel_rfl), fun wq hq => (by kernel_rfl)⟩) ?_
          obtain ⟨h103, hp⟩ := hp
          obtain ⟨b104, o105, cs106, ha107, nx108, lt109, ok110, hc111⟩ := Sl.atI hl101 (0 : Int) h103
          obtain ⟨rfl, re112⟩ := ok110
          replace hp := hp re112
          refine r_take 5 (.pointer (some ⟨b104, o105 + (0 : Int).toNat * 1, none⟩)) (RB.pre _ _) rfl (by kernel_rfl) (fun _ _ _ h => hQ.panic _ _ _ _ _ h) (.inl ⟨(by kernel_rfl), fun wq hq => (x_ixA (m := l.length) (c := cl3) (k := .i64) (i := (0 : Int)) Try.underlying61 Try.sizeOf3 (by rw [← ha107]; kernel_rfl) (by kernel_rfl) h103)⟩) ?_
          refine r_take 6 (.int .i64 (lget l (0 : Int))) (RB.pre _ _) rfl (by kernel_rfl) (fun _ _ _ h => hQ.panic _ _ _ _ _ h) (.inl ⟨(by kernel_rfl), fun wq hq => (x_load1 (by kernel_rfl) Try.isAgg3 ((CellsAt.rb hc111 (RB.trans er96 hq) (Nat.lt_of_lt_of_eq lt109 z95) (fun h => by cases h)) 0 _ rfl))⟩) ?_
          refine r_take 7 (.slice al2 l.length cl3) (RB.pre _ _) rfl (by kernel_rfl) (fun _ _ _ h => hQ.panic _ _ _ _ _ h) (.inl ⟨(by kernel_rfl), fun wq hq => (by kernel_rfl)⟩) ?_
          obtain ⟨h113, hp⟩ := hp
          obtain ⟨b114, o115, cs116, ha117, nx118, lt119, ok120, hc121⟩ := Sl.atI hl101 (1 : Int) h113
          obtain ⟨rfl, re122⟩ := ok120
          replace hp := hp re122
          refine r_take 8 (.pointer (some ⟨b114, o115 + (1 : Int).toNat * 1, none⟩)) (RB.pre _ _) rfl (by kernel_rfl) (fun _ _ _ h => hQ.panic _ _ _ _ _ h) (.inl ⟨(by kernel_rfl), fun wq hq => (x_ixA (m := l.length) (c := cl3) (k := .i64) (i := (1 : Int)) Try.underlying61 Try.sizeOf3 (by rw [← ha117]; kernel_rfl) (by kernel_rfl) h113)⟩) ?_
          refine r_take 9 (.int .i64 (lget l (1 : Int))) (RB.pre _ _) rfl (by kernel_rfl) (fun _ _ _ h => hQ.panic _ _ _ _ _ h) (.inl ⟨(by kernel_rfl), fun wq hq => (x_load1 (by kernel_rfl) Try.isAgg3 ((CellsAt.rb hc121 (RB.trans er96 hq) (Nat.lt_of_lt_of_eq lt119 z95) (fun h => by cases h)) 0 _ rfl))⟩) ?_
          refine r_take 10 (.bool (decide ((lget l (0 : Int)) = (lget l (1 : Int))))) (RB.pre _ _) rfl (by kernel_rfl) (fun _ _ _ h => hQ.panic _ _ _ _ _ h) (.inl ⟨(by kernel_rfl), fun wq hq => (by kernel_rfl)⟩) ?_
          refine r_take 11 (.bool (decide ((lget l (0 : Int)) = (lget l (1 : Int))))) (RB.pre _ _) rfl (by kernel_rfl) (fun _ _ _ h => hQ.panic _ _ _ _ _ h) (.inl ⟨rfl, fun wq hq => (by kernel_rfl)⟩) ?_
          refine r_done (by kernel_rfl) ?_
          refine then_normal (hJ87 _ _ _ ⟨[(24, (.bool (decide ((lget l (0 : Int)) = (lget l (1 : Int))))))], fit_mk (fun _ _ => rfl) (by kernel_rfl) (vs_cons (by kernel_rfl) vs_nil), ?_⟩)
          exact ⟨X24, (decide ((lget l (0 : Int)) = (lget l (1 : Int)))), rfl, E98, hXo99, hS100, hp⟩
        ·
          replace hp := hp.2 h102
          refine r_take 2 (.bool false) (RB.pre _ _) rfl (by kernel_rfl) (fun _ _ _ h => hQ.panic _ _ _ _ _ h) (.inl ⟨rfl, fun wq hq => (x_df (p := (l.length : Int) = (2 : Int)) (by kernel_rfl) h102)⟩) ?_
          refine r_take 3 (.bool false) (RB.pre _ _) rfl (by kernel_rfl) (fun _ _ _ h => hQ.panic _ _ _ _ _ h) (.inl ⟨rfl, fun wq hq => (by kernel_rfl)⟩) ?_
          refine r_take 4 undef (RB.pre _ _) rfl (by kernel_rfl) (fun _ _ _ h => hQ.panic _ _ _ _ _ h) (.inr ⟨by kernel_rfl, rfl⟩) ?_
          refine r_take 5 undef (RB.pre _ _) rfl (by kernel_rfl) (fun _ _ _ h => hQ.panic _ _ _ _ _ h) (.inr ⟨by kernel_rfl, rfl⟩) ?_
          refine r_take 6 undef (RB.pre _ _) rfl (by kernel_rfl) (fun _ _ _ h => hQ.panic _ _ _ _ _ h) (.inr ⟨by kernel_rfl, rfl⟩) ?_
          refine r_take 7 undef (RB.pre _ _) rfl (by kernel_rfl) (fun _ _ _ h => hQ.panic _ _ _ _ _ h) (.inr ⟨by kernel_rfl, rfl⟩) ?_
          refine r_take 8 undef (RB.pre _ _) rfl (by kernel_rfl) (fun _ _ _ h => hQ.panic _ _ _ _ _ h) (.inr ⟨by kernel_rfl, rfl⟩) ?_
          refine r_take 9 undef (RB.pre _ _) rfl (by kernel_rfl) (fun _ _ _ h => hQ.panic _ _ _ _ _ h) (.inr ⟨by kernel_rfl, rfl⟩) ?_
          refine r_take 10 undef (RB.pre _ _) rfl (by kernel_rfl) (fun _ _ _ h => hQ.panic _ _ _ _ _ h) (.inr ⟨by kernel_rfl, rfl⟩) ?_
          refine r_take 11 (.bool false) (RB.pre _ _) rfl (by kernel_rfl) (fun _ _ _ h => hQ.panic _ _ _ _ _ h) (.inl ⟨rfl, fun wq hq => (by kernel_rfl)⟩) ?_
          refine r_done (by kernel_rfl) ?_
          refine then_normal (hJ87 _ _ _ ⟨[(24, (.bool false))], fit_mk (fun _ _ => rfl) (by kernel_rfl) (vs_cons (by kernel_rfl) vs_nil), ?_⟩)
          exact ⟨X24, false, rfl, E98, hXo99, hS100, hp⟩
      ·
        rintro _ w84 g123 ⟨X85, s81, rfl, E89, hXo90, hS91, hv88⟩
        replace hp := hk83 s81 hv88
        refine then_normal (K49 _ _ _ _ ?_)
        refine cond_b s81 (by kernel_rfl) (fun h124 => ?_) (fun h124 => ?_)
        ·
          replace hp := hp.1 h124
          refine seq_ (fun _ K125 => ?_)
          refine reg_ ?_
          refine sq (o_pv (.int .i64 (6 : Int)) rfl (by kernel_rfl) ?_)
          refine nil_ ?_
          refine then_normal (K125 _ _ _ _ ?_)
          refine wp_ret ?_
          refine then_ret ?_
          refine end_ret hQ (.int .i64 (6 : Int)) (by kernel_rfl) ?_
          exact ⟨(6 : Int), hp, E89, rfl, (by decide)⟩
        ·
          replace hp := hp.2 h124
          refine wp_skip ?_
          refine then_normal (K48 _ _ _ _ ?_)
          refine seq_ (fun _ K126 => ?_)
          refine reg_ ?_
          refine sq (o_pv (.int .i64 (0 : Int)) rfl (by kernel_rfl) ?_)
          refine nil_ ?_
          refine then_normal (K126 _ _ _ _ ?_)
          refine wp_ret ?_
          refine end_ret hQ (.int .i64 (0 : Int)) (by kernel_rfl) ?_
          exact ⟨(0 : Int), hp, E89, rfl, (by decide)⟩

def graph_Graph_Check_p (g : (List (List Int))) (Q : Int → Prop) : Prop :=
  ((g.length ≤ 9223372036854775807) → ((((g.length : Int) > (1024 : Int)) → Q (4 : Int)) ∧ ((¬ ((g.length : Int) > (1024 : Int))) → (∃ (I43 : Int → Prop) (m44 : Int → Nat), (I43 (0 : Int)) ∧ ∀ (s11 : Int), (I43 s11) → (inR .i64 s11) → (((s11 < (g.length : Int)) → ((inL g s11) ∧ (((lget g s11).length ≤ 9223372036854775807) → ((inR .i64 (s11 + (1 : Int))) ∧ (graph_wrong_p (s11 + (1 : Int)) (lget g s11) (fun (r76 : Int) => ((inR .i64 r76) → (((¬ (r76 = (0 : Int))) → Q r76) ∧ ((r76 = (0 : Int)) → ((inR .i64 (s11 + (1 : Int))) ∧ ((I43 (s11 + (1 : Int))) ∧ m44 (s11 + (1 : Int)) < m44 s11))))))))))) ∧ ((¬ (s11 < (g.length : Int))) → Q (0 : Int)))))))
set_option maxRecDepth 20000 in
set_option maxHeartbeats 4000000 in
theorem graph_Graph_Check_w {X : List Nat} {w : World} {g : (List (List Int))} {ag1 : Option Addr} {cg2 : Nat} {Q : Int → Prop} (hX0 : Old X w) (hg3 : Sl (rSl (rInt .i64)) X w ag1 cg2 g) (hp : graph_Graph_Check_p g Q) :
    Calls Try.prog 34 #[(.slice ag1 g.length cg2)] w (Ret fun v w' => ∃ (r0 : Int), Q r0 ∧ Evo [] w w' ∧ v = (.int .i64 r0) ∧ inR .i64 r0) := by
  have hXo := hX0
  have E0 : Evo [] w w := RB.refl _ _ _
  have hS : Sub X X := Sub.refl _
  unfold graph_Graph_Check_p at hp
  refine enter_ Try.func34 rfl 24 [(0, (.slice ag1 g.length cg2))] (by kernel_rfl) (fun Qe hQ => ?_)
  replace hp := hp (Sl.len hg3)
  refine seq_ (fun _ K4 => ?_)
  refine reg_ ?_
  refine sq (o_pv (.int .i64 (0 : Int)) rfl (by kernel_rfl) ?_)
  refine nil_ ?_
  refine then_normal (K4 _ _ _ _ ?_)
  refine seq_ (fun _ K5 => ?_)
  refine seq_ (fun _ K6 => ?_)
  refine reg_ ?_
  refine sq (o_pv (.slice ag1 g.length cg2) rfl (by kernel_rfl) ?_)
  refine sq (o_pv (.int .i64 (g.length : Int)) rfl (by kernel_rfl) ?_)
  refine sq (o_pv (.bool (decide ((g.length : Int) > (1024 : Int)))) rfl (by kernel_rfl) ?_)
  refine nil_ ?_
  refine then_normal (K6 _ _ _ _ ?_)
  refine cond_d ((g.length : Int) > (1024 : Int)) (by kernel_rfl) (fun h7 => ?_) (fun h7 => ?_)
  ·
    replace hp := hp.1 h7
    refine seq_ (fun _ K8 => ?_)
    refine reg_ ?_
    refine sq (o_pv (.int .i64 (4 : Int)) rfl (by kernel_rfl) ?_)
    refine nil_ ?_
    refine then_normal (K8 _ _ _ _ ?_)
    refine wp_ret ?_
    refine then_ret ?_
    refine end_ret hQ (.int .i64 (4 : Int)) (by kernel_rfl) ?_
    exact ⟨(4 : Int), hp, E0, rfl, (by decide)⟩
  ·
    replace hp := hp.2 h7
    refine wp_skip ?_
    refine then_normal (K5 _ _ _ _ ?_)
    refine seq_ (fun _ K9 => ?_)
    refine seq_ (fun _ K10 => ?_)
    refine reg_ ?_
    refine sq (o_pv (.slice ag1 g.length cg2) rfl (by kernel_rfl) ?_)
    refine sq (o_pv (.int .i64 (g.length : Int)) rfl (by kernel_rfl) ?_)
    refine sq (o_pv (.int .i64 (0 : Int)) rfl (by kernel_rfl) ?_)
    refine nil_ ?_
    refine then_normal (K10 _ _ _ _ ?_)
    refine wp_block ?_
    obtain ⟨I43, m44, hI45, hp⟩ := hp
    refine loop_ 16775228 (fun kq lq w47 => ∃ (X48 : List Nat) (s11 : Int), (lq = [(11, (.int .i64 s11))]) ∧ (kq = m44 s11) ∧ (Evo [] w w47) ∧ (Old X48 w47) ∧ (Sub X X48) ∧ (Sl (rSl (rInt .i64)) X48 w47 ag1 cg2 g) ∧ (inR .i64 s11) ∧ (I43 s11)) (m44 (0 : Int)) [(11, (.int .i64 (0 : Int)))] (vs_cons (by kernel_rfl) vs_nil) ⟨X, (0 : Int), rfl, rfl, E0, hXo, hS, hg3, (by decide), hI45⟩ ?_
    rintro _ _ w47 g50 ⟨X48, s11, rfl, rfl, E53, hXo54, hS55, hg56, rs12, hI46⟩ Kl51 hA52
    replace hp := hp s11 hI46 rs12
    refine seq_ (fun _ K57 => ?_)
    refine reg_ ?_
    refine sq (o_pv (.bool (decide (s11 < (g.length : Int)))) rfl (by kernel_rfl) ?_)
    refine nil_ ?_
    refine then_normal (K57 _ _ _ _ ?_)
    refine seq_ (fun _ K58 => ?_)
    refine cond_d (s11 < (g.length : Int)) (by kernel_rfl) (fun h59 => ?_) (fun h59 => ?_)
    ·
      replace hp := hp.1 h59
      refine wp_skip ?_
      refine then_normal (K58 _ _ _ _ ?_)
      refine seq_ (fun _ K60 => ?_)
      refine wp_block ?_
      refine seq_ (fun _ K61 => ?_)
      refine reg_ ?_
      refine sq (o_pv (.int .i64 s11) rfl (by kernel_rfl) ?_)
      obtain ⟨h62, hp⟩ := hp
      obtain ⟨b63, o64, cs65, ha66, nx67, lt68, ok69, hc70⟩ := Sl.atI hg56 s11 h62
      obtain ⟨ae71, ce72, rfl, he73⟩ := ok69
      replace hp := hp (Sl.len he73)
      refine sq (o_pv (.pointer (some ⟨b63, o64 + s11.toNat * 1, none⟩)) rfl (x_ixA (m := g.length) (c := cg2) (k := .i64) (i := s11) Try.underlying55 Try.sizeOf61 (by rw [← ha66]; kernel_rfl) (by kernel_rfl) h62) ?_)
      refine sq (o_pv (.slice ae71 ((lget g s11).length) ce72) rfl (x_load1 (by kernel_rfl) Try.isAgg61 (hc70 0 _ rfl)) ?_)
      refine sq (o_pv (.int .i64 s11) rfl (by kernel_rfl) ?_)
      refine sq (o_pv (.slice ae71 ((lget g s11).length) ce72) rfl (by kernel_rfl) ?_)
      refine nil_ ?_
      refine then_normal (K61 _ _ _ _ ?_)
      refine seq_ (fun _ K74 => ?_)
      refine reg_ ?_
      refine sq (o_pv (.int .i64 s11) rfl (by kernel_rfl) ?_)
      obtain ⟨h75, hp⟩ := hp
      refine sq (o_pv (.int .i64 (s11 + (1 : Int))) rfl (x_add2 (k := .i64) (a := s11) (b := (1 : Int)) (s11 + (1 : Int)) (by kernel_rfl) (by kernel_rfl) (wrap_inR h75)) ?_)
      refine sq (o_pv (.slice ae71 ((lget g s11).length) ce72) rfl (by kernel_rfl) ?_)
      refine sq (o_call 76 #[(.int .i64 (s11 + (1 : Int))), (.slice ae71 (lget g s11).length ce72)] rfl (x_call Try.call76 (by rw []; kernel_rfl)) (graph_wrong_w (X := []) (id := s11 + (1 : Int)) (l := lget g s11) (Old.nil _) h75 (Sl.less he73 (Sub.nil _)) hp) ?_)
      rintro _ w77 ⟨r76, hp, e78, rfl, rr80⟩
      have s79 := Step.of0 X48 e78
      replace hp := hp rr80
      refine sq (o_pv (.int .i64 r76) rfl (by kernel_rfl) ?_)
      refine nil_ ?_
      refine then_normal (K74 _ _ _ _ ?_)
      refine seq_ (fun _ K81 => ?_)
      refine reg_ ?_
      refine sq (o_pv (.int .i64 r76) rfl (by kernel_rfl) ?_)
      refine sq (o_pv (.bool (!decide (r76 = (0 : Int)))) rfl (by kernel_rfl) ?_)
      refine nil_ ?_
      refine then_normal (K81 _ _ _ _ ?_)
      refine cond_nd (r76 = (0 : Int)) (by kernel_rfl) (fun h82 => ?_) (fun h82 => ?_)
      ·
        replace hp := hp.1 h82
        refine seq_ (fun _ K83 => ?_)
        refine reg_ ?_
        refine sq (o_pv (.int .i64 r76) rfl (by kernel_rfl) ?_)
        refine sq (o_pv (.int .i64 r76) rfl (by kernel_rfl) ?_)
        refine nil_ ?_
        refine then_normal (K83 _ _ _ _ ?_)
        refine wp_ret ?_
        refine blk_ret ?_
        refine then_ret ?_
        refine then_ret ?_
        refine blk_ret ?_
        refine then_ret ?_
        have E84 := (Evo.then0 E53 e78)
        refine end_ret hQ (.int .i64 r76) (by kernel_rfl) ?_
        exact ⟨r76, hp, E84, rfl, rr80⟩
      ·
        replace hp := hp.2 h82
        refine wp_skip ?_
        refine blk_normal ?_
        refine then_normal (K60 _ _ _ _ ?_)
        refine reg_ ?_
        obtain ⟨h85, hp⟩ := hp
        refine sq (o_pv (.int .i64 (s11 + (1 : Int))) rfl (x_add2 (k := .i64) (a := s11) (b := (1 : Int)) (s11 + (1 : Int)) (by kernel_rfl) (by kernel_rfl) (wrap_inR h85)) ?_)
        refine sq (o_pv (.int .i64 (s11 + (1 : Int))) rfl (by kernel_rfl) ?_)
        refine nil_ ?_
        have E86 := (Evo.then0 E53 e78)
        have hXo87 := (Old.step hXo54 s79)
        have hS88 := (Sub.trans hS55 (Step.up s79))
        have hg89 := (Sl.step hg56 s79)
        refine then_normal (hA52 _ _ _ ⟨_, [(11, (.int .i64 (s11 + (1 : Int))))], hp.2, fit_mk (AgB.mix _ _ _) (by kernel_rfl) (vs_cons (by kernel_rfl) vs_nil), ?_⟩)
        exact ⟨X48, (s11 + (1 : Int)), rfl, rfl, E86, hXo87, hS88, hg89, h85, hp.1⟩
    ·
      replace hp := hp.2 h59
      refine wp_exit ?_
      refine then_exit ?_
      refine then_exit ?_
      refine blk_exit ?_
      refine then_normal (K9 _ _ _ _ ?_)
      refine seq_ (fun _ K90 => ?_)
      refine reg_ ?_
      refine sq (o_pv (.int .i64 (0 : Int)) rfl (by kernel_rfl) ?_)
      refine nil_ ?_
      refine then_normal (K90 _ _ _ _ ?_)
      refine wp_ret ?_
      refine end_ret hQ (.int .i64 (0 : Int)) (by kernel_rfl) ?_
      exact ⟨(0 : Int), hp, E53, rfl, (by decide)⟩

def graph_Graph_Is_p (g : (List (List Int))) (a : Int) (c : Int) (Q : Bool → Prop) : Prop :=
  ((g.length ≤ 9223372036854775807) → ((inR .i64 a) → ((inR .i64 c) → (∃ k48 : Bool → Prop, (∀ (s47 : Bool), k48 s47 → Q s47) ∧ (((a ≥ (1 : Int)) → (((a ≤ (g.length : Int)) → (graph_Graph_seen_p g ([c]) (fun (r77 : (List Bool)) => ((r77.length ≤ 9223372036854775807) → ((inL r77 a) ∧ (k48 (lget r77 a))))))) ∧ ((¬ (a ≤ (g.length : Int))) → (k48 false)))) ∧ ((¬ (a ≥ (1 : Int))) → (k48 false)))))))
set_option maxRecDepth 20000 in
set_option maxHeartbeats 4000000 in
theorem graph_Graph_Is_w {X : List Nat} {w : World} {g : (List (List Int))} {a : Int} {c : Int} {ag1 : Option Addr} {cg2 : Nat} {Q : Bool → Prop} (hX0 : Old X w) (hg3 : Sl (rSl (rInt .i64)) X w ag1 cg2 g) (ra4 : inR .i64 a) (rc5 : inR .i64 c) (hp : graph_Graph_Is_p g a c Q) :
    Calls Try.prog 39 #[(.slice ag1 g.length cg2), (.int .i64 a), (.int .i64 c)] w (Ret fun v w' => ∃ (r0 : Bool), Q r0 ∧ Evo [] w w' ∧ v = (.bool r0)) := by
  have hXo := hX0
  have E0 : Evo [] w w := RB.refl _ _ _
  have hS : Sub X X := Sub.refl _
  unfold graph_Graph_Is_p at hp
  refine enter_ Try.func39 rfl 24 [(0, (.slice ag1 g.length cg2)), (1, (.int .i64 a)), (2, (.int .i64 c))] (by kernel_rfl) (fun Qe hQ => ?_)
  replace hp := hp (Sl.len hg3)
  replace hp := hp ra4
  replace hp := hp rc5
  refine seq_ (fun _ K6 => ?_)
  refine reg_ ?_
  refine sq (o_pv (.bool false) rfl (by kernel_rfl) ?_)
  refine nil_ ?_
  refine then_normal (K6 _ _ _ _ ?_)
  refine seq_ (fun _ K7 => ?_)
  obtain ⟨k48, hk49, hp⟩ := hp
  refine ground_ ?_
  refine join_ 16777152 (fun lq w50 => ∃ (X51 : List Nat) (s47 : Bool), (lq = [(6, (.bool s47))]) ∧ (Evo [] w w50) ∧ (Old X51 w50) ∧ (Sub X X51) ∧ (k48 s47)) (fun Kj52 hJ53 => ?_) ?_
  ·
    refine reg_ ?_
    refine sq (o_pv (.int .i64 a) rfl (by kernel_rfl) ?_)
    by_cases h58 : a ≥ (1 : Int)
    ·
      replace hp := hp.1 h58
      refine sq (o_pv (.bool true) rfl (x_dt (p := a ≥ (1 : Int)) (by kernel_rfl) h58) ?_)
      refine sq (o_pv (.bool true) rfl (by kernel_rfl) ?_)
      refine sq (o_pv (.int .i64 a) (by kernel_rfl) (by kernel_rfl) ?_)
      refine sq (o_pv (.slice ag1 g.length cg2) (by kernel_rfl) (by kernel_rfl) ?_)
      refine sq (o_pv (.int .i64 (g.length : Int)) (by kernel_rfl) (by kernel_rfl) ?_)
      by_cases h59 : a ≤ (g.length : Int)
      ·
        replace hp := hp.1 h59
        refine sq (o_pv (.bool true) (by kernel_rfl) (x_dt (p := a ≤ (g.length : Int)) (by kernel_rfl) h59) ?_)
        refine sq (o_pv (.bool true) rfl (by kernel_rfl) ?_)
        refine sq (o_pv (.bool true) rfl (by kernel_rfl) ?_)
        refine sq (o_pv (.slice ag1 g.length cg2) (by kernel_rfl) (by kernel_rfl) ?_)
        refine sq (o_pv (.int .i64 c) (by kernel_rfl) (by kernel_rfl) ?_)
        refine sq (o_rowX (R := (rInt .i64)) [(.int .i64 c)] [c] 3 1 (X := X) (B := w.heap.size) E0.size (by kernel_rfl) (by kernel_rfl) (Flat.cons (cs := [(.int .i64 c)]) (rInt_mk rc5) Flat.nil) rfl (by decide) ?_)
        intro b60 w61 X62 s63 O64 n65
        have hS66 := (Sub.trans hS (Step.up s63))
        have hg72 := (Sl.step hg3 s63)
        have hXo73 := (Old.step hXo s63)
        have E74 := (Evo.then0 E0 (Step.evo s63))
        have ax71 := OS.apold O64 hX0
        obtain ⟨X67, u68, r69, hm70⟩ := OS.release O64
        have hg75 := (Sl.less hg72 u68)
        have hXo76 := (Old.less hXo73 u68)
        refine sq (o_call 79 #[(.slice ag1 g.length cg2), (.slice (some ⟨b60, 0, none⟩) ([c]).length 1)] (by kernel_rfl) (x_call Try.call79 (by rw [← show 1 = ([c]).length from O64.1]; kernel_rfl)) (graph_Graph_seen_w (X := X67) (g := g) (c := [c]) hXo76 hg75 r69 hp) ?_)
        rintro _ w78 ⟨r77, hp, e79, a81, c82, rfl, O83⟩
        have E87 := E74
        obtain ⟨X84, s80, O85, n86⟩ := OS.own_in O83 e79 E87.size
        replace hp := hp (OS.len O85)
        refine sq (o_pv (.int .i64 a) (by kernel_rfl) (by kernel_rfl) ?_)
        obtain ⟨h88, hp⟩ := hp
        obtain ⟨b89, o90, cs91, ha92, nx93, lt94, ok95, hc96⟩ := Sl.atI (OS.rd O85) a h88
        obtain rfl := ok95
        refine sq (o_pv (.pointer (some ⟨b89, o90 + a.toNat * 1, none⟩)) (by kernel_rfl) (x_ixA (m := r77.length) (c := c82) (k := .i64) (i := a) Try.underlying111 Try.sizeOf4 (by rw [← ha92]; kernel_rfl) (by kernel_rfl) ⟨h88.1, by rw [O85.1]; exact h88.2⟩) ?_)
        refine sq (o_pv (.bool (lget r77 a)) (by kernel_rfl) (x_load1 (by kernel_rfl) Try.isAgg4 (hc96 0 _ rfl)) ?_)
        refine sq (o_pv (.bool (lget r77 a)) rfl (by kernel_rfl) ?_)
        refine sq (o_pv (.bool (lget r77 a)) rfl (by kernel_rfl) ?_)
        refine nil_ ?_
        have E97 := (Evo.then0 E87 (Step.evo s80))
        have hXo98 := (Old.step hXo76 s80)
        have hS99 := (Sub.trans (hm70 _ ax71 hS66) (Step.up s80))
        refine then_normal (hJ53 _ _ _ ⟨[(6, (.bool (lget r77 a)))], fit_mk (fun _ _ => rfl) (by kernel_rfl) (vs_cons (by kernel_rfl) vs_nil), ?_⟩)
        exact ⟨X84, (lget r77 a), rfl, E97, hXo98, hS99, hp⟩
      ·
        replace hp := hp.2 h59
        refine sq (o_pv (.bool false) (by kernel_rfl) (x_df (p := a ≤ (g.length : Int)) (by kernel_rfl) h59) ?_)
        refine sq (o_pv (.bool false) rfl (by kernel_rfl) ?_)
        refine sq (o_pv (.bool false) rfl (by kernel_rfl) ?_)
        refine sq (o_not (by kernel_rfl) ?_)
        refine sq (o_not (by kernel_rfl) ?_)
        refine sq (o_not (by kernel_rfl) ?_)
        refine sq (o_not (by kernel_rfl) ?_)
        refine sq (o_not (by kernel_rfl) ?_)
        refine sq (o_not (by kernel_rfl) ?_)
        refine sq (o_not (by kernel_rfl) ?_)
        refine sq (o_pv (.bool false) rfl (by kernel_rfl) ?_)
        refine sq (o_pv (.bool false) rfl (by kernel_rfl) ?_)
        refine nil_ ?_
        refine then_normal (hJ53 _ _ _ ⟨[(6, (.bool false))], fit_mk (fun _ _ => rfl) (by kernel_rfl) (vs_cons (by kernel_rfl) vs_nil), ?_⟩)
        exact ⟨X, false, rfl, E0, hXo, hS, hp⟩
    ·
      replace hp := hp.2 h58
      refine sq (o_pv (.bool false) rfl (x_df (p := a ≥ (1 : Int)) (by kernel_rfl) h58) ?_)
      refine sq (o_pv (.bool false) rfl (by kernel_rfl) ?_)
      refine sq (o_not (by kernel_rfl) ?_)
      refine sq (o_not (by kernel_rfl) ?_)
      refine sq (o_not (by kernel_rfl) ?_)
      refine sq (o_not (by kernel_rfl) ?_)
      refine sq (o_pv (.bool false) rfl (by kernel_rfl) ?_)
      refine sq (o_pv (.bool false) rfl (by kernel_rfl) ?_)
      refine sq (o_not (by kernel_rfl) ?_)
      refine sq (o_not (by kernel_rfl) ?_)
      refine sq (o_not (by kernel_rfl) ?_)
      refine sq (o_not (by kernel_rfl) ?_)
      refine sq (o_not (by kernel_rfl) ?_)
      refine sq (o_not (by kernel_rfl) ?_)
      refine sq (o_not (by kernel_rfl) ?_)
      refine sq (o_pv (.bool false) rfl (by kernel_rfl) ?_)
      refine sq (o_pv (.bool false) rfl (by kernel_rfl) ?_)
      refine nil_ ?_
      refine then_normal (hJ53 _ _ _ ⟨[(6, (.bool false))], fit_mk (fun _ _ => rfl) (by kernel_rfl) (vs_cons (by kernel_rfl) vs_nil), ?_⟩)
      exact ⟨X, false, rfl, E0, hXo, hS, hp⟩
  ·
    rintro _ w50 g100 ⟨X51, s47, rfl, E55, hXo56, hS57, hv54⟩
    replace hp := hk49 s47 hv54
    refine then_normal (K7 _ _ _ _ ?_)
    refine wp_ret ?_
    refine end_ret hQ (.bool s47) (by kernel_rfl) ?_
    exact ⟨s47, hp, E55, rfl⟩

def graph_Graph_Bases_p (g : (List (List Int))) (a : Int) (b : Int) (Q : (List Int) → Prop) : Prop :=
  ((g.length ≤ 9223372036854775807) → ((inR .i64 a) → ((inR .i64 b) → (graph_Graph_seen_p g ([a]) (fun (r25 : (List Bool)) => ((r25.length ≤ 9223372036854775807) → (graph_Graph_seen_p g ([b]) (fun (r57 : (List Bool)) => ((r57.length ≤ 9223372036854775807) → (∃ (I770 : (List Bool) → (List Int) → Int → Prop) (m771 : (List Bool) → (List Int) → Int → Nat), (I770 r25 ([] : List Int) (0 : Int)) ∧ ∀ (s413 : (List Bool)) (parents415 : (List Int)) (s420 : Int), (I770 s413 parents415 s420) → (s413.length ≤ 9223372036854775807) → (parents415.length ≤ 9223372036854775807) → (inR .i64 s420) → (((s420 < (r25.length : Int)) → (∃ k958 : (List Bool) → (List Int) → Prop, (∀ (s951 : (List Bool)) (parents953 : (List Int)), k958 s951 parents953 → (s951.length ≤ 9223372036854775807) → (parents953.length ≤ 9223372036854775807) → ((inR .i64 (s420 + (1 : Int))) ∧ ((I770 s951 parents953 (s420 + (1 : Int))) ∧ m771 s951 parents953 (s420 + (1 : Int)) < m771 s413 parents415 s420))) ∧ (∃ k1019 : (List Bool) → Prop, (∀ (s1017 : (List Bool)), k1019 s1017 → (s1017.length ≤ 9223372036854775807) → ((inL s1017 s420) ∧ ((((lget s1017 s420) = true) → ((inR .i64 (s420 - (1 : Int))) ∧ ((inL g (s420 - (1 : Int))) ∧ (((lget g (s420 - (1 : Int))).length ≤ 9223372036854775807) → (((parents415.length + (lget g (s420 - (1 : Int))).length) * 8 ≤ 140737488355328) ∧ (k958 s1017 (parents415 ++ (lget g (s420 - (1 : Int)))))))))) ∧ (((lget s1017 s420) = false) → (k958 s1017 parents415))))) ∧ ((inL s413 s420) ∧ ((((lget s413 s420) = true) → ((inL r57 s420) ∧ ((inL s413 s420) ∧ (k1019 (lset s413 s420 (lget r57 s420)))))) ∧ ((¬ ((lget s413 s420) = true)) → ((inL s413 s420) ∧ (k1019 (lset s413 s420 false))))))))) ∧ ((¬ (s420 < (r25.length : Int))) → (graph_Graph_seen_p g parents415 (fun (r1141 : (List Bool)) => ((r1141.length ≤ 9223372036854775807) → (∃ (I1402 : (List Bool) → Int → Prop) (m1403 : (List Bool) → Int → Nat), (I1402 s413 (0 : Int)) ∧ ∀ (s1279 : (List Bool)) (s1281 : Int), (I1402 s1279 s1281) → (s1279.length ≤ 9223372036854775807) → (inR .i64 s1281) → (((s1281 < (s413.length : Int)) → (∃ k1473 : (List Bool) → Prop, (∀ (s1471 : (List Bool)), k1473 s1471 → (s1471.length ≤ 9223372036854775807) → ((inR .i64 (s1281 + (1 : Int))) ∧ ((I1402 s1471 (s1281 + (1 : Int))) ∧ m1403 s1471 (s1281 + (1 : Int)) < m1403 s1279 s1281))) ∧ ((inL s1279 s1281) ∧ ((((lget s1279 s1281) = true) → ((inL r1141 s1281) ∧ ((inL s1279 s1281) ∧ (k1473 (lset s1279 s1281 (!(lget r1141 s1281))))))) ∧ ((¬ ((lget s1279 s1281) = true)) → ((inL s1279 s1281) ∧ (k1473 (lset s1279 s1281 false)))))))) ∧ ((¬ (s1281 < (s413.length : Int))) → (graph_row_p s1279 (fun (r1539 : (List Int)) => ((r1539.length ≤ 9223372036854775807) → Q r1539)))))))))))))))))))))
set_option maxRecDepth 20000 in
set_option maxHeartbeats 4000000 in
theorem graph_Graph_Bases_w {X : List Nat} {w : World} {g : (List (List Int))} {a : Int} {b : Int} {ag1 : Option Addr} {cg2 : Nat} {Q : (List Int) → Prop} (hX0 : Old X w) (hg3 : Sl (rSl (rInt .i64)) X w ag1 cg2 g) (ra4 : inR .i64 a) (rb5 : inR .i64 b) (hp : graph_Graph_Bases_p g a b Q) :
    Calls Try.prog 43 #[(.slice ag1 g.length cg2), (.int .i64 a), (.int .i64 b)] w (Ret fun v w' => ∃ (r0 : (List Int)), Q r0 ∧ Evo [] w w' ∧ ∃ (aq01 : Option Addr) (cq02 : Nat), v = (.slice aq01 r0.length cq02) ∧ Sl (rInt .i64) X w' aq01 cq02 r0) := by
  have hXo := hX0
  have E0 : Evo [] w w := RB.refl _ _ _
  have hS : Sub X X := Sub.refl _
  unfold graph_Graph_Bases_p at hp
  refine enter_ Try.func43 rfl 76 [(0, (.slice ag1 g.length cg2)), (1, (.int .i64 a)), (2, (.int .i64 b))] (by kernel_rfl) (fun Qe hQ => ?_)
  replace hp := hp (Sl.len hg3)
  replace hp := hp ra4
  replace hp := hp rb5
  refine seq_ (fun _ K6 => ?_)
  refine reg_ ?_
  refine sq (o_pv (.slice none 0 0) rfl (by kernel_rfl) ?_)
  refine nil_ ?_
  refine then_normal (K6 _ _ _ _ ?_)
  refine seq_ (fun _ K7 => ?_)
  refine reg_ ?_
  refine sq (o_pv (.slice ag1 g.length cg2) rfl (by kernel_rfl) ?_)
  refine sq (o_pv (.int .i64 a) rfl (by kernel_rfl) ?_)
  refine sq (o_rowX (R := (rInt .i64)) [(.int .i64 a)] [a] 3 1 (X := X) (B := w.heap.size) E0.size rfl (by kernel_rfl) (Flat.cons (cs := [(.int .i64 a)]) (rInt_mk ra4) Flat.nil) rfl (by decide) ?_)
  intro b8 w9 X10 s11 O12 n13
  have hS14 := (Sub.trans hS (Step.up s11))
  have hg20 := (Sl.step hg3 s11)
  have hXo21 := (Old.step hXo s11)
  have E22 := (Evo.then0 E0 (Step.evo s11))
  have ax19 := OS.apold O12 hX0
  obtain ⟨X15, u16, r17, hm18⟩ := OS.release O12
  have hg23 := (Sl.less hg20 u16)
  have hXo24 := (Old.less hXo21 u16)
  refine sq (o_call 79 #[(.slice ag1 g.length cg2), (.slice (some ⟨b8, 0, none⟩) ([a]).length 1)] rfl (x_call Try.call79 (by rw [← show 1 = ([a]).length from O12.1]; kernel_rfl)) (graph_Graph_seen_w (X := X15) (g := g) (c := [a]) hXo24 hg23 r17 hp) ?_)
  rintro _ w26 ⟨r25, hp, e27, a29, c30, rfl, O31⟩
  have E35 := E22
  obtain ⟨X32, s28, O33, n34⟩ := OS.own_in O31 e27 E35.size
  replace hp := hp (OS.len O33)
  refine sq (o_pv (.slice ag1 g.length cg2) rfl (by kernel_rfl) ?_)
  refine sq (o_pv (.int .i64 b) rfl (by kernel_rfl) ?_)
  have E42 := (Evo.then0 E35 (Step.evo s28))
  refine sq (o_rowX (R := (rInt .i64)) [(.int .i64 b)] [b] 3 1 (X := X32) (B := w.heap.size) E42.size rfl (by kernel_rfl) (Flat.cons (cs := [(.int .i64 b)]) (rInt_mk rb5) Flat.nil) rfl (by decide) ?_)
  intro b36 w37 X38 s39 O40 n41
  have p43 := n41 _ (OS.old O33)
  have hS44 := (Sub.trans (Sub.trans (hm18 _ ax19 hS14) (Step.up s28)) (Step.up s39))
  have hg50 := (Sl.step (Sl.step hg23 s28) s39)
  have hXo51 := (Old.step (Old.step hXo24 s28) s39)
  have E52 := (Evo.then0 E42 (Step.evo s39))
  have r53 := (Sl.step (Sl.step r17 s28) s39)
  have O54 := (OS.step0 O33 s39)
  have ax49 := OS.apold O40 hX0
  obtain ⟨X45, u46, r47, hm48⟩ := OS.release O40
  have hg55 := (Sl.less hg50 u46)
  have hXo56 := (Old.less hXo51 u46)
  have O64 := (OS.less O54 u46 (hm48 _ p43 (OS.mem O54)))
  refine sq (o_call 79 #[(.slice ag1 g.length cg2), (.slice (some ⟨b36, 0, none⟩) ([b]).length 1)] rfl (x_call Try.call79 (by rw [← show 1 = ([b]).length from O40.1]; kernel_rfl)) (graph_Graph_seen_w (X := X45) (g := g) (c := [b]) hXo56 hg55 r47 hp) ?_)
  rintro _ w58 ⟨r57, hp, e59, a61, c62, rfl, O63⟩
  have E68 := E52
  obtain ⟨X65, s60, O66, n67⟩ := OS.own_in O63 e59 E68.size
  have p69 := n67 _ (OS.old O64)
  replace hp := hp (OS.len O66)
  refine sq (o_pv (.slice a29 r25.length c30) rfl (by kernel_rfl) ?_)
  refine sq (o_pv (.slice a61 r57.length c62) rfl (by kernel_rfl) ?_)
  refine nil_ ?_
  refine then_normal (K7 _ _ _ _ ?_)
  refine seq_ (fun _ K70 => ?_)
  refine reg_ ?_
  refine sq (o_pv (.slice none 0 0) rfl (by kernel_rfl) ?_)
  refine nil_ ?_
  refine then_normal (K70 _ _ _ _ ?_)
  refine seq_ (fun _ K71 => ?_)
  refine seq_ (fun _ K72 => ?_)
  refine reg_ ?_
  refine sq (o_pv (.slice a29 r25.length c30) rfl (by kernel_rfl) ?_)
  refine sq (o_pv (.int .i64 (r25.length : Int)) rfl (by kernel_rfl) ?_)
  refine sq (o_pv (.int .i64 (0 : Int)) rfl (by kernel_rfl) ?_)
  refine nil_ ?_
  refine then_normal (K72 _ _ _ _ ?_)
  refine wp_block ?_
  have hg780 := (Sl.step hg55 s60)
  have hXo781 := (Old.step hXo56 s60)
  have E782 := (Evo.then0 E68 (Step.evo s60))
  have hS783 := (Sub.trans (hm48 _ ax49 hS44) (Step.up s60))
  have r784 := (Sl.step (Sl.less r53 u46) s60)
  have O785 := (OS.step0 O64 s60)
  have r786 := (Sl.step r47 s60)
  obtain ⟨I770, m771, hI772, hp⟩ := hp
  refine loop_ 2251799805298176 (fun kq lq w774 => ∃ (X775 : List Nat) (s413 : (List Bool)) (parents415 : (List Int)) (s420 : Int) (a416 : Option Addr) (n417 : Nat) (c418 : Nat), (lq = [(9, (.slice a416 n417 c418)), (23, (.int .i64 s420))]) ∧ (kq = m771 s413 parents415 s420) ∧ (Evo [] w w774) ∧ (Old X775 w774) ∧ (Sub X X775) ∧ (Sl (rSl (rInt .i64)) X775 w774 ag1 cg2 g) ∧ (OS rBool ([]) w.heap.size X775 w774 4 a61 r57.length c62 r57) ∧ (OS rBool ([]) w.heap.size X775 w774 4 a29 r25.length c30 s413) ∧ (OS (rInt .i64) ([]) w.heap.size X775 w774 3 a416 n417 c418 parents415) ∧ (Ap (blkL a61) (blkL a416)) ∧ (Ap (blkL a29) (blkL a416)) ∧ (inR .i64 s420) ∧ (I770 s413 parents415 s420)) (m771 r25 ([] : List Int) (0 : Int)) [(9, (.slice none 0 0)), (23, (.int .i64 (0 : Int)))] (vs_cons (by kernel_rfl) (vs_cons (by kernel_rfl) vs_nil)) ⟨X65, r25, ([] : List Int), (0 : Int), none, 0, 0, rfl, rfl, E782, hXo781, hS783, hg780, O66, O785, (OS.nil _ _ _ _), (Ap.nil_r _), (Ap.nil_r _), (by decide), hI772⟩ ?_
  rintro _ _ w774 g777 ⟨X775, s413, parents415, s420, a416, n417, c418, rfl, rfl, E787, hXo788, hS789, hg790, O791, O414, O419, p792, p793, rs421, hI773⟩ Kl778 hA779
  replace hp := hp s413 parents415 s420 hI773 (OS.len O414) (OS.len O419) rs421
  refine seq_ (fun _ K794 => ?_)
  refine reg_ ?_
  refine sq (o_pv (.bool (decide (s420 < (r25.length : Int)))) rfl (by kernel_rfl) ?_)
  refine nil_ ?_
  refine then_normal (K794 _ _ _ _ ?_)
  refine seq_ (fun _ K795 => ?_)
  refine cond_d (s420 < (r25.length : Int)) (by kernel_rfl) (fun h796 => ?_) (fun h796 => ?_)
  ·
    replace hp := hp.1 h796
    refine wp_skip ?_
    refine then_normal (K795 _ _ _ _ ?_)
    refine seq_ (fun _ K797 => ?_)
    obtain ⟨k958, hk959, hp⟩ := hp
    refine ground_ ?_
    refine join_ 1125899873289728 (fun lq w960 => ∃ (X961 : List Nat) (s951 : (List Bool)) (parents953 : (List Int)) (a954 : Option Addr) (n955 : Nat) (c956 : Nat), (lq = [(9, (.slice a954 n955 c956))]) ∧ (Evo [] w w960) ∧ (Old X961 w960) ∧ (Sub X X961) ∧ (Sl (rSl (rInt .i64)) X961 w960 ag1 cg2 g) ∧ (OS rBool ([]) w.heap.size X961 w960 4 a61 r57.length c62 r57) ∧ (OS rBool ([]) w.heap.size X961 w960 4 a29 r25.length c30 s951) ∧ (OS (rInt .i64) ([]) w.heap.size X961 w960 3 a954 n955 c956 parents953) ∧ (Ap (blkL a61) (blkL a954)) ∧ (Ap (blkL a29) (blkL a954)) ∧ (k958 s951 parents953)) (fun Kj962 hJ963 => ?_) ?_
    ·
      refine wp_block ?_
      refine seq_ (fun _ K972 => ?_)
      refine reg_ ?_
      refine sq (o_pv (.int .i64 s420) rfl (by kernel_rfl) ?_)
      refine sq (o_pv (.int .i64 s420) rfl (by kernel_rfl) ?_)
      refine nil_ ?_
      refine then_normal (K972 _ _ _ _ ?_)
      refine seq_ (fun _ K973 => ?_)
      obtain ⟨k1019, hk1020, hp⟩ := hp
      refine ground_ ?_
      refine join_ 549688705024 (fun lq w1021 => ∃ (X1022 : List Nat) (s1017 : (List Bool)), (lq = []) ∧ (Evo [] w w1021) ∧ (Old X1022 w1021) ∧ (Sub X X1022) ∧ (Sl (rSl (rInt .i64)) X1022 w1021 ag1 cg2 g) ∧ (OS rBool ([]) w.heap.size X1022 w1021 4 a61 r57.length c62 r57) ∧ (OS (rInt .i64) ([]) w.heap.size X1022 w1021 3 a416 n417 c418 parents415) ∧ (OS rBool ([]) w.heap.size X1022 w1021 4 a29 r25.length c30 s1017) ∧ (Ap (blkL a61) (blkL a416)) ∧ (Ap (blkL a416) (blkL a29)) ∧ (k1019 s1017)) (fun Kj1023 hJ1024 => ?_) ?_
      ·
        refine reg_ ?_
        refine sq (o_pv (.slice a29 r25.length c30) rfl (by kernel_rfl) ?_)
        refine sq (o_pv (.int .i64 s420) rfl (by kernel_rfl) ?_)
        refine sq (o_pv (.slice a29 r25.length c30) rfl (by kernel_rfl) ?_)
        refine sq (o_pv (.int .i64 s420) rfl (by kernel_rfl) ?_)
        obtain ⟨h1034, hp⟩ := hp
        obtain ⟨b1035, o1036, cs1037, ha1038, nx1039, lt1040, ok1041, hc1042⟩ := Sl.atI (OS.rd O414) s420 h1034
        obtain rfl := ok1041
        refine sq (o_pv (.pointer (some ⟨b1035, o1036 + s420.toNat * 1, none⟩)) rfl (x_ixA (m := r25.length) (c := c30) (k := .i64) (i := s420) Try.underlying111 Try.sizeOf4 (by rw [← ha1038]; kernel_rfl) (by kernel_rfl) ⟨h1034.1, by rw [O414.1]; exact h1034.2⟩) ?_)
        by_cases h1043 : (lget s413 s420) = true
        ·
          replace hp := hp.1 h1043
          refine sq (o_pv (.bool true) rfl (x_bt (x_load1 (by kernel_rfl) Try.isAgg4 (hc1042 0 _ rfl)) h1043) ?_)
          refine sq (o_pv (.bool true) rfl (by kernel_rfl) ?_)
          refine sq (o_pv (.slice a61 r57.length c62) (by kernel_rfl) (by kernel_rfl) ?_)
          refine sq (o_pv (.int .i64 s420) (by kernel_rfl) (by kernel_rfl) ?_)
          obtain ⟨h1044, hp⟩ := hp
          obtain ⟨b1045, o1046, cs1047, ha1048, nx1049, lt1050, ok1051, hc1052⟩ := Sl.atI (OS.rd O791) s420 h1044
          obtain rfl := ok1051
          refine sq (o_pv (.pointer (some ⟨b1045, o1046 + s420.toNat * 1, none⟩)) (by kernel_rfl) (x_ixA (m := r57.length) (c := c62) (k := .i64) (i := s420) Try.underlying111 Try.sizeOf4 (by rw [← ha1048]; kernel_rfl) (by kernel_rfl) ⟨h1044.1, by rw [O791.1]; exact h1044.2⟩) ?_)
          refine sq (o_pv (.bool (lget r57 s420)) (by kernel_rfl) (x_load1 (by kernel_rfl) Try.isAgg4 (hc1052 0 _ rfl)) ?_)
          refine sq (o_pv (.bool (lget r57 s420)) rfl (by kernel_rfl) ?_)
          obtain ⟨h1053, hp⟩ := hp
          obtain ⟨b1054, o1055, cs1056, ha1057, nx1058, lt1059, ok1060, hc1061⟩ := Sl.atI (OS.rd O414) s420 h1053
          obtain rfl := ok1060
          refine sq (o_pv (.pointer (some ⟨b1054, o1055 + s420.toNat * 1, none⟩)) rfl (x_ixA (m := r25.length) (c := c30) (k := .i64) (i := s420) Try.underlying111 Try.sizeOf4 (by rw [← ha1057]; kernel_rfl) (by kernel_rfl) ⟨h1053.1, by rw [O414.1]; exact h1053.2⟩) ?_)
          refine sq (o_stS (o := o1055) (v := (.bool (lget r57 s420))) s420 (lget r57 s420) rfl O414 ha1057 (h1053) (by kernel_rfl) (by kernel_rfl) Try.sizeOf4 (fun _ => rBool_mk) ?_)
          intro w1062 s1063 O1064
          refine nil_ ?_
          have E1065 := (Evo.thenW E787 (Step.evo s1063) O414.2.2)
          have hXo1066 := (Old.step hXo788 s1063)
          have hS1067 := (Sub.trans hS789 (Step.up s1063))
          have hg1068 := (Sl.step hg790 s1063)
          have O1069 := (OS.step O791 s1063 (Ap.symm p69))
          have O1070 := (OS.step O419 s1063 (Ap.symm p793))
          refine then_normal (hJ1024 _ _ _ ⟨[], fit_mk (fun _ _ => rfl) (by kernel_rfl) vs_nil, ?_⟩)
          exact ⟨X775, (lset s413 s420 (lget r57 s420)), rfl, E1065, hXo1066, hS1067, hg1068, O1069, O1070, O1064, p792, (Ap.symm p793), hp⟩
        ·
          replace hp := hp.2 h1043
          refine sq (o_pv (.bool false) rfl (x_bf (x_load1 (by kernel_rfl) Try.isAgg4 (hc1042 0 _ rfl)) h1043) ?_)
          refine sq (o_pv (.bool false) rfl (by kernel_rfl) ?_)
          refine sq (o_not (by kernel_rfl) ?_)
          refine sq (o_not (by kernel_rfl) ?_)
          refine sq (o_not (by kernel_rfl) ?_)
          refine sq (o_not (by kernel_rfl) ?_)
          refine sq (o_pv (.bool false) rfl (by kernel_rfl) ?_)
          obtain ⟨h1071, hp⟩ := hp
          obtain ⟨b1072, o1073, cs1074, ha1075, nx1076, lt1077, ok1078, hc1079⟩ := Sl.atI (OS.rd O414) s420 h1071
          obtain rfl := ok1078
          refine sq (o_pv (.pointer (some ⟨b1072, o1073 + s420.toNat * 1, none⟩)) rfl (x_ixA (m := r25.length) (c := c30) (k := .i64) (i := s420) Try.underlying111 Try.sizeOf4 (by rw [← ha1075]; kernel_rfl) (by kernel_rfl) ⟨h1071.1, by rw [O414.1]; exact h1071.2⟩) ?_)
          refine sq (o_stS (o := o1073) (v := (.bool false)) s420 false rfl O414 ha1075 (h1071) (by kernel_rfl) (by kernel_rfl) Try.sizeOf4 (fun _ => rBool_mk) ?_)
          intro w1080 s1081 O1082
          refine nil_ ?_
          have E1083 := (Evo.thenW E787 (Step.evo s1081) O414.2.2)
          have hXo1084 := (Old.step hXo788 s1081)
          have hS1085 := (Sub.trans hS789 (Step.up s1081))
          have hg1086 := (Sl.step hg790 s1081)
          have O1087 := (OS.step O791 s1081 (Ap.symm p69))
          have O1088 := (OS.step O419 s1081 (Ap.symm p793))
          refine then_normal (hJ1024 _ _ _ ⟨[], fit_mk (fun _ _ => rfl) (by kernel_rfl) vs_nil, ?_⟩)
          exact ⟨X775, (lset s413 s420 false), rfl, E1083, hXo1084, hS1085, hg1086, O1087, O1088, O1082, p792, (Ap.symm p793), hp⟩
      ·
        rintro _ w1021 g1089 ⟨X1022, s1017, rfl, E1026, hXo1027, hS1028, hg1029, O1030, O1031, O1018, p1032, p1033, hv1025⟩
        replace hp := hk1020 s1017 hv1025 (OS.len O1018)
        refine then_normal (K973 _ _ _ _ ?_)
        refine seq_ (fun _ K1090 => ?_)
        refine reg_ ?_
        refine sq (o_pv (.slice a29 r25.length c30) rfl (by kernel_rfl) ?_)
        refine sq (o_pv (.int .i64 s420) rfl (by kernel_rfl) ?_)
        obtain ⟨h1091, hp⟩ := hp
        obtain ⟨b1092, o1093, cs1094, ha1095, nx1096, lt1097, ok1098, hc1099⟩ := Sl.atI (OS.rd O1018) s420 h1091
        obtain rfl := ok1098
        refine sq (o_pv (.pointer (some ⟨b1092, o1093 + s420.toNat * 1, none⟩)) rfl (x_ixA (m := r25.length) (c := c30) (k := .i64) (i := s420) Try.underlying111 Try.sizeOf4 (by rw [← ha1095]; kernel_rfl) (by kernel_rfl) ⟨h1091.1, by rw [O1018.1]; exact h1091.2⟩) ?_)
        refine sq (o_pv (.bool (lget s1017 s420)) rfl (x_load1 (by kernel_rfl) Try.isAgg4 (hc1099 0 _ rfl)) ?_)
        refine nil_ ?_
        refine then_normal (K1090 _ _ _ _ ?_)
        refine cond_b (lget s1017 s420) (by kernel_rfl) (fun h1100 => ?_) (fun h1100 => ?_)
        ·
          replace hp := hp.1 h1100
          refine reg_ ?_
          refine sq (o_pv (.slice a416 n417 c418) rfl (by kernel_rfl) ?_)
          refine sq (o_pv (.slice ag1 g.length cg2) rfl (by kernel_rfl) ?_)
          refine sq (o_pv (.int .i64 s420) rfl (by kernel_rfl) ?_)
          obtain ⟨h1101, hp⟩ := hp
          refine sq (o_pv (.int .i64 (s420 - (1 : Int))) rfl (x_sub2 (k := .i64) (a := s420) (b := (1 : Int)) (s420 - (1 : Int)) (by kernel_rfl) (by kernel_rfl) (wrap_inR h1101)) ?_)
          obtain ⟨h1102, hp⟩ := hp
          obtain ⟨b1103, o1104, cs1105, ha1106, nx1107, lt1108, ok1109, hc1110⟩ := Sl.atI hg1029 (s420 - (1 : Int)) h1102
          obtain ⟨ae1111, ce1112, rfl, he1113⟩ := ok1109
          replace hp := hp (Sl.len he1113)
          refine sq (o_pv (.pointer (some ⟨b1103, o1104 + (s420 - (1 : Int)).toNat * 1, none⟩)) rfl (x_ixA (m := g.length) (c := cg2) (k := .i64) (i := s420 - (1 : Int)) Try.underlying55 Try.sizeOf61 (by rw [← ha1106]; kernel_rfl) (by kernel_rfl) h1102) ?_)
          refine sq (o_pv (.slice ae1111 ((lget g (s420 - (1 : Int))).length) ce1112) rfl (x_load1 (by kernel_rfl) Try.isAgg61 (hc1110 0 _ rfl)) ?_)
          obtain ⟨h1114, hp⟩ := hp
          refine sq (o_appX (R := (rInt .i64)) (X := X1022) (B := w.heap.size) (L := parents415) (M := lget g (s420 - (1 : Int))) rfl elT61 rfl E1026.size O1031 (Sl.src he1113) rfl (by kernel_rfl) (by kernel_rfl) h1114 ?_)
          intro a1115 n1116 c1117 w1118 X1119 s1120 O1121 gr1122
          have p1123 := gr1122 _ p1032 (OS.old O1030)
          have p1124 := gr1122 _ p793 (OS.old O1018)
          refine sq (o_pv (.slice a1115 n1116 c1117) rfl (by kernel_rfl) ?_)
          refine nil_ ?_
          refine blk_normal ?_
          have E1125 := (Evo.thenW E1026 (Step.evo s1120) O1031.2.2)
          have hXo1126 := (Old.step hXo1027 s1120)
          have hS1127 := (Sub.trans hS1028 (Step.up s1120))
          have hg1128 := (Sl.step hg1029 s1120)
          have O1129 := (OS.step O1030 s1120 p1032)
          have O1130 := (OS.step O1018 s1120 p793)
          refine then_normal (hJ963 _ _ _ ⟨[(9, (.slice a1115 n1116 c1117))], fit_mk (AgB.nest (AgB.look (fun _ _ => rfl) (by kernel_rfl)) (by kernel_rfl) (by kernel_rfl)) (by kernel_rfl) (vs_cons (by kernel_rfl) vs_nil), ?_⟩)
          exact ⟨X1119, s1017, (parents415 ++ (lget g (s420 - (1 : Int)))), a1115, n1116, c1117, rfl, E1125, hXo1126, hS1127, hg1128, O1129, O1130, O1121, p1123, p1124, hp⟩
        ·
          replace hp := hp.2 h1100
          refine wp_skip ?_
          refine blk_normal ?_
          refine then_normal (hJ963 _ _ _ ⟨[(9, (.slice a416 n417 c418))], fit_mk (AgB.nest (AgB.look (fun _ _ => rfl) (by kernel_rfl)) (by kernel_rfl) (by kernel_rfl)) (by kernel_rfl) (vs_cons (by kernel_rfl) vs_nil), ?_⟩)
          exact ⟨X1022, s1017, parents415, a416, n417, c418, rfl, E1026, hXo1027, hS1028, hg1029, O1030, O1018, O1031, p1032, p793, hp⟩
    ·
      rintro _ w960 g1131 ⟨X961, s951, parents953, a954, n955, c956, rfl, E965, hXo966, hS967, hg968, O969, O952, O957, p970, p971, hv964⟩
      replace hp := hk959 s951 parents953 hv964 (OS.len O952) (OS.len O957)
      refine then_normal (K797 _ _ _ _ ?_)
      refine reg_ ?_
      obtain ⟨h1132, hp⟩ := hp
      refine sq (o_pv (.int .i64 (s420 + (1 : Int))) rfl (x_add2 (k := .i64) (a := s420) (b := (1 : Int)) (s420 + (1 : Int)) (by kernel_rfl) (by kernel_rfl) (wrap_inR h1132)) ?_)
      refine sq (o_pv (.int .i64 (s420 + (1 : Int))) rfl (by kernel_rfl) ?_)
      refine nil_ ?_
      refine then_normal (hA779 _ _ _ ⟨_, [(9, (.slice a954 n955 c956)), (23, (.int .i64 (s420 + (1 : Int))))], hp.2, fit_mk (AgB.nest (AgB.look (AgB.mix _ _ _) (by kernel_rfl)) (by kernel_rfl) (by kernel_rfl)) (by kernel_rfl) (vs_cons (by kernel_rfl) (vs_cons (by kernel_rfl) vs_nil)), ?_⟩)
      exact ⟨X961, s951, parents953, (s420 + (1 : Int)), a954, n955, c956, rfl, rfl, E965, hXo966, hS967, hg968, O969, O952, O957, p970, p971, h1132, hp.1⟩
  ·
    replace hp := hp.2 h796
    refine wp_exit ?_
    refine then_exit ?_
    refine then_exit ?_
    refine blk_exit ?_
    refine then_normal (K71 _ _ _ _ ?_)
    refine seq_ (fun _ K1133 => ?_)
    refine reg_ ?_
    refine sq (o_pv (.slice ag1 g.length cg2) rfl (by kernel_rfl) ?_)
    refine sq (o_pv (.slice a416 n417 c418) rfl (by kernel_rfl) ?_)
    have ax1138 := OS.apold O419 hX0
    obtain ⟨X1134, u1135, r1136, hm1137⟩ := OS.release O419
    have hg1139 := (Sl.less hg790 u1135)
    have hXo1140 := (Old.less hXo788 u1135)
    have O1148 := (OS.less O791 u1135 (hm1137 _ p792 (OS.mem O791)))
    have O1149 := (OS.less O414 u1135 (hm1137 _ p793 (OS.mem O414)))
    refine sq (o_call 79 #[(.slice ag1 g.length cg2), (.slice a416 parents415.length c418)] rfl (x_call Try.call79 (by rw [← show n417 = parents415.length from O419.1]; kernel_rfl)) (graph_Graph_seen_w (X := X1134) (g := g) (c := parents415) hXo1140 hg1139 r1136 hp) ?_)
    rintro _ w1142 ⟨r1141, hp, e1143, a1145, c1146, rfl, O1147⟩
    have E1153 := E787
    obtain ⟨X1150, s1144, O1151, n1152⟩ := OS.own_in O1147 e1143 E1153.size
    have p1154 := n1152 _ (OS.old O1148)
    have p1155 := n1152 _ (OS.old O1149)
    replace hp := hp (OS.len O1151)
    refine sq (o_pv (.slice a1145 r1141.length c1146) rfl (by kernel_rfl) ?_)
    refine nil_ ?_
    refine then_normal (K1133 _ _ _ _ ?_)
    refine seq_ (fun _ K1156 => ?_)
    refine seq_ (fun _ K1157 => ?_)
    refine reg_ ?_
    refine sq (o_pv (.slice a29 r25.length c30) rfl (by kernel_rfl) ?_)
    refine sq (o_pv (.int .i64 (s413.length : Int)) rfl (by rw [← show r25.length = s413.length from O1149.1]; kernel_rfl) ?_)
    refine sq (o_pv (.int .i64 (0 : Int)) rfl (by kernel_rfl) ?_)
    refine nil_ ?_
    refine then_normal (K1157 _ _ _ _ ?_)
    refine wp_block ?_
    have E1412 := (Evo.then0 E1153 (Step.evo s1144))
    have hXo1413 := (Old.step hXo1140 s1144)
    have hS1414 := (Sub.trans (hm1137 _ ax1138 hS789) (Step.up s1144))
    have hg1415 := (Sl.step hg1139 s1144)
    have O1416 := (OS.step0 O1148 s1144)
    have O1417 := (OS.step0 O1149 s1144)
    have r1418 := (Sl.step r1136 s1144)
    obtain ⟨I1402, m1403, hI1404, hp⟩ := hp
    refine loop_ 18889393873884542930944 (fun kq lq w1406 => ∃ (X1407 : List Nat) (s1279 : (List Bool)) (s1281 : Int), (lq = [(56, (.int .i64 s1281))]) ∧ (kq = m1403 s1279 s1281) ∧ (Evo [] w w1406) ∧ (Old X1407 w1406) ∧ (Sub X X1407) ∧ (OS rBool ([]) w.heap.size X1407 w1406 4 a1145 r1141.length c1146 r1141) ∧ (OS rBool ([]) w.heap.size X1407 w1406 4 a29 r25.length c30 s1279) ∧ (inR .i64 s1281) ∧ (I1402 s1279 s1281)) (m1403 s413 (0 : Int)) [(56, (.int .i64 (0 : Int)))] (vs_cons (by kernel_rfl) vs_nil) ⟨X1150, s413, (0 : Int), rfl, rfl, E1412, hXo1413, hS1414, O1151, O1417, (by decide), hI1404⟩ ?_
    rintro _ _ w1406 g1409 ⟨X1407, s1279, s1281, rfl, rfl, E1419, hXo1420, hS1421, O1422, O1280, rs1282, hI1405⟩ Kl1410 hA1411
    replace hp := hp s1279 s1281 hI1405 (OS.len O1280) rs1282
    refine seq_ (fun _ K1423 => ?_)
    refine reg_ ?_
    refine sq (o_pv (.bool (decide (s1281 < (s413.length : Int)))) rfl (by kernel_rfl) ?_)
    refine nil_ ?_
    refine then_normal (K1423 _ _ _ _ ?_)
    refine seq_ (fun _ K1424 => ?_)
    refine cond_d (s1281 < (s413.length : Int)) (by kernel_rfl) (fun h1425 => ?_) (fun h1425 => ?_)
    ·
      replace hp := hp.1 h1425
      refine wp_skip ?_
      refine then_normal (K1424 _ _ _ _ ?_)
      refine seq_ (fun _ K1426 => ?_)
      obtain ⟨k1473, hk1474, hp⟩ := hp
      refine ground_ ?_
      refine join_ 9444444735363138719744 (fun lq w1475 => ∃ (X1476 : List Nat) (s1471 : (List Bool)), (lq = []) ∧ (Evo [] w w1475) ∧ (Old X1476 w1475) ∧ (Sub X X1476) ∧ (OS rBool ([]) w.heap.size X1476 w1475 4 a1145 r1141.length c1146 r1141) ∧ (OS rBool ([]) w.heap.size X1476 w1475 4 a29 r25.length c30 s1471) ∧ (k1473 s1471)) (fun Kj1477 hJ1478 => ?_) ?_
      ·
        refine wp_block ?_
        refine seq_ (fun _ K1484 => ?_)
        refine reg_ ?_
        refine sq (o_pv (.int .i64 s1281) rfl (by kernel_rfl) ?_)
        refine sq (o_pv (.int .i64 s1281) rfl (by kernel_rfl) ?_)
        refine nil_ ?_
        refine then_normal (K1484 _ _ _ _ ?_)
        refine reg_ ?_
        refine sq (o_pv (.slice a29 r25.length c30) rfl (by kernel_rfl) ?_)
        refine sq (o_pv (.int .i64 s1281) rfl (by kernel_rfl) ?_)
        refine sq (o_pv (.slice a29 r25.length c30) rfl (by kernel_rfl) ?_)
        refine sq (o_pv (.int .i64 s1281) rfl (by kernel_rfl) ?_)
        obtain ⟨h1485, hp⟩ := hp
        obtain ⟨b1486, o1487, cs1488, ha1489, nx1490, lt1491, ok1492, hc1493⟩ := Sl.atI (OS.rd O1280) s1281 h1485
        obtain rfl := ok1492
        refine sq (o_pv (.pointer (some ⟨b1486, o1487 + s1281.toNat * 1, none⟩)) rfl (x_ixA (m := r25.length) (c := c30) (k := .i64) (i := s1281) Try.underlying111 Try.sizeOf4 (by rw [← ha1489]; kernel_rfl) (by kernel_rfl) ⟨h1485.1, by rw [O1280.1]; exact h1485.2⟩) ?_)
        by_cases h1494 : (lget s1279 s1281) = true
        ·
          replace hp := hp.1 h1494
          refine sq (o_pv (.bool true) rfl (x_bt (x_load1 (by kernel_rfl) Try.isAgg4 (hc1493 0 _ rfl)) h1494) ?_)
          refine sq (o_pv (.bool true) rfl (by kernel_rfl) ?_)
          refine sq (o_pv (.slice a1145 r1141.length c1146) (by kernel_rfl) (by kernel_rfl) ?_)
          refine sq (o_pv (.int .i64 s1281) (by kernel_rfl) (by kernel_rfl) ?_)
          obtain ⟨h1495, hp⟩ := hp
          obtain ⟨b1496, o1497, cs1498, ha1499, nx1500, lt1501, ok1502, hc1503⟩ := Sl.atI (OS.rd O1422) s1281 h1495
          obtain rfl := ok1502
          refine sq (o_pv (.pointer (some ⟨b1496, o1497 + s1281.toNat * 1, none⟩)) (by kernel_rfl) (x_ixA (m := r1141.length) (c := c1146) (k := .i64) (i := s1281) Try.underlying111 Try.sizeOf4 (by rw [← ha1499]; kernel_rfl) (by kernel_rfl) ⟨h1495.1, by rw [O1422.1]; exact h1495.2⟩) ?_)
          refine sq (o_pv (.bool (lget r1141 s1281)) (by kernel_rfl) (x_load1 (by kernel_rfl) Try.isAgg4 (hc1503 0 _ rfl)) ?_)
          refine sq (o_pv (.bool (!(lget r1141 s1281))) (by kernel_rfl) (by kernel_rfl) ?_)
          refine sq (o_pv (.bool (!(lget r1141 s1281))) rfl (by kernel_rfl) ?_)
          obtain ⟨h1504, hp⟩ := hp
          obtain ⟨b1505, o1506, cs1507, ha1508, nx1509, lt1510, ok1511, hc1512⟩ := Sl.atI (OS.rd O1280) s1281 h1504
          obtain rfl := ok1511
          refine sq (o_pv (.pointer (some ⟨b1505, o1506 + s1281.toNat * 1, none⟩)) rfl (x_ixA (m := r25.length) (c := c30) (k := .i64) (i := s1281) Try.underlying111 Try.sizeOf4 (by rw [← ha1508]; kernel_rfl) (by kernel_rfl) ⟨h1504.1, by rw [O1280.1]; exact h1504.2⟩) ?_)
          refine sq (o_stS (o := o1506) (v := (.bool (!(lget r1141 s1281)))) s1281 (!(lget r1141 s1281)) rfl O1280 ha1508 (h1504) (by kernel_rfl) (by kernel_rfl) Try.sizeOf4 (fun _ => rBool_mk) ?_)
          intro w1513 s1514 O1515
          refine nil_ ?_
          refine blk_normal ?_
          have E1516 := (Evo.thenW E1419 (Step.evo s1514) O1280.2.2)
          have hXo1517 := (Old.step hXo1420 s1514)
          have hS1518 := (Sub.trans hS1421 (Step.up s1514))
          have O1519 := (OS.step O1422 s1514 (Ap.symm p1155))
          refine then_normal (hJ1478 _ _ _ ⟨[], fit_mk (fun _ _ => rfl) (by kernel_rfl) vs_nil, ?_⟩)
          exact ⟨X1407, (lset s1279 s1281 (!(lget r1141 s1281))), rfl, E1516, hXo1517, hS1518, O1519, O1515, hp⟩
        ·
          replace hp := hp.2 h1494
          refine sq (o_pv (.bool false) rfl (x_bf (x_load1 (by kernel_rfl) Try.isAgg4 (hc1493 0 _ rfl)) h1494) ?_)
          refine sq (o_pv (.bool false) rfl (by kernel_rfl) ?_)
          refine sq (o_not (by kernel_rfl) ?_)
          refine sq (o_not (by kernel_rfl) ?_)
          refine sq (o_not (by kernel_rfl) ?_)
          refine sq (o_not (by kernel_rfl) ?_)
          refine sq (o_not (by kernel_rfl) ?_)
          refine sq (o_pv (.bool false) rfl (by kernel_rfl) ?_)
          obtain ⟨h1520, hp⟩ := hp
          obtain ⟨b1521, o1522, cs1523, ha1524, nx1525, lt1526, ok1527, hc1528⟩ := Sl.atI (OS.rd O1280) s1281 h1520
          obtain rfl := ok1527
          refine sq (o_pv (.pointer (some ⟨b1521, o1522 + s1281.toNat * 1, none⟩)) rfl (x_ixA (m := r25.length) (c := c30) (k := .i64) (i := s1281) Try.underlying111 Try.sizeOf4 (by rw [← ha1524]; kernel_rfl) (by kernel_rfl) ⟨h1520.1, by rw [O1280.1]; exact h1520.2⟩) ?_)
          refine sq (o_stS (o := o1522) (v := (.bool false)) s1281 false rfl O1280 ha1524 (h1520) (by kernel_rfl) (by kernel_rfl) Try.sizeOf4 (fun _ => rBool_mk) ?_)
          intro w1529 s1530 O1531
          refine nil_ ?_
          refine blk_normal ?_
          have E1532 := (Evo.thenW E1419 (Step.evo s1530) O1280.2.2)
          have hXo1533 := (Old.step hXo1420 s1530)
          have hS1534 := (Sub.trans hS1421 (Step.up s1530))
          have O1535 := (OS.step O1422 s1530 (Ap.symm p1155))
          refine then_normal (hJ1478 _ _ _ ⟨[], fit_mk (fun _ _ => rfl) (by kernel_rfl) vs_nil, ?_⟩)
          exact ⟨X1407, (lset s1279 s1281 false), rfl, E1532, hXo1533, hS1534, O1535, O1531, hp⟩
      ·
        rintro _ w1475 g1536 ⟨X1476, s1471, rfl, E1480, hXo1481, hS1482, O1483, O1472, hv1479⟩
        replace hp := hk1474 s1471 hv1479 (OS.len O1472)
        refine then_normal (K1426 _ _ _ _ ?_)
        refine reg_ ?_
        obtain ⟨h1537, hp⟩ := hp
        refine sq (o_pv (.int .i64 (s1281 + (1 : Int))) rfl (x_add2 (k := .i64) (a := s1281) (b := (1 : Int)) (s1281 + (1 : Int)) (by kernel_rfl) (by kernel_rfl) (wrap_inR h1537)) ?_)
        refine sq (o_pv (.int .i64 (s1281 + (1 : Int))) rfl (by kernel_rfl) ?_)
        refine nil_ ?_
        refine then_normal (hA1411 _ _ _ ⟨_, [(56, (.int .i64 (s1281 + (1 : Int))))], hp.2, fit_mk (AgB.nest (AgB.look (AgB.mix _ _ _) (by kernel_rfl)) (by kernel_rfl) (by kernel_rfl)) (by kernel_rfl) (vs_cons (by kernel_rfl) vs_nil), ?_⟩)
        exact ⟨X1476, s1471, (s1281 + (1 : Int)), rfl, rfl, E1480, hXo1481, hS1482, O1483, O1472, h1537, hp.1⟩
    ·
      replace hp := hp.2 h1425
      refine wp_exit ?_
      refine then_exit ?_
      refine then_exit ?_
      refine blk_exit ?_
      refine then_normal (K1156 _ _ _ _ ?_)
      refine seq_ (fun _ K1538 => ?_)
      refine reg_ ?_
      refine sq (o_pv (.slice a29 r25.length c30) rfl (by kernel_rfl) ?_)
      refine sq (o_call 78 #[(.slice a29 s1279.length c30)] rfl (x_call Try.call78 (by rw [← show r25.length = s1279.length from O1280.1]; kernel_rfl)) (graph_row_w (X := X) (l := s1279) (Old.less hXo1420 hS1421) (OS.out O1280 hS1421 hX0) hp) ?_)
      rintro _ w1540 ⟨r1539, hp, e1541, ar1543, cr1544, rfl, hr1545⟩
      have s1542 := Step.of0 X1407 e1541
      replace hp := hp (Sl.len hr1545)
      refine sq (o_pv (.slice ar1543 r1539.length cr1544) rfl (by kernel_rfl) ?_)
      refine nil_ ?_
      refine then_normal (K1538 _ _ _ _ ?_)
      refine wp_ret ?_
      have E1546 := (Evo.then0 E1419 e1541)
      refine end_ret hQ (.slice ar1543 r1539.length cr1544) (by kernel_rfl) ?_
      exact ⟨r1539, hp, E1546, ar1543, cr1544, rfl, hr1545⟩

end Go.Proofs.Ytmepomdpjlbaaaa
