/- Walks of functions: what each asks and computes, as a plain predicate, and the contract from it. -/
import Derived.Test.YtmepomdpjlbaaaaChecked
import Derived.Test.YtmepomdpjlbaaaaG1
namespace Go.Proofs.Ytmepomdpjlbaaaa
open Go


def graph_Graph_Base_p (g : (List (List Int))) (a : Int) (b : Int) (Q : Int → Prop) : Prop :=
  ((g.length ≤ 9223372036854775807) → ((inR .i64 a) → ((inR .i64 b) → (graph_Graph_Bases_p g a b (fun (r8 : (List Int)) => ((r8.length ≤ 9223372036854775807) → ((((r8.length : Int) = (0 : Int)) → Q (0 : Int)) ∧ ((¬ ((r8.length : Int) = (0 : Int))) → ((inR .i64 ((r8.length : Int) - (1 : Int))) ∧ ((inL r8 ((r8.length : Int) - (1 : Int))) ∧ ((inR .i64 (lget r8 ((r8.length : Int) - (1 : Int)))) → Q (lget r8 ((r8.length : Int) - (1 : Int))))))))))))))
set_option maxRecDepth 20000 in
set_option maxHeartbeats 4000000 in
theorem graph_Graph_Base_w {X : List Nat} {w : World} {g : (List (List Int))} {a : Int} {b : Int} {ag1 : Option Addr} {cg2 : Nat} {Q : Int → Prop} (hX0 : Old X w) (hg3 : Sl (rSl (rInt .i64)) X w ag1 cg2 g) (ra4 : inR .i64 a) (rb5 : inR .i64 b) (hp : graph_Graph_Base_p g a b Q) :
    Calls Try.prog 41 #[(.slice ag1 g.length cg2), (.int .i64 a), (.int .i64 b)] w (Ret fun v w' => ∃ (r0 : Int), Q r0 ∧ Evo [] w w' ∧ v = (.int .i64 r0) ∧ inR .i64 r0) := by
  have hXo := hX0
  have E0 : Evo [] w w := RB.refl _ _ _
  have hS : Sub X X := Sub.refl _
  unfold graph_Graph_Base_p at hp
  refine enter_ Try.func41 rfl 21 [(0, (.slice ag1 g.length cg2)), (1, (.int .i64 a)), (2, (.int .i64 b))] (by kernel_rfl) (fun Qe hQ => ?_)
  replace hp := hp (Sl.len hg3)
  replace hp := hp ra4
  replace hp := hp rb5
  refine seq_ (fun _ K6 => ?_)
  refine reg_ ?_
  refine sq (o_pv (.int .i64 (0 : Int)) rfl (by kernel_rfl) ?_)
  refine nil_ ?_
  refine then_normal (K6 _ _ _ _ ?_)
  refine seq_ (fun _ K7 => ?_)
  refine reg_ ?_
  refine sq (o_pv (.slice ag1 g.length cg2) rfl (by kernel_rfl) ?_)
  refine sq (o_pv (.int .i64 a) rfl (by kernel_rfl) ?_)
  refine sq (o_pv (.int .i64 b) rfl (by kernel_rfl) ?_)
  refine sq (o_call 43 #[(.slice ag1 g.length cg2), (.int .i64 a), (.int .i64 b)] rfl (x_call Try.call43 (by kernel_rfl)) (graph_Graph_Bases_w (X := X) (g := g) (a := a) (b := b) hXo hg3 ra4 rb5 hp) ?_)
  rintro _ w9 ⟨r8, hp, e10, ar12, cr13, rfl, hr14⟩
  have s11 := Step.of0 X e10
  replace hp := hp (Sl.len hr14)
  refine sq (o_pv (.slice ar12 r8.length cr13) rfl (by kernel_rfl) ?_)
  refine nil_ ?_
  refine then_normal (K7 _ _ _ _ ?_)
  refine seq_ (fun _ K15 => ?_)
  refine seq_ (fun _ K16 => ?_)
  refine reg_ ?_
  refine sq (o_pv (.slice ar12 r8.length cr13) rfl (by kernel_rfl) ?_)
  refine sq (o_pv (.int .i64 (r8.length : Int)) rfl (by kernel_rfl) ?_)
  refine sq (o_pv (.bool (decide ((r8.length : Int) = (0 : Int)))) rfl (by kernel_rfl) ?_)
  refine nil_ ?_
  refine then_normal (K16 _ _ _ _ ?_)
  refine cond_d ((r8.length : Int) = (0 : Int)) (by kernel_rfl) (fun h17 => ?_) (fun h17 => ?_)
  ·
    replace hp := hp.1 h17
    refine seq_ (fun _ K18 => ?_)
    refine reg_ ?_
    refine sq (o_pv (.int .i64 (0 : Int)) rfl (by kernel_rfl) ?_)
    refine nil_ ?_
    refine then_normal (K18 _ _ _ _ ?_)
    refine wp_ret ?_
    refine then_ret ?_
    have E19 := (Evo.then0 E0 e10)
    refine end_ret hQ (.int .i64 (0 : Int)) (by kernel_rfl) ?_
    exact ⟨(0 : Int), hp, E19, rfl, (by decide)⟩
  ·
    replace hp := hp.2 h17
    refine wp_skip ?_
    refine then_normal (K15 _ _ _ _ ?_)
    refine seq_ (fun _ K20 => ?_)
    refine reg_ ?_
    refine sq (o_pv (.slice ar12 r8.length cr13) rfl (by kernel_rfl) ?_)
    refine sq (o_pv (.slice ar12 r8.length cr13) rfl (by kernel_rfl) ?_)
    refine sq (o_pv (.int .i64 (r8.length : Int)) rfl (by kernel_rfl) ?_)
    obtain ⟨h21, hp⟩ := hp
    refine sq (o_pv (.int .i64 ((r8.length : Int) - (1 : Int))) rfl (x_sub2 (k := .i64) (a := (r8.length : Int)) (b := (1 : Int)) ((r8.length : Int) - (1 : Int)) (by kernel_rfl) (by kernel_rfl) (wrap_inR h21)) ?_)
    obtain ⟨h22, hp⟩ := hp
    obtain ⟨b23, o24, cs25, ha26, nx27, lt28, ok29, hc30⟩ := Sl.atI hr14 ((r8.length : Int) - (1 : Int)) h22
    obtain ⟨rfl, re31⟩ := ok29
    replace hp := hp re31
    refine sq (o_pv (.pointer (some ⟨b23, o24 + ((r8.length : Int) - (1 : Int)).toNat * 1, none⟩)) rfl (x_ixA (m := r8.length) (c := cr13) (k := .i64) (i := (r8.length : Int) - (1 : Int)) Try.underlying61 Try.sizeOf3 (by rw [← ha26]; kernel_rfl) (by kernel_rfl) h22) ?_)
    refine sq (o_pv (.int .i64 (lget r8 ((r8.length : Int) - (1 : Int)))) rfl (x_load1 (by kernel_rfl) Try.isAgg3 (hc30 0 _ rfl)) ?_)
    refine sq (o_pv (.int .i64 (lget r8 ((r8.length : Int) - (1 : Int)))) rfl (by kernel_rfl) ?_)
    refine nil_ ?_
    refine then_normal (K20 _ _ _ _ ?_)
    refine wp_ret ?_
    have E32 := (Evo.then0 E0 e10)
    refine end_ret hQ (.int .i64 (lget r8 ((r8.length : Int) - (1 : Int)))) (by kernel_rfl) ?_
    exact ⟨(lget r8 ((r8.length : Int) - (1 : Int))), hp, E32, rfl, re31⟩

def rectolaw17_known_p (Q : Bool → Prop) : Prop :=
  (graph_Graph_Ancestors_p ([([] : List Int), [(1 : Int)], [(1 : Int)], [(2 : Int), (3 : Int)]]) ([(2 : Int)]) (fun (r78 : (List Int)) => ((r78.length ≤ 9223372036854775807) → (graph_Graph_Only_p ([([] : List Int), [(1 : Int)], [(1 : Int)], [(2 : Int), (3 : Int)]]) (4 : Int) (2 : Int) (fun (r89 : (List Int)) => ((r89.length ≤ 9223372036854775807) → (∃ k190 : Bool → Prop, (∀ (s189 : Bool), k190 s189 → Q s189) ∧ (graph_Graph_Check_p ([([] : List Int), [(1 : Int)], [(1 : Int)], [(2 : Int), (3 : Int)]]) (fun (r209 : Int) => ((inR .i64 r209) → (((r209 = (0 : Int)) → ((((r78.length : Int) = (2 : Int)) → (graph_Graph_Is_p ([([] : List Int), [(1 : Int)], [(1 : Int)], [(2 : Int), (3 : Int)]]) (1 : Int) (4 : Int) (fun (r217 : Bool) => (((r217 = true) → (graph_Graph_Is_p ([([] : List Int), [(1 : Int)], [(1 : Int)], [(2 : Int), (3 : Int)]]) (4 : Int) (1 : Int) (fun (r225 : Bool) => (((r225 = true) → (k190 false)) ∧ ((r225 = false) → (graph_Graph_Base_p ([([] : List Int), [(1 : Int)], [(1 : Int)], [(2 : Int), (3 : Int)]]) (2 : Int) (3 : Int) (fun (r230 : Int) => ((inR .i64 r230) → (((r230 = (1 : Int)) → (graph_Graph_Bases_p ([([] : List Int), [(1 : Int)], [(1 : Int)], [(2 : Int), (3 : Int)]]) (4 : Int) (3 : Int) (fun (r239 : (List Int)) => ((r239.length ≤ 9223372036854775807) → ((((r239.length : Int) = (1 : Int)) → ((((r89.length : Int) = (2 : Int)) → ((inL r89 (0 : Int)) ∧ ((inR .i64 (lget r89 (0 : Int))) → ((((lget r89 (0 : Int)) = (3 : Int)) → (graph_Graph_Check_p ([[(5 : Int)]]) (fun (r298 : Int) => ((inR .i64 r298) → (k190 (decide (r298 = (1 : Int)))))))) ∧ ((¬ ((lget r89 (0 : Int)) = (3 : Int))) → (k190 false)))))) ∧ ((¬ ((r89.length : Int) = (2 : Int))) → (k190 false)))) ∧ ((¬ ((r239.length : Int) = (1 : Int))) → (k190 false))))))) ∧ ((¬ (r230 = (1 : Int))) → (k190 false))))))))))) ∧ ((r217 = false) → (k190 false)))))) ∧ ((¬ ((r78.length : Int) = (2 : Int))) → (k190 false)))) ∧ ((¬ (r209 = (0 : Int))) → (k190 false)))))))))))))
set_option maxRecDepth 20000 in
set_option maxHeartbeats 4000000 in
theorem rectolaw17_known_w {X : List Nat} {w : World} {Q : Bool → Prop} (hX0 : Old X w) (hp : rectolaw17_known_p Q) :
    Calls Try.prog 32 #[] w (Ret fun v w' => ∃ (r0 : Bool), Q r0 ∧ Evo [] w w' ∧ v = (.bool r0)) := by
  have hXo := hX0
  have E0 : Evo [] w w := RB.refl _ _ _
  have hS : Sub X X := Sub.refl _
  unfold rectolaw17_known_p at hp
  refine enter_ Try.func32 rfl 58 [] (by kernel_rfl) (fun Qe hQ => ?_)
  refine seq_ (fun _ K1 => ?_)
  refine reg_ ?_
  refine sq (o_pv (.bool false) rfl (by kernel_rfl) ?_)
  refine nil_ ?_
  refine then_normal (K1 _ _ _ _ ?_)
  refine seq_ (fun _ K2 => ?_)
  refine reg_ ?_
  refine sq (o_rowX (R := (rInt .i64)) [(.int .i64 (1 : Int))] [(1 : Int)] 3 1 (X := X) (B := w.heap.size) E0.size rfl (by kernel_rfl) (Flat.cons (cs := [(.int .i64 (1 : Int))]) (rInt_mk (by decide)) Flat.nil) rfl (by decide) ?_)
  intro b3 w4 X5 s6 O7 n8
  have E15 := (Evo.then0 E0 (Step.evo s6))
  refine sq (o_rowX (R := (rInt .i64)) [(.int .i64 (1 : Int))] [(1 : Int)] 3 1 (X := X5) (B := w.heap.size) E15.size rfl (by kernel_rfl) (Flat.cons (cs := [(.int .i64 (1 : Int))]) (rInt_mk (by decide)) Flat.nil) rfl (by decide) ?_)
  intro b9 w10 X11 s12 O13 n14
  have p16 := n14 _ (OS.old O7)
  have O17 := (OS.step0 O7 s12)
  have E24 := (Evo.then0 E15 (Step.evo s12))
  refine sq (o_rowX (R := (rInt .i64)) [(.int .i64 (2 : Int)), (.int .i64 (3 : Int))] [(2 : Int), (3 : Int)] 3 2 (X := X11) (B := w.heap.size) E24.size rfl (by kernel_rfl) (Flat.cons (cs := [(.int .i64 (2 : Int))]) (rInt_mk (by decide)) (Flat.cons (cs := [(.int .i64 (3 : Int))]) (rInt_mk (by decide)) Flat.nil)) rfl (by decide) ?_)
  intro b18 w19 X20 s21 O22 n23
  have p25 := n23 _ (OS.old O17)
  have p26 := n23 _ (OS.old O13)
  have O27 := (OS.step0 O17 s21)
  have hS28 := (Sub.trans (Sub.trans (Sub.trans hS (Step.up s6)) (Step.up s12)) (Step.up s21))
  have hXo34 := (Old.step (Old.step (Old.step hXo s6) s12) s21)
  have E35 := (Evo.then0 E24 (Step.evo s21))
  have O36 := (OS.step0 O13 s21)
  have ax33 := OS.apold O27 hX0
  obtain ⟨X29, u30, r31, hm32⟩ := OS.release O27
  have O37 := (OS.less O36 u30 (hm32 _ (Ap.symm p16) (OS.mem O36)))
  have hS38 := (hm32 _ ax33 hS28)
  have hXo44 := (Old.less hXo34 u30)
  have E45 := E35
  have O46 := (OS.less O22 u30 (hm32 _ (Ap.symm p25) (OS.mem O22)))
  have ax43 := OS.apold O37 hX0
  obtain ⟨X39, u40, r41, hm42⟩ := OS.release O37
  have O47 := (OS.less O46 u40 (hm42 _ (Ap.symm p26) (OS.mem O46)))
  have hS48 := (hm42 _ ax43 hS38)
  have hXo54 := (Old.less hXo44 u40)
  have E55 := E45
  have r56 := (Sl.less r31 u40)
  have ax53 := OS.apold O47 hX0
  obtain ⟨X49, u50, r51, hm52⟩ := OS.release O47
  have r57 := (Sl.less r41 u50)
  have r58 := (Sl.less r56 u50)
  have E65 := E55
  refine sq (o_rowX (R := (rSl (rInt .i64))) [(.slice none 0 0), (.slice (some ⟨b3, 0, none⟩) 1 1), (.slice (some ⟨b9, 0, none⟩) 1 1), (.slice (some ⟨b18, 0, none⟩) 2 2)] [([] : List Int), [(1 : Int)], [(1 : Int)], [(2 : Int), (3 : Int)]] 61 4 (X := X49) (B := w.heap.size) E65.size rfl (by kernel_rfl) (Flat.cons (cs := [(.slice none 0 0)]) (rSl_mk' (Sl.nil) rfl) (Flat.cons (cs := [(.slice (some ⟨b3, 0, none⟩) 1 1)]) (rSl_mk' r58 rfl) (Flat.cons (cs := [(.slice (some ⟨b9, 0, none⟩) 1 1)]) (rSl_mk' r57 rfl) (Flat.cons (cs := [(.slice (some ⟨b18, 0, none⟩) 2 2)]) (rSl_mk' r51 rfl) Flat.nil)))) rfl (by decide) ?_)
  intro b59 w60 X61 s62 O63 n64
  refine sq (o_pv (.slice (some ⟨b59, 0, none⟩) 4 4) rfl (by kernel_rfl) ?_)
  refine nil_ ?_
  refine then_normal (K2 _ _ _ _ ?_)
  refine seq_ (fun _ K66 => ?_)
  refine reg_ ?_
  refine sq (o_pv (.slice (some ⟨b59, 0, none⟩) 4 4) rfl (by kernel_rfl) ?_)
  have E73 := (Evo.then0 E65 (Step.evo s62))
  refine sq (o_rowX (R := (rInt .i64)) [(.int .i64 (2 : Int))] [(2 : Int)] 3 1 (X := X61) (B := w.heap.size) E73.size rfl (by kernel_rfl) (Flat.cons (cs := [(.int .i64 (2 : Int))]) (rInt_mk (by decide)) Flat.nil) rfl (by decide) ?_)
  intro b67 w68 X69 s70 O71 n72
  have p74 := n72 _ (OS.old O63)
  have O75 := (OS.step0 O63 s70)
  have hS76 := (Sub.trans (Sub.trans (hm52 _ ax53 hS48) (Step.up s62)) (Step.up s70))
  have hXo77 := (Old.step (Old.step (Old.less hXo54 u50) s62) s70)
  refine sq (o_call 37 #[(.slice (some ⟨b59, 0, none⟩) ([([] : List Int), [(1 : Int)], [(1 : Int)], [(2 : Int), (3 : Int)]]).length 4), (.slice (some ⟨b67, 0, none⟩) ([(2 : Int)]).length 1)] rfl (x_call Try.call37 (by rw [← show 4 = ([([] : List Int), [(1 : Int)], [(1 : Int)], [(2 : Int), (3 : Int)]]).length from O75.1, ← show 1 = ([(2 : Int)]).length from O71.1]; kernel_rfl)) (graph_Graph_Ancestors_w (X := X) (g := [([] : List Int), [(1 : Int)], [(1 : Int)], [(2 : Int), (3 : Int)]]) (c := [(2 : Int)]) (Old.less hXo77 hS76) (OS.out O75 hS76 hX0) (OS.out O71 hS76 hX0) hp) ?_)
  rintro _ w79 ⟨r78, hp, e80, ar82, cr83, rfl, hr84⟩
  have s81 := Step.of0 X69 e80
  replace hp := hp (Sl.len hr84)
  refine sq (o_pv (.slice ar82 r78.length cr83) rfl (by kernel_rfl) ?_)
  refine nil_ ?_
  refine then_normal (K66 _ _ _ _ ?_)
  refine seq_ (fun _ K85 => ?_)
  refine reg_ ?_
  refine sq (o_pv (.slice (some ⟨b59, 0, none⟩) 4 4) rfl (by kernel_rfl) ?_)
  have O86 := (OS.step0 O75 s81)
  have hS87 := (Sub.trans hS76 (Step.up s81))
  have hXo88 := (Old.step hXo77 s81)
  refine sq (o_call 45 #[(.slice (some ⟨b59, 0, none⟩) ([([] : List Int), [(1 : Int)], [(1 : Int)], [(2 : Int), (3 : Int)]]).length 4), (.int .i64 (4 : Int)), (.int .i64 (2 : Int))] rfl (x_call Try.call45 (by rw [← show 4 = ([([] : List Int), [(1 : Int)], [(1 : Int)], [(2 : Int), (3 : Int)]]).length from O86.1]; kernel_rfl)) (graph_Graph_Only_w (X := X) (g := [([] : List Int), [(1 : Int)], [(1 : Int)], [(2 : Int), (3 : Int)]]) (a := (4 : Int)) (b := (2 : Int)) (Old.less hXo88 hS87) (OS.out O86 hS87 hX0) (by decide) (by decide) hp) ?_)
  rintro _ w90 ⟨r89, hp, e91, ar93, cr94, rfl, hr95⟩
  have s92 := Step.of0 X69 e91
  replace hp := hp (Sl.len hr95)
  refine sq (o_pv (.slice ar93 r89.length cr94) rfl (by kernel_rfl) ?_)
  refine nil_ ?_
  refine then_normal (K85 _ _ _ _ ?_)
  refine seq_ (fun _ K96 => ?_)
  have hXo197 := (Old.step hXo88 s92)
  have E198 := (Evo.then0 (Evo.then0 (Evo.then0 E73 (Step.evo s70)) e80) e91)
  have hS199 := (Sub.trans hS87 (Step.up s92))
  have r200 := (Sl.step (Sl.step (Sl.step (Sl.step r58 s62) s70) s81) s92)
  have r201 := (Sl.step (Sl.step (Sl.step (Sl.step r57 s62) s70) s81) s92)
  have r202 := (Sl.step (Sl.step (Sl.step (Sl.step r51 s62) s70) s81) s92)
  have O203 := (OS.step0 O86 s92)
  have O204 := (OS.step0 (OS.step0 O71 s81) s92)
  have hr205 := (Sl.evo0 hr84 e91)
  obtain ⟨k190, hk191, hp⟩ := hp
  refine ground_ ?_
  refine join_ 288230376151703553 (fun lq w192 => ∃ (X193 : List Nat) (s189 : Bool), (lq = [(0, (.bool s189))]) ∧ (Evo [] w w192) ∧ (Old X193 w192) ∧ (Sub X X193) ∧ (k190 s189)) (fun Kj194 hJ195 => ?_) ?_
  ·
    refine reg_ ?_
    refine sq (o_pv (.slice (some ⟨b59, 0, none⟩) 4 4) rfl (by kernel_rfl) ?_)
    refine sq (o_call 34 #[(.slice (some ⟨b59, 0, none⟩) ([([] : List Int), [(1 : Int)], [(1 : Int)], [(2 : Int), (3 : Int)]]).length 4)] rfl (x_call Try.call34 (by rw [← show 4 = ([([] : List Int), [(1 : Int)], [(1 : Int)], [(2 : Int), (3 : Int)]]).length from O203.1]; kernel_rfl)) (graph_Graph_Check_w (X := []) (g := [([] : List Int), [(1 : Int)], [(1 : Int)], [(2 : Int), (3 : Int)]]) (Old.nil _) (OS.rd O203) hp) ?_)
    rintro _ w210 ⟨r209, hp, e211, rfl, rr213⟩
    have s212 := Step.of0 X69 e211
    replace hp := hp rr213
    by_cases h214 : r209 = (0 : Int)
    ·
      replace hp := hp.1 h214
      refine sq (o_pv (.bool true) rfl (x_dt (p := r209 = (0 : Int)) (by kernel_rfl) h214) ?_)
      refine sq (o_pv (.bool true) rfl (by kernel_rfl) ?_)
      refine sq (o_pv (.slice ar82 r78.length cr83) (by kernel_rfl) (by kernel_rfl) ?_)
      refine sq (o_pv (.int .i64 (r78.length : Int)) (by kernel_rfl) (by kernel_rfl) ?_)
      by_cases h215 : (r78.length : Int) = (2 : Int)
      ·
        replace hp := hp.1 h215
        refine sq (o_pv (.bool true) (by kernel_rfl) (x_dt (p := (r78.length : Int) = (2 : Int)) (by kernel_rfl) h215) ?_)
        refine sq (o_pv (.bool true) rfl (by kernel_rfl) ?_)
        refine sq (o_pv (.bool true) rfl (by kernel_rfl) ?_)
        refine sq (o_pv (.slice (some ⟨b59, 0, none⟩) 4 4) (by kernel_rfl) (by kernel_rfl) ?_)
        have O216 := (OS.step0 O203 s212)
        refine sq (o_call 39 #[(.slice (some ⟨b59, 0, none⟩) ([([] : List Int), [(1 : Int)], [(1 : Int)], [(2 : Int), (3 : Int)]]).length 4), (.int .i64 (1 : Int)), (.int .i64 (4 : Int))] (by kernel_rfl) (x_call Try.call39 (by rw [← show 4 = ([([] : List Int), [(1 : Int)], [(1 : Int)], [(2 : Int), (3 : Int)]]).length from O216.1]; kernel_rfl)) (graph_Graph_Is_w (X := []) (g := [([] : List Int), [(1 : Int)], [(1 : Int)], [(2 : Int), (3 : Int)]]) (a := (1 : Int)) (c := (4 : Int)) (Old.nil _) (OS.rd O216) (by decide) (by decide) hp) ?_)
        rintro _ w218 ⟨r217, hp, e219, rfl⟩
        have s220 := Step.of0 X69 e219
        cases r217
        ·
          replace hp := hp.2 rfl
          refine sq (o_pv (.bool false) rfl (by kernel_rfl) ?_)
          refine sq (o_pv (.bool false) rfl (by kernel_rfl) ?_)
          refine sq (o_not (by kernel_rfl) ?_)
          refine sq (o_not (by kernel_rfl) ?_)
          refine sq (o_not (by kernel_rfl) ?_)
          refine sq (o_pv (.bool false) rfl (by kernel_rfl) ?_)
          refine sq (o_pv (.bool false) rfl (by kernel_rfl) ?_)
          refine sq (o_not (by kernel_rfl) ?_)
          refine sq (o_not (by kernel_rfl) ?_)
          refine sq (o_not (by kernel_rfl) ?_)
          refine sq (o_pv (.bool false) rfl (by kernel_rfl) ?_)
          refine sq (o_pv (.bool false) rfl (by kernel_rfl) ?_)
          refine sq (o_not (by kernel_rfl) ?_)
          refine sq (o_not (by kernel_rfl) ?_)
          refine sq (o_not (by kernel_rfl) ?_)
          refine sq (o_not (by kernel_rfl) ?_)
          refine sq (o_pv (.bool false) rfl (by kernel_rfl) ?_)
          refine sq (o_pv (.bool false) rfl (by kernel_rfl) ?_)
          refine sq (o_not (by kernel_rfl) ?_)
          refine sq (o_not (by kernel_rfl) ?_)
          refine sq (o_not (by kernel_rfl) ?_)
          refine sq (o_pv (.bool false) rfl (by kernel_rfl) ?_)
          refine sq (o_pv (.bool false) rfl (by kernel_rfl) ?_)
          refine sq (o_not (by kernel_rfl) ?_)
          refine sq (o_not (by kernel_rfl) ?_)
          refine sq (o_not (by kernel_rfl) ?_)
          refine sq (o_not (by kernel_rfl) ?_)
          refine sq (o_pv (.bool false) rfl (by kernel_rfl) ?_)
          refine sq (o_pv (.bool false) rfl (by kernel_rfl) ?_)
          refine sq (o_not (by kernel_rfl) ?_)
          refine sq (o_not (by kernel_rfl) ?_)
          refine sq (o_not (by kernel_rfl) ?_)
          refine sq (o_not (by kernel_rfl) ?_)
          refine sq (o_pv (.bool false) rfl (by kernel_rfl) ?_)
          refine sq (o_pv (.bool false) rfl (by kernel_rfl) ?_)
          refine nil_ ?_
          have E221 := (Evo.then0 (Evo.then0 E198 e211) e219)
          have hXo222 := (Old.step (Old.step hXo197 s212) s220)
          have hS223 := (Sub.trans (Sub.trans hS199 (Step.up s212)) (Step.up s220))
          refine then_normal (hJ195 _ _ _ ⟨[(0, (.bool false))], fit_mk (fun _ _ => rfl) (by kernel_rfl) (vs_cons (by kernel_rfl) vs_nil), ?_⟩)
          exact ⟨X69, false, rfl, E221, hXo222, hS223, hp⟩
        ·
          replace hp := hp.1 rfl
          refine sq (o_pv (.bool true) rfl (by kernel_rfl) ?_)
          refine sq (o_pv (.bool true) rfl (by kernel_rfl) ?_)
          refine sq (o_pv (.slice (some ⟨b59, 0, none⟩) 4 4) (by kernel_rfl) (by kernel_rfl) ?_)
          have O224 := (OS.step0 O216 s220)
          refine sq (o_call 39 #[(.slice (some ⟨b59, 0, none⟩) ([([] : List Int), [(1 : Int)], [(1 : Int)], [(2 : Int), (3 : Int)]]).length 4), (.int .i64 (4 : Int)), (.int .i64 (1 : Int))] (by kernel_rfl) (x_call Try.call39 (by rw [← show 4 = ([([] : List Int), [(1 : Int)], [(1 : Int)], [(2 : Int), (3 : Int)]]).length from O224.1]; kernel_rfl)) (graph_Graph_Is_w (X := []) (g := [([] : List Int), [(1 : Int)], [(1 : Int)], [(2 : Int), (3 : Int)]]) (a := (4 : Int)) (c := (1 : Int)) (Old.nil _) (OS.rd O224) (by decide) (by decide) hp) ?_)
          rintro _ w226 ⟨r225, hp, e227, rfl⟩
          have s228 := Step.of0 X69 e227
          cases r225
          ·
            replace hp := hp.2 rfl
            refine sq (o_pv (.bool true) (by kernel_rfl) (by kernel_rfl) ?_)
            refine sq (o_pv (.bool true) rfl (by kernel_rfl) ?_)
            refine sq (o_pv (.bool true) rfl (by kernel_rfl) ?_)
            refine sq (o_pv (.slice (some ⟨b59, 0, none⟩) 4 4) (by kernel_rfl) (by kernel_rfl) ?_)
            have O229 := (OS.step0 O224 s228)
            refine sq (o_call 41 #[(.slice (some ⟨b59, 0, none⟩) ([([] : List Int), [(1 : Int)], [(1 : Int)], [(2 : Int), (3 : Int)]]).length 4), (.int .i64 (2 : Int)), (.int .i64 (3 : Int))] (by kernel_rfl) (x_call Try.call41 (by rw [← show 4 = ([([] : List Int), [(1 : Int)], [(1 : Int)], [(2 : Int), (3 : Int)]]).length from O229.1]; kernel_rfl)) (graph_Graph_Base_w (X := []) (g := [([] : List Int), [(1 : Int)], [(1 : Int)], [(2 : Int), (3 : Int)]]) (a := (2 : Int)) (b := (3 : Int)) (Old.nil _) (OS.rd O229) (by decide) (by decide) hp) ?_)
            rintro _ w231 ⟨r230, hp, e232, rfl, rr234⟩
            have s233 := Step.of0 X69 e232
            replace hp := hp rr234
            by_cases h235 : r230 = (1 : Int)
            ·
              replace hp := hp.1 h235
              refine sq (o_pv (.bool true) (by kernel_rfl) (x_dt (p := r230 = (1 : Int)) (by kernel_rfl) h235) ?_)
              refine sq (o_pv (.bool true) rfl (by kernel_rfl) ?_)
              refine sq (o_pv (.bool true) rfl (by kernel_rfl) ?_)
              refine sq (o_pv (.slice (some ⟨b59, 0, none⟩) 4 4) (by kernel_rfl) (by kernel_rfl) ?_)
              have O236 := (OS.step0 O229 s233)
              have hS237 := (Sub.trans (Sub.trans (Sub.trans (Sub.trans hS199 (Step.up s212)) (Step.up s220)) (Step.up s228)) (Step.up s233))
              have hXo238 := (Old.step (Old.step (Old.step (Old.step hXo197 s212) s220) s228) s233)
              refine sq (o_call 43 #[(.slice (some ⟨b59, 0, none⟩) ([([] : List Int), [(1 : Int)], [(1 : Int)], [(2 : Int), (3 : Int)]]).length 4), (.int .i64 (4 : Int)), (.int .i64 (3 : Int))] (by kernel_rfl) (x_call Try.call43 (by rw [← show 4 = ([([] : List Int), [(1 : Int)], [(1 : Int)], [(2 : Int), (3 : Int)]]).length from O236.1]; kernel_rfl)) (graph_Graph_Bases_w (X := X) (g := [([] : List Int), [(1 : Int)], [(1 : Int)], [(2 : Int), (3 : Int)]]) (a := (4 : Int)) (b := (3 : Int)) (Old.less hXo238 hS237) (OS.out O236 hS237 hX0) (by decide) (by decide) hp) ?_)
              rintro _ w240 ⟨r239, hp, e241, ar243, cr244, rfl, hr245⟩
              have s242 := Step.of0 X69 e241
              replace hp := hp (Sl.len hr245)
              refine sq (o_pv (.int .i64 (r239.length : Int)) (by kernel_rfl) (by kernel_rfl) ?_)
              by_cases h246 : (r239.length : Int) = (1 : Int)
              ·
                replace hp := hp.1 h246
                refine sq (o_pv (.bool true) (by kernel_rfl) (x_dt (p := (r239.length : Int) = (1 : Int)) (by kernel_rfl) h246) ?_)
                refine sq (o_pv (.bool true) rfl (by kernel_rfl) ?_)
                refine sq (o_pv (.bool true) rfl (by kernel_rfl) ?_)
                refine sq (o_pv (.slice ar93 r89.length cr94) (by kernel_rfl) (by kernel_rfl) ?_)
                refine sq (o_pv (.int .i64 (r89.length : Int)) (by kernel_rfl) (by kernel_rfl) ?_)
                by_cases h247 : (r89.length : Int) = (2 : Int)
                ·
                  replace hp := hp.1 h247
                  refine sq (o_pv (.bool true) (by kernel_rfl) (x_dt (p := (r89.length : Int) = (2 : Int)) (by kernel_rfl) h247) ?_)
                  refine sq (o_pv (.bool true) rfl (by kernel_rfl) ?_)
                  refine sq (o_pv (.bool true) rfl (by kernel_rfl) ?_)
                  refine sq (o_pv (.slice ar93 r89.length cr94) (by kernel_rfl) (by kernel_rfl) ?_)
                  obtain ⟨h248, hp⟩ := hp
                  have hr249 := (Sl.evo0 (Sl.evo0 (Sl.evo0 (Sl.evo0 (Sl.evo0 hr95 e211) e219) e227) e232) e241)
                  obtain ⟨b250, o251, cs252, ha253, nx254, lt255, ok256, hc257⟩ := Sl.atI hr249 (0 : Int) h248
                  obtain ⟨rfl, re258⟩ := ok256
                  replace hp := hp re258
                  refine sq (o_pv (.pointer (some ⟨b250, o251 + (0 : Int).toNat * 1, none⟩)) (by kernel_rfl) (x_ixA (m := r89.length) (c := cr94) (k := .i64) (i := (0 : Int)) Try.underlying61 Try.sizeOf3 (by rw [← ha253]; kernel_rfl) (by kernel_rfl) h248) ?_)
                  refine sq (o_pv (.int .i64 (lget r89 (0 : Int))) (by kernel_rfl) (x_load1 (by kernel_rfl) Try.isAgg3 (hc257 0 _ rfl)) ?_)
                  by_cases h259 : (lget r89 (0 : Int)) = (3 : Int)
                  ·
                    replace hp := hp.1 h259
                    refine sq (o_pv (.bool true) (by kernel_rfl) (x_dt (p := (lget r89 (0 : Int)) = (3 : Int)) (by kernel_rfl) h259) ?_)
                    refine sq (o_pv (.bool true) rfl (by kernel_rfl) ?_)
                    refine sq (o_pv (.bool true) rfl (by kernel_rfl) ?_)
                    have O260 := (OS.step0 O236 s242)
                    have O261 := (OS.step0 (OS.step0 (OS.step0 (OS.step0 (OS.step0 O204 s212) s220) s228) s233) s242)
                    have E268 := (Evo.then0 (Evo.then0 (Evo.then0 (Evo.then0 (Evo.then0 E198 e211) e219) e227) e232) e241)
                    refine sq (o_rowX (R := (rInt .i64)) [(.int .i64 (5 : Int))] [(5 : Int)] 3 1 (X := X69) (B := w.heap.size) E268.size (by kernel_rfl) (by kernel_rfl) (Flat.cons (cs := [(.int .i64 (5 : Int))]) (rInt_mk (by decide)) Flat.nil) rfl (by decide) ?_)
                    intro b262 w263 X264 s265 O266 n267
                    have p269 := n267 _ (OS.old O260)
                    have p270 := n267 _ (OS.old O261)
                    have hS271 := (Sub.trans (Sub.trans hS237 (Step.up s242)) (Step.up s265))
                    have hXo277 := (Old.step (Old.step hXo238 s242) s265)
                    have E278 := (Evo.then0 E268 (Step.evo s265))
                    have r279 := (Sl.step (Sl.step (Sl.step (Sl.step (Sl.step (Sl.step r200 s212) s220) s228) s233) s242) s265)
                    have r280 := (Sl.step (Sl.step (Sl.step (Sl.step (Sl.step (Sl.step r201 s212) s220) s228) s233) s242) s265)
                    have r281 := (Sl.step (Sl.step (Sl.step (Sl.step (Sl.step (Sl.step r202 s212) s220) s228) s233) s242) s265)
                    have O282 := (OS.step0 O260 s265)
                    have O283 := (OS.step0 O261 s265)
                    have hr284 := (Sl.evo0 (Sl.evo0 (Sl.evo0 (Sl.evo0 (Sl.evo0 (Sl.evo0 hr205 e211) e219) e227) e232) e241) (Step.evo s265))
                    have hr285 := (Sl.evo0 hr249 (Step.evo s265))
                    have hr286 := (Sl.evo0 hr245 (Step.evo s265))
                    have ax276 := OS.apold O266 hX0
                    obtain ⟨X272, u273, r274, hm275⟩ := OS.release O266
                    have O287 := (OS.less O282 u273 (hm275 _ p269 (OS.mem O282)))
                    have O288 := (OS.less O283 u273 (hm275 _ p270 (OS.mem O283)))
                    have E295 := E278
                    refine sq (o_rowX (R := (rSl (rInt .i64))) [(.slice (some ⟨b262, 0, none⟩) 1 1)] [[(5 : Int)]] 61 1 (X := X272) (B := w.heap.size) E295.size (by kernel_rfl) (by kernel_rfl) (Flat.cons (cs := [(.slice (some ⟨b262, 0, none⟩) 1 1)]) (rSl_mk' r274 rfl) Flat.nil) rfl (by decide) ?_)
                    intro b289 w290 X291 s292 O293 n294
                    have p296 := n294 _ (OS.old O287)
                    have p297 := n294 _ (OS.old O288)
                    refine sq (o_call 34 #[(.slice (some ⟨b289, 0, none⟩) ([[(5 : Int)]]).length 1)] (by kernel_rfl) (x_call Try.call34 (by rw [← show 1 = ([[(5 : Int)]]).length from O293.1]; kernel_rfl)) (graph_Graph_Check_w (X := []) (g := [[(5 : Int)]]) (Old.nil _) (OS.rd O293) hp) ?_)
                    rintro _ w299 ⟨r298, hp, e300, rfl, rr302⟩
                    have s301 := Step.of0 X291 e300
                    replace hp := hp rr302
                    refine sq (o_pv (.bool (decide (r298 = (1 : Int)))) (by kernel_rfl) (by kernel_rfl) ?_)
                    refine sq (o_pv (.bool (decide (r298 = (1 : Int)))) rfl (by kernel_rfl) ?_)
                    refine sq (o_pv (.bool (decide (r298 = (1 : Int)))) rfl (by kernel_rfl) ?_)
                    refine nil_ ?_
                    have E303 := (Evo.then0 (Evo.then0 E295 (Step.evo s292)) e300)
                    have hXo304 := (Old.step (Old.step (Old.less hXo277 u273) s292) s301)
                    have hS305 := (Sub.trans (Sub.trans (hm275 _ ax276 hS271) (Step.up s292)) (Step.up s301))
                    refine then_normal (hJ195 _ _ _ ⟨[(0, (.bool (decide (r298 = (1 : Int)))))], fit_mk (fun _ _ => rfl) (by kernel_rfl) (vs_cons (by kernel_rfl) vs_nil), ?_⟩)
                    exact ⟨X291, (decide (r298 = (1 : Int))), rfl, E303, hXo304, hS305, hp⟩
                  ·
                    replace hp := hp.2 h259
                    refine sq (o_pv (.bool false) (by kernel_rfl) (x_df (p := (lget r89 (0 : Int)) = (3 : Int)) (by kernel_rfl) h259) ?_)
                    refine sq (o_pv (.bool false) rfl (by kernel_rfl) ?_)
                    refine sq (o_pv (.bool false) rfl (by kernel_rfl) ?_)
                    refine sq (o_not (by kernel_rfl) ?_)
                    refine sq (o_not (by kernel_rfl) ?_)
                    refine sq (o_not (by kernel_rfl) ?_)
                    refine sq (o_not (by kernel_rfl) ?_)
                    refine sq (o_pv (.bool false) rfl (by kernel_rfl) ?_)
                    refine sq (o_pv (.bool false) rfl (by kernel_rfl) ?_)
                    refine nil_ ?_
                    have E306 := (Evo.then0 (Evo.then0 (Evo.then0 (Evo.then0 (Evo.then0 E198 e211) e219) e227) e232) e241)
                    have hXo307 := (Old.step hXo238 s242)
                    have hS308 := (Sub.trans hS237 (Step.up s242))
                    refine then_normal (hJ195 _ _ _ ⟨[(0, (.bool false))], fit_mk (fun _ _ => rfl) (by kernel_rfl) (vs_cons (by kernel_rfl) vs_nil), ?_⟩)
                    exact ⟨X69, false, rfl, E306, hXo307, hS308, hp⟩
                ·
                  replace hp := hp.2 h247
                  refine sq (o_pv (.bool false) (by kernel_rfl) (x_df (p := (r89.length : Int) = (2 : Int)) (by kernel_rfl) h247) ?_)
                  refine sq (o_pv (.bool false) rfl (by kernel_rfl) ?_)
                  refine sq (o_pv (.bool false) rfl (by kernel_rfl) ?_)
                  refine sq (o_not (by kernel_rfl) ?_)
                  refine sq (o_not (by kernel_rfl) ?_)
                  refine sq (o_not (by kernel_rfl) ?_)
                  refine sq (o_not (by kernel_rfl) ?_)
                  refine sq (o_pv (.bool false) rfl (by kernel_rfl) ?_)
                  refine sq (o_pv (.bool false) rfl (by kernel_rfl) ?_)
                  refine sq (o_not (by kernel_rfl) ?_)
                  refine sq (o_not (by kernel_rfl) ?_)
                  refine sq (o_not (by kernel_rfl) ?_)
                  refine sq (o_not (by kernel_rfl) ?_)
                  refine sq (o_pv (.bool false) rfl (by kernel_rfl) ?_)
                  refine sq (o_pv (.bool false) rfl (by kernel_rfl) ?_)
                  refine nil_ ?_
                  have E309 := (Evo.then0 (Evo.then0 (Evo.then0 (Evo.then0 (Evo.then0 E198 e211) e219) e227) e232) e241)
                  have hXo310 := (Old.step hXo238 s242)
                  have hS311 := (Sub.trans hS237 (Step.up s242))
                  refine then_normal (hJ195 _ _ _ ⟨[(0, (.bool false))], fit_mk (fun _ _ => rfl) (by kernel_rfl) (vs_cons (by kernel_rfl) vs_nil), ?_⟩)
                  exact ⟨X69, false, rfl, E309, hXo310, hS311, hp⟩
              ·
                replace hp := hp.2 h246
                refine sq (o_pv (.bool false) (by kernel_rfl) (x_df (p := (r239.length : Int) = (1 : Int)) (by kernel_rfl) h246) ?_)
                refine sq (o_pv (.bool false) rfl (by kernel_rfl) ?_)
                refine sq (o_pv (.bool false) rfl (by kernel_rfl) ?_)
                refine sq (o_not (by kernel_rfl) ?_)
                refine sq (o_not (by kernel_rfl) ?_)
                refine sq (o_not (by kernel_rfl) ?_)
                refine sq (o_pv (.bool false) rfl (by kernel_rfl) ?_)
                refine sq (o_pv (.bool false) rfl (by kernel_rfl) ?_)
                refine sq (o_not (by kernel_rfl) ?_)
                refine sq (o_not (by kernel_rfl) ?_)
                refine sq (o_not (by kernel_rfl) ?_)
                refine sq (o_not (by kernel_rfl) ?_)
                refine sq (o_pv (.bool false) rfl (by kernel_rfl) ?_)
                refine sq (o_pv (.bool false) rfl (by kernel_rfl) ?_)
                refine sq (o_not (by kernel_rfl) ?_)
                refine sq (o_not (by kernel_rfl) ?_)
                refine sq (o_not (by kernel_rfl) ?_)
                refine sq (o_not (by kernel_rfl) ?_)
                refine sq (o_pv (.bool false) rfl (by kernel_rfl) ?_)
                refine sq (o_pv (.bool false) rfl (by kernel_rfl) ?_)
                refine nil_ ?_
                have E312 := (Evo.then0 (Evo.then0 (Evo.then0 (Evo.then0 (Evo.then0 E198 e211) e219) e227) e232) e241)
                have hXo313 := (Old.step hXo238 s242)
                have hS314 := (Sub.trans hS237 (Step.up s242))
                refine then_normal (hJ195 _ _ _ ⟨[(0, (.bool false))], fit_mk (fun _ _ => rfl) (by kernel_rfl) (vs_cons (by kernel_rfl) vs_nil), ?_⟩)
                exact ⟨X69, false, rfl, E312, hXo313, hS314, hp⟩
            ·
              replace hp := hp.2 h235
              refine sq (o_pv (.bool false) (by kernel_rfl) (x_df (p := r230 = (1 : Int)) (by kernel_rfl) h235) ?_)
              refine sq (o_pv (.bool false) rfl (by kernel_rfl) ?_)
              refine sq (o_pv (.bool false) rfl (by kernel_rfl) ?_)
              refine sq (o_not (by kernel_rfl) ?_)
              refine sq (o_not (by kernel_rfl) ?_)
              refine sq (o_not (by kernel_rfl) ?_)
              refine sq (o_not (by kernel_rfl) ?_)
              refine sq (o_pv (.bool false) rfl (by kernel_rfl) ?_)
              refine sq (o_pv (.bool false) rfl (by kernel_rfl) ?_)
              refine sq (o_not (by kernel_rfl) ?_)
              refine sq (o_not (by kernel_rfl) ?_)
              refine sq (o_not (by kernel_rfl) ?_)
              refine sq (o_pv (.bool false) rfl (by kernel_rfl) ?_)
              refine sq (o_pv (.bool false) rfl (by kernel_rfl) ?_)
              refine sq (o_not (by kernel_rfl) ?_)
              refine sq (o_not (by kernel_rfl) ?_)
              refine sq (o_not (by kernel_rfl) ?_)
              refine sq (o_not (by kernel_rfl) ?_)
              refine sq (o_pv (.bool false) rfl (by kernel_rfl) ?_)
              refine sq (o_pv (.bool false) rfl (by kernel_rfl) ?_)
              refine sq (o_not (by kernel_rfl) ?_)
              refine sq (o_not (by kernel_rfl) ?_)
              refine sq (o_not (by kernel_rfl) ?_)
              refine sq (o_not (by kernel_rfl) ?_)
              refine sq (o_pv (.bool false) rfl (by kernel_rfl) ?_)
              refine sq (o_pv (.bool false) rfl (by kernel_rfl) ?_)
              refine nil_ ?_
              have E315 := (Evo.then0 (Evo.then0 (Evo.then0 (Evo.then0 E198 e211) e219) e227) e232)
              have hXo316 := (Old.step (Old.step (Old.step (Old.step hXo197 s212) s220) s228) s233)
              have hS317 := (Sub.trans (Sub.trans (Sub.trans (Sub.trans hS199 (Step.up s212)) (Step.up s220)) (Step.up s228)) (Step.up s233))
              refine then_normal (hJ195 _ _ _ ⟨[(0, (.bool false))], fit_mk (fun _ _ => rfl) (by kernel_rfl) (vs_cons (by kernel_rfl) vs_nil), ?_⟩)
              exact ⟨X69, false, rfl, E315, hXo316, hS317, hp⟩
          ·
            replace hp := hp.1 rfl
            refine sq (o_pv (.bool false) (by kernel_rfl) (by kernel_rfl) ?_)
            refine sq (o_pv (.bool false) rfl (by kernel_rfl) ?_)
            refine sq (o_pv (.bool false) rfl (by kernel_rfl) ?_)
            refine sq (o_not (by kernel_rfl) ?_)
            refine sq (o_not (by kernel_rfl) ?_)
            refine sq (o_not (by kernel_rfl) ?_)
            refine sq (o_pv (.bool false) rfl (by kernel_rfl) ?_)
            refine sq (o_pv (.bool false) rfl (by kernel_rfl) ?_)
            refine sq (o_not (by kernel_rfl) ?_)
            refine sq (o_not (by kernel_rfl) ?_)
            refine sq (o_not (by kernel_rfl) ?_)
            refine sq (o_not (by kernel_rfl) ?_)
            refine sq (o_pv (.bool false) rfl (by kernel_rfl) ?_)
            refine sq (o_pv (.bool false) rfl (by kernel_rfl) ?_)
            refine sq (o_not (by kernel_rfl) ?_)
            refine sq (o_not (by kernel_rfl) ?_)
            refine sq (o_not (by kernel_rfl) ?_)
            refine sq (o_pv (.bool false) rfl (by kernel_rfl) ?_)
            refine sq (o_pv (.bool false) rfl (by kernel_rfl) ?_)
            refine sq (o_not (by kernel_rfl) ?_)
            refine sq (o_not (by kernel_rfl) ?_)
            refine sq (o_not (by kernel_rfl) ?_)
            refine sq (o_not (by kernel_rfl) ?_)
            refine sq (o_pv (.bool false) rfl (by kernel_rfl) ?_)
            refine sq (o_pv (.bool false) rfl (by kernel_rfl) ?_)
            refine sq (o_not (by kernel_rfl) ?_)
            refine sq (o_not (by kernel_rfl) ?_)
            refine sq (o_not (by kernel_rfl) ?_)
            refine sq (o_not (by kernel_rfl) ?_)
            refine sq (o_pv (.bool false) rfl (by kernel_rfl) ?_)
            refine sq (o_pv (.bool false) rfl (by kernel_rfl) ?_)
            refine nil_ ?_
            have E318 := (Evo.then0 (Evo.then0 (Evo.then0 E198 e211) e219) e227)
            have hXo319 := (Old.step (Old.step (Old.step hXo197 s212) s220) s228)
            have hS320 := (Sub.trans (Sub.trans (Sub.trans hS199 (Step.up s212)) (Step.up s220)) (Step.up s228))
            refine then_normal (hJ195 _ _ _ ⟨[(0, (.bool false))], fit_mk (fun _ _ => rfl) (by kernel_rfl) (vs_cons (by kernel_rfl) vs_nil), ?_⟩)
            exact ⟨X69, false, rfl, E318, hXo319, hS320, hp⟩
      ·
        replace hp := hp.2 h215
        refine sq (o_pv (.bool false) (by kernel_rfl) (x_df (p := (r78.length : Int) = (2 : Int)) (by kernel_rfl) h215) ?_)
        refine sq (o_pv (.bool false) rfl (by kernel_rfl) ?_)
        refine sq (o_pv (.bool false) rfl (by kernel_rfl) ?_)
        refine sq (o_not (by kernel_rfl) ?_)
        refine sq (o_not (by kernel_rfl) ?_)
        refine sq (o_pv (.bool false) rfl (by kernel_rfl) ?_)
        refine sq (o_pv (.bool false) rfl (by kernel_rfl) ?_)
        refine sq (o_not (by kernel_rfl) ?_)
        refine sq (o_not (by kernel_rfl) ?_)
        refine sq (o_not (by kernel_rfl) ?_)
        refine sq (o_pv (.bool false) rfl (by kernel_rfl) ?_)
        refine sq (o_pv (.bool false) rfl (by kernel_rfl) ?_)
        refine sq (o_not (by kernel_rfl) ?_)
        refine sq (o_not (by kernel_rfl) ?_)
        refine sq (o_not (by kernel_rfl) ?_)
        refine sq (o_pv (.bool false) rfl (by kernel_rfl) ?_)
        refine sq (o_pv (.bool false) rfl (by kernel_rfl) ?_)
        refine sq (o_not (by kernel_rfl) ?_)
        refine sq (o_not (by kernel_rfl) ?_)
        refine sq (o_not (by kernel_rfl) ?_)
        refine sq (o_not (by kernel_rfl) ?_)
        refine sq (o_pv (.bool false) rfl (by kernel_rfl) ?_)
        refine sq (o_pv (.bool false) rfl (by kernel_rfl) ?_)
        refine sq (o_not (by kernel_rfl) ?_)
        refine sq (o_not (by kernel_rfl) ?_)
        refine sq (o_not (by kernel_rfl) ?_)
        refine sq (o_pv (.bool false) rfl (by kernel_rfl) ?_)
        refine sq (o_pv (.bool false) rfl (by kernel_rfl) ?_)
        refine sq (o_not (by kernel_rfl) ?_)
        refine sq (o_not (by kernel_rfl) ?_)
        refine sq (o_not (by kernel_rfl) ?_)
        refine sq (o_not (by kernel_rfl) ?_)
        refine sq (o_pv (.bool false) rfl (by kernel_rfl) ?_)
        refine sq (o_pv (.bool false) rfl (by kernel_rfl) ?_)
        refine sq (o_not (by kernel_rfl) ?_)
        refine sq (o_not (by kernel_rfl) ?_)
        refine sq (o_not (by kernel_rfl) ?_)
        refine sq (o_not (by kernel_rfl) ?_)
        refine sq (o_pv (.bool false) rfl (by kernel_rfl) ?_)
        refine sq (o_pv (.bool false) rfl (by kernel_rfl) ?_)
        refine nil_ ?_
        have E321 := (Evo.then0 E198 e211)
        have hXo322 := (Old.step hXo197 s212)
        have hS323 := (Sub.trans hS199 (Step.up s212))
        refine then_normal (hJ195 _ _ _ ⟨[(0, (.bool false))], fit_mk (fun _ _ => rfl) (by kernel_rfl) (vs_cons (by kernel_rfl) vs_nil), ?_⟩)
        exact ⟨X69, false, rfl, E321, hXo322, hS323, hp⟩
    ·
      replace hp := hp.2 h214
      refine sq (o_pv (.bool false) rfl (x_df (p := r209 = (0 : Int)) (by kernel_rfl) h214) ?_)
      refine sq (o_pv (.bool false) rfl (by kernel_rfl) ?_)
      refine sq (o_not (by kernel_rfl) ?_)
      refine sq (o_not (by kernel_rfl) ?_)
      refine sq (o_not (by kernel_rfl) ?_)
      refine sq (o_pv (.bool false) rfl (by kernel_rfl) ?_)
      refine sq (o_pv (.bool false) rfl (by kernel_rfl) ?_)
      refine sq (o_not (by kernel_rfl) ?_)
      refine sq (o_not (by kernel_rfl) ?_)
      refine sq (o_pv (.bool false) rfl (by kernel_rfl) ?_)
      refine sq (o_pv (.bool false) rfl (by kernel_rfl) ?_)
      refine sq (o_not (by kernel_rfl) ?_)
      refine sq (o_not (by kernel_rfl) ?_)
      refine sq (o_not (by kernel_rfl) ?_)
      refine sq (o_pv (.bool false) rfl (by kernel_rfl) ?_)
      refine sq (o_pv (.bool false) rfl (by kernel_rfl) ?_)
      refine sq (o_not (by kernel_rfl) ?_)
      refine sq (o_not (by kernel_rfl) ?_)
      refine sq (o_not (by kernel_rfl) ?_)
      refine sq (o_pv (.bool false) rfl (by kernel_rfl) ?_)
      refine sq (o_pv (.bool false) rfl (by kernel_rfl) ?_)
      refine sq (o_not (by kernel_rfl) ?_)
      refine sq (o_not (by kernel_rfl) ?_)
      refine sq (o_not (by kernel_rfl) ?_)
      refine sq (o_not (by kernel_rfl) ?_)
      refine sq (o_pv (.bool false) rfl (by kernel_rfl) ?_)
      refine sq (o_pv (.bool false) rfl (by kernel_rfl) ?_)
      refine sq (o_not (by kernel_rfl) ?_)
      refine sq (o_not (by kernel_rfl) ?_)
      refine sq (o_not (by kernel_rfl) ?_)
      refine sq (o_pv (.bool false) rfl (by kernel_rfl) ?_)
      refine sq (o_pv (.bool false) rfl (by kernel_rfl) ?_)
      refine sq (o_not (by kernel_rfl) ?_)
      refine sq (o_not (by kernel_rfl) ?_)
      refine sq (o_not (by kernel_rfl) ?_)
      refine sq (o_not (by kernel_rfl) ?_)
      refine sq (o_pv (.bool false) rfl (by kernel_rfl) ?_)
      refine sq (o_pv (.bool false) rfl (by kernel_rfl) ?_)
      refine sq (o_not (by kernel_rfl) ?_)
      refine sq (o_not (by kernel_rfl) ?_)
      refine sq (o_not (by kernel_rfl) ?_)
      refine sq (o_not (by kernel_rfl) ?_)
      refine sq (o_pv (.bool false) rfl (by kernel_rfl) ?_)
      refine sq (o_pv (.bool false) rfl (by kernel_rfl) ?_)
      refine nil_ ?_
      have E324 := (Evo.then0 E198 e211)
      have hXo325 := (Old.step hXo197 s212)
      have hS326 := (Sub.trans hS199 (Step.up s212))
      refine then_normal (hJ195 _ _ _ ⟨[(0, (.bool false))], fit_mk (fun _ _ => rfl) (by kernel_rfl) (vs_cons (by kernel_rfl) vs_nil), ?_⟩)
      exact ⟨X69, false, rfl, E324, hXo325, hS326, hp⟩
  ·
    rintro _ w192 g327 ⟨X193, s189, rfl, E206, hXo207, hS208, hv196⟩
    replace hp := hk191 s189 hv196
    refine then_normal (K96 _ _ _ _ ?_)
    refine wp_ret ?_
    refine end_ret hQ (.bool s189) (by kernel_rfl) ?_
    exact ⟨s189, hp, E206, rfl⟩

def rectolaw17_few_p (g : (List (List Int))) (Q : Bool → Prop) : Prop :=
  ((g.length ≤ 9223372036854775807) → (((((g.length : Int) > (100 : Int)) ∧ ((g.length : Int) ≤ (1024 : Int))) → Q false) ∧ ((¬ (((g.length : Int) > (100 : Int)) ∧ ((g.length : Int) ≤ (1024 : Int)))) → (∃ (I56 : Int → Prop) (m57 : Int → Nat), (I56 (0 : Int)) ∧ ∀ (i17 : Int), (I56 i17) → (inR .i64 i17) → (∃ k74 : Bool → Prop, (∀ (s73 : Bool), k74 s73 → (((s73 = true) → ((inL g i17) ∧ (((lget g i17).length ≤ 9223372036854775807) → (((((lget g i17).length : Int) > (10 : Int)) → Q false) ∧ ((¬ (((lget g i17).length : Int) > (10 : Int))) → ((inR .i64 (i17 + (1 : Int))) ∧ ((I56 (i17 + (1 : Int))) ∧ m57 (i17 + (1 : Int)) < m57 i17))))))) ∧ ((s73 = false) → Q (decide ((g.length : Int) ≤ (1100 : Int)))))) ∧ (((i17 < (g.length : Int)) → (k74 (decide (i17 < (200 : Int))))) ∧ ((¬ (i17 < (g.length : Int))) → (k74 false))))))))
set_option maxRecDepth 20000 in
set_option maxHeartbeats 4000000 in
theorem rectolaw17_few_w {X : List Nat} {w : World} {g : (List (List Int))} {ag1 : Option Addr} {cg2 : Nat} {Q : Bool → Prop} (hX0 : Old X w) (hg3 : Sl (rSl (rInt .i64)) X w ag1 cg2 g) (hp : rectolaw17_few_p g Q) :
    Calls Try.prog 33 #[(.slice ag1 g.length cg2)] w (Ret fun v w' => ∃ (r0 : Bool), Q r0 ∧ Evo [] w w' ∧ v = (.bool r0)) := by
  have hXo := hX0
  have E0 : Evo [] w w := RB.refl _ _ _
  have hS : Sub X X := Sub.refl _
  unfold rectolaw17_few_p at hp
  refine enter_ Try.func33 rfl 31 [(0, (.slice ag1 g.length cg2))] (by kernel_rfl) (fun Qe hQ => ?_)
  replace hp := hp (Sl.len hg3)
  refine seq_ (fun _ K4 => ?_)
  refine reg_ ?_
  refine sq (o_pv (.bool false) rfl (by kernel_rfl) ?_)
  refine nil_ ?_
  refine then_normal (K4 _ _ _ _ ?_)
  refine seq_ (fun _ K5 => ?_)
  refine seq_ (fun _ K6 => ?_)
  refine ground_ ?_
  refine join_ 4080 (fun lq w10 => lq = [(11, (.bool (decide (((g.length : Int) > (100 : Int)) ∧ ((g.length : Int) ≤ (1024 : Int))))))] ∧ w = w10) (fun Kj8 hJ9 => ?_) ?_
  ·
    refine reg_ ?_
    refine sq (o_pv (.slice ag1 g.length cg2) rfl (by kernel_rfl) ?_)
    refine sq (o_pv (.int .i64 (g.length : Int)) rfl (by kernel_rfl) ?_)
    by_cases h12 : (g.length : Int) > (100 : Int)
    ·
      refine sq (o_pv (.bool true) rfl (x_dt (p := (g.length : Int) > (100 : Int)) (by kernel_rfl) h12) ?_)
      refine sq (o_pv (.bool true) rfl (by kernel_rfl) ?_)
      refine sq (o_pv (.slice ag1 g.length cg2) (by kernel_rfl) (by kernel_rfl) ?_)
      refine sq (o_pv (.int .i64 (g.length : Int)) (by kernel_rfl) (by kernel_rfl) ?_)
      refine sq (o_pv (.bool (decide ((g.length : Int) ≤ (1024 : Int)))) (by kernel_rfl) (by kernel_rfl) ?_)
      refine sq (o_pv (.bool (decide ((g.length : Int) ≤ (1024 : Int)))) rfl (by kernel_rfl) ?_)
      refine nil_ ?_
      refine then_normal (hJ9 _ _ _ ⟨[(11, (.bool (decide (((g.length : Int) > (100 : Int)) ∧ ((g.length : Int) ≤ (1024 : Int))))))], fit_mk (fun _ _ => rfl) (by kernel_rfl) (vs_cons (Eq.trans (b := (.bool (decide ((g.length : Int) ≤ (1024 : Int))))) (by kernel_rfl) (dec_d ((and_iff_right h12).trans Iff.rfl)).symm) vs_nil), rfl, rfl⟩)
    ·
      refine sq (o_pv (.bool false) rfl (x_df (p := (g.length : Int) > (100 : Int)) (by kernel_rfl) h12) ?_)
      refine sq (o_pv (.bool false) rfl (by kernel_rfl) ?_)
      refine sq (o_not (by kernel_rfl) ?_)
      refine sq (o_not (by kernel_rfl) ?_)
      refine sq (o_not (by kernel_rfl) ?_)
      refine sq (o_pv (.bool false) rfl (by kernel_rfl) ?_)
      refine nil_ ?_
      refine then_normal (hJ9 _ _ _ ⟨[(11, (.bool (decide (((g.length : Int) > (100 : Int)) ∧ ((g.length : Int) ≤ (1024 : Int))))))], fit_mk (fun _ _ => rfl) (by kernel_rfl) (vs_cons (Eq.trans (b := (.bool false)) (by kernel_rfl) (dec_f (iff_false_intro (fun h => h12 h.1))).symm) vs_nil), rfl, rfl⟩)
  ·
    rintro _ w10 g11 ⟨rfl, hw⟩
    subst hw
    refine then_normal (K6 _ _ _ _ ?_)
    refine cond_d (((g.length : Int) > (100 : Int)) ∧ ((g.length : Int) ≤ (1024 : Int))) (by kernel_rfl) (fun h13 => ?_) (fun h13 => ?_)
    ·
      replace hp := hp.1 h13
      refine seq_ (fun _ K14 => ?_)
      refine reg_ ?_
      refine sq (o_pv (.bool false) rfl (by kernel_rfl) ?_)
      refine nil_ ?_
      refine then_normal (K14 _ _ _ _ ?_)
      refine wp_ret ?_
      refine then_ret ?_
      refine end_ret hQ (.bool false) (by kernel_rfl) ?_
      exact ⟨false, hp, E0, rfl⟩
    ·
      replace hp := hp.2 h13
      refine wp_skip ?_
      refine then_normal (K5 _ _ _ _ ?_)
      refine seq_ (fun _ K15 => ?_)
      refine seq_ (fun _ K16 => ?_)
      refine reg_ ?_
      refine sq (o_pv (.int .i64 (0 : Int)) rfl (by kernel_rfl) ?_)
      refine nil_ ?_
      refine then_normal (K16 _ _ _ _ ?_)
      refine wp_block ?_
      obtain ⟨I56, m57, hI58, hp⟩ := hp
      refine loop_ 268431372 (fun kq lq w60 => ∃ (X61 : List Nat) (i17 : Int), (lq = [(3, (.int .i64 i17))]) ∧ (kq = m57 i17) ∧ (Evo [] w w60) ∧ (Old X61 w60) ∧ (Sub X X61) ∧ (Sl (rSl (rInt .i64)) X61 w60 ag1 cg2 g) ∧ (inR .i64 i17) ∧ (I56 i17)) (m57 (0 : Int)) [(3, (.int .i64 (0 : Int)))] (vs_cons (by kernel_rfl) vs_nil) ⟨X, (0 : Int), rfl, rfl, E0, hXo, hS, hg3, (by decide), hI58⟩ ?_
      rintro _ _ w60 g63 ⟨X61, i17, rfl, rfl, E66, hXo67, hS68, hg69, ri18, hI59⟩ Kl64 hA65
      replace hp := hp i17 hI59 ri18
      refine seq_ (fun _ K70 => ?_)
      refine seq_ (fun _ K71 => ?_)
      obtain ⟨k74, hk75, hp⟩ := hp
      refine ground_ ?_
      refine join_ 1044480 (fun lq w76 => ∃ (X77 : List Nat) (s73 : Bool), (lq = [(19, (.bool s73))]) ∧ (Evo [] w w76) ∧ (Old X77 w76) ∧ (Sub X X77) ∧ (Sl (rSl (rInt .i64)) X77 w76 ag1 cg2 g) ∧ (k74 s73)) (fun Kj78 hJ79 => ?_) ?_
      ·
        refine reg_ ?_
        refine sq (o_pv (.int .i64 i17) rfl (by kernel_rfl) ?_)
        refine sq (o_pv (.slice ag1 g.length cg2) rfl (by kernel_rfl) ?_)
        refine sq (o_pv (.int .i64 (g.length : Int)) rfl (by kernel_rfl) ?_)
        by_cases h85 : i17 < (g.length : Int)
        ·
          replace hp := hp.1 h85
          refine sq (o_pv (.bool true) rfl (x_dt (p := i17 < (g.length : Int)) (by kernel_rfl) h85) ?_)
          refine sq (o_pv (.bool true) rfl (by kernel_rfl) ?_)
          refine sq (o_pv (.int .i64 i17) (by kernel_rfl) (by kernel_rfl) ?_)
          refine sq (o_pv (.bool (decide (i17 < (200 : Int)))) (by kernel_rfl) (by kernel_rfl) ?_)
          refine sq (o_pv (.bool (decide (i17 < (200 : Int)))) rfl (by kernel_rfl) ?_)
          refine nil_ ?_
          refine then_normal (hJ79 _ _ _ ⟨[(19, (.bool (decide (i17 < (200 : Int)))))], fit_mk (fun _ _ => rfl) (by kernel_rfl) (vs_cons (by kernel_rfl) vs_nil), ?_⟩)
          exact ⟨X61, (decide (i17 < (200 : Int))), rfl, E66, hXo67, hS68, hg69, hp⟩
        ·
          replace hp := hp.2 h85
          refine sq (o_pv (.bool false) rfl (x_df (p := i17 < (g.length : Int)) (by kernel_rfl) h85) ?_)
          refine sq (o_pv (.bool false) rfl (by kernel_rfl) ?_)
          refine sq (o_not (by kernel_rfl) ?_)
          refine sq (o_not (by kernel_rfl) ?_)
          refine sq (o_pv (.bool false) rfl (by kernel_rfl) ?_)
          refine nil_ ?_
          refine then_normal (hJ79 _ _ _ ⟨[(19, (.bool false))], fit_mk (fun _ _ => rfl) (by kernel_rfl) (vs_cons (by kernel_rfl) vs_nil), ?_⟩)
          exact ⟨X61, false, rfl, E66, hXo67, hS68, hg69, hp⟩
      ·
        rintro _ w76 g86 ⟨X77, s73, rfl, E81, hXo82, hS83, hg84, hv80⟩
        replace hp := hk75 s73 hv80
        refine then_normal (K71 _ _ _ _ ?_)
        refine cond_b s73 (by kernel_rfl) (fun h87 => ?_) (fun h87 => ?_)
        ·
          replace hp := hp.1 h87
          refine wp_skip ?_
          refine then_normal (K70 _ _ _ _ ?_)
          refine seq_ (fun _ K88 => ?_)
          refine wp_block ?_
          refine seq_ (fun _ K89 => ?_)
          refine reg_ ?_
          refine sq (o_pv (.slice ag1 g.length cg2) rfl (by kernel_rfl) ?_)
          refine sq (o_pv (.int .i64 i17) rfl (by kernel_rfl) ?_)
          obtain ⟨h90, hp⟩ := hp
          obtain ⟨b91, o92, cs93, ha94, nx95, lt96, ok97, hc98⟩ := Sl.atI hg84 i17 h90
          obtain ⟨ae99, ce100, rfl, he101⟩ := ok97
          replace hp := hp (Sl.len he101)
          refine sq (o_pv (.pointer (some ⟨b91, o92 + i17.toNat * 1, none⟩)) rfl (x_ixA (m := g.length) (c := cg2) (k := .i64) (i := i17) Try.underlying55 Try.sizeOf61 (by rw [← ha94]; kernel_rfl) (by kernel_rfl) h90) ?_)
          refine sq (o_pv (.slice ae99 ((lget g i17).length) ce100) rfl (x_load1 (by kernel_rfl) Try.isAgg61 (hc98 0 _ rfl)) ?_)
          refine sq (o_pv (.int .i64 ((lget g i17).length : Int)) rfl (by kernel_rfl) ?_)
          refine sq (o_pv (.bool (decide (((lget g i17).length : Int) > (10 : Int)))) rfl (by kernel_rfl) ?_)
          refine nil_ ?_
          refine then_normal (K89 _ _ _ _ ?_)
          refine cond_d (((lget g i17).length : Int) > (10 : Int)) (by kernel_rfl) (fun h102 => ?_) (fun h102 => ?_)
          ·
            replace hp := hp.1 h102
            refine seq_ (fun _ K103 => ?_)
            refine reg_ ?_
            refine sq (o_pv (.bool false) rfl (by kernel_rfl) ?_)
            refine nil_ ?_
            refine then_normal (K103 _ _ _ _ ?_)
            refine wp_ret ?_
            refine blk_ret ?_
            refine then_ret ?_
            refine then_ret ?_
            refine blk_ret ?_
            refine then_ret ?_
            refine end_ret hQ (.bool false) (by kernel_rfl) ?_
            exact ⟨false, hp, E81, rfl⟩
          ·
            replace hp := hp.2 h102
            refine wp_skip ?_
            refine blk_normal ?_
            refine then_normal (K88 _ _ _ _ ?_)
            refine reg_ ?_
            refine sq (o_pv (.int .i64 i17) rfl (by kernel_rfl) ?_)
            obtain ⟨h104, hp⟩ := hp
            refine sq (o_pv (.int .i64 (i17 + (1 : Int))) rfl (x_add2 (k := .i64) (a := i17) (b := (1 : Int)) (i17 + (1 : Int)) (by kernel_rfl) (by kernel_rfl) (wrap_inR h104)) ?_)
            refine sq (o_pv (.int .i64 (i17 + (1 : Int))) rfl (by kernel_rfl) ?_)
            refine nil_ ?_
            refine then_normal (hA65 _ _ _ ⟨_, [(3, (.int .i64 (i17 + (1 : Int))))], hp.2, fit_mk (AgB.nest (AgB.look (AgB.mix _ _ _) (by kernel_rfl)) (by kernel_rfl) (by kernel_rfl)) (by kernel_rfl) (vs_cons (by kernel_rfl) vs_nil), ?_⟩)
            exact ⟨X77, (i17 + (1 : Int)), rfl, rfl, E81, hXo82, hS83, hg84, h104, hp.1⟩
        ·
          replace hp := hp.2 h87
          refine wp_exit ?_
          refine then_exit ?_
          refine then_exit ?_
          refine blk_exit ?_
          refine then_normal (K15 _ _ _ _ ?_)
          refine seq_ (fun _ K105 => ?_)
          refine reg_ ?_
          refine sq (o_pv (.slice ag1 g.length cg2) rfl (by kernel_rfl) ?_)
          refine sq (o_pv (.int .i64 (g.length : Int)) rfl (by kernel_rfl) ?_)
          refine sq (o_pv (.bool (decide ((g.length : Int) ≤ (1100 : Int)))) rfl (by kernel_rfl) ?_)
          refine sq (o_pv (.bool (decide ((g.length : Int) ≤ (1100 : Int)))) rfl (by kernel_rfl) ?_)
          refine nil_ ?_
          refine then_normal (K105 _ _ _ _ ?_)
          refine wp_ret ?_
          refine end_ret hQ (.bool (decide ((g.length : Int) ≤ (1100 : Int)))) (by kernel_rfl) ?_
          exact ⟨(decide ((g.length : Int) ≤ (1100 : Int))), hp, E81, rfl⟩

def rectoref17_Check_p (g : (List (List Int))) (Q : Int → Prop) : Prop :=
  ((g.length ≤ 9223372036854775807) → ((((g.length : Int) > (1024 : Int)) → Q (4 : Int)) ∧ ((¬ ((g.length : Int) > (1024 : Int))) → (∃ (I454 : Int → Prop) (m455 : Int → Nat), (I454 (0 : Int)) ∧ ∀ (i11 : Int), (I454 i11) → (inR .i64 i11) → (((i11 < (g.length : Int)) → ((inL g i11) ∧ (((lget g i11).length ≤ 9223372036854775807) → (((((lget g i11).length : Int) > (2 : Int)) → Q (1 : Int)) ∧ ((¬ (((lget g i11).length : Int) > (2 : Int))) → (∃ (I617 : Int → Prop) (m618 : Int → Nat), (I617 (0 : Int)) ∧ ∀ (k490 : Int), (I617 k490) → (inR .i64 k490) → ((inL g i11) ∧ (((lget g i11).length ≤ 9223372036854775807) → (((k490 < ((lget g i11).length : Int)) → (∃ k694 : Bool → Prop, (∀ (s693 : Bool), k694 s693 → (((s693 = true) → Q (1 : Int)) ∧ ((s693 = false) → ((inR .i64 (k490 + (1 : Int))) ∧ ((I617 (k490 + (1 : Int))) ∧ m618 (k490 + (1 : Int)) < m618 k490))))) ∧ ((inL g i11) ∧ (((lget g i11).length ≤ 9223372036854775807) → ((inL (lget g i11) k490) ∧ ((inR .i64 (lget (lget g i11) k490)) → ((((lget (lget g i11) k490) < (1 : Int)) → (k694 true)) ∧ ((¬ ((lget (lget g i11) k490) < (1 : Int))) → ((inL g i11) ∧ (((lget g i11).length ≤ 9223372036854775807) → ((inL (lget g i11) k490) ∧ ((inR .i64 (lget (lget g i11) k490)) → (k694 (decide ((lget (lget g i11) k490) > i11))))))))))))))) ∧ ((¬ (k490 < ((lget g i11).length : Int))) → (∃ k824 : Bool → Prop, (∀ (s823 : Bool), k824 s823 → (((s823 = true) → Q (6 : Int)) ∧ ((s823 = false) → ((inR .i64 (i11 + (1 : Int))) ∧ ((I454 (i11 + (1 : Int))) ∧ m455 (i11 + (1 : Int)) < m455 i11))))) ∧ ((inL g i11) ∧ (((lget g i11).length ≤ 9223372036854775807) → (((((lget g i11).length : Int) = (2 : Int)) → ((inL g i11) ∧ (((lget g i11).length ≤ 9223372036854775807) → ((inL (lget g i11) (0 : Int)) ∧ ((inR .i64 (lget (lget g i11) (0 : Int))) → ((inL g i11) ∧ (((lget g i11).length ≤ 9223372036854775807) → ((inL (lget g i11) (1 : Int)) ∧ ((inR .i64 (lget (lget g i11) (1 : Int))) → (k824 (decide ((lget (lget g i11) (0 : Int)) = (lget (lget g i11) (1 : Int)))))))))))))) ∧ ((¬ (((lget g i11).length : Int) = (2 : Int))) → (k824 false)))))))))))))))) ∧ ((¬ (i11 < (g.length : Int))) → Q (0 : Int)))))))
set_option maxRecDepth 20000 in
set_option maxHeartbeats 4000000 in
theorem rectoref17_Check_w {X : List Nat} {w : World} {g : (List (List Int))} {ag1 : Option Addr} {cg2 : Nat} {Q : Int → Prop} (hX0 : Old X w) (hg3 : Sl (rSl (rInt .i64)) X w ag1 cg2 g) (hp : rectoref17_Check_p g Q) :
    Calls Try.prog 35 #[(.slice ag1 g.length cg2)] w (Ret fun v w' => ∃ (r0 : Int), Q r0 ∧ Evo [] w w' ∧ v = (.int .i64 r0) ∧ inR .i64 r0) := by
  have hXo := hX0
  have E0 : Evo [] w w := RB.refl _ _ _
  have hS : Sub X X := Sub.refl _
  unfold rectoref17_Check_p at hp
  refine enter_ Try.func35 rfl 69 [(0, (.slice ag1 g.length cg2))] (by kernel_rfl) (fun Qe hQ => ?_)
  replace hp := hp (Sl.len hg3)
  refine seq_ (fun _ K4 => ?_)
  refine reg_ ?_
  refine sq (o_pv (.int .i64 (0 : Int)) rfl (by kernel_rfl) ?_)
  refine nil_ ?_
  refine then_normal (K4 _ _ _ _ ?_)
  refine seq_ (fun _ K5 => ?_)
  refine seq_ (fun _ K6 => ?_)
  refine reg_ ?_
  refine sq (o_pv (.slice ag1 g.length cg2) rfl (by kernel_rfl) ?_)
  refine sq (o_pv (.int .i64 (g.length : Int)) rfl (by kernel_rfl) ?_)
  refine sq (o_pv (.bool (decide ((g.length : Int) > (1024 : Int)))) rfl (by kernel_rfl) ?_)
  refine nil_ ?_
  refine then_normal (K6 _ _ _ _ ?_)
  refine cond_d ((g.length : Int) > (1024 : Int)) (by kernel_rfl) (fun h7 => ?_) (fun h7 => ?_)
  ·
    replace hp := hp.1 h7
    refine seq_ (fun _ K8 => ?_)
    refine reg_ ?_
    refine sq (o_pv (.int .i64 (4 : Int)) rfl (by kernel_rfl) ?_)
    refine nil_ ?_
    refine then_normal (K8 _ _ _ _ ?_)
    refine wp_ret ?_
    refine then_ret ?_
    refine end_ret hQ (.int .i64 (4 : Int)) (by kernel_rfl) ?_
    exact ⟨(4 : Int), hp, E0, rfl, (by decide)⟩
  ·
    replace hp := hp.2 h7
    refine wp_skip ?_
    refine then_normal (K5 _ _ _ _ ?_)
    refine seq_ (fun _ K9 => ?_)
    refine seq_ (fun _ K10 => ?_)
    refine reg_ ?_
    refine sq (o_pv (.int .i64 (0 : Int)) rfl (by kernel_rfl) ?_)
    refine nil_ ?_
    refine then_normal (K10 _ _ _ _ ?_)
    refine wp_block ?_
    obtain ⟨I454, m455, hI456, hp⟩ := hp
    refine loop_ 590295810358705651484 (fun kq lq w458 => ∃ (X459 : List Nat) (i11 : Int), (lq = [(3, (.int .i64 i11))]) ∧ (kq = m455 i11) ∧ (Evo [] w w458) ∧ (Old X459 w458) ∧ (Sub X X459) ∧ (Sl (rSl (rInt .i64)) X459 w458 ag1 cg2 g) ∧ (inR .i64 i11) ∧ (I454 i11)) (m455 (0 : Int)) [(3, (.int .i64 (0 : Int)))] (vs_cons (by kernel_rfl) vs_nil) ⟨X, (0 : Int), rfl, rfl, E0, hXo, hS, hg3, (by decide), hI456⟩ ?_
    rintro _ _ w458 g461 ⟨X459, i11, rfl, rfl, E464, hXo465, hS466, hg467, ri12, hI457⟩ Kl462 hA463
    replace hp := hp i11 hI457 ri12
    refine seq_ (fun _ K468 => ?_)
    refine seq_ (fun _ K469 => ?_)
    refine reg_ ?_
    refine sq (o_pv (.int .i64 i11) rfl (by kernel_rfl) ?_)
    refine sq (o_pv (.slice ag1 g.length cg2) rfl (by kernel_rfl) ?_)
    refine sq (o_pv (.int .i64 (g.length : Int)) rfl (by kernel_rfl) ?_)
    refine sq (o_pv (.bool (decide (i11 < (g.length : Int)))) rfl (by kernel_rfl) ?_)
    refine nil_ ?_
    refine then_normal (K469 _ _ _ _ ?_)
    refine cond_d (i11 < (g.length : Int)) (by kernel_rfl) (fun h470 => ?_) (fun h470 => ?_)
    ·
      replace hp := hp.1 h470
      refine wp_skip ?_
      refine then_normal (K468 _ _ _ _ ?_)
      refine seq_ (fun _ K471 => ?_)
      refine wp_block ?_
      refine seq_ (fun _ K472 => ?_)
      refine seq_ (fun _ K473 => ?_)
      refine reg_ ?_
      refine sq (o_pv (.slice ag1 g.length cg2) rfl (by kernel_rfl) ?_)
      refine sq (o_pv (.int .i64 i11) rfl (by kernel_rfl) ?_)
      obtain ⟨h474, hp⟩ := hp
      obtain ⟨b475, o476, cs477, ha478, nx479, lt480, ok481, hc482⟩ := Sl.atI hg467 i11 h474
      obtain ⟨ae483, ce484, rfl, he485⟩ := ok481
      replace hp := hp (Sl.len he485)
      refine sq (o_pv (.pointer (some ⟨b475, o476 + i11.toNat * 1, none⟩)) rfl (x_ixA (m := g.length) (c := cg2) (k := .i64) (i := i11) Try.underlying54 Try.sizeOf61 (by rw [← ha478]; kernel_rfl) (by kernel_rfl) h474) ?_)
      refine sq (o_pv (.slice ae483 ((lget g i11).length) ce484) rfl (x_load1 (by kernel_rfl) Try.isAgg61 (hc482 0 _ rfl)) ?_)
      refine sq (o_pv (.int .i64 ((lget g i11).length : Int)) rfl (by kernel_rfl) ?_)
      refine sq (o_pv (.bool (decide (((lget g i11).length : Int) > (2 : Int)))) rfl (by kernel_rfl) ?_)
      refine nil_ ?_
      refine then_normal (K473 _ _ _ _ ?_)
      refine cond_d (((lget g i11).length : Int) > (2 : Int)) (by kernel_rfl) (fun h486 => ?_) (fun h486 => ?_)
      ·
        replace hp := hp.1 h486
        refine seq_ (fun _ K487 => ?_)
        refine reg_ ?_
        refine sq (o_pv (.int .i64 (1 : Int)) rfl (by kernel_rfl) ?_)
        refine nil_ ?_
        refine then_normal (K487 _ _ _ _ ?_)
        refine wp_ret ?_
        refine then_ret ?_
        refine blk_ret ?_
        refine then_ret ?_
        refine then_ret ?_
        refine blk_ret ?_
        refine then_ret ?_
        refine end_ret hQ (.int .i64 (1 : Int)) (by kernel_rfl) ?_
        exact ⟨(1 : Int), hp, E464, rfl, (by decide)⟩
      ·
        replace hp := hp.2 h486
        refine wp_skip ?_
        refine then_normal (K472 _ _ _ _ ?_)
        refine seq_ (fun _ K488 => ?_)
        refine seq_ (fun _ K489 => ?_)
        refine reg_ ?_
        refine sq (o_pv (.int .i64 (0 : Int)) rfl (by kernel_rfl) ?_)
        refine nil_ ?_
        refine then_normal (K489 _ _ _ _ ?_)
        refine wp_block ?_
        obtain ⟨I617, m618, hI619, hp⟩ := hp
        refine loop_ 281474975662100 (fun kq lq w621 => ∃ (X622 : List Nat) (k490 : Int), (lq = [(4, (.int .i64 k490))]) ∧ (kq = m618 k490) ∧ (Evo [] w w621) ∧ (Old X622 w621) ∧ (Sub X X622) ∧ (Sl (rSl (rInt .i64)) X622 w621 ag1 cg2 g) ∧ (inR .i64 k490) ∧ (I617 k490)) (m618 (0 : Int)) [(4, (.int .i64 (0 : Int)))] (vs_cons (by kernel_rfl) vs_nil) ⟨X459, (0 : Int), rfl, rfl, E464, hXo465, hS466, hg467, (by decide), hI619⟩ ?_
        rintro _ _ w621 g624 ⟨X622, k490, rfl, rfl, E627, hXo628, hS629, hg630, rk491, hI620⟩ Kl625 hA626
        replace hp := hp k490 hI620 rk491
        refine seq_ (fun _ K631 => ?_)
        refine seq_ (fun _ K632 => ?_)
        refine reg_ ?_
        refine sq (o_pv (.int .i64 k490) rfl (by kernel_rfl) ?_)
        refine sq (o_pv (.slice ag1 g.length cg2) rfl (by kernel_rfl) ?_)
        refine sq (o_pv (.int .i64 i11) rfl (by kernel_rfl) ?_)
        obtain ⟨h633, hp⟩ := hp
        obtain ⟨b634, o635, cs636, ha637, nx638, lt639, ok640, hc641⟩ := Sl.atI hg630 i11 h633
        obtain ⟨ae642, ce643, rfl, he644⟩ := ok640
        replace hp := hp (Sl.len he644)
        refine sq (o_pv (.pointer (some ⟨b634, o635 + i11.toNat * 1, none⟩)) rfl (x_ixA (m := g.length) (c := cg2) (k := .i64) (i := i11) Try.underlying54 Try.sizeOf61 (by rw [← ha637]; kernel_rfl) (by kernel_rfl) h633) ?_)
        refine sq (o_pv (.slice ae642 ((lget g i11).length) ce643) rfl (x_load1 (by kernel_rfl) Try.isAgg61 (hc641 0 _ rfl)) ?_)
        refine sq (o_pv (.int .i64 ((lget g i11).length : Int)) rfl (by kernel_rfl) ?_)
        refine sq (o_pv (.bool (decide (k490 < ((lget g i11).length : Int)))) rfl (by kernel_rfl) ?_)
        refine nil_ ?_
        refine then_normal (K632 _ _ _ _ ?_)
        refine cond_d (k490 < ((lget g i11).length : Int)) (by kernel_rfl) (fun h645 => ?_) (fun h645 => ?_)
        ·
          replace hp := hp.1 h645
          refine wp_skip ?_
          refine then_normal (K631 _ _ _ _ ?_)
          refine seq_ (fun _ K646 => ?_)
          refine wp_block ?_
          refine seq_ (fun _ K647 => ?_)
          obtain ⟨k694, hk695, hp⟩ := hp
          refine ground_ ?_
          refine join_ 281474439839744 (fun lq w696 => ∃ (X697 : List Nat) (s693 : Bool), (lq = [(47, (.bool s693))]) ∧ (Evo [] w w696) ∧ (Old X697 w696) ∧ (Sub X X697) ∧ (Sl (rSl (rInt .i64)) X697 w696 ag1 cg2 g) ∧ (k694 s693)) (fun Kj698 hJ699 => ?_) ?_
          ·
            refine reg_ ?_
            refine sq (o_pv (.slice ag1 g.length cg2) rfl (by kernel_rfl) ?_)
            refine sq (o_pv (.int .i64 i11) rfl (by kernel_rfl) ?_)
            obtain ⟨h705, hp⟩ := hp
            obtain ⟨b706, o707, cs708, ha709, nx710, lt711, ok712, hc713⟩ := Sl.atI hg630 i11 h705
            obtain ⟨ae714, ce715, rfl, he716⟩ := ok712
            replace hp := hp (Sl.len he716)
            refine sq (o_pv (.pointer (some ⟨b706, o707 + i11.toNat * 1, none⟩)) rfl (x_ixA (m := g.length) (c := cg2) (k := .i64) (i := i11) Try.underlying54 Try.sizeOf61 (by rw [← ha709]; kernel_rfl) (by kernel_rfl) h705) ?_)
            refine sq (o_pv (.slice ae714 ((lget g i11).length) ce715) rfl (x_load1 (by kernel_rfl) Try.isAgg61 (hc713 0 _ rfl)) ?_)
            refine sq (o_pv (.int .i64 k490) rfl (by kernel_rfl) ?_)
            obtain ⟨h717, hp⟩ := hp
            obtain ⟨b718, o719, cs720, ha721, nx722, lt723, ok724, hc725⟩ := Sl.atI he716 k490 h717
            obtain ⟨rfl, re726⟩ := ok724
            replace hp := hp re726
            refine sq (o_pv (.pointer (some ⟨b718, o719 + k490.toNat * 1, none⟩)) rfl (x_ixA (m := (lget g i11).length) (c := ce715) (k := .i64) (i := k490) Try.underlying61 Try.sizeOf3 (by rw [← ha721]; kernel_rfl) (by kernel_rfl) h717) ?_)
            refine sq (o_pv (.int .i64 (lget (lget g i11) k490)) rfl (x_load1 (by kernel_rfl) Try.isAgg3 (hc725 0 _ rfl)) ?_)
            by_cases h727 : (lget (lget g i11) k490) < (1 : Int)
            ·
              replace hp := hp.1 h727
              refine sq (o_pv (.bool true) rfl (x_dt (p := (lget (lget g i11) k490) < (1 : Int)) (by kernel_rfl) h727) ?_)
              refine sq (o_pv (.bool true) rfl (by kernel_rfl) ?_)
              refine sq (o_not (by kernel_rfl) ?_)
              refine sq (o_not (by kernel_rfl) ?_)
              refine sq (o_not (by kernel_rfl) ?_)
              refine sq (o_not (by kernel_rfl) ?_)
              refine sq (o_not (by kernel_rfl) ?_)
              refine sq (o_not (by kernel_rfl) ?_)
              refine sq (o_not (by kernel_rfl) ?_)
              refine sq (o_not (by kernel_rfl) ?_)
              refine sq (o_not (by kernel_rfl) ?_)
              refine sq (o_pv (.bool true) rfl (by kernel_rfl) ?_)
              refine nil_ ?_
              refine then_normal (hJ699 _ _ _ ⟨[(47, (.bool true))], fit_mk (fun _ _ => rfl) (by kernel_rfl) (vs_cons (by kernel_rfl) vs_nil), ?_⟩)
              exact ⟨X622, true, rfl, E627, hXo628, hS629, hg630, hp⟩
            ·
              replace hp := hp.2 h727
              refine sq (o_pv (.bool false) rfl (x_df (p := (lget (lget g i11) k490) < (1 : Int)) (by kernel_rfl) h727) ?_)
              refine sq (o_pv (.bool false) rfl (by kernel_rfl) ?_)
              refine sq (o_pv (.slice ag1 g.length cg2) (by kernel_rfl) (by kernel_rfl) ?_)
              refine sq (o_pv (.int .i64 i11) (by kernel_rfl) (by kernel_rfl) ?_)
              obtain ⟨h728, hp⟩ := hp
              obtain ⟨b729, o730, cs731, ha732, nx733, lt734, ok735, hc736⟩ := Sl.atI hg630 i11 h728
              obtain ⟨ae737, ce738, rfl, he739⟩ := ok735
              replace hp := hp (Sl.len he739)
              refine sq (o_pv (.pointer (some ⟨b729, o730 + i11.toNat * 1, none⟩)) (by kernel_rfl) (x_ixA (m := g.length) (c := cg2) (k := .i64) (i := i11) Try.underlying54 Try.sizeOf61 (by rw [← ha732]; kernel_rfl) (by kernel_rfl) h728) ?_)
              refine sq (o_pv (.slice ae737 ((lget g i11).length) ce738) (by kernel_rfl) (x_load1 (by kernel_rfl) Try.isAgg61 (hc736 0 _ rfl)) ?_)
              refine sq (o_pv (.int .i64 k490) (by kernel_rfl) (by kernel_rfl) ?_)
              obtain ⟨h740, hp⟩ := hp
              obtain ⟨b741, o742, cs743, ha744, nx745, lt746, ok747, hc748⟩ := Sl.atI he739 k490 h740
              obtain ⟨rfl, re749⟩ := ok747
              replace hp := hp re749
              refine sq (o_pv (.pointer (some ⟨b741, o742 + k490.toNat * 1, none⟩)) (by kernel_rfl) (x_ixA (m := (lget g i11).length) (c := ce738) (k := .i64) (i := k490) Try.underlying61 Try.sizeOf3 (by rw [← ha744]; kernel_rfl) (by kernel_rfl) h740) ?_)
              refine sq (o_pv (.int .i64 (lget (lget g i11) k490)) (by kernel_rfl) (x_load1 (by kernel_rfl) Try.isAgg3 (hc748 0 _ rfl)) ?_)
              refine sq (o_pv (.int .i64 i11) (by kernel_rfl) (by kernel_rfl) ?_)
              refine sq (o_pv (.bool (decide ((lget (lget g i11) k490) > i11))) (by kernel_rfl) (by kernel_rfl) ?_)
              refine sq (o_pv (.bool (decide ((lget (lget g i11) k490) > i11))) rfl (by kernel_rfl) ?_)
              refine nil_ ?_
              refine then_normal (hJ699 _ _ _ ⟨[(47, (.bool (decide ((lget (lget g i11) k490) > i11))))], fit_mk (fun _ _ => rfl) (by kernel_rfl) (vs_cons (by kernel_rfl) vs_nil), ?_⟩)
              exact ⟨X622, (decide ((lget (lget g i11) k490) > i11)), rfl, E627, hXo628, hS629, hg630, hp⟩
          ·
            rintro _ w696 g750 ⟨X697, s693, rfl, E701, hXo702, hS703, hg704, hv700⟩
            replace hp := hk695 s693 hv700
            refine then_normal (K647 _ _ _ _ ?_)
            refine cond_b s693 (by kernel_rfl) (fun h751 => ?_) (fun h751 => ?_)
            ·
              replace hp := hp.1 h751
              refine seq_ (fun _ K752 => ?_)
              refine reg_ ?_
              refine sq (o_pv (.int .i64 (1 : Int)) rfl (by kernel_rfl) ?_)
              refine nil_ ?_
              refine then_normal (K752 _ _ _ _ ?_)
              refine wp_ret ?_
              refine blk_ret ?_
              refine then_ret ?_
              refine then_ret ?_
              refine blk_ret ?_
              refine then_ret ?_
              refine blk_ret ?_
              refine then_ret ?_
              refine then_ret ?_
              refine blk_ret ?_
              refine then_ret ?_
              refine end_ret hQ (.int .i64 (1 : Int)) (by kernel_rfl) ?_
              exact ⟨(1 : Int), hp, E701, rfl, (by decide)⟩
            ·
              replace hp := hp.2 h751
              refine wp_skip ?_
              refine blk_normal ?_
              refine then_normal (K646 _ _ _ _ ?_)
              refine reg_ ?_
              refine sq (o_pv (.int .i64 k490) rfl (by kernel_rfl) ?_)
              obtain ⟨h753, hp⟩ := hp
              refine sq (o_pv (.int .i64 (k490 + (1 : Int))) rfl (x_add2 (k := .i64) (a := k490) (b := (1 : Int)) (k490 + (1 : Int)) (by kernel_rfl) (by kernel_rfl) (wrap_inR h753)) ?_)
              refine sq (o_pv (.int .i64 (k490 + (1 : Int))) rfl (by kernel_rfl) ?_)
              refine nil_ ?_
              refine then_normal (hA626 _ _ _ ⟨_, [(4, (.int .i64 (k490 + (1 : Int))))], hp.2, fit_mk (AgB.nest (AgB.look (AgB.mix _ _ _) (by kernel_rfl)) (by kernel_rfl) (by kernel_rfl)) (by kernel_rfl) (vs_cons (by kernel_rfl) vs_nil), ?_⟩)
              exact ⟨X697, (k490 + (1 : Int)), rfl, rfl, E701, hXo702, hS703, hg704, h753, hp.1⟩
        ·
          replace hp := hp.2 h645
          refine wp_exit ?_
          refine then_exit ?_
          refine then_exit ?_
          refine blk_exit ?_
          refine then_normal (K488 _ _ _ _ ?_)
          refine seq_ (fun _ K754 => ?_)
          obtain ⟨k824, hk825, hp⟩ := hp
          refine ground_ ?_
          refine join_ 590295528883728941056 (fun lq w826 => ∃ (X827 : List Nat) (s823 : Bool), (lq = [(68, (.bool s823))]) ∧ (Evo [] w w826) ∧ (Old X827 w826) ∧ (Sub X X827) ∧ (Sl (rSl (rInt .i64)) X827 w826 ag1 cg2 g) ∧ (k824 s823)) (fun Kj828 hJ829 => ?_) ?_
          ·
            refine reg_drawn (RB w621.heap.size []) 21 (by kernel_rfl) (fun w835 hd836 => ?_)
            have e837 := Evo.of_drew hd836
            have z838 : w835.heap.size = w621.heap.size := by rw [hd836]
            clear hd836
            have s840 := Step.of0 X622 e837
            have er839 := RB.refl w621.heap.size [] w835
            have E841 := (Evo.then0 E627 (Step.evo s840))
            have hXo842 := (Old.step hXo628 s840)
            have hS843 := (Sub.trans hS629 (Step.up s840))
            have hg844 := (Sl.step hg630 s840)
            have he845 := (Sl.step he644 s840)
            refine r_take 0 (.slice ag1 g.length cg2) (RB.pre _ _) rfl (by kernel_rfl) (fun _ _ _ h => hQ.panic _ _ _ _ _ h) (.inl ⟨rfl, fun wq hq => (by kernel_rfl)⟩) ?_
            refine r_take 1 (.int .i64 i11) (RB.pre _ _) rfl (by kernel_rfl) (fun _ _ _ h => hQ.panic _ _ _ _ _ h) (.inl ⟨rfl, fun wq hq => (by kernel_rfl)⟩) ?_
            obtain ⟨h846, hp⟩ := hp
            obtain ⟨b847, o848, cs849, ha850, nx851, lt852, ok853, hc854⟩ := Sl.atI hg844 i11 h846
            obtain ⟨ae855, ce856, rfl, he857⟩ := ok853
            replace hp := hp (Sl.len he857)
            refine r_take 2 (.pointer (some ⟨b847, o848 + i11.toNat * 1, none⟩)) (RB.pre _ _) rfl (by kernel_rfl) (fun _ _ _ h => hQ.panic _ _ _ _ _ h) (.inl ⟨rfl, fun wq hq => (x_ixA (m := g.length) (c := cg2) (k := .i64) (i := i11) Try.underlying54 Try.sizeOf61 (by rw [← ha850]; kernel_rfl) (by kernel_rfl) h846)⟩) ?_
            refine r_take 3 (.slice ae855 ((lget g i11).length) ce856) (RB.pre _ _) rfl (by kernel_rfl) (fun _ _ _ h => hQ.panic _ _ _ _ _ h) (.inl ⟨rfl, fun wq hq => (x_load1 (by kernel_rfl) Try.isAgg61 ((CellsAt.rb hc854 (RB.trans er839 hq) (Nat.lt_of_lt_of_eq lt852 z838) (fun h => by cases h)) 0 _ rfl))⟩) ?_
            refine r_take 4 (.int .i64 ((lget g i11).length : Int)) (RB.pre _ _) rfl (by kernel_rfl) (fun _ _ _ h => hQ.panic _ _ _ _ _ h) (.inl ⟨rfl, fun wq hq => (by kernel_rfl)⟩) ?_
            by_cases h858 : ((lget g i11).length : Int) = (2 : Int)
            ·
              replace hp := hp.1 h858
              refine r_take 5 (.bool true) (RB.pre _ _) rfl (by kernel_rfl) (fun _ _ _ h => hQ.panic _ _ _ _ _ h) (.inl ⟨rfl, fun wq hq => (x_dt (p := ((lget g i11).length : Int) = (2 : Int)) (by kernel_rfl) h858)⟩) ?_
              refine r_take 6 (.bool true) (RB.pre _ _) rfl (by kernel_rfl) (fun _ _ _ h => hQ.panic _ _ _ _ _ h) (.inl ⟨rfl, fun wq hq => (by kernel_rfl)⟩) ?_
              refine r_take 7 (.slice ag1 g.length cg2) (RB.pre _ _) rfl (by kernel_rfl) (fun _ _ _ h => hQ.panic _ _ _ _ _ h) (.inl ⟨(by kernel_rfl), fun wq hq => (by kernel_rfl)⟩) ?_
              refine r_take 8 (.int .i64 i11) (RB.pre _ _) rfl (by kernel_rfl) (fun _ _ _ h => hQ.panic _ _ _ _ _ h) (.inl ⟨(by kernel_rfl), fun wq hq => (by kernel_rfl)⟩) ?_
              obtain ⟨h859, hp⟩ := hp
              obtain ⟨b860, o861, cs862, ha863, nx864, lt865, ok866, hc867⟩ := Sl.atI hg844 i11 h859
              obtain ⟨ae868, ce869, rfl, he870⟩ := ok866
              replace hp := hp (Sl.len he870)
              refine r_take 9 (.pointer (some ⟨b860, o861 + i11.toNat * 1, none⟩)) (RB.pre _ _) rfl (by kernel_rfl) (fun _ _ _ h => hQ.panic _ _ _ _ _ h) (.inl ⟨(by kernel_rfl), fun wq hq => (x_ixA (m := g.length) (c := cg2) (k := .i64) (i := i11) Try.underlying54 Try.sizeOf61 (by rw [← ha863]; kernel_rfl) (by kernel_rfl) h859)⟩) ?_
              refine r_take 10 (.slice ae868 ((lget g i11).length) ce869) (RB.pre _ _) rfl (by kernel_rfl) (fun _ _ _ h => hQ.panic _ _ _ _ _ h) (.inl ⟨(by kernel_rfl), fun wq hq => (x_load1 (by kernel_rfl) Try.isAgg61 ((CellsAt.rb hc867 (RB.trans er839 hq) (Nat.lt_of_lt_of_eq lt865 z838) (fun h => by cases h)) 0 _ rfl))⟩) ?_
              obtain ⟨h871, hp⟩ := hp
              obtain ⟨b872, o873, cs874, ha875, nx876, lt877, ok878, hc879⟩ := Sl.atI he870 (0 : Int) h871
              obtain ⟨rfl, re880⟩ := ok878
              replace hp := hp re880
              refine r_take 11 (.pointer (some ⟨b872, o873 + (0 : Int).toNat * 1, none⟩)) (RB.pre _ _) rfl (by kernel_rfl) (fun _ _ _ h => hQ.panic _ _ _ _ _ h) (.inl ⟨(by kernel_rfl), fun wq hq => (x_ixA (m := (lget g i11).length) (c := ce869) (k := .i64) (i := (0 : Int)) Try.underlying61 Try.sizeOf3 (by rw [← ha875]; kernel_rfl) (by kernel_rfl) h871)⟩) ?_
              refine r_take 12 (.int .i64 (lget (lget g i11) (0 : Int))) (RB.pre _ _) rfl (by kernel_rfl) (fun _ _ _ h => hQ.panic _ _ _ _ _ h) (.inl ⟨(by kernel_rfl), fun wq hq => (x_load1 (by kernel_rfl) Try.isAgg3 ((CellsAt.rb hc879 (RB.trans er839 hq) (Nat.lt_of_lt_of_eq lt877 z838) (fun h => by cases h)) 0 _ rfl))⟩) ?_
              refine r_take 13 (.slice ag1 g.length cg2) (RB.pre _ _) rfl (by kernel_rfl) (fun _ _ _ h => hQ.panic _ _ _ _ _ h) (.inl ⟨(by kernel_rfl), fun wq hq => (by kernel_rfl)⟩) ?_
              refine r_take 14 (.int .i64 i11) (RB.pre _ _) rfl (by kernel_rfl) (fun _ _ _ h => hQ.panic _ _ _ _ _ h) (.inl ⟨(by kernel_rfl), fun wq hq => (by kernel_rfl)⟩) ?_
              obtain ⟨h881, hp⟩ := hp
              obtain ⟨b882, o883, cs884, ha885, nx886, lt887, ok888, hc889⟩ := Sl.atI hg844 i11 h881
              obtain ⟨ae890, ce891, rfl, he892⟩ := ok888
              replace hp := hp (Sl.len he892)
              refine r_take 15 (.pointer (some ⟨b882, o883 + i11.toNat * 1, none⟩)) (RB.pre _ _) rfl (by kernel_rfl) (fun _ _ _ h => hQ.panic _ _ _ _ _ h) (.inl ⟨(by kernel_rfl), fun wq hq => (x_ixA (m := g.length) (c := cg2) (k := .i64) (i := i11) Try.underlying54 Try.sizeOf61 (by rw [← ha885]; kernel_rfl) (by kernel_rfl) h881)⟩) ?_
              refine r_take 16 (.slice ae890 ((lget g i11).length) ce891) (RB.pre _ _) rfl (by kernel_rfl) (fun _ _ _ h => hQ.panic _ _ _ _ _ h) (.inl ⟨(by kernel_rfl), fun wq hq => (x_load1 (by kernel_rfl) Try.isAgg61 ((CellsAt.rb hc889 (RB.trans er839 hq) (Nat.lt_of_lt_of_eq lt887 z838) (fun h => by cases h)) 0 _ rfl))⟩) ?_
              obtain ⟨h893, hp⟩ := hp
              obtain ⟨b894, o895, cs896, ha897, nx898, lt899, ok900, hc901⟩ := Sl.atI he892 (1 : Int) h893
              obtain ⟨rfl, re902⟩ := ok900
              replace hp := hp re902
              refine r_take 17 (.pointer (some ⟨b894, o895 + (1 : Int).toNat * 1, none⟩)) (RB.pre _ _) rfl (by kernel_rfl) (fun _ _ _ h => hQ.panic _ _ _ _ _ h) (.inl ⟨(by kernel_rfl), fun wq hq => (x_ixA (m := (lget g i11).length) (c := ce891) (k := .i64) (i := (1 : Int)) Try.underlying61 Try.sizeOf3 (by rw [← ha897]; kernel_rfl) (by kernel_rfl) h893)⟩) ?_
              refine r_take 18 (.int .i64 (lget (lget g i11) (1 : Int))) (RB.pre _ _) rfl (by kernel_rfl) (fun _ _ _ h => hQ.panic _ _ _ _ _ h) (.inl ⟨(by kernel_rfl), fun wq hq => (x_load1 (by kernel_rfl) Try.isAgg3 ((CellsAt.rb hc901 (RB.trans er839 hq) (Nat.lt_of_lt_of_eq lt899 z838) (fun h => by cases h)) 0 _ rfl))⟩) ?_
              refine r_take 19 (.bool (decide ((lget (lget g i11) (0 : Int)) = (lget (lget g i11) (1 : Int))))) (RB.pre _ _) rfl (by kernel_rfl) (fun _ _ _ h => hQ.panic _ _ _ _ _ h) (.inl ⟨(by kernel_rfl), fun wq hq => (by kernel_rfl)⟩) ?_
              refine r_take 20 (.bool (decide ((lget (lget g i11) (0 : Int)) = (lget (lget g i11) (1 : Int))))) (RB.pre _ _) rfl (by kernel_rfl) (fun _ _ _ h => hQ.panic _ _ _ _ _ h) (.inl ⟨rfl, fun wq hq => (by kernel_rfl)⟩) ?_
              refine r_done (by kernel_rfl) ?_
              refine then_normal (hJ829 _ _ _ ⟨[(68, (.bool (decide ((lget (lget g i11) (0 : Int)) = (lget (lget g i11) (1 : Int))))))], fit_mk (fun _ _ => rfl) (by kernel_rfl) (vs_cons (by kernel_rfl) vs_nil), ?_⟩)
              exact ⟨X622, (decide ((lget (lget g i11) (0 : Int)) = (lget (lget g i11) (1 : Int)))), rfl, E841, hXo842, hS843, hg844, hp⟩
            ·
              replace hp := hp.2 h858
              refine r_take 5 (.bool false) (RB.pre _ _) rfl (by kernel_rfl) (fun _ _ _ h => hQ.panic _ _ _ _ _ h) (.inl ⟨rfl, fun wq hq => (x_df (p := ((lget g i11).length : Int) = (2 : Int)) (by kernel_rfl) h858)⟩) ?_
              refine r_take 6 (.bool false) (RB.pre _ _) rfl (by kernel_rfl) (fun _ _ _ h => hQ.panic _ _ _ _ _ h) (.inl ⟨rfl, fun wq hq => (by kernel_rfl)⟩) ?_
              refine r_take 7 undef (RB.pre _ _) rfl (by kernel_rfl) (fun _ _ _ h => hQ.panic _ _ _ _ _ h) (.inr ⟨by kernel_rfl, rfl⟩) ?_
              refine r_take 8 undef (RB.pre _ _) rfl (by kernel_rfl) (fun _ _ _ h => hQ.panic _ _ _ _ _ h) (.inr ⟨by kernel_rfl, rfl⟩) ?_
              refine r_take 9 undef (RB.pre _ _) rfl (by kernel_rfl) (fun _ _ _ h => hQ.panic _ _ _ _ _ h) (.inr ⟨by kernel_rfl, rfl⟩) ?_
              refine r_take 10 undef (RB.pre _ _) rfl (by kernel_rfl) (fun _ _ _ h => hQ.panic _ _ _ _ _ h) (.inr ⟨by kernel_rfl, rfl⟩) ?_
              refine r_take 11 undef (RB.pre _ _) rfl (by kernel_rfl) (fun _ _ _ h => hQ.panic _ _ _ _ _ h) (.inr ⟨by kernel_rfl, rfl⟩) ?_
              refine r_take 12 undef (RB.pre _ _) rfl (by kernel_rfl) (fun _ _ _ h => hQ.panic _ _ _ _ _ h) (.inr ⟨by kernel_rfl, rfl⟩) ?_
              refine r_take 13 undef (RB.pre _ _) rfl (by kernel_rfl) (fun _ _ _ h => hQ.panic _ _ _ _ _ h) (.inr ⟨by kernel_rfl, rfl⟩) ?_
              refine r_take 14 undef (RB.pre _ _) rfl (by kernel_rfl) (fun _ _ _ h => hQ.panic _ _ _ _ _ h) (.inr ⟨by kernel_rfl, rfl⟩) ?_
              refine r_take 15 undef (RB.pre _ _) rfl (by kernel_rfl) (fun _ _ _ h => hQ.panic _ _ _ _ _ h) (.inr ⟨by kernel_rfl, rfl⟩) ?_
              refine r_take 16 undef (RB.pre _ _) rfl (by kernel_rfl) (fun _ _ _ h => hQ.panic _ _ _ _ _ h) (.inr ⟨by kernel_rfl, rfl⟩) ?_
              refine r_take 17 undef (RB.pre _ _) rfl (by kernel_rfl) (fun _ _ _ h => hQ.panic _ _ _ _ _ h) (.inr ⟨by kernel_rfl, rfl⟩) ?_
              refine r_take 18 undef (RB.pre _ _) rfl (by kernel_rfl) (fun _ _ _ h => hQ.panic _ _ _ _ _ h) (.inr ⟨by kernel_rfl, rfl⟩) ?_
              refine r_take 19 undef (RB.pre _ _) rfl (by kernel_rfl) (fun _ _ _ h => hQ.panic _ _ _ _ _ h) (.inr ⟨by kernel_rfl, rfl⟩) ?_
              refine r_take 20 (.bool false) (RB.pre _ _) rfl (by kernel_rfl) (fun _ _ _ h => hQ.panic _ _ _ _ _ h) (.inl ⟨rfl, fun wq hq => (by kernel_rfl)⟩) ?_
              refine r_done (by kernel_rfl) ?_
              refine then_normal (hJ829 _ _ _ ⟨[(68, (.bool false))], fit_mk (fun _ _ => rfl) (by kernel_rfl) (vs_cons (by kernel_rfl) vs_nil), ?_⟩)
              exact ⟨X622, false, rfl, E841, hXo842, hS843, hg844, hp⟩
          ·
            rintro _ w826 g903 ⟨X827, s823, rfl, E831, hXo832, hS833, hg834, hv830⟩
            replace hp := hk825 s823 hv830
            refine then_normal (K754 _ _ _ _ ?_)
            refine cond_b s823 (by kernel_rfl) (fun h904 => ?_) (fun h904 => ?_)
            ·
              replace hp := hp.1 h904
              refine seq_ (fun _ K905 => ?_)
              refine reg_ ?_
              refine sq (o_pv (.int .i64 (6 : Int)) rfl (by kernel_rfl) ?_)
              refine nil_ ?_
              refine then_normal (K905 _ _ _ _ ?_)
              refine wp_ret ?_
              refine blk_ret ?_
              refine then_ret ?_
              refine then_ret ?_
              refine blk_ret ?_
              refine then_ret ?_
              refine end_ret hQ (.int .i64 (6 : Int)) (by kernel_rfl) ?_
              exact ⟨(6 : Int), hp, E831, rfl, (by decide)⟩
            ·
              replace hp := hp.2 h904
              refine wp_skip ?_
              refine blk_normal ?_
              refine then_normal (K471 _ _ _ _ ?_)
              refine reg_ ?_
              refine sq (o_pv (.int .i64 i11) rfl (by kernel_rfl) ?_)
              obtain ⟨h906, hp⟩ := hp
              refine sq (o_pv (.int .i64 (i11 + (1 : Int))) rfl (x_add2 (k := .i64) (a := i11) (b := (1 : Int)) (i11 + (1 : Int)) (by kernel_rfl) (by kernel_rfl) (wrap_inR h906)) ?_)
              refine sq (o_pv (.int .i64 (i11 + (1 : Int))) rfl (by kernel_rfl) ?_)
              refine nil_ ?_
              refine then_normal (hA463 _ _ _ ⟨_, [(3, (.int .i64 (i11 + (1 : Int))))], hp.2, fit_mk (AgB.nest (AgB.look (AgB.nest (AgB.mix _ _ _) (by kernel_rfl) (by kernel_rfl)) (by kernel_rfl)) (by kernel_rfl) (by kernel_rfl)) (by kernel_rfl) (vs_cons (by kernel_rfl) vs_nil), ?_⟩)
              exact ⟨X827, (i11 + (1 : Int)), rfl, rfl, E831, hXo832, hS833, hg834, h906, hp.1⟩
    ·
      replace hp := hp.2 h470
      refine wp_exit ?_
      refine then_exit ?_
      refine then_exit ?_
      refine blk_exit ?_
      refine then_normal (K9 _ _ _ _ ?_)
      refine seq_ (fun _ K907 => ?_)
      refine reg_ ?_
      refine sq (o_pv (.int .i64 (0 : Int)) rfl (by kernel_rfl) ?_)
      refine nil_ ?_
      refine then_normal (K907 _ _ _ _ ?_)
      refine wp_ret ?_
      refine end_ret hQ (.int .i64 (0 : Int)) (by kernel_rfl) ?_
      exact ⟨(0 : Int), hp, E464, rfl, (by decide)⟩

def rectoref17_Marks_p (g : (List (List Int))) (c : (List Int)) (Q : (List Bool) → Prop) : Prop :=
  ((g.length ≤ 9223372036854775807) → ((c.length ≤ 9223372036854775807) → ((0 ≤ (g.length : Int) ∧ (1 : Int) * (g.length : Int) ≤ 281474976710656) ∧ (∃ (I413 : (List Bool) → Int → Prop) (m414 : (List Bool) → Int → Nat), (I413 (List.replicate (g.length : Int).toNat (default : Bool)) (0 : Int)) ∧ ∀ (s216 : (List Bool)) (i218 : Int), (I413 s216 i218) → (s216.length ≤ 9223372036854775807) → (inR .i64 i218) → (((i218 < (c.length : Int)) → (∃ k521 : (List Bool) → Prop, (∀ (s519 : (List Bool)), k521 s519 → (s519.length ≤ 9223372036854775807) → ((inR .i64 (i218 + (1 : Int))) ∧ ((I413 s519 (i218 + (1 : Int))) ∧ m414 s519 (i218 + (1 : Int)) < m414 s216 i218))) ∧ (∃ k556 : Bool → Prop, (∀ (s555 : Bool), k556 s555 → (((s555 = true) → ((inL c i218) ∧ ((inR .i64 (lget c i218)) → ((inR .i64 ((lget c i218) - (1 : Int))) ∧ ((inL s216 ((lget c i218) - (1 : Int))) ∧ (k521 (lset s216 ((lget c i218) - (1 : Int)) true))))))) ∧ ((s555 = false) → (k521 s216)))) ∧ ((inL c i218) ∧ ((inR .i64 (lget c i218)) → ((((lget c i218) ≥ (1 : Int)) → ((inL c i218) ∧ ((inR .i64 (lget c i218)) → (k556 (decide ((lget c i218) ≤ (g.length : Int))))))) ∧ ((¬ ((lget c i218) ≥ (1 : Int))) → (k556 false)))))))) ∧ ((¬ (i218 < (c.length : Int))) → ((inR .i64 ((g.length : Int) - (1 : Int))) ∧ (∃ (I1303 : (List Bool) → Int → Prop) (m1304 : (List Bool) → Int → Nat), (I1303 s216 ((g.length : Int) - (1 : Int))) ∧ ∀ (s963 : (List Bool)) (i965 : Int), (I1303 s963 i965) → (s963.length ≤ 9223372036854775807) → (inR .i64 i965) → (((i965 ≥ (0 : Int)) → (∃ (I1532 : (List Bool) → Int → Prop) (m1533 : (List Bool) → Int → Nat), (I1532 s963 (0 : Int)) ∧ ∀ (s1426 : (List Bool)) (k1428 : Int), (I1532 s1426 k1428) → (s1426.length ≤ 9223372036854775807) → (inR .i64 k1428) → (∃ k1571 : Bool → Prop, (∀ (s1570 : Bool), k1571 s1570 → (((s1570 = true) → ((inL g i965) ∧ (((lget g i965).length ≤ 9223372036854775807) → ((inL (lget g i965) k1428) ∧ ((inR .i64 (lget (lget g i965) k1428)) → ((inR .i64 ((lget (lget g i965) k1428) - (1 : Int))) ∧ ((inL s1426 ((lget (lget g i965) k1428) - (1 : Int))) ∧ ((inR .i64 (k1428 + (1 : Int))) ∧ ((I1532 (lset s1426 ((lget (lget g i965) k1428) - (1 : Int)) true) (k1428 + (1 : Int))) ∧ m1533 (lset s1426 ((lget (lget g i965) k1428) - (1 : Int)) true) (k1428 + (1 : Int)) < m1533 s1426 k1428))))))))) ∧ ((s1570 = false) → ((inR .i64 (i965 - (1 : Int))) ∧ ((I1303 s1426 (i965 - (1 : Int))) ∧ m1304 s1426 (i965 - (1 : Int)) < m1304 s963 i965))))) ∧ ((inL g i965) ∧ (((lget g i965).length ≤ 9223372036854775807) → (((k1428 < ((lget g i965).length : Int)) → ((inL s1426 i965) ∧ (k1571 (lget s1426 i965)))) ∧ ((¬ (k1428 < ((lget g i965).length : Int))) → (k1571 false)))))))) ∧ ((¬ (i965 ≥ (0 : Int))) → Q s963))))))))))
set_option maxRecDepth 20000 in
set_option maxHeartbeats 4000000 in
theorem rectoref17_Marks_w {X : List Nat} {w : World} {g : (List (List Int))} {c : (List Int)} {ag1 : Option Addr} {cg2 : Nat} {ac4 : Option Addr} {cc5 : Nat} {Q : (List Bool) → Prop} (hX0 : Old X w) (hg3 : Sl (rSl (rInt .i64)) X w ag1 cg2 g) (hc6 : Sl (rInt .i64) X w ac4 cc5 c) (hp : rectoref17_Marks_p g c Q) :
    Calls Try.prog 81 #[(.slice ag1 g.length cg2), (.slice ac4 c.length cc5)] w (Ret fun v w' => ∃ (r0 : (List Bool)), Q r0 ∧ Evo [] w w' ∧ ∃ (a0 : Option Addr) (c0 : Nat), v = .slice a0 r0.length c0 ∧ OS rBool [] w.heap.size (blkL a0 ++ X) w' 4 a0 r0.length c0 r0) := by
  have hXo := hX0
  have E0 : Evo [] w w := RB.refl _ _ _
  have hS : Sub X X := Sub.refl _
  unfold rectoref17_Marks_p at hp
  refine enter_ Try.func81 rfl 72 [(0, (.slice ag1 g.length cg2)), (1, (.slice ac4 c.length cc5))] (by kernel_rfl) (fun Qe hQ => ?_)
  replace hp := hp (Sl.len hg3)
  replace hp := hp (Sl.len hc6)
  refine seq_ (fun _ K7 => ?_)
  refine reg_ ?_
  refine sq (o_pv (.slice none 0 0) rfl (by kernel_rfl) ?_)
  refine nil_ ?_
  refine then_normal (K7 _ _ _ _ ?_)
  refine seq_ (fun _ K8 => ?_)
  refine reg_ ?_
  refine sq (o_pv (.slice ag1 g.length cg2) rfl (by kernel_rfl) ?_)
  refine sq (o_pv (.int .i64 (g.length : Int)) rfl (by kernel_rfl) ?_)
  obtain ⟨h9, hp⟩ := hp
  refine sq (o_makeX (R := rBool) (kl := .i64) (kc := .i64) (X := X) (B := w.heap.size) (.bool false) (g.length : Int) E0.size rfl Try.underlying111 (by kernel_rfl) rfl rfl (fun _ _ => rfl) (by kernel_rfl) (by kernel_rfl) h9 (inR_len (Sl.len hg3)) ?_)
  intro a10 n11 w12 X13 s14 O15 n16
  refine sq (o_pv (.slice a10 n11 n11) rfl (by kernel_rfl) ?_)
  refine nil_ ?_
  refine then_normal (K8 _ _ _ _ ?_)
  refine seq_ (fun _ K17 => ?_)
  refine seq_ (fun _ K18 => ?_)
  refine reg_ ?_
  refine sq (o_pv (.int .i64 (0 : Int)) rfl (by kernel_rfl) ?_)
  refine nil_ ?_
  refine then_normal (K18 _ _ _ _ ?_)
  refine wp_block ?_
  have hg423 := (Sl.step hg3 s14)
  have hc424 := (Sl.step hc6 s14)
  have hXo425 := (Old.step hXo s14)
  have E426 := (Evo.then0 E0 (Step.evo s14))
  have hS427 := (Sub.trans hS (Step.up s14))
  obtain ⟨I413, m414, hI415, hp⟩ := hp
  refine loop_ 549755809856 (fun kq lq w417 => ∃ (X418 : List Nat) (s216 : (List Bool)) (i218 : Int), (lq = [(6, (.int .i64 i218))]) ∧ (kq = m414 s216 i218) ∧ (Evo [] w w417) ∧ (Old X418 w417) ∧ (Sub X X418) ∧ (Sl (rSl (rInt .i64)) X418 w417 ag1 cg2 g) ∧ (Sl (rInt .i64) X418 w417 ac4 cc5 c) ∧ (OS rBool ([]) w.heap.size X418 w417 4 a10 n11 n11 s216) ∧ (inR .i64 i218) ∧ (I413 s216 i218)) (m414 (List.replicate (g.length : Int).toNat (default : Bool)) (0 : Int)) [(6, (.int .i64 (0 : Int)))] (vs_cons (by kernel_rfl) vs_nil) ⟨X13, (List.replicate (g.length : Int).toNat (default : Bool)), (0 : Int), rfl, rfl, E426, hXo425, hS427, hg423, hc424, O15, (by decide), hI415⟩ ?_
  rintro _ _ w417 g420 ⟨X418, s216, i218, rfl, rfl, E428, hXo429, hS430, hg431, hc432, O217, ri219, hI416⟩ Kl421 hA422
  replace hp := hp s216 i218 hI416 (OS.len O217) ri219
  refine seq_ (fun _ K433 => ?_)
  refine seq_ (fun _ K434 => ?_)
  refine reg_ ?_
  refine sq (o_pv (.int .i64 i218) rfl (by kernel_rfl) ?_)
  refine sq (o_pv (.slice ac4 c.length cc5) rfl (by kernel_rfl) ?_)
  refine sq (o_pv (.int .i64 (c.length : Int)) rfl (by kernel_rfl) ?_)
  refine sq (o_pv (.bool (decide (i218 < (c.length : Int)))) rfl (by kernel_rfl) ?_)
  refine nil_ ?_
  refine then_normal (K434 _ _ _ _ ?_)
  refine cond_d (i218 < (c.length : Int)) (by kernel_rfl) (fun h435 => ?_) (fun h435 => ?_)
  ·
    replace hp := hp.1 h435
    refine wp_skip ?_
    refine then_normal (K433 _ _ _ _ ?_)
    refine seq_ (fun _ K436 => ?_)
    obtain ⟨k521, hk522, hp⟩ := hp
    refine ground_ ?_
    refine join_ 549755551744 (fun lq w523 => ∃ (X524 : List Nat) (s519 : (List Bool)), (lq = []) ∧ (Evo [] w w523) ∧ (Old X524 w523) ∧ (Sub X X524) ∧ (Sl (rSl (rInt .i64)) X524 w523 ag1 cg2 g) ∧ (Sl (rInt .i64) X524 w523 ac4 cc5 c) ∧ (OS rBool ([]) w.heap.size X524 w523 4 a10 n11 n11 s519) ∧ (k521 s519)) (fun Kj525 hJ526 => ?_) ?_
    ·
      refine wp_block ?_
      refine seq_ (fun _ K533 => ?_)
      obtain ⟨k556, hk557, hp⟩ := hp
      refine ground_ ?_
      refine join_ 4294705152 (fun lq w558 => ∃ (X559 : List Nat) (s555 : Bool), (lq = [(31, (.bool s555))]) ∧ (Evo [] w w558) ∧ (Old X559 w558) ∧ (Sub X X559) ∧ (Sl (rSl (rInt .i64)) X559 w558 ag1 cg2 g) ∧ (Sl (rInt .i64) X559 w558 ac4 cc5 c) ∧ (OS rBool ([]) w.heap.size X559 w558 4 a10 n11 n11 s216) ∧ (k556 s555)) (fun Kj560 hJ561 => ?_) ?_
      ·
        refine reg_ ?_
        refine sq (o_pv (.slice ac4 c.length cc5) rfl (by kernel_rfl) ?_)
        refine sq (o_pv (.int .i64 i218) rfl (by kernel_rfl) ?_)
        obtain ⟨h569, hp⟩ := hp
        obtain ⟨b570, o571, cs572, ha573, nx574, lt575, ok576, hc577⟩ := Sl.atI hc432 i218 h569
        obtain ⟨rfl, re578⟩ := ok576
        replace hp := hp re578
        refine sq (o_pv (.pointer (some ⟨b570, o571 + i218.toNat * 1, none⟩)) rfl (x_ixA (m := c.length) (c := cc5) (k := .i64) (i := i218) Try.underlying61 Try.sizeOf3 (by rw [← ha573]; kernel_rfl) (by kernel_rfl) h569) ?_)
        refine sq (o_pv (.int .i64 (lget c i218)) rfl (x_load1 (by kernel_rfl) Try.isAgg3 (hc577 0 _ rfl)) ?_)
        by_cases h579 : (lget c i218) ≥ (1 : Int)
        ·
          replace hp := hp.1 h579
          refine sq (o_pv (.bool true) rfl (x_dt (p := (lget c i218) ≥ (1 : Int)) (by kernel_rfl) h579) ?_)
          refine sq (o_pv (.bool true) rfl (by kernel_rfl) ?_)
          refine sq (o_pv (.slice ac4 c.length cc5) (by kernel_rfl) (by kernel_rfl) ?_)
          refine sq (o_pv (.int .i64 i218) (by kernel_rfl) (by kernel_rfl) ?_)
          obtain ⟨h580, hp⟩ := hp
          obtain ⟨b581, o582, cs583, ha584, nx585, lt586, ok587, hc588⟩ := Sl.atI hc432 i218 h580
          obtain ⟨rfl, re589⟩ := ok587
          replace hp := hp re589
          refine sq (o_pv (.pointer (some ⟨b581, o582 + i218.toNat * 1, none⟩)) (by kernel_rfl) (x_ixA (m := c.length) (c := cc5) (k := .i64) (i := i218) Try.underlying61 Try.sizeOf3 (by rw [← ha584]; kernel_rfl) (by kernel_rfl) h580) ?_)
          refine sq (o_pv (.int .i64 (lget c i218)) (by kernel_rfl) (x_load1 (by kernel_rfl) Try.isAgg3 (hc588 0 _ rfl)) ?_)
          refine sq (o_pv (.slice ag1 g.length cg2) (by kernel_rfl) (by kernel_rfl) ?_)
          refine sq (o_pv (.int .i64 (g.length : Int)) (by kernel_rfl) (by kernel_rfl) ?_)
          refine sq (o_pv (.bool (decide ((lget c i218) ≤ (g.length : Int)))) (by kernel_rfl) (by kernel_rfl) ?_)
          refine sq (o_pv (.bool (decide ((lget c i218) ≤ (g.length : Int)))) rfl (by kernel_rfl) ?_)
          refine nil_ ?_
          refine then_normal (hJ561 _ _ _ ⟨[(31, (.bool (decide ((lget c i218) ≤ (g.length : Int)))))], fit_mk (fun _ _ => rfl) (by kernel_rfl) (vs_cons (by kernel_rfl) vs_nil), ?_⟩)
          exact ⟨X418, (decide ((lget c i218) ≤ (g.length : Int))), rfl, E428, hXo429, hS430, hg431, hc432, O217, hp⟩
        ·
          replace hp := hp.2 h579
          refine sq (o_pv (.bool false) rfl (x_df (p := (lget c i218) ≥ (1 : Int)) (by kernel_rfl) h579) ?_)
          refine sq (o_pv (.bool false) rfl (by kernel_rfl) ?_)
          refine sq (o_not (by kernel_rfl) ?_)
          refine sq (o_not (by kernel_rfl) ?_)
          refine sq (o_not (by kernel_rfl) ?_)
          refine sq (o_not (by kernel_rfl) ?_)
          refine sq (o_not (by kernel_rfl) ?_)
          refine sq (o_not (by kernel_rfl) ?_)
          refine sq (o_not (by kernel_rfl) ?_)
          refine sq (o_pv (.bool false) rfl (by kernel_rfl) ?_)
          refine nil_ ?_
          refine then_normal (hJ561 _ _ _ ⟨[(31, (.bool false))], fit_mk (fun _ _ => rfl) (by kernel_rfl) (vs_cons (by kernel_rfl) vs_nil), ?_⟩)
          exact ⟨X418, false, rfl, E428, hXo429, hS430, hg431, hc432, O217, hp⟩
      ·
        rintro _ w558 g590 ⟨X559, s555, rfl, E563, hXo564, hS565, hg566, hc567, O568, hv562⟩
        replace hp := hk557 s555 hv562
        refine then_normal (K533 _ _ _ _ ?_)
        refine cond_b s555 (by kernel_rfl) (fun h591 => ?_) (fun h591 => ?_)
        ·
          replace hp := hp.1 h591
          refine reg_ ?_
          refine sq (o_pv (.slice a10 n11 n11) rfl (by kernel_rfl) ?_)
          refine sq (o_pv (.slice ac4 c.length cc5) rfl (by kernel_rfl) ?_)
          refine sq (o_pv (.int .i64 i218) rfl (by kernel_rfl) ?_)
          obtain ⟨h592, hp⟩ := hp
          obtain ⟨b593, o594, cs595, ha596, nx597, lt598, ok599, hc600⟩ := Sl.atI hc567 i218 h592
          obtain ⟨rfl, re601⟩ := ok599
          replace hp := hp re601
          refine sq (o_pv (.pointer (some ⟨b593, o594 + i218.toNat * 1, none⟩)) rfl (x_ixA (m := c.length) (c := cc5) (k := .i64) (i := i218) Try.underlying61 Try.sizeOf3 (by rw [← ha596]; kernel_rfl) (by kernel_rfl) h592) ?_)
          refine sq (o_pv (.int .i64 (lget c i218)) rfl (x_load1 (by kernel_rfl) Try.isAgg3 (hc600 0 _ rfl)) ?_)
          obtain ⟨h602, hp⟩ := hp
          refine sq (o_pv (.int .i64 ((lget c i218) - (1 : Int))) rfl (x_sub2 (k := .i64) (a := lget c i218) (b := (1 : Int)) ((lget c i218) - (1 : Int)) (by kernel_rfl) (by kernel_rfl) (wrap_inR h602)) ?_)
          obtain ⟨h603, hp⟩ := hp
          obtain ⟨b604, o605, cs606, ha607, nx608, lt609, ok610, hc611⟩ := Sl.atI (OS.rd O568) ((lget c i218) - (1 : Int)) h603
          obtain rfl := ok610
          refine sq (o_pv (.pointer (some ⟨b604, o605 + ((lget c i218) - (1 : Int)).toNat * 1, none⟩)) rfl (x_ixA (m := n11) (c := n11) (k := .i64) (i := (lget c i218) - (1 : Int)) Try.underlying111 Try.sizeOf4 (by rw [← ha607]; kernel_rfl) (by kernel_rfl) ⟨h603.1, by rw [O568.1]; exact h603.2⟩) ?_)
          refine sq (o_stS (o := o605) (v := (.bool true)) ((lget c i218) - (1 : Int)) true rfl O568 ha607 (h603) (by kernel_rfl) (by kernel_rfl) Try.sizeOf4 (fun _ => rBool_mk) ?_)
          intro w612 s613 O614
          refine nil_ ?_
          refine blk_normal ?_
          have E615 := (Evo.thenW E563 (Step.evo s613) O568.2.2)
          have hXo616 := (Old.step hXo564 s613)
          have hS617 := (Sub.trans hS565 (Step.up s613))
          have hg618 := (Sl.step hg566 s613)
          have hc619 := (Sl.step hc567 s613)
          refine then_normal (hJ526 _ _ _ ⟨[], fit_mk (AgB.nest (AgB.look (fun _ _ => rfl) (by kernel_rfl)) (by kernel_rfl) (by kernel_rfl)) (by kernel_rfl) vs_nil, ?_⟩)
          exact ⟨X559, (lset s216 ((lget c i218) - (1 : Int)) true), rfl, E615, hXo616, hS617, hg618, hc619, O614, hp⟩
        ·
          replace hp := hp.2 h591
          refine wp_skip ?_
          refine blk_normal ?_
          refine then_normal (hJ526 _ _ _ ⟨[], fit_mk (AgB.nest (AgB.look (fun _ _ => rfl) (by kernel_rfl)) (by kernel_rfl) (by kernel_rfl)) (by kernel_rfl) vs_nil, ?_⟩)
          exact ⟨X559, s216, rfl, E563, hXo564, hS565, hg566, hc567, O568, hp⟩
    ·
      rintro _ w523 g620 ⟨X524, s519, rfl, E528, hXo529, hS530, hg531, hc532, O520, hv527⟩
      replace hp := hk522 s519 hv527 (OS.len O520)
      refine then_normal (K436 _ _ _ _ ?_)
      refine reg_ ?_
      refine sq (o_pv (.int .i64 i218) rfl (by kernel_rfl) ?_)
      obtain ⟨h621, hp⟩ := hp
      refine sq (o_pv (.int .i64 (i218 + (1 : Int))) rfl (x_add2 (k := .i64) (a := i218) (b := (1 : Int)) (i218 + (1 : Int)) (by kernel_rfl) (by kernel_rfl) (wrap_inR h621)) ?_)
      refine sq (o_pv (.int .i64 (i218 + (1 : Int))) rfl (by kernel_rfl) ?_)
      refine nil_ ?_
      refine then_normal (hA422 _ _ _ ⟨_, [(6, (.int .i64 (i218 + (1 : Int))))], hp.2, fit_mk (AgB.nest (AgB.look (AgB.mix _ _ _) (by kernel_rfl)) (by kernel_rfl) (by kernel_rfl)) (by kernel_rfl) (vs_cons (by kernel_rfl) vs_nil), ?_⟩)
      exact ⟨X524, s519, (i218 + (1 : Int)), rfl, rfl, E528, hXo529, hS530, hg531, hc532, O520, h621, hp.1⟩
  ·
    replace hp := hp.2 h435
    refine wp_exit ?_
    refine then_exit ?_
    refine then_exit ?_
    refine blk_exit ?_
    refine then_normal (K17 _ _ _ _ ?_)
    refine seq_ (fun _ K622 => ?_)
    refine seq_ (fun _ K623 => ?_)
    refine reg_ ?_
    refine sq (o_pv (.slice ag1 g.length cg2) rfl (by kernel_rfl) ?_)
    refine sq (o_pv (.int .i64 (g.length : Int)) rfl (by kernel_rfl) ?_)
    obtain ⟨h624, hp⟩ := hp
    refine sq (o_pv (.int .i64 ((g.length : Int) - (1 : Int))) rfl (x_sub2 (k := .i64) (a := (g.length : Int)) (b := (1 : Int)) ((g.length : Int) - (1 : Int)) (by kernel_rfl) (by kernel_rfl) (wrap_inR h624)) ?_)
    refine sq (o_pv (.int .i64 ((g.length : Int) - (1 : Int))) rfl (by kernel_rfl) ?_)
    refine nil_ ?_
    refine then_normal (K623 _ _ _ _ ?_)
    refine wp_block ?_
    obtain ⟨I1303, m1304, hI1305, hp⟩ := hp
    refine loop_ 2361183237036776096128 (fun kq lq w1307 => ∃ (X1308 : List Nat) (s963 : (List Bool)) (i965 : Int), (lq = [(7, (.int .i64 i965))]) ∧ (kq = m1304 s963 i965) ∧ (Evo [] w w1307) ∧ (Old X1308 w1307) ∧ (Sub X X1308) ∧ (Sl (rSl (rInt .i64)) X1308 w1307 ag1 cg2 g) ∧ (OS rBool ([]) w.heap.size X1308 w1307 4 a10 n11 n11 s963) ∧ (inR .i64 i965) ∧ (I1303 s963 i965)) (m1304 s216 ((g.length : Int) - (1 : Int))) [(7, (.int .i64 ((g.length : Int) - (1 : Int))))] (vs_cons (by kernel_rfl) vs_nil) ⟨X418, s216, ((g.length : Int) - (1 : Int)), rfl, rfl, E428, hXo429, hS430, hg431, O217, h624, hI1305⟩ ?_
    rintro _ _ w1307 g1310 ⟨X1308, s963, i965, rfl, rfl, E1313, hXo1314, hS1315, hg1316, O964, ri966, hI1306⟩ Kl1311 hA1312
    replace hp := hp s963 i965 hI1306 (OS.len O964) ri966
    refine seq_ (fun _ K1317 => ?_)
    refine seq_ (fun _ K1318 => ?_)
    refine reg_ ?_
    refine sq (o_pv (.int .i64 i965) rfl (by kernel_rfl) ?_)
    refine sq (o_pv (.bool (decide (i965 ≥ (0 : Int)))) rfl (by kernel_rfl) ?_)
    refine nil_ ?_
    refine then_normal (K1318 _ _ _ _ ?_)
    refine cond_d (i965 ≥ (0 : Int)) (by kernel_rfl) (fun h1319 => ?_) (fun h1319 => ?_)
    ·
      replace hp := hp.1 h1319
      refine wp_skip ?_
      refine then_normal (K1317 _ _ _ _ ?_)
      refine seq_ (fun _ K1320 => ?_)
      refine wp_block ?_
      refine seq_ (fun _ K1321 => ?_)
      refine reg_ ?_
      refine sq (o_pv (.int .i64 (0 : Int)) rfl (by kernel_rfl) ?_)
      refine nil_ ?_
      refine then_normal (K1321 _ _ _ _ ?_)
      refine wp_block ?_
      obtain ⟨I1532, m1533, hI1534, hp⟩ := hp
      refine loop_ 2361183171066078429440 (fun kq lq w1536 => ∃ (X1537 : List Nat) (s1426 : (List Bool)) (k1428 : Int), (lq = [(8, (.int .i64 k1428))]) ∧ (kq = m1533 s1426 k1428) ∧ (Evo [] w w1536) ∧ (Old X1537 w1536) ∧ (Sub X X1537) ∧ (Sl (rSl (rInt .i64)) X1537 w1536 ag1 cg2 g) ∧ (OS rBool ([]) w.heap.size X1537 w1536 4 a10 n11 n11 s1426) ∧ (inR .i64 k1428) ∧ (I1532 s1426 k1428)) (m1533 s963 (0 : Int)) [(8, (.int .i64 (0 : Int)))] (vs_cons (by kernel_rfl) vs_nil) ⟨X1308, s963, (0 : Int), rfl, rfl, E1313, hXo1314, hS1315, hg1316, O964, (by decide), hI1534⟩ ?_
      rintro _ _ w1536 g1539 ⟨X1537, s1426, k1428, rfl, rfl, E1542, hXo1543, hS1544, hg1545, O1427, rk1429, hI1535⟩ Kl1540 hA1541
      replace hp := hp s1426 k1428 hI1535 (OS.len O1427) rk1429
      refine seq_ (fun _ K1546 => ?_)
      refine seq_ (fun _ K1547 => ?_)
      obtain ⟨k1571, hk1572, hp⟩ := hp
      refine ground_ ?_
      refine join_ 576390383559245824 (fun lq w1573 => ∃ (X1574 : List Nat) (s1570 : Bool), (lq = [(58, (.bool s1570))]) ∧ (Evo [] w w1573) ∧ (Old X1574 w1573) ∧ (Sub X X1574) ∧ (Sl (rSl (rInt .i64)) X1574 w1573 ag1 cg2 g) ∧ (OS rBool ([]) w.heap.size X1574 w1573 4 a10 n11 n11 s1426) ∧ (k1571 s1570)) (fun Kj1575 hJ1576 => ?_) ?_
      ·
        refine reg_ ?_
        refine sq (o_pv (.int .i64 k1428) rfl (by kernel_rfl) ?_)
        refine sq (o_pv (.slice ag1 g.length cg2) rfl (by kernel_rfl) ?_)
        refine sq (o_pv (.int .i64 i965) rfl (by kernel_rfl) ?_)
        obtain ⟨h1583, hp⟩ := hp
        obtain ⟨b1584, o1585, cs1586, ha1587, nx1588, lt1589, ok1590, hc1591⟩ := Sl.atI hg1545 i965 h1583
        obtain ⟨ae1592, ce1593, rfl, he1594⟩ := ok1590
        replace hp := hp (Sl.len he1594)
        refine sq (o_pv (.pointer (some ⟨b1584, o1585 + i965.toNat * 1, none⟩)) rfl (x_ixA (m := g.length) (c := cg2) (k := .i64) (i := i965) Try.underlying54 Try.sizeOf61 (by rw [← ha1587]; kernel_rfl) (by kernel_rfl) h1583) ?_)
        refine sq (o_pv (.slice ae1592 ((lget g i965).length) ce1593) rfl (x_load1 (by kernel_rfl) Try.isAgg61 (hc1591 0 _ rfl)) ?_)
        refine sq (o_pv (.int .i64 ((lget g i965).length : Int)) rfl (by kernel_rfl) ?_)
        by_cases h1595 : k1428 < ((lget g i965).length : Int)
        ·
          replace hp := hp.1 h1595
          refine sq (o_pv (.bool true) rfl (x_dt (p := k1428 < ((lget g i965).length : Int)) (by kernel_rfl) h1595) ?_)
          refine sq (o_pv (.bool true) rfl (by kernel_rfl) ?_)
          refine sq (o_pv (.slice a10 n11 n11) (by kernel_rfl) (by kernel_rfl) ?_)
          refine sq (o_pv (.int .i64 i965) (by kernel_rfl) (by kernel_rfl) ?_)
          obtain ⟨h1596, hp⟩ := hp
          obtain ⟨b1597, o1598, cs1599, ha1600, nx1601, lt1602, ok1603, hc1604⟩ := Sl.atI (OS.rd O1427) i965 h1596
          obtain rfl := ok1603
          refine sq (o_pv (.pointer (some ⟨b1597, o1598 + i965.toNat * 1, none⟩)) (by kernel_rfl) (x_ixA (m := n11) (c := n11) (k := .i64) (i := i965) Try.underlying111 Try.sizeOf4 (by rw [← ha1600]; kernel_rfl) (by kernel_rfl) ⟨h1596.1, by rw [O1427.1]; exact h1596.2⟩) ?_)
          refine sq (o_pv (.bool (lget s1426 i965)) (by kernel_rfl) (x_load1 (by kernel_rfl) Try.isAgg4 (hc1604 0 _ rfl)) ?_)
          refine sq (o_pv (.bool (lget s1426 i965)) rfl (by kernel_rfl) ?_)
          refine nil_ ?_
          refine then_normal (hJ1576 _ _ _ ⟨[(58, (.bool (lget s1426 i965)))], fit_mk (fun _ _ => rfl) (by kernel_rfl) (vs_cons (by kernel_rfl) vs_nil), ?_⟩)
          exact ⟨X1537, (lget s1426 i965), rfl, E1542, hXo1543, hS1544, hg1545, O1427, hp⟩
        ·
          replace hp := hp.2 h1595
          refine sq (o_pv (.bool false) rfl (x_df (p := k1428 < ((lget g i965).length : Int)) (by kernel_rfl) h1595) ?_)
          refine sq (o_pv (.bool false) rfl (by kernel_rfl) ?_)
          refine sq (o_not (by kernel_rfl) ?_)
          refine sq (o_not (by kernel_rfl) ?_)
          refine sq (o_not (by kernel_rfl) ?_)
          refine sq (o_not (by kernel_rfl) ?_)
          refine sq (o_pv (.bool false) rfl (by kernel_rfl) ?_)
          refine nil_ ?_
          refine then_normal (hJ1576 _ _ _ ⟨[(58, (.bool false))], fit_mk (fun _ _ => rfl) (by kernel_rfl) (vs_cons (by kernel_rfl) vs_nil), ?_⟩)
          exact ⟨X1537, false, rfl, E1542, hXo1543, hS1544, hg1545, O1427, hp⟩
      ·
        rintro _ w1573 g1605 ⟨X1574, s1570, rfl, E1578, hXo1579, hS1580, hg1581, O1582, hv1577⟩
        replace hp := hk1572 s1570 hv1577
        refine then_normal (K1547 _ _ _ _ ?_)
        refine cond_b s1570 (by kernel_rfl) (fun h1606 => ?_) (fun h1606 => ?_)
        ·
          replace hp := hp.1 h1606
          refine wp_skip ?_
          refine then_normal (K1546 _ _ _ _ ?_)
          refine seq_ (fun _ K1607 => ?_)
          refine wp_block ?_
          refine reg_ ?_
          refine sq (o_pv (.slice a10 n11 n11) rfl (by kernel_rfl) ?_)
          refine sq (o_pv (.slice ag1 g.length cg2) rfl (by kernel_rfl) ?_)
          refine sq (o_pv (.int .i64 i965) rfl (by kernel_rfl) ?_)
          obtain ⟨h1608, hp⟩ := hp
          obtain ⟨b1609, o1610, cs1611, ha1612, nx1613, lt1614, ok1615, hc1616⟩ := Sl.atI hg1581 i965 h1608
          obtain ⟨ae1617, ce1618, rfl, he1619⟩ := ok1615
          replace hp := hp (Sl.len he1619)
          refine sq (o_pv (.pointer (some ⟨b1609, o1610 + i965.toNat * 1, none⟩)) rfl (x_ixA (m := g.length) (c := cg2) (k := .i64) (i := i965) Try.underlying54 Try.sizeOf61 (by rw [← ha1612]; kernel_rfl) (by kernel_rfl) h1608) ?_)
          refine sq (o_pv (.slice ae1617 ((lget g i965).length) ce1618) rfl (x_load1 (by kernel_rfl) Try.isAgg61 (hc1616 0 _ rfl)) ?_)
          refine sq (o_pv (.int .i64 k1428) rfl (by kernel_rfl) ?_)
          obtain ⟨h1620, hp⟩ := hp
          obtain ⟨b1621, o1622, cs1623, ha1624, nx1625, lt1626, ok1627, hc1628⟩ := Sl.atI he1619 k1428 h1620
          obtain ⟨rfl, re1629⟩ := ok1627
          replace hp := hp re1629
          refine sq (o_pv (.pointer (some ⟨b1621, o1622 + k1428.toNat * 1, none⟩)) rfl (x_ixA (m := (lget g i965).length) (c := ce1618) (k := .i64) (i := k1428) Try.underlying61 Try.sizeOf3 (by rw [← ha1624]; kernel_rfl) (by kernel_rfl) h1620) ?_)
          refine sq (o_pv (.int .i64 (lget (lget g i965) k1428)) rfl (x_load1 (by kernel_rfl) Try.isAgg3 (hc1628 0 _ rfl)) ?_)
          obtain ⟨h1630, hp⟩ := hp
          refine sq (o_pv (.int .i64 ((lget (lget g i965) k1428) - (1 : Int))) rfl (x_sub2 (k := .i64) (a := lget (lget g i965) k1428) (b := (1 : Int)) ((lget (lget g i965) k1428) - (1 : Int)) (by kernel_rfl) (by kernel_rfl) (wrap_inR h1630)) ?_)
          obtain ⟨h1631, hp⟩ := hp
          obtain ⟨b1632, o1633, cs1634, ha1635, nx1636, lt1637, ok1638, hc1639⟩ := Sl.atI (OS.rd O1582) ((lget (lget g i965) k1428) - (1 : Int)) h1631
          obtain rfl := ok1638
          refine sq (o_pv (.pointer (some ⟨b1632, o1633 + ((lget (lget g i965) k1428) - (1 : Int)).toNat * 1, none⟩)) rfl (x_ixA (m := n11) (c := n11) (k := .i64) (i := (lget (lget g i965) k1428) - (1 : Int)) Try.underlying111 Try.sizeOf4 (by rw [← ha1635]; kernel_rfl) (by kernel_rfl) ⟨h1631.1, by rw [O1582.1]; exact h1631.2⟩) ?_)
          refine sq (o_stS (o := o1633) (v := (.bool true)) ((lget (lget g i965) k1428) - (1 : Int)) true rfl O1582 ha1635 (h1631) (by kernel_rfl) (by kernel_rfl) Try.sizeOf4 (fun _ => rBool_mk) ?_)
          intro w1640 s1641 O1642
          refine nil_ ?_
          refine blk_normal ?_
          refine then_normal (K1607 _ _ _ _ ?_)
          refine reg_ ?_
          refine sq (o_pv (.int .i64 k1428) rfl (by kernel_rfl) ?_)
          obtain ⟨h1643, hp⟩ := hp
          refine sq (o_pv (.int .i64 (k1428 + (1 : Int))) rfl (x_add2 (k := .i64) (a := k1428) (b := (1 : Int)) (k1428 + (1 : Int)) (by kernel_rfl) (by kernel_rfl) (wrap_inR h1643)) ?_)
          refine sq (o_pv (.int .i64 (k1428 + (1 : Int))) rfl (by kernel_rfl) ?_)
          refine nil_ ?_
          have E1644 := (Evo.thenW E1578 (Step.evo s1641) O1582.2.2)
          have hXo1645 := (Old.step hXo1579 s1641)
          have hS1646 := (Sub.trans hS1580 (Step.up s1641))
          have hg1647 := (Sl.step hg1581 s1641)
          refine then_normal (hA1541 _ _ _ ⟨_, [(8, (.int .i64 (k1428 + (1 : Int))))], hp.2, fit_mk (AgB.nest (AgB.look (AgB.mix _ _ _) (by kernel_rfl)) (by kernel_rfl) (by kernel_rfl)) (by kernel_rfl) (vs_cons (by kernel_rfl) vs_nil), ?_⟩)
          exact ⟨X1574, (lset s1426 ((lget (lget g i965) k1428) - (1 : Int)) true), (k1428 + (1 : Int)), rfl, rfl, E1644, hXo1645, hS1646, hg1647, O1642, h1643, hp.1⟩
        ·
          replace hp := hp.2 h1606
          refine wp_exit ?_
          refine then_exit ?_
          refine then_exit ?_
          refine blk_exit ?_
          refine blk_normal ?_
          refine then_normal (K1320 _ _ _ _ ?_)
          refine reg_ ?_
          refine sq (o_pv (.int .i64 i965) rfl (by kernel_rfl) ?_)
          obtain ⟨h1648, hp⟩ := hp
          refine sq (o_pv (.int .i64 (i965 - (1 : Int))) rfl (x_sub2 (k := .i64) (a := i965) (b := (1 : Int)) (i965 - (1 : Int)) (by kernel_rfl) (by kernel_rfl) (wrap_inR h1648)) ?_)
          refine sq (o_pv (.int .i64 (i965 - (1 : Int))) rfl (by kernel_rfl) ?_)
          refine nil_ ?_
          refine then_normal (hA1312 _ _ _ ⟨_, [(7, (.int .i64 (i965 - (1 : Int))))], hp.2, fit_mk (AgB.nest (AgB.look (AgB.nest (AgB.mix _ _ _) (by kernel_rfl) (by kernel_rfl)) (by kernel_rfl)) (by kernel_rfl) (by kernel_rfl)) (by kernel_rfl) (vs_cons (by kernel_rfl) vs_nil), ?_⟩)
          exact ⟨X1574, s1426, (i965 - (1 : Int)), rfl, rfl, E1578, hXo1579, hS1580, hg1581, O1582, h1648, hp.1⟩
    ·
      replace hp := hp.2 h1319
      refine wp_exit ?_
      refine then_exit ?_
      refine then_exit ?_
      refine blk_exit ?_
      refine then_normal (K622 _ _ _ _ ?_)
      refine seq_ (fun _ K1649 => ?_)
      refine reg_ ?_
      refine sq (o_pv (.slice a10 n11 n11) rfl (by kernel_rfl) ?_)
      refine sq (o_pv (.slice a10 n11 n11) rfl (by kernel_rfl) ?_)
      refine nil_ ?_
      refine then_normal (K1649 _ _ _ _ ?_)
      refine wp_ret ?_
      refine end_ret hQ (.slice a10 n11 n11) (by kernel_rfl) ?_
      exact ⟨s963, hp, E1313, a10, n11, by rw [show n11 = s963.length from O964.1], (OS.give O964 hS1315)⟩

def rectoref17_rising_p (in_ : (List Bool)) (Q : (List Int) → Prop) : Prop :=
  ((in_.length ≤ 9223372036854775807) → (∃ (I199 : (List Int) → Int → Prop) (m200 : (List Int) → Int → Nat), (I199 ([] : List Int) (0 : Int)) ∧ ∀ (out99 : (List Int)) (i104 : Int), (I199 out99 i104) → (out99.length ≤ 9223372036854775807) → (inR .i64 i104) → (((i104 < (in_.length : Int)) → (∃ k252 : (List Int) → Prop, (∀ (out247 : (List Int)), k252 out247 → (out247.length ≤ 9223372036854775807) → ((inR .i64 (i104 + (1 : Int))) ∧ ((I199 out247 (i104 + (1 : Int))) ∧ m200 out247 (i104 + (1 : Int)) < m200 out99 i104))) ∧ ((inL in_ i104) ∧ ((((lget in_ i104) = true) → ((inR .i64 (i104 + (1 : Int))) ∧ (((out99.length + ([i104 + (1 : Int)]).length) * 8 ≤ 140737488355328) ∧ (k252 (out99 ++ ([i104 + (1 : Int)])))))) ∧ (((lget in_ i104) = false) → (k252 out99)))))) ∧ ((¬ (i104 < (in_.length : Int))) → Q out99))))
set_option maxRecDepth 20000 in
set_option maxHeartbeats 4000000 in
theorem rectoref17_rising_w {X : List Nat} {w : World} {in_ : (List Bool)} {ain_1 : Option Addr} {cin_2 : Nat} {Q : (List Int) → Prop} (hX0 : Old X w) (hin_3 : Sl rBool X w ain_1 cin_2 in_) (hp : rectoref17_rising_p in_ Q) :
    Calls Try.prog 80 #[(.slice ain_1 in_.length cin_2)] w (Ret fun v w' => ∃ (r0 : (List Int)), Q r0 ∧ Evo [] w w' ∧ ∃ (aq01 : Option Addr) (cq02 : Nat), v = (.slice aq01 r0.length cq02) ∧ Sl (rInt .i64) X w' aq01 cq02 r0) := by
  have hXo := hX0
  have E0 : Evo [] w w := RB.refl _ _ _
  have hS : Sub X X := Sub.refl _
  unfold rectoref17_rising_p at hp
  refine enter_ Try.func80 rfl 21 [(0, (.slice ain_1 in_.length cin_2))] (by kernel_rfl) (fun Qe hQ => ?_)
  replace hp := hp (Sl.len hin_3)
  refine seq_ (fun _ K4 => ?_)
  refine reg_ ?_
  refine sq (o_pv (.slice none 0 0) rfl (by kernel_rfl) ?_)
  refine nil_ ?_
  refine then_normal (K4 _ _ _ _ ?_)
  refine seq_ (fun _ K5 => ?_)
  refine reg_ ?_
  refine sq (o_pv (.slice none 0 0) rfl (by kernel_rfl) ?_)
  refine nil_ ?_
  refine then_normal (K5 _ _ _ _ ?_)
  refine seq_ (fun _ K6 => ?_)
  refine seq_ (fun _ K7 => ?_)
  refine reg_ ?_
  refine sq (o_pv (.int .i64 (0 : Int)) rfl (by kernel_rfl) ?_)
  refine nil_ ?_
  refine then_normal (K7 _ _ _ _ ?_)
  refine wp_block ?_
  obtain ⟨I199, m200, hI201, hp⟩ := hp
  refine loop_ 1048568 (fun kq lq w203 => ∃ (X204 : List Nat) (out99 : (List Int)) (i104 : Int) (a100 : Option Addr) (n101 : Nat) (c102 : Nat), (lq = [(3, (.slice a100 n101 c102)), (4, (.int .i64 i104))]) ∧ (kq = m200 out99 i104) ∧ (Evo [] w w203) ∧ (Old X204 w203) ∧ (Sub X X204) ∧ (Sl rBool X204 w203 ain_1 cin_2 in_) ∧ (OS (rInt .i64) ([]) w.heap.size X204 w203 3 a100 n101 c102 out99) ∧ (inR .i64 i104) ∧ (I199 out99 i104)) (m200 ([] : List Int) (0 : Int)) [(3, (.slice none 0 0)), (4, (.int .i64 (0 : Int)))] (vs_cons (by kernel_rfl) (vs_cons (by kernel_rfl) vs_nil)) ⟨X, ([] : List Int), (0 : Int), none, 0, 0, rfl, rfl, E0, hXo, hS, hin_3, (OS.nil _ _ _ _), (by decide), hI201⟩ ?_
  rintro _ _ w203 g206 ⟨X204, out99, i104, a100, n101, c102, rfl, rfl, E209, hXo210, hS211, hin_212, O103, ri105, hI202⟩ Kl207 hA208
  replace hp := hp out99 i104 hI202 (OS.len O103) ri105
  refine seq_ (fun _ K213 => ?_)
  refine seq_ (fun _ K214 => ?_)
  refine reg_ ?_
  refine sq (o_pv (.int .i64 i104) rfl (by kernel_rfl) ?_)
  refine sq (o_pv (.slice ain_1 in_.length cin_2) rfl (by kernel_rfl) ?_)
  refine sq (o_pv (.int .i64 (in_.length : Int)) rfl (by kernel_rfl) ?_)
  refine sq (o_pv (.bool (decide (i104 < (in_.length : Int)))) rfl (by kernel_rfl) ?_)
  refine nil_ ?_
  refine then_normal (K214 _ _ _ _ ?_)
  refine cond_d (i104 < (in_.length : Int)) (by kernel_rfl) (fun h215 => ?_) (fun h215 => ?_)
  ·
    replace hp := hp.1 h215
    refine wp_skip ?_
    refine then_normal (K213 _ _ _ _ ?_)
    refine seq_ (fun _ K216 => ?_)
    obtain ⟨k252, hk253, hp⟩ := hp
    refine ground_ ?_
    refine join_ 1046536 (fun lq w254 => ∃ (X255 : List Nat) (out247 : (List Int)) (a248 : Option Addr) (n249 : Nat) (c250 : Nat), (lq = [(3, (.slice a248 n249 c250))]) ∧ (Evo [] w w254) ∧ (Old X255 w254) ∧ (Sub X X255) ∧ (Sl rBool X255 w254 ain_1 cin_2 in_) ∧ (OS (rInt .i64) ([]) w.heap.size X255 w254 3 a248 n249 c250 out247) ∧ (k252 out247)) (fun Kj256 hJ257 => ?_) ?_
    ·
      refine wp_block ?_
      refine seq_ (fun _ K263 => ?_)
      refine reg_ ?_
      refine sq (o_pv (.slice ain_1 in_.length cin_2) rfl (by kernel_rfl) ?_)
      refine sq (o_pv (.int .i64 i104) rfl (by kernel_rfl) ?_)
      obtain ⟨h264, hp⟩ := hp
      obtain ⟨b265, o266, cs267, ha268, nx269, lt270, ok271, hc272⟩ := Sl.atI hin_212 i104 h264
      obtain rfl := ok271
      refine sq (o_pv (.pointer (some ⟨b265, o266 + i104.toNat * 1, none⟩)) rfl (x_ixA (m := in_.length) (c := cin_2) (k := .i64) (i := i104) Try.underlying111 Try.sizeOf4 (by rw [← ha268]; kernel_rfl) (by kernel_rfl) h264) ?_)
      refine sq (o_pv (.bool (lget in_ i104)) rfl (x_load1 (by kernel_rfl) Try.isAgg4 (hc272 0 _ rfl)) ?_)
      refine nil_ ?_
      refine then_normal (K263 _ _ _ _ ?_)
      refine cond_b (lget in_ i104) (by kernel_rfl) (fun h273 => ?_) (fun h273 => ?_)
      ·
        replace hp := hp.1 h273
        refine reg_ ?_
        refine sq (o_pv (.slice a100 n101 c102) rfl (by kernel_rfl) ?_)
        refine sq (o_pv (.int .i64 i104) rfl (by kernel_rfl) ?_)
        obtain ⟨h274, hp⟩ := hp
        refine sq (o_pv (.int .i64 (i104 + (1 : Int))) rfl (x_add2 (k := .i64) (a := i104) (b := (1 : Int)) (i104 + (1 : Int)) (by kernel_rfl) (by kernel_rfl) (wrap_inR h274)) ?_)
        refine sq (o_rowX (R := (rInt .i64)) [(.int .i64 (i104 + (1 : Int)))] [i104 + (1 : Int)] 3 1 (X := X204) (B := w.heap.size) E209.size rfl (by kernel_rfl) (Flat.cons (cs := [(.int .i64 (i104 + (1 : Int)))]) (rInt_mk h274) Flat.nil) rfl (by decide) ?_)
        intro b275 w276 X277 s278 O279 n280
        have p281 := n280 _ (OS.old O103)
        obtain ⟨h282, hp⟩ := hp
        have O283 := (OS.step0 O103 s278)
        have E284 := (Evo.then0 E209 (Step.evo s278))
        refine sq (o_appX (R := (rInt .i64)) (X := X277) (B := w.heap.size) (L := out99) (M := [i104 + (1 : Int)]) rfl elT61 rfl E284.size O283 (OS.src O279) O279.1 (by kernel_rfl) (by kernel_rfl) h282 ?_)
        intro a285 n286 c287 w288 X289 s290 O291 gr292
        refine sq (o_pv (.slice a285 n286 c287) rfl (by kernel_rfl) ?_)
        refine nil_ ?_
        refine blk_normal ?_
        have E293 := (Evo.thenW E284 (Step.evo s290) O283.2.2)
        have hXo294 := (Old.step (Old.step hXo210 s278) s290)
        have hS295 := (Sub.trans (Sub.trans hS211 (Step.up s278)) (Step.up s290))
        have hin_296 := (Sl.step (Sl.step hin_212 s278) s290)
        refine then_normal (hJ257 _ _ _ ⟨[(3, (.slice a285 n286 c287))], fit_mk (fun _ _ => rfl) (by kernel_rfl) (vs_cons (by kernel_rfl) vs_nil), ?_⟩)
        exact ⟨X289, (out99 ++ ([i104 + (1 : Int)])), a285, n286, c287, rfl, E293, hXo294, hS295, hin_296, O291, hp⟩
      ·
        replace hp := hp.2 h273
        refine wp_skip ?_
        refine blk_normal ?_
        refine then_normal (hJ257 _ _ _ ⟨[(3, (.slice a100 n101 c102))], fit_mk (fun _ _ => rfl) (by kernel_rfl) (vs_cons (by kernel_rfl) vs_nil), ?_⟩)
        exact ⟨X204, out99, a100, n101, c102, rfl, E209, hXo210, hS211, hin_212, O103, hp⟩
    ·
      rintro _ w254 g297 ⟨X255, out247, a248, n249, c250, rfl, E259, hXo260, hS261, hin_262, O251, hv258⟩
      replace hp := hk253 out247 hv258 (OS.len O251)
      refine then_normal (K216 _ _ _ _ ?_)
      refine reg_ ?_
      refine sq (o_pv (.int .i64 i104) rfl (by kernel_rfl) ?_)
      obtain ⟨h298, hp⟩ := hp
      refine sq (o_pv (.int .i64 (i104 + (1 : Int))) rfl (x_add2 (k := .i64) (a := i104) (b := (1 : Int)) (i104 + (1 : Int)) (by kernel_rfl) (by kernel_rfl) (wrap_inR h298)) ?_)
      refine sq (o_pv (.int .i64 (i104 + (1 : Int))) rfl (by kernel_rfl) ?_)
      refine nil_ ?_
      refine then_normal (hA208 _ _ _ ⟨_, [(3, (.slice a248 n249 c250)), (4, (.int .i64 (i104 + (1 : Int))))], hp.2, fit_mk (AgB.nest (AgB.look (AgB.mix _ _ _) (by kernel_rfl)) (by kernel_rfl) (by kernel_rfl)) (by kernel_rfl) (vs_cons (by kernel_rfl) (vs_cons (by kernel_rfl) vs_nil)), ?_⟩)
      exact ⟨X255, out247, (i104 + (1 : Int)), a248, n249, c250, rfl, rfl, E259, hXo260, hS261, hin_262, O251, h298, hp.1⟩
  ·
    replace hp := hp.2 h215
    refine wp_exit ?_
    refine then_exit ?_
    refine then_exit ?_
    refine blk_exit ?_
    refine then_normal (K6 _ _ _ _ ?_)
    refine seq_ (fun _ K299 => ?_)
    refine reg_ ?_
    refine sq (o_pv (.slice a100 n101 c102) rfl (by kernel_rfl) ?_)
    refine sq (o_pv (.slice a100 n101 c102) rfl (by kernel_rfl) ?_)
    refine nil_ ?_
    refine then_normal (K299 _ _ _ _ ?_)
    refine wp_ret ?_
    refine end_ret hQ (.slice a100 n101 c102) (by kernel_rfl) ?_
    exact ⟨out99, hp, E209, a100, c102, by rw [show n101 = out99.length from O103.1], (OS.out O103 hS211 hX0)⟩

def rectoref17_Ancestors_p (g : (List (List Int))) (c : (List Int)) (Q : (List Int) → Prop) : Prop :=
  ((g.length ≤ 9223372036854775807) → ((c.length ≤ 9223372036854775807) → (rectoref17_Marks_p g c (fun (r9 : (List Bool)) => ((r9.length ≤ 9223372036854775807) → (rectoref17_rising_p r9 (fun (r21 : (List Int)) => ((r21.length ≤ 9223372036854775807) → Q r21))))))))
set_option maxRecDepth 20000 in
set_option maxHeartbeats 4000000 in
theorem rectoref17_Ancestors_w {X : List Nat} {w : World} {g : (List (List Int))} {c : (List Int)} {ag1 : Option Addr} {cg2 : Nat} {ac4 : Option Addr} {cc5 : Nat} {Q : (List Int) → Prop} (hX0 : Old X w) (hg3 : Sl (rSl (rInt .i64)) X w ag1 cg2 g) (hc6 : Sl (rInt .i64) X w ac4 cc5 c) (hp : rectoref17_Ancestors_p g c Q) :
    Calls Try.prog 38 #[(.slice ag1 g.length cg2), (.slice ac4 c.length cc5)] w (Ret fun v w' => ∃ (r0 : (List Int)), Q r0 ∧ Evo [] w w' ∧ ∃ (aq01 : Option Addr) (cq02 : Nat), v = (.slice aq01 r0.length cq02) ∧ Sl (rInt .i64) X w' aq01 cq02 r0) := by
  have hXo := hX0
  have E0 : Evo [] w w := RB.refl _ _ _
  have hS : Sub X X := Sub.refl _
  unfold rectoref17_Ancestors_p at hp
  refine enter_ Try.func38 rfl 9 [(0, (.slice ag1 g.length cg2)), (1, (.slice ac4 c.length cc5))] (by kernel_rfl) (fun Qe hQ => ?_)
  replace hp := hp (Sl.len hg3)
  replace hp := hp (Sl.len hc6)
  refine seq_ (fun _ K7 => ?_)
  refine reg_ ?_
  refine sq (o_pv (.slice none 0 0) rfl (by kernel_rfl) ?_)
  refine nil_ ?_
  refine then_normal (K7 _ _ _ _ ?_)
  refine seq_ (fun _ K8 => ?_)
  refine reg_ ?_
  refine sq (o_pv (.slice ag1 g.length cg2) rfl (by kernel_rfl) ?_)
  refine sq (o_pv (.slice ac4 c.length cc5) rfl (by kernel_rfl) ?_)
  refine sq (o_call 81 #[(.slice ag1 g.length cg2), (.slice ac4 c.length cc5)] rfl (x_call Try.call81 (by kernel_rfl)) (rectoref17_Marks_w (X := X) (g := g) (c := c) hXo hg3 hc6 hp) ?_)
  rintro _ w10 ⟨r9, hp, e11, a13, c14, rfl, O15⟩
  obtain ⟨X16, s12, O17, n18⟩ := OS.own_in O15 e11 E0.size
  replace hp := hp (OS.len O17)
  have hS19 := (Sub.trans hS (Step.up s12))
  have hXo20 := (Old.step hXo s12)
  refine sq (o_call 80 #[(.slice a13 r9.length c14)] rfl (x_call Try.call80 (by kernel_rfl)) (rectoref17_rising_w (X := X) (in_ := r9) (Old.less hXo20 hS19) (OS.out O17 hS19 hX0) hp) ?_)
  rintro _ w22 ⟨r21, hp, e23, ar25, cr26, rfl, hr27⟩
  have s24 := Step.of0 X16 e23
  replace hp := hp (Sl.len hr27)
  refine sq (o_pv (.slice ar25 r21.length cr26) rfl (by kernel_rfl) ?_)
  refine nil_ ?_
  refine then_normal (K8 _ _ _ _ ?_)
  refine wp_ret ?_
  have E28 := (Evo.then0 (Evo.then0 E0 (Step.evo s12)) e23)
  refine end_ret hQ (.slice ar25 r21.length cr26) (by kernel_rfl) ?_
  exact ⟨r21, hp, E28, ar25, cr26, rfl, hr27⟩

end Go.Proofs.Ytmepomdpjlbaaaa
