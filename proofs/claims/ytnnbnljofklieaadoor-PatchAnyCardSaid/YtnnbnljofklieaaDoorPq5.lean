/- Walks of functions: what each asks and computes, as a plain predicate, and the contract from it. -/
import Derived.Test.YtnnbnljofklieaaDoorChecked
import Derived.Test.YtnnbnljofklieaaDoorPq4
namespace Go.Proofs.YtnnbnljofklieaaDoor
open Go

theorem elT25 : ElemT Tryd.prog 25 54 2 24 := elemT_mk (i := Tryd.t54) (z := (.agg #[(.int .i64 0), (.string (ByteArray.mk #[]))])) (by kernel_rfl) (by kernel_rfl) (by kernel_rfl) (by kernel_rfl) Tryd.underlying25 Tryd.sizeOf54 (by decide) (by decide)
def rectoref11_Lines_p (a : (List ByteArray)) (b : (List ByteArray)) (Q : (List S_rectoref11_Edit) → S_rectoref3_Wrong → Prop) : Prop :=
  ((a.length ≤ 9223372036854775807) → ((b.length ≤ 9223372036854775807) → (rectoref11_long_p a b (fun (r18 : S_rectoref3_Wrong) => ((r18.Parts.length ≤ 9223372036854775807) → ((inR .i64 r18.Err) → (((¬ (r18.Err = (0 : Int))) → Q ([] : List S_rectoref11_Edit) r18) ∧ ((r18.Err = (0 : Int)) → (rectoref11_common_p a b (fun (r75 : (List (List Int))) => ((r75.length ≤ 9223372036854775807) → (∃ (I870 : (List S_rectoref11_Edit) → Int → Int → Prop) (m871 : (List S_rectoref11_Edit) → Int → Int → Nat), (I870 ([] : List S_rectoref11_Edit) (0 : Int) (0 : Int)) ∧ (∀ (out466 : (List S_rectoref11_Edit)) (i471 : Int) (j473 : Int), (I870 out466 i471 j473) → (out466.length ≤ 9223372036854775807) → (inR .i64 i471) → (inR .i64 j473) → (∃ k903 : Bool → Prop, (∀ (s902 : Bool), k903 s902 → (((s902 = true) → (∃ k965 : Bool → Prop, (∀ (s964 : Bool), k965 s964 → (((s964 = true) → ((inL a i471) ∧ (((lget a i471).size ≤ maxLen) → (((out466.length + ([(S_rectoref11_Edit.mk (1 : Int) (lget a i471))]).length) * 24 ≤ 140737488355328) ∧ ((inR .i64 (i471 + (1 : Int))) ∧ ((inR .i64 (j473 + (1 : Int))) ∧ ((I870 (out466 ++ ([(S_rectoref11_Edit.mk (1 : Int) (lget a i471))])) (i471 + (1 : Int)) (j473 + (1 : Int))) ∧ m871 (out466 ++ ([(S_rectoref11_Edit.mk (1 : Int) (lget a i471))])) (i471 + (1 : Int)) (j473 + (1 : Int)) < m871 out466 i471 j473))))))) ∧ ((s964 = false) → (∃ k1137 : Bool → Prop, (∀ (s1136 : Bool), k1137 s1136 → (((s1136 = true) → ((inL a i471) ∧ (((lget a i471).size ≤ maxLen) → (((out466.length + ([(S_rectoref11_Edit.mk (2 : Int) (lget a i471))]).length) * 24 ≤ 140737488355328) ∧ ((inR .i64 (i471 + (1 : Int))) ∧ ((I870 (out466 ++ ([(S_rectoref11_Edit.mk (2 : Int) (lget a i471))])) (i471 + (1 : Int)) j473) ∧ m871 (out466 ++ ([(S_rectoref11_Edit.mk (2 : Int) (lget a i471))])) (i471 + (1 : Int)) j473 < m871 out466 i471 j473)))))) ∧ ((s1136 = false) → ((inL b j473) ∧ (((lget b j473).size ≤ maxLen) → (((out466.length + ([(S_rectoref11_Edit.mk (3 : Int) (lget b j473))]).length) * 24 ≤ 140737488355328) ∧ ((inR .i64 (j473 + (1 : Int))) ∧ ((I870 (out466 ++ ([(S_rectoref11_Edit.mk (3 : Int) (lget b j473))])) i471 (j473 + (1 : Int))) ∧ m871 (out466 ++ ([(S_rectoref11_Edit.mk (3 : Int) (lget b j473))])) i471 (j473 + (1 : Int)) < m871 out466 i471 j473)))))))) ∧ (((i471 < (a.length : Int)) → (((j473 = (b.length : Int)) → (k1137 true)) ∧ ((¬ (j473 = (b.length : Int))) → ((inR .i64 (i471 + (1 : Int))) ∧ ((inL r75 (i471 + (1 : Int))) ∧ (((lget r75 (i471 + (1 : Int))).length ≤ 9223372036854775807) → ((inL (lget r75 (i471 + (1 : Int))) j473) ∧ ((inR .i64 (lget (lget r75 (i471 + (1 : Int))) j473)) → ((inL r75 i471) ∧ (((lget r75 i471).length ≤ 9223372036854775807) → ((inR .i64 (j473 + (1 : Int))) ∧ ((inL (lget r75 i471) (j473 + (1 : Int))) ∧ ((inR .i64 (lget (lget r75 i471) (j473 + (1 : Int)))) → (k1137 (decide ((lget (lget r75 (i471 + (1 : Int))) j473) ≥ (lget (lget r75 i471) (j473 + (1 : Int))))))))))))))))))) ∧ ((¬ (i471 < (a.length : Int))) → (k1137 false))))))) ∧ (((i471 < (a.length : Int)) → (((j473 < (b.length : Int)) → ((inL a i471) ∧ (((lget a i471).size ≤ maxLen) → ((inL b j473) ∧ (((lget b j473).size ≤ maxLen) → (k965 (decide ((lget a i471 : ByteArray) = lget b j473)))))))) ∧ ((¬ (j473 < (b.length : Int))) → (k965 false)))) ∧ ((¬ (i471 < (a.length : Int))) → (k965 false))))) ∧ ((s902 = false) → Q out466 r18))) ∧ (((i471 < (a.length : Int)) → (k903 true)) ∧ ((¬ (i471 < (a.length : Int))) → (k903 (decide (j473 < (b.length : Int))))))))))))))))))))
set_option maxRecDepth 20000 in
set_option maxHeartbeats 4000000 in
theorem rectoref11_Lines_w {X : List Nat} {w : World} {a : (List ByteArray)} {b : (List ByteArray)} {aa1 : Option Addr} {ca2 : Nat} {ab4 : Option Addr} {cb5 : Nat} {Q : (List S_rectoref11_Edit) → S_rectoref3_Wrong → Prop} (hX0 : Old X w) (ha3 : Sl rStr X w aa1 ca2 a) (hb6 : Sl rStr X w ab4 cb5 b) (hp : rectoref11_Lines_p a b Q) :
    Calls Tryd.prog 6 #[(.slice aa1 a.length ca2), (.slice ab4 b.length cb5)] w (Ret fun v w' => ∃ (r0 : (List S_rectoref11_Edit)) (r1 : S_rectoref3_Wrong), Q r0 r1 ∧ Evo [] w w' ∧ ∃ (aq01 : Option Addr) (cq02 : Nat) (aq1Parts4 : Option Addr) (cq1Parts5 : Nat), v = .tuple #[(.slice aq01 r0.length cq02), (.agg #[(.slice aq1Parts4 r1.Parts.length cq1Parts5), (.int .i64 r1.Err)])] ∧ Sl r_rectoref11_Edit X w' aq01 cq02 r0 ∧ Sl r_rectoref3_Part X w' aq1Parts4 cq1Parts5 r1.Parts ∧ inR .i64 r1.Err) := by
  have hXo := hX0
  have E0 : Evo [] w w := RB.refl _ _ _
  have hS : Sub X X := Sub.refl _
  unfold rectoref11_Lines_p at hp
  refine enter_ Tryd.func6 rfl 117 [(0, (.slice aa1 a.length ca2)), (1, (.slice ab4 b.length cb5))] (by kernel_rfl) (fun Qe hQ => ?_)
  replace hp := hp (Sl.len ha3)
  replace hp := hp (Sl.len hb6)
  refine seq_ (fun _ K7 => ?_)
  refine reg_ ?_
  refine sq (o_pv (.slice none 0 0) rfl (by kernel_rfl) ?_)
  refine sq (o_newX [(.slice none 0 0), (.int .i64 (0 : Int))] 28 (X := X) (B := w.heap.size) E0.size rfl (by kernel_rfl) ?_)
  intro b8 w9 X10 s11 k12 n13
  refine nil_ ?_
  refine then_normal (K7 _ _ _ _ ?_)
  refine seq_ (fun _ K14 => ?_)
  refine reg_ ?_
  refine sq (o_pv (.slice aa1 a.length ca2) rfl (by kernel_rfl) ?_)
  refine sq (o_pv (.slice ab4 b.length cb5) rfl (by kernel_rfl) ?_)
  have ha15 := (Sl.step ha3 s11)
  have hb16 := (Sl.step hb6 s11)
  have hXo17 := (Old.step hXo s11)
  refine sq (o_call 18 #[(.slice aa1 a.length ca2), (.slice ab4 b.length cb5)] rfl (x_call Tryd.call18 (by kernel_rfl)) (rectoref11_long_w (X := X10) (a := a) (b := b) hXo17 ha15 hb16 hp) ?_)
  rintro _ w19 ⟨r18, hp, e20, arParts22, crParts23, rfl, hrParts24, rrErr25⟩
  have s21 := Step.of0 X10 e20
  replace hp := hp (Sl.len hrParts24)
  replace hp := hp rrErr25
  have k32 := (OB.step0 k12 s21)
  have E33 := (Evo.then0 (Evo.then0 E0 (Step.evo s11)) e20)
  refine sq (o_newX [(.slice none 0 0), (.int .i64 (0 : Int))] 28 (X := X10) (B := w.heap.size) E33.size rfl (by kernel_rfl) ?_)
  intro b26 w27 X28 s29 k30 n31
  have p34 := n31 _ (OB.old k32)
  have k35 := (OB.step0 k32 s29)
  have E36 := (Evo.then0 E33 (Step.evo s29))
  refine sq (o_stB (o := 0) (v := (.agg #[(.slice arParts22 r18.Parts.length crParts23), (.int .i64 r18.Err)])) [(.slice arParts22 r18.Parts.length crParts23), (.int .i64 r18.Err)] rfl k30 (by kernel_rfl) (by kernel_rfl) Tryd.sizeOf28 rfl rfl rfl ?_)
  intro w37 s38 k39
  refine nil_ ?_
  refine then_normal (K14 _ _ _ _ ?_)
  refine seq_ (fun _ K40 => ?_)
  refine seq_ (fun _ K41 => ?_)
  refine reg_ ?_
  refine sq (o_pv (.pointer (some ⟨b26, 1, none⟩)) rfl (by kernel_rfl) ?_)
  refine sq (o_pv (.int .i64 r18.Err) rfl (x_load1 (by kernel_rfl) Tryd.isAgg3 (k39.2.1.cell' 1 rfl)) ?_)
  refine sq (o_pv (.bool (!decide (r18.Err = (0 : Int)))) rfl (by kernel_rfl) ?_)
  refine nil_ ?_
  refine then_normal (K41 _ _ _ _ ?_)
  refine cond_nd (r18.Err = (0 : Int)) (by kernel_rfl) (fun h42 => ?_) (fun h42 => ?_)
  ·
    replace hp := hp.1 h42
    refine seq_ (fun _ K43 => ?_)
    have ha44 := (Sl.step (Sl.step (Sl.step ha15 s21) s29) s38)
    have hb45 := (Sl.step (Sl.step (Sl.step hb16 s21) s29) s38)
    have hXo46 := (Old.step (Old.step (Old.step hXo17 s21) s29) s38)
    have E47 := (Evo.thenW E36 (Step.evo s38) k30.2.2)
    have hS48 := (Sub.trans (Sub.trans (Sub.trans (Sub.trans hS (Step.up s11)) (Step.up s21)) (Step.up s29)) (Step.up s38))
    have k49 := (OB.step k35 s38 p34)
    have hrParts50 := (Sl.step (Sl.step hrParts24 s29) s38)
    refine reg_drawn (RB w37.heap.size []) 2 (by kernel_rfl) (fun w51 hd52 => ?_)
    have e53 := Evo.of_drew hd52
    have z54 : w51.heap.size = w37.heap.size := by rw [hd52]
    clear hd52
    have s56 := Step.of0 X28 e53
    have er55 := RB.refl w37.heap.size [] w51
    have ha57 := (Sl.step ha44 s56)
    have hb58 := (Sl.step hb45 s56)
    have hXo59 := (Old.step hXo46 s56)
    have E60 := (Evo.then0 E47 (Step.evo s56))
    have hS61 := (Sub.trans hS48 (Step.up s56))
    have k62 := (OB.step0 k49 s56)
    have hrParts63 := (Sl.step hrParts50 s56)
    have k64 := (OB.step0 k39 s56)
    refine r_take 0 (.agg #[(.slice arParts22 r18.Parts.length crParts23), (.int .i64 r18.Err)]) (RB.pre _ _) rfl (by kernel_rfl) (fun _ _ _ h => hQ.panic _ _ _ _ _ h) (.inl ⟨rfl, fun wq hq => (x_loadN [(.slice arParts22 r18.Parts.length crParts23), (.int .i64 r18.Err)] (by kernel_rfl) Tryd.isAgg28 Tryd.sizeOf28 ((Blk.rb k64.2.1 (RB.trans er55 hq) (Nat.lt_of_lt_of_eq (Blk.lt k64.2.1) z54) (fun h => by cases h)).cells' 0 rfl))⟩) ?_
    refine r_take 1 (.slice none 0 0) (RB.pre _ _) rfl (by kernel_rfl) (fun _ _ _ h => hQ.panic _ _ _ _ _ h) (.inl ⟨rfl, fun wq hq => (by kernel_rfl)⟩) ?_
    refine r_ready [2] (by kernel_rfl) rfl (all_cons ⟨_, _, _, _, _, _, rfl, ?_⟩ all_nil)
    refine o_stB (o := 0) (v := (.agg #[(.slice arParts22 r18.Parts.length crParts23), (.int .i64 r18.Err)])) [(.slice arParts22 r18.Parts.length crParts23), (.int .i64 r18.Err)] rfl k62 (by kernel_rfl) (by kernel_rfl) Tryd.sizeOf28 rfl rfl rfl ?_
    intro w65 s66 k67
    refine ⟨fun h => absurd h (by decide), ?_⟩
    refine r_done (by kernel_rfl) ?_
    refine then_normal (K43 _ _ _ _ ?_)
    refine wp_ret ?_
    refine then_ret ?_
    have hrParts68 := (Sl.step hrParts63 s66)
    have hS69 := (Sub.trans hS61 (Step.up s66))
    have E70 := (Evo.thenW E60 (Step.evo s66) k62.2.2)
    refine end_ret hQ (.tuple #[(.slice none 0 0), (.agg #[(.slice arParts22 r18.Parts.length crParts23), (.int .i64 r18.Err)])]) (rs2 Tryd.results6 (rs_tmp (by kernel_rfl)) (rs_agg [(.slice arParts22 r18.Parts.length crParts23), (.int .i64 r18.Err)] (by kernel_rfl) Tryd.isAgg28 Tryd.sizeOf28 (k67.2.1.cells' 0 rfl))) ?_
    exact ⟨([] : List S_rectoref11_Edit), r18, hp, E70, none, 0, arParts22, crParts23, rfl, Sl.nil, (Sl.less hrParts68 hS69), rrErr25⟩
  ·
    replace hp := hp.2 h42
    refine wp_skip ?_
    refine then_normal (K40 _ _ _ _ ?_)
    refine seq_ (fun _ K71 => ?_)
    refine reg_ ?_
    refine sq (o_pv (.slice aa1 a.length ca2) rfl (by kernel_rfl) ?_)
    refine sq (o_pv (.slice ab4 b.length cb5) rfl (by kernel_rfl) ?_)
    have ha72 := (Sl.step (Sl.step (Sl.step ha15 s21) s29) s38)
    have hb73 := (Sl.step (Sl.step (Sl.step hb16 s21) s29) s38)
    have hXo74 := (Old.step (Old.step (Old.step hXo17 s21) s29) s38)
    refine sq (o_call 19 #[(.slice aa1 a.length ca2), (.slice ab4 b.length cb5)] rfl (x_call Tryd.call19 (by kernel_rfl)) (rectoref11_common_w (X := X28) (a := a) (b := b) hXo74 ha72 hb73 hp) ?_)
    rintro _ w76 ⟨r75, hp, e77, ar79, cr80, rfl, hr81⟩
    have s78 := Step.of0 X28 e77
    replace hp := hp (Sl.len hr81)
    refine sq (o_pv (.slice ar79 r75.length cr80) rfl (by kernel_rfl) ?_)
    refine nil_ ?_
    refine then_normal (K71 _ _ _ _ ?_)
    refine seq_ (fun _ K82 => ?_)
    refine reg_ ?_
    refine sq (o_pv (.slice none 0 0) rfl (by kernel_rfl) ?_)
    refine nil_ ?_
    refine then_normal (K82 _ _ _ _ ?_)
    refine seq_ (fun _ K83 => ?_)
    refine reg_ ?_
    refine sq (o_pv (.int .i64 (0 : Int)) rfl (by kernel_rfl) ?_)
    refine nil_ ?_
    refine then_normal (K83 _ _ _ _ ?_)
    refine seq_ (fun _ K84 => ?_)
    refine reg_ ?_
    refine sq (o_pv (.int .i64 (0 : Int)) rfl (by kernel_rfl) ?_)
    refine nil_ ?_
    refine then_normal (K84 _ _ _ _ ?_)
    refine seq_ (fun _ K85 => ?_)
    refine wp_block ?_
    have ha880 := (Sl.step ha72 s78)
    have hb881 := (Sl.step hb73 s78)
    have hXo882 := (Old.step hXo74 s78)
    have E883 := (Evo.then0 (Evo.thenW E36 (Step.evo s38) k30.2.2) e77)
    have hS884 := (Sub.trans (Sub.trans (Sub.trans (Sub.trans (Sub.trans hS (Step.up s11)) (Step.up s21)) (Step.up s29)) (Step.up s38)) (Step.up s78))
    have k885 := (OB.step0 (OB.step k35 s38 p34) s78)
    have hrParts886 := (Sl.step (Sl.step (Sl.step hrParts24 s29) s38) s78)
    have k887 := (OB.step0 k39 s78)
    obtain ⟨I870, m871, hI872, hp⟩ := hp
    refine loop_ 41538374868278621028243970631665408 (fun kq lq w874 => ∃ (X875 : List Nat) (out466 : (List S_rectoref11_Edit)) (i471 : Int) (j473 : Int) (a467 : Option Addr) (n468 : Nat) (c469 : Nat), (lq = [(8, (.slice a467 n468 c469)), (9, (.int .i64 i471)), (10, (.int .i64 j473))]) ∧ (kq = m871 out466 i471 j473) ∧ (Evo [] w w874) ∧ (Old X875 w874) ∧ (Sub X X875) ∧ (Sl rStr X875 w874 aa1 ca2 a) ∧ (Sl rStr X875 w874 ab4 cb5 b) ∧ (Sl (rSl (rInt .i64)) X875 w874 ar79 cr80 r75) ∧ (OB ([]) w.heap.size X875 w874 b8 [(.slice none 0 0), (.int .i64 (0 : Int))] 28) ∧ (Sl r_rectoref3_Part X875 w874 arParts22 crParts23 r18.Parts) ∧ (OB ([]) w.heap.size X875 w874 b26 [(.slice arParts22 r18.Parts.length crParts23), (.int .i64 r18.Err)] 28) ∧ (OS r_rectoref11_Edit ([]) w.heap.size X875 w874 54 a467 n468 c469 out466) ∧ (Ap ([b8]) (blkL a467)) ∧ (Ap ([b26]) (blkL a467)) ∧ (inR .i64 i471) ∧ (inR .i64 j473) ∧ (I870 out466 i471 j473)) (m871 ([] : List S_rectoref11_Edit) (0 : Int) (0 : Int)) [(8, (.slice none 0 0)), (9, (.int .i64 (0 : Int))), (10, (.int .i64 (0 : Int)))] (vs_cons (by kernel_rfl) (vs_cons (by kernel_rfl) (vs_cons (by kernel_rfl) vs_nil))) ⟨X28, ([] : List S_rectoref11_Edit), (0 : Int), (0 : Int), none, 0, 0, rfl, rfl, E883, hXo882, hS884, ha880, hb881, hr81, k885, hrParts886, k887, (OS.nil _ _ _ _), (Ap.nil_r _), (Ap.nil_r _), (by decide : inR .i64 (0 : Int)), (by decide : inR .i64 (0 : Int)), hI872⟩ ?_
    rintro _ _ w874 g877 ⟨X875, out466, i471, j473, a467, n468, c469, rfl, rfl, E888, hXo889, hS890, ha891, hb892, hr893, k894, hrParts895, k896, O470, p897, p898, ri472, rj474, hI873⟩ Kl878 hA879
    replace hp := hp out466 i471 j473 hI873 (OS.len O470) ri472 rj474
    refine seq_ (fun _ K899 => ?_)
    refine seq_ (fun _ K900 => ?_)
    obtain ⟨k903, hk904, hp⟩ := hp
    refine ground_ ?_
    refine join_ 2145386496 (fun lq w905 => ∃ (X906 : List Nat) (s902 : Bool), (lq = [(30, (.bool s902))]) ∧ (Evo [] w w905) ∧ (Old X906 w905) ∧ (Sub X X906) ∧ (Sl rStr X906 w905 aa1 ca2 a) ∧ (Sl rStr X906 w905 ab4 cb5 b) ∧ (Sl (rSl (rInt .i64)) X906 w905 ar79 cr80 r75) ∧ (OS r_rectoref11_Edit ([]) w.heap.size X906 w905 54 a467 n468 c469 out466) ∧ (OB ([]) w.heap.size X906 w905 b8 [(.slice none 0 0), (.int .i64 (0 : Int))] 28) ∧ (Sl r_rectoref3_Part X906 w905 arParts22 crParts23 r18.Parts) ∧ (OB ([]) w.heap.size X906 w905 b26 [(.slice arParts22 r18.Parts.length crParts23), (.int .i64 r18.Err)] 28) ∧ (Ap (blkL a467) ([b8])) ∧ (Ap (blkL a467) ([b26])) ∧ (k903 s902)) (fun Kj907 hJ908 => ?_) ?_
    ·
      refine reg_ ?_
      refine sq (o_pv (.int .i64 i471) rfl (by kernel_rfl) ?_)
      refine sq (o_pv (.slice aa1 a.length ca2) rfl (by kernel_rfl) ?_)
      refine sq (o_pv (.int .i64 (a.length : Int)) rfl (by kernel_rfl) ?_)
      by_cases h922 : i471 < (a.length : Int)
      ·
        replace hp := hp.1 h922
        refine sq (o_pv (.bool true) rfl (x_dt (p := i471 < (a.length : Int)) (by kernel_rfl) h922) ?_)
        refine sq (o_pv (.bool true) rfl (by kernel_rfl) ?_)
        refine sq (o_not (by kernel_rfl) ?_)
        refine sq (o_not (by kernel_rfl) ?_)
        refine sq (o_not (by kernel_rfl) ?_)
        refine sq (o_not (by kernel_rfl) ?_)
        refine sq (o_pv (.bool true) rfl (by kernel_rfl) ?_)
        refine nil_ ?_
        refine then_normal (hJ908 _ _ _ ⟨[(30, (.bool true))], fit_mk (fun _ _ => rfl) (by kernel_rfl) (vs_cons (by kernel_rfl) vs_nil), ?_⟩)
        exact ⟨X875, true, rfl, E888, hXo889, hS890, ha891, hb892, hr893, O470, k894, hrParts895, k896, (Ap.symm p897), (Ap.symm p898), hp⟩
      ·
        replace hp := hp.2 h922
        refine sq (o_pv (.bool false) rfl (x_df (p := i471 < (a.length : Int)) (by kernel_rfl) h922) ?_)
        refine sq (o_pv (.bool false) rfl (by kernel_rfl) ?_)
        refine sq (o_pv (.int .i64 j473) (by kernel_rfl) (by kernel_rfl) ?_)
        refine sq (o_pv (.slice ab4 b.length cb5) (by kernel_rfl) (by kernel_rfl) ?_)
        refine sq (o_pv (.int .i64 (b.length : Int)) (by kernel_rfl) (by kernel_rfl) ?_)
        refine sq (o_pv (.bool (decide (j473 < (b.length : Int)))) (by kernel_rfl) (by kernel_rfl) ?_)
        refine sq (o_pv (.bool (decide (j473 < (b.length : Int)))) rfl (by kernel_rfl) ?_)
        refine nil_ ?_
        refine then_normal (hJ908 _ _ _ ⟨[(30, (.bool (decide (j473 < (b.length : Int)))))], fit_mk (fun _ _ => rfl) (by kernel_rfl) (vs_cons (by kernel_rfl) vs_nil), ?_⟩)
        exact ⟨X875, (decide (j473 < (b.length : Int))), rfl, E888, hXo889, hS890, ha891, hb892, hr893, O470, k894, hrParts895, k896, (Ap.symm p897), (Ap.symm p898), hp⟩
    ·
      rintro _ w905 g923 ⟨X906, s902, rfl, E910, hXo911, hS912, ha913, hb914, hr915, O916, k917, hrParts918, k919, p920, p921, hv909⟩
      replace hp := hk904 s902 hv909
      refine then_normal (K900 _ _ _ _ ?_)
      refine cond_b s902 (by kernel_rfl) (fun h924 => ?_) (fun h924 => ?_)
      ·
        replace hp := hp.1 h924
        refine wp_skip ?_
        refine then_normal (K899 _ _ _ _ ?_)
        refine wp_block ?_
        refine wp_block ?_
        refine seq_ (fun _ K925 => ?_)
        obtain ⟨k965, hk966, hp⟩ := hp
        refine ground_ ?_
        refine join_ 9223369837831520256 (fun lq w967 => ∃ (X968 : List Nat) (s964 : Bool), (lq = [(41, (.bool s964))]) ∧ (Evo [] w w967) ∧ (Old X968 w967) ∧ (Sub X X968) ∧ (Sl rStr X968 w967 aa1 ca2 a) ∧ (Sl rStr X968 w967 ab4 cb5 b) ∧ (Sl (rSl (rInt .i64)) X968 w967 ar79 cr80 r75) ∧ (OS r_rectoref11_Edit ([]) w.heap.size X968 w967 54 a467 n468 c469 out466) ∧ (OB ([]) w.heap.size X968 w967 b8 [(.slice none 0 0), (.int .i64 (0 : Int))] 28) ∧ (Sl r_rectoref3_Part X968 w967 arParts22 crParts23 r18.Parts) ∧ (OB ([]) w.heap.size X968 w967 b26 [(.slice arParts22 r18.Parts.length crParts23), (.int .i64 r18.Err)] 28) ∧ (Ap (blkL a467) ([b8])) ∧ (Ap (blkL a467) ([b26])) ∧ (k965 s964)) (fun Kj969 hJ970 => ?_) ?_
        ·
          refine reg_drawn (RB w905.heap.size []) 21 (by kernel_rfl) (fun w984 hd985 => ?_)
          have e986 := Evo.of_drew hd985
          have z987 : w984.heap.size = w905.heap.size := by rw [hd985]
          clear hd985
          have s989 := Step.of0 X906 e986
          have er988 := RB.refl w905.heap.size [] w984
          have E990 := (Evo.then0 E910 (Step.evo s989))
          have hXo991 := (Old.step hXo911 s989)
          have hS992 := (Sub.trans hS912 (Step.up s989))
          have ha993 := (Sl.step ha913 s989)
          have hb994 := (Sl.step hb914 s989)
          have hr995 := (Sl.step hr915 s989)
          have O996 := (OS.step0 O916 s989)
          have k997 := (OB.step0 k917 s989)
          have hrParts998 := (Sl.step hrParts918 s989)
          have k999 := (OB.step0 k919 s989)
          refine r_take 0 (.int .i64 i471) (RB.pre _ _) rfl (by kernel_rfl) (fun _ _ _ h => hQ.panic _ _ _ _ _ h) (.inl ⟨rfl, fun wq hq => (by kernel_rfl)⟩) ?_
          refine r_take 1 (.slice aa1 a.length ca2) (RB.pre _ _) rfl (by kernel_rfl) (fun _ _ _ h => hQ.panic _ _ _ _ _ h) (.inl ⟨rfl, fun wq hq => (by kernel_rfl)⟩) ?_
          refine r_take 2 (.int .i64 (a.length : Int)) (RB.pre _ _) rfl (by kernel_rfl) (fun _ _ _ h => hQ.panic _ _ _ _ _ h) (.inl ⟨rfl, fun wq hq => (by kernel_rfl)⟩) ?_
          by_cases h1000 : i471 < (a.length : Int)
          ·
            replace hp := hp.1 h1000
            refine r_take 3 (.bool true) (RB.pre _ _) rfl (by kernel_rfl) (fun _ _ _ h => hQ.panic _ _ _ _ _ h) (.inl ⟨rfl, fun wq hq => (x_dt (p := i471 < (a.length : Int)) (by kernel_rfl) h1000)⟩) ?_
            refine r_take 4 (.bool true) (RB.pre _ _) rfl (by kernel_rfl) (fun _ _ _ h => hQ.panic _ _ _ _ _ h) (.inl ⟨rfl, fun wq hq => (by kernel_rfl)⟩) ?_
            refine r_take 5 (.int .i64 j473) (RB.pre _ _) rfl (by kernel_rfl) (fun _ _ _ h => hQ.panic _ _ _ _ _ h) (.inl ⟨(by kernel_rfl), fun wq hq => (by kernel_rfl)⟩) ?_
            refine r_take 6 (.slice ab4 b.length cb5) (RB.pre _ _) rfl (by kernel_rfl) (fun _ _ _ h => hQ.panic _ _ _ _ _ h) (.inl ⟨(by kernel_rfl), fun wq hq => (by kernel_rfl)⟩) ?_
            refine r_take 7 (.int .i64 (b.length : Int)) (RB.pre _ _) rfl (by kernel_rfl) (fun _ _ _ h => hQ.panic _ _ _ _ _ h) (.inl ⟨(by kernel_rfl), fun wq hq => (by kernel_rfl)⟩) ?_
            by_cases h1001 : j473 < (b.length : Int)
            ·
              replace hp := hp.1 h1001
              refine r_take 8 (.bool true) (RB.pre _ _) rfl (by kernel_rfl) (fun _ _ _ h => hQ.panic _ _ _ _ _ h) (.inl ⟨(by kernel_rfl), fun wq hq => (x_dt (p := j473 < (b.length : Int)) (by kernel_rfl) h1001)⟩) ?_
              refine r_take 9 (.bool true) (RB.pre _ _) rfl (by kernel_rfl) (fun _ _ _ h => hQ.panic _ _ _ _ _ h) (.inl ⟨rfl, fun wq hq => (by kernel_rfl)⟩) ?_
              refine r_take 10 (.bool true) (RB.pre _ _) rfl (by kernel_rfl) (fun _ _ _ h => hQ.panic _ _ _ _ _ h) (.inl ⟨rfl, fun wq hq => (by kernel_rfl)⟩) ?_
              refine r_take 11 (.slice aa1 a.length ca2) (RB.pre _ _) rfl (by kernel_rfl) (fun _ _ _ h => hQ.panic _ _ _ _ _ h) (.inl ⟨(by kernel_rfl), fun wq hq => (by kernel_rfl)⟩) ?_
              refine r_take 12 (.int .i64 i471) (RB.pre _ _) rfl (by kernel_rfl) (fun _ _ _ h => hQ.panic _ _ _ _ _ h) (.inl ⟨(by kernel_rfl), fun wq hq => (by kernel_rfl)⟩) ?_
              obtain ⟨h1002, hp⟩ := hp
              obtain ⟨b1003, o1004, cs1005, ha1006, nx1007, lt1008, ok1009, hc1010⟩ := Sl.atI ha993 i471 h1002
              obtain ⟨rfl, ze1011⟩ := ok1009
              replace hp := hp ze1011
              refine r_take 13 (.pointer (some ⟨b1003, o1004 + i471.toNat * 1, none⟩)) (RB.pre _ _) rfl (by kernel_rfl) (fun _ _ _ h => hQ.panic _ _ _ _ _ h) (.inl ⟨(by kernel_rfl), fun wq hq => (x_ixA (m := a.length) (c := ca2) (k := .i64) (i := i471) Tryd.underlying22 Tryd.sizeOf9 (by rw [← ha1006]; kernel_rfl) (by kernel_rfl) h1002)⟩) ?_
              refine r_take 14 (.string (lget a i471)) (RB.pre _ _) rfl (by kernel_rfl) (fun _ _ _ h => hQ.panic _ _ _ _ _ h) (.inl ⟨(by kernel_rfl), fun wq hq => (x_load1 (by kernel_rfl) Tryd.isAgg9 ((CellsAt.rb hc1010 (RB.trans er988 hq) (Nat.lt_of_lt_of_eq lt1008 z987) (fun h => by cases h)) 0 _ rfl))⟩) ?_
              refine r_take 15 (.slice ab4 b.length cb5) (RB.pre _ _) rfl (by kernel_rfl) (fun _ _ _ h => hQ.panic _ _ _ _ _ h) (.inl ⟨(by kernel_rfl), fun wq hq => (by kernel_rfl)⟩) ?_
              refine r_take 16 (.int .i64 j473) (RB.pre _ _) rfl (by kernel_rfl) (fun _ _ _ h => hQ.panic _ _ _ _ _ h) (.inl ⟨(by kernel_rfl), fun wq hq => (by kernel_rfl)⟩) ?_
              obtain ⟨h1012, hp⟩ := hp
              obtain ⟨b1013, o1014, cs1015, ha1016, nx1017, lt1018, ok1019, hc1020⟩ := Sl.atI hb994 j473 h1012
              obtain ⟨rfl, ze1021⟩ := ok1019
              replace hp := hp ze1021
              refine r_take 17 (.pointer (some ⟨b1013, o1014 + j473.toNat * 1, none⟩)) (RB.pre _ _) rfl (by kernel_rfl) (fun _ _ _ h => hQ.panic _ _ _ _ _ h) (.inl ⟨(by kernel_rfl), fun wq hq => (x_ixA (m := b.length) (c := cb5) (k := .i64) (i := j473) Tryd.underlying22 Tryd.sizeOf9 (by rw [← ha1016]; kernel_rfl) (by kernel_rfl) h1012)⟩) ?_
              refine r_take 18 (.string (lget b j473)) (RB.pre _ _) rfl (by kernel_rfl) (fun _ _ _ h => hQ.panic _ _ _ _ _ h) (.inl ⟨(by kernel_rfl), fun wq hq => (x_load1 (by kernel_rfl) Tryd.isAgg9 ((CellsAt.rb hc1020 (RB.trans er988 hq) (Nat.lt_of_lt_of_eq lt1018 z987) (fun h => by cases h)) 0 _ rfl))⟩) ?_
              refine r_take 19 (.bool (decide ((lget a i471 : ByteArray) = lget b j473))) (RB.pre _ _) rfl (by kernel_rfl) (fun _ _ _ h => hQ.panic _ _ _ _ _ h) (.inl ⟨(by kernel_rfl), fun wq hq => (x_streq (by kernel_rfl) (by kernel_rfl))⟩) ?_
              refine r_take 20 (.bool (decide ((lget a i471 : ByteArray) = lget b j473))) (RB.pre _ _) rfl (by kernel_rfl) (fun _ _ _ h => hQ.panic _ _ _ _ _ h) (.inl ⟨rfl, fun wq hq => (by kernel_rfl)⟩) ?_
              refine r_ready [21] (by kernel_rfl) rfl (all_cons ⟨_, _, _, _, _, _, rfl, ?_⟩ all_nil)
              refine o_pv (.bool (decide ((lget a i471 : ByteArray) = lget b j473))) rfl (by kernel_rfl) ?_
              refine ⟨fun h => absurd h (by decide), ?_⟩
              refine r_done (by kernel_rfl) ?_
              refine then_normal (hJ970 _ _ _ ⟨[(41, (.bool (decide ((lget a i471 : ByteArray) = lget b j473))))], fit_mk (fun _ _ => rfl) (by kernel_rfl) (vs_cons (by kernel_rfl) vs_nil), ?_⟩)
              exact ⟨X906, (decide ((lget a i471 : ByteArray) = lget b j473)), rfl, E990, hXo991, hS992, ha993, hb994, hr995, O996, k997, hrParts998, k999, p920, p921, hp⟩
            ·
              replace hp := hp.2 h1001
              refine r_take 8 (.bool false) (RB.pre _ _) rfl (by kernel_rfl) (fun _ _ _ h => hQ.panic _ _ _ _ _ h) (.inl ⟨(by kernel_rfl), fun wq hq => (x_df (p := j473 < (b.length : Int)) (by kernel_rfl) h1001)⟩) ?_
              refine r_take 9 (.bool false) (RB.pre _ _) rfl (by kernel_rfl) (fun _ _ _ h => hQ.panic _ _ _ _ _ h) (.inl ⟨rfl, fun wq hq => (by kernel_rfl)⟩) ?_
              refine r_take 10 (.bool false) (RB.pre _ _) rfl (by kernel_rfl) (fun _ _ _ h => hQ.panic _ _ _ _ _ h) (.inl ⟨rfl, fun wq hq => (by kernel_rfl)⟩) ?_
              refine r_take 11 undef (RB.pre _ _) rfl (by kernel_rfl) (fun _ _ _ h => hQ.panic _ _ _ _ _ h) (.inr ⟨by kernel_rfl, rfl⟩) ?_
              refine r_take 12 undef (RB.pre _ _) rfl (by kernel_rfl) (fun _ _ _ h => hQ.panic _ _ _ _ _ h) (.inr ⟨by kernel_rfl, rfl⟩) ?_
              refine r_take 13 undef (RB.pre _ _) rfl (by kernel_rfl) (fun _ _ _ h => hQ.panic _ _ _ _ _ h) (.inr ⟨by kernel_rfl, rfl⟩) ?_
              refine r_take 14 undef (RB.pre _ _) rfl (by kernel_rfl) (fun _ _ _ h => hQ.panic _ _ _ _ _ h) (.inr ⟨by kernel_rfl, rfl⟩) ?_
              refine r_take 15 undef (RB.pre _ _) rfl (by kernel_rfl) (fun _ _ _ h => hQ.panic _ _ _ _ _ h) (.inr ⟨by kernel_rfl, rfl⟩) ?_
              refine r_take 16 undef (RB.pre _ _) rfl (by kernel_rfl) (fun _ _ _ h => hQ.panic _ _ _ _ _ h) (.inr ⟨by kernel_rfl, rfl⟩) ?_
              refine r_take 17 undef (RB.pre _ _) rfl (by kernel_rfl) (fun _ _ _ h => hQ.panic _ _ _ _ _ h) (.inr ⟨by kernel_rfl, rfl⟩) ?_
              refine r_take 18 undef (RB.pre _ _) rfl (by kernel_rfl) (fun _ _ _ h => hQ.panic _ _ _ _ _ h) (.inr ⟨by kernel_rfl, rfl⟩) ?_
              refine r_take 19 undef (RB.pre _ _) rfl (by kernel_rfl) (fun _ _ _ h => hQ.panic _ _ _ _ _ h) (.inr ⟨by kernel_rfl, rfl⟩) ?_
              refine r_take 20 (.bool false) (RB.pre _ _) rfl (by kernel_rfl) (fun _ _ _ h => hQ.panic _ _ _ _ _ h) (.inl ⟨rfl, fun wq hq => (by kernel_rfl)⟩) ?_
              refine r_ready [21] (by kernel_rfl) rfl (all_cons ⟨_, _, _, _, _, _, rfl, ?_⟩ all_nil)
              refine o_pv (.bool false) rfl (by kernel_rfl) ?_
              refine ⟨fun h => absurd h (by decide), ?_⟩
              refine r_done (by kernel_rfl) ?_
              refine then_normal (hJ970 _ _ _ ⟨[(41, (.bool false))], fit_mk (fun _ _ => rfl) (by kernel_rfl) (vs_cons (by kernel_rfl) vs_nil), ?_⟩)
              exact ⟨X906, false, rfl, E990, hXo991, hS992, ha993, hb994, hr995, O996, k997, hrParts998, k999, p920, p921, hp⟩
          ·
            replace hp := hp.2 h1000
            refine r_take 3 (.bool false) (RB.pre _ _) rfl (by kernel_rfl) (fun _ _ _ h => hQ.panic _ _ _ _ _ h) (.inl ⟨rfl, fun wq hq => (x_df (p := i471 < (a.length : Int)) (by kernel_rfl) h1000)⟩) ?_
            refine r_take 4 (.bool false) (RB.pre _ _) rfl (by kernel_rfl) (fun _ _ _ h => hQ.panic _ _ _ _ _ h) (.inl ⟨rfl, fun wq hq => (by kernel_rfl)⟩) ?_
            refine r_take 5 undef (RB.pre _ _) rfl (by kernel_rfl) (fun _ _ _ h => hQ.panic _ _ _ _ _ h) (.inr ⟨by kernel_rfl, rfl⟩) ?_
            refine r_take 6 undef (RB.pre _ _) rfl (by kernel_rfl) (fun _ _ _ h => hQ.panic _ _ _ _ _ h) (.inr ⟨by kernel_rfl, rfl⟩) ?_
            refine r_take 7 undef (RB.pre _ _) rfl (by kernel_rfl) (fun _ _ _ h => hQ.panic _ _ _ _ _ h) (.inr ⟨by kernel_rfl, rfl⟩) ?_
            refine r_take 8 undef (RB.pre _ _) rfl (by kernel_rfl) (fun _ _ _ h => hQ.panic _ _ _ _ _ h) (.inr ⟨by kernel_rfl, rfl⟩) ?_
            refine r_take 9 (.bool false) (RB.pre _ _) rfl (by kernel_rfl) (fun _ _ _ h => hQ.panic _ _ _ _ _ h) (.inl ⟨rfl, fun wq hq => (by kernel_rfl)⟩) ?_
            refine r_take 10 (.bool false) (RB.pre _ _) rfl (by kernel_rfl) (fun _ _ _ h => hQ.panic _ _ _ _ _ h) (.inl ⟨rfl, fun wq hq => (by kernel_rfl)⟩) ?_
            refine r_take 11 undef (RB.pre _ _) rfl (by kernel_rfl) (fun _ _ _ h => hQ.panic _ _ _ _ _ h) (.inr ⟨by kernel_rfl, rfl⟩) ?_
            refine r_take 12 undef (RB.pre _ _) rfl (by kernel_rfl) (fun _ _ _ h => hQ.panic _ _ _ _ _ h) (.inr ⟨by kernel_rfl, rfl⟩) ?_
            refine r_take 13 undef (RB.pre _ _) rfl (by kernel_rfl) (fun _ _ _ h => hQ.panic _ _ _ _ _ h) (.inr ⟨by kernel_rfl, rfl⟩) ?_
            refine r_take 14 undef (RB.pre _ _) rfl (by kernel_rfl) (fun _ _ _ h => hQ.panic _ _ _ _ _ h) (.inr ⟨by kernel_rfl, rfl⟩) ?_
            refine r_take 15 undef (RB.pre _ _) rfl (by kernel_rfl) (fun _ _ _ h => hQ.panic _ _ _ _ _ h) (.inr ⟨by kernel_rfl, rfl⟩) ?_
            refine r_take 16 undef (RB.pre _ _) rfl (by kernel_rfl) (fun _ _ _ h => hQ.panic _ _ _ _ _ h) (.inr ⟨by kernel_rfl, rfl⟩) ?_
            refine r_take 17 undef (RB.pre _ _) rfl (by kernel_rfl) (fun _ _ _ h => hQ.panic _ _ _ _ _ h) (.inr ⟨by kernel_rfl, rfl⟩) ?_
            refine r_take 18 undef (RB.pre _ _) rfl (by kernel_rfl) (fun _ _ _ h => hQ.panic _ _ _ _ _ h) (.inr ⟨by kernel_rfl, rfl⟩) ?_
            refine r_take 19 undef (RB.pre _ _) rfl (by kernel_rfl) (fun _ _ _ h => hQ.panic _ _ _ _ _ h) (.inr ⟨by kernel_rfl, rfl⟩) ?_
            refine r_take 20 (.bool false) (RB.pre _ _) rfl (by kernel_rfl) (fun _ _ _ h => hQ.panic _ _ _ _ _ h) (.inl ⟨rfl, fun wq hq => (by kernel_rfl)⟩) ?_
            refine r_ready [21] (by kernel_rfl) rfl (all_cons ⟨_, _, _, _, _, _, rfl, ?_⟩ all_nil)
            refine o_pv (.bool false) rfl (by kernel_rfl) ?_
            refine ⟨fun h => absurd h (by decide), ?_⟩
            refine r_done (by kernel_rfl) ?_
            refine then_normal (hJ970 _ _ _ ⟨[(41, (.bool false))], fit_mk (fun _ _ => rfl) (by kernel_rfl) (vs_cons (by kernel_rfl) vs_nil), ?_⟩)
            exact ⟨X906, false, rfl, E990, hXo991, hS992, ha993, hb994, hr995, O996, k997, hrParts998, k999, p920, p921, hp⟩
        ·
          rintro _ w967 g1022 ⟨X968, s964, rfl, E972, hXo973, hS974, ha975, hb976, hr977, O978, k979, hrParts980, k981, p982, p983, hv971⟩
          replace hp := hk966 s964 hv971
          refine then_normal (K925 _ _ _ _ ?_)
          refine cond_b s964 (by kernel_rfl) (fun h1023 => ?_) (fun h1023 => ?_)
          ·
            replace hp := hp.1 h1023
            refine seq_ (fun _ K1024 => ?_)
            refine reg_ ?_
            refine sq (o_pv (.slice a467 n468 c469) rfl (by kernel_rfl) ?_)
            refine sq (o_pv (.slice aa1 a.length ca2) rfl (by kernel_rfl) ?_)
            refine sq (o_pv (.int .i64 i471) rfl (by kernel_rfl) ?_)
            obtain ⟨h1025, hp⟩ := hp
            obtain ⟨b1026, o1027, cs1028, ha1029, nx1030, lt1031, ok1032, hc1033⟩ := Sl.atI ha975 i471 h1025
            obtain ⟨rfl, ze1034⟩ := ok1032
            replace hp := hp ze1034
            refine sq (o_pv (.pointer (some ⟨b1026, o1027 + i471.toNat * 1, none⟩)) rfl (x_ixA (m := a.length) (c := ca2) (k := .i64) (i := i471) Tryd.underlying22 Tryd.sizeOf9 (by rw [← ha1029]; kernel_rfl) (by kernel_rfl) h1025) ?_)
            refine sq (o_pv (.string (lget a i471)) rfl (x_load1 (by kernel_rfl) Tryd.isAgg9 (hc1033 0 _ rfl)) ?_)
            refine sq (o_pv (.agg #[(.int .i64 (1 : Int)), (.string (lget a i471))]) rfl (by kernel_rfl) ?_)
            refine sq (o_rowX (R := r_rectoref11_Edit) [(.int .i64 (1 : Int)), (.string (lget a i471))] [(S_rectoref11_Edit.mk (1 : Int) (lget a i471))] 54 1 (X := X968) (B := w.heap.size) E972.size rfl (by kernel_rfl) (Flat.cons (cs := [(.int .i64 (1 : Int)), (.string (lget a i471))]) (r_rectoref11_Edit_mk (by decide : inR .i64 (1 : Int)) ze1034) Flat.nil) rfl (by decide) ?_)
            intro b1035 w1036 X1037 s1038 O1039 n1040
            have p1041 := n1040 _ (OS.old O978)
            have p1042 := n1040 _ (OB.old k979)
            have p1043 := n1040 _ (OB.old k981)
            obtain ⟨h1044, hp⟩ := hp
            have O1045 := (OS.step0 O978 s1038)
            have k1046 := (OB.step0 k979 s1038)
            have k1047 := (OB.step0 k981 s1038)
            have E1048 := (Evo.then0 E972 (Step.evo s1038))
            refine sq (o_appX (R := r_rectoref11_Edit) (X := X1037) (B := w.heap.size) (L := out466) (M := [(S_rectoref11_Edit.mk (1 : Int) (lget a i471))]) rfl elT25 rfl E1048.size O1045 (OS.src O1039) O1039.1 (by kernel_rfl) (by kernel_rfl) h1044 ?_)
            intro a1049 n1050 c1051 w1052 X1053 s1054 O1055 gr1056
            have p1057 := gr1056 _ p897 (OB.old k1046)
            have p1058 := gr1056 _ p898 (OB.old k1047)
            refine sq (o_pv (.slice a1049 n1050 c1051) rfl (by kernel_rfl) ?_)
            refine nil_ ?_
            refine then_normal (K1024 _ _ _ _ ?_)
            refine seq_ (fun _ K1059 => ?_)
            refine reg_ ?_
            refine sq (o_pv (.int .i64 i471) rfl (by kernel_rfl) ?_)
            obtain ⟨h1060, hp⟩ := hp
            refine sq (o_pv (.int .i64 (i471 + (1 : Int))) rfl (x_add2 (k := .i64) (a := i471) (b := (1 : Int)) (i471 + (1 : Int)) (by kernel_rfl) (by kernel_rfl) (wrap_inR h1060)) ?_)
            refine sq (o_pv (.int .i64 (i471 + (1 : Int))) rfl (by kernel_rfl) ?_)
            refine nil_ ?_
            refine then_normal (K1059 _ _ _ _ ?_)
            refine reg_ ?_
            refine sq (o_pv (.int .i64 j473) rfl (by kernel_rfl) ?_)
            obtain ⟨h1061, hp⟩ := hp
            refine sq (o_pv (.int .i64 (j473 + (1 : Int))) rfl (x_add2 (k := .i64) (a := j473) (b := (1 : Int)) (j473 + (1 : Int)) (by kernel_rfl) (by kernel_rfl) (wrap_inR h1061)) ?_)
            refine sq (o_pv (.int .i64 (j473 + (1 : Int))) rfl (by kernel_rfl) ?_)
            refine nil_ ?_
            refine blk_normal ?_
            refine blk_normal ?_
            have E1062 := (Evo.thenW E1048 (Step.evo s1054) O1045.2.2)
            have hXo1063 := (Old.step (Old.step hXo973 s1038) s1054)
            have hS1064 := (Sub.trans (Sub.trans hS974 (Step.up s1038)) (Step.up s1054))
            have ha1065 := (Sl.step (Sl.step ha975 s1038) s1054)
            have hb1066 := (Sl.step (Sl.step hb976 s1038) s1054)
            have hr1067 := (Sl.step (Sl.step hr977 s1038) s1054)
            have k1068 := (OB.step k1046 s1054 p897)
            have hrParts1069 := (Sl.step (Sl.step hrParts980 s1038) s1054)
            have k1070 := (OB.step k1047 s1054 p898)
            refine then_normal (hA879 _ _ _ ⟨_, [(8, (.slice a1049 n1050 c1051)), (9, (.int .i64 (i471 + (1 : Int)))), (10, (.int .i64 (j473 + (1 : Int))))], hp.2, fit_mk (AgB.nest (AgB.look (AgB.nest (AgB.look (AgB.mix _ _ _) (by kernel_rfl)) (by kernel_rfl) (by kernel_rfl)) (by kernel_rfl)) (by kernel_rfl) (by kernel_rfl)) (by kernel_rfl) (vs_cons (by kernel_rfl) (vs_cons (by kernel_rfl) (vs_cons (by kernel_rfl) vs_nil))), ?_⟩)
            exact ⟨X1053, (out466 ++ ([(S_rectoref11_Edit.mk (1 : Int) (lget a i471))])), (i471 + (1 : Int)), (j473 + (1 : Int)), a1049, n1050, c1051, rfl, rfl, E1062, hXo1063, hS1064, ha1065, hb1066, hr1067, k1068, hrParts1069, k1070, O1055, p1057, p1058, h1060, h1061, hp.1⟩
          ·
            replace hp := hp.2 h1023
            refine seq_ (fun _ K1071 => ?_)
            obtain ⟨k1137, hk1138, hp⟩ := hp
            refine ground_ ?_
            refine join_ 40564819169524408984937340862464 (fun lq w1139 => ∃ (X1140 : List Nat) (s1136 : Bool), (lq = [(75, (.bool s1136))]) ∧ (Evo [] w w1139) ∧ (Old X1140 w1139) ∧ (Sub X X1140) ∧ (Sl rStr X1140 w1139 aa1 ca2 a) ∧ (Sl rStr X1140 w1139 ab4 cb5 b) ∧ (Sl (rSl (rInt .i64)) X1140 w1139 ar79 cr80 r75) ∧ (OS r_rectoref11_Edit ([]) w.heap.size X1140 w1139 54 a467 n468 c469 out466) ∧ (OB ([]) w.heap.size X1140 w1139 b8 [(.slice none 0 0), (.int .i64 (0 : Int))] 28) ∧ (Sl r_rectoref3_Part X1140 w1139 arParts22 crParts23 r18.Parts) ∧ (OB ([]) w.heap.size X1140 w1139 b26 [(.slice arParts22 r18.Parts.length crParts23), (.int .i64 r18.Err)] 28) ∧ (Ap (blkL a467) ([b8])) ∧ (Ap (blkL a467) ([b26])) ∧ (k1137 s1136)) (fun Kj1141 hJ1142 => ?_) ?_
            ·
              refine reg_drawn (RB w967.heap.size []) 29 (by kernel_rfl) (fun w1156 hd1157 => ?_)
              have e1158 := Evo.of_drew hd1157
              have z1159 : w1156.heap.size = w967.heap.size := by rw [hd1157]
              clear hd1157
              have s1161 := Step.of0 X968 e1158
              have er1160 := RB.refl w967.heap.size [] w1156
              have E1162 := (Evo.then0 E972 (Step.evo s1161))
              have hXo1163 := (Old.step hXo973 s1161)
              have hS1164 := (Sub.trans hS974 (Step.up s1161))
              have ha1165 := (Sl.step ha975 s1161)
              have hb1166 := (Sl.step hb976 s1161)
              have hr1167 := (Sl.step hr977 s1161)
              have O1168 := (OS.step0 O978 s1161)
              have k1169 := (OB.step0 k979 s1161)
              have hrParts1170 := (Sl.step hrParts980 s1161)
              have k1171 := (OB.step0 k981 s1161)
              refine r_take 0 (.int .i64 i471) (RB.pre _ _) rfl (by kernel_rfl) (fun _ _ _ h => hQ.panic _ _ _ _ _ h) (.inl ⟨rfl, fun wq hq => (by kernel_rfl)⟩) ?_
              refine r_take 1 (.slice aa1 a.length ca2) (RB.pre _ _) rfl (by kernel_rfl) (fun _ _ _ h => hQ.panic _ _ _ _ _ h) (.inl ⟨rfl, fun wq hq => (by kernel_rfl)⟩) ?_
              refine r_take 2 (.int .i64 (a.length : Int)) (RB.pre _ _) rfl (by kernel_rfl) (fun _ _ _ h => hQ.panic _ _ _ _ _ h) (.inl ⟨rfl, fun wq hq => (by kernel_rfl)⟩) ?_
              by_cases h1172 : i471 < (a.length : Int)
              ·
                replace hp := hp.1 h1172
                refine r_take 3 (.bool true) (RB.pre _ _) rfl (by kernel_rfl) (fun _ _ _ h => hQ.panic _ _ _ _ _ h) (.inl ⟨rfl, fun wq hq => (x_dt (p := i471 < (a.length : Int)) (by kernel_rfl) h1172)⟩) ?_
                refine r_take 4 (.bool true) (RB.pre _ _) rfl (by kernel_rfl) (fun _ _ _ h => hQ.panic _ _ _ _ _ h) (.inl ⟨rfl, fun wq hq => (by kernel_rfl)⟩) ?_
                refine r_take 5 (.int .i64 j473) (RB.pre _ _) rfl (by kernel_rfl) (fun _ _ _ h => hQ.panic _ _ _ _ _ h) (.inl ⟨(by kernel_rfl), fun wq hq => (by kernel_rfl)⟩) ?_
                refine r_take 6 (.slice ab4 b.length cb5) (RB.pre _ _) rfl (by kernel_rfl) (fun _ _ _ h => hQ.panic _ _ _ _ _ h) (.inl ⟨(by kernel_rfl), fun wq hq => (by kernel_rfl)⟩) ?_
                refine r_take 7 (.int .i64 (b.length : Int)) (RB.pre _ _) rfl (by kernel_rfl) (fun _ _ _ h => hQ.panic _ _ _ _ _ h) (.inl ⟨(by kernel_rfl), fun wq hq => (by kernel_rfl)⟩) ?_
                by_cases h1173 : j473 = (b.length : Int)
                ·
                  replace hp := hp.1 h1173
                  refine r_take 8 (.bool true) (RB.pre _ _) rfl (by kernel_rfl) (fun _ _ _ h => hQ.panic _ _ _ _ _ h) (.inl ⟨(by kernel_rfl), fun wq hq => (x_dt (p := j473 = (b.length : Int)) (by kernel_rfl) h1173)⟩) ?_
                  refine r_take 9 (.bool true) (RB.pre _ _) rfl (by kernel_rfl) (fun _ _ _ h => hQ.panic _ _ _ _ _ h) (.inl ⟨(by kernel_rfl), fun wq hq => (by kernel_rfl)⟩) ?_
                  refine r_take 10 undef (RB.pre _ _) rfl (by kernel_rfl) (fun _ _ _ h => hQ.panic _ _ _ _ _ h) (.inr ⟨by kernel_rfl, rfl⟩) ?_
                  refine r_take 11 undef (RB.pre _ _) rfl (by kernel_rfl) (fun _ _ _ h => hQ.panic _ _ _ _ _ h) (.inr ⟨by kernel_rfl, rfl⟩) ?_
                  refine r_take 12 undef (RB.pre _ _) rfl (by kernel_rfl) (fun _ _ _ h => hQ.panic _ _ _ _ _ h) (.inr ⟨by kernel_rfl, rfl⟩) ?_
                  refine r_take 13 undef (RB.pre _ _) rfl (by kernel_rfl) (fun _ _ _ h => hQ.panic _ _ _ _ _ h) (.inr ⟨by kernel_rfl, rfl⟩) ?_
                  refine r_take 14 undef (RB.pre _ _) rfl (by kernel_rfl) (fun _ _ _ h => hQ.panic _ _ _ _ _ h) (.inr ⟨by kernel_rfl, rfl⟩) ?_
                  refine r_take 15 undef (RB.pre _ _) rfl (by kernel_rfl) (fun _ _ _ h => hQ.panic _ _ _ _ _ h) (.inr ⟨by kernel_rfl, rfl⟩) ?_
                  refine r_take 16 undef (RB.pre _ _) rfl (by kernel_rfl) (fun _ _ _ h => hQ.panic _ _ _ _ _ h) (.inr ⟨by kernel_rfl, rfl⟩) ?_
                  refine r_take 17 undef (RB.pre _ _) rfl (by kernel_rfl) (fun _ _ _ h => hQ.panic _ _ _ _ _ h) (.inr ⟨by kernel_rfl, rfl⟩) ?_
                  refine r_take 18 undef (RB.pre _ _) rfl (by kernel_rfl) (fun _ _ _ h => hQ.panic _ _ _ _ _ h) (.inr ⟨by kernel_rfl, rfl⟩) ?_
                  refine r_take 19 undef (RB.pre _ _) rfl (by kernel_rfl) (fun _ _ _ h => hQ.panic _ _ _ _ _ h) (.inr ⟨by kernel_rfl, rfl⟩) ?_
                  refine r_take 20 undef (RB.pre _ _) rfl (by kernel_rfl) (fun _ _ _ h => hQ.panic _ _ _ _ _ h) (.inr ⟨by kernel_rfl, rfl⟩) ?_
                  refine r_take 21 undef (RB.pre _ _) rfl (by kernel_rfl) (fun _ _ _ h => hQ.panic _ _ _ _ _ h) (.inr ⟨by kernel_rfl, rfl⟩) ?_
                  refine r_take 22 undef (RB.pre _ _) rfl (by kernel_rfl) (fun _ _ _ h => hQ.panic _ _ _ _ _ h) (.inr ⟨by kernel_rfl, rfl⟩) ?_
                  refine r_take 23 undef (RB.pre _ _) rfl (by kernel_rfl) (fun _ _ _ h => hQ.panic _ _ _ _ _ h) (.inr ⟨by kernel_rfl, rfl⟩) ?_
                  refine r_take 24 undef (RB.pre _ _) rfl (by kernel_rfl) (fun _ _ _ h => hQ.panic _ _ _ _ _ h) (.inr ⟨by kernel_rfl, rfl⟩) ?_
                  refine r_take 25 undef (RB.pre _ _) rfl (by kernel_rfl) (fun _ _ _ h => hQ.panic _ _ _ _ _ h) (.inr ⟨by kernel_rfl, rfl⟩) ?_
                  refine r_take 26 undef (RB.pre _ _) rfl (by kernel_rfl) (fun _ _ _ h => hQ.panic _ _ _ _ _ h) (.inr ⟨by kernel_rfl, rfl⟩) ?_
                  refine r_take 27 (.bool true) (RB.pre _ _) rfl (by kernel_rfl) (fun _ _ _ h => hQ.panic _ _ _ _ _ h) (.inl ⟨(by kernel_rfl), fun wq hq => (by kernel_rfl)⟩) ?_
                  refine r_take 28 (.bool true) (RB.pre _ _) rfl (by kernel_rfl) (fun _ _ _ h => hQ.panic _ _ _ _ _ h) (.inl ⟨rfl, fun wq hq => (by kernel_rfl)⟩) ?_
                  refine r_ready [29] (by kernel_rfl) rfl (all_cons ⟨_, _, _, _, _, _, rfl, ?_⟩ all_nil)
                  refine o_pv (.bool true) rfl (by kernel_rfl) ?_
                  refine ⟨fun h => absurd h (by decide), ?_⟩
                  refine r_done (by kernel_rfl) ?_
                  refine then_normal (hJ1142 _ _ _ ⟨[(75, (.bool true))], fit_mk (fun _ _ => rfl) (by kernel_rfl) (vs_cons (by kernel_rfl) vs_nil), ?_⟩)
                  exact ⟨X968, true, rfl, E1162, hXo1163, hS1164, ha1165, hb1166, hr1167, O1168, k1169, hrParts1170, k1171, p982, p983, hp⟩
                ·
                  replace hp := hp.2 h1173
                  refine r_take 8 (.bool false) (RB.pre _ _) rfl (by kernel_rfl) (fun _ _ _ h => hQ.panic _ _ _ _ _ h) (.inl ⟨(by kernel_rfl), fun wq hq => (x_df (p := j473 = (b.length : Int)) (by kernel_rfl) h1173)⟩) ?_
                  refine r_take 9 (.bool false) (RB.pre _ _) rfl (by kernel_rfl) (fun _ _ _ h => hQ.panic _ _ _ _ _ h) (.inl ⟨(by kernel_rfl), fun wq hq => (by kernel_rfl)⟩) ?_
                  refine r_take 10 (.slice ar79 r75.length cr80) (RB.pre _ _) rfl (by kernel_rfl) (fun _ _ _ h => hQ.panic _ _ _ _ _ h) (.inl ⟨(by kernel_rfl), fun wq hq => (by kernel_rfl)⟩) ?_
                  refine r_take 11 (.int .i64 i471) (RB.pre _ _) rfl (by kernel_rfl) (fun _ _ _ h => hQ.panic _ _ _ _ _ h) (.inl ⟨(by kernel_rfl), fun wq hq => (by kernel_rfl)⟩) ?_
                  obtain ⟨h1174, hp⟩ := hp
                  refine r_take 12 (.int .i64 (i471 + (1 : Int))) (RB.pre _ _) rfl (by kernel_rfl) (fun _ _ _ h => hQ.panic _ _ _ _ _ h) (.inl ⟨(by kernel_rfl), fun wq hq => (x_add2 (k := .i64) (a := i471) (b := (1 : Int)) (i471 + (1 : Int)) (by kernel_rfl) (by kernel_rfl) (wrap_inR h1174))⟩) ?_
                  obtain ⟨h1175, hp⟩ := hp
                  obtain ⟨b1176, o1177, cs1178, ha1179, nx1180, lt1181, ok1182, hc1183⟩ := Sl.atI hr1167 (i471 + (1 : Int)) h1175
                  obtain ⟨ae1184, ce1185, rfl, he1186⟩ := ok1182
                  replace hp := hp (Sl.len he1186)
                  refine r_take 13 (.pointer (some ⟨b1176, o1177 + (i471 + (1 : Int)).toNat * 1, none⟩)) (RB.pre _ _) rfl (by kernel_rfl) (fun _ _ _ h => hQ.panic _ _ _ _ _ h) (.inl ⟨(by kernel_rfl), fun wq hq => (x_ixA (m := r75.length) (c := cr80) (k := .i64) (i := i471 + (1 : Int)) Tryd.underlying52 Tryd.sizeOf55 (by rw [← ha1179]; kernel_rfl) (by kernel_rfl) h1175)⟩) ?_
                  refine r_take 14 (.slice ae1184 ((lget r75 (i471 + (1 : Int))).length) ce1185) (RB.pre _ _) rfl (by kernel_rfl) (fun _ _ _ h => hQ.panic _ _ _ _ _ h) (.inl ⟨(by kernel_rfl), fun wq hq => (x_load1 (by kernel_rfl) Tryd.isAgg55 ((CellsAt.rb hc1183 (RB.trans er1160 hq) (Nat.lt_of_lt_of_eq lt1181 z1159) (fun h => by cases h)) 0 _ rfl))⟩) ?_
                  refine r_take 15 (.int .i64 j473) (RB.pre _ _) rfl (by kernel_rfl) (fun _ _ _ h => hQ.panic _ _ _ _ _ h) (.inl ⟨(by kernel_rfl), fun wq hq => (by kernel_rfl)⟩) ?_
                  obtain ⟨h1187, hp⟩ := hp
                  obtain ⟨b1188, o1189, cs1190, ha1191, nx1192, lt1193, ok1194, hc1195⟩ := Sl.atI he1186 j473 h1187
                  obtain ⟨rfl, re1196⟩ := ok1194
                  replace hp := hp re1196
                  refine r_take 16 (.pointer (some ⟨b1188, o1189 + j473.toNat * 1, none⟩)) (RB.pre _ _) rfl (by kernel_rfl) (fun _ _ _ h => hQ.panic _ _ _ _ _ h) (.inl ⟨(by kernel_rfl), fun wq hq => (x_ixA (m := (lget r75 (i471 + (1 : Int))).length) (c := ce1185) (k := .i64) (i := j473) Tryd.underlying55 Tryd.sizeOf3 (by rw [← ha1191]; kernel_rfl) (by kernel_rfl) h1187)⟩) ?_
                  refine r_take 17 (.int .i64 (lget (lget r75 (i471 + (1 : Int))) j473)) (RB.pre _ _) rfl (by kernel_rfl) (fun _ _ _ h => hQ.panic _ _ _ _ _ h) (.inl ⟨(by kernel_rfl), fun wq hq => (x_load1 (by kernel_rfl) Tryd.isAgg3 ((CellsAt.rb hc1195 (RB.trans er1160 hq) (Nat.lt_of_lt_of_eq lt1193 z1159) (fun h => by cases h)) 0 _ rfl))⟩) ?_
                  refine r_take 18 (.slice ar79 r75.length cr80) (RB.pre _ _) rfl (by kernel_rfl) (fun _ _ _ h => hQ.panic _ _ _ _ _ h) (.inl ⟨(by kernel_rfl), fun wq hq => (by kernel_rfl)⟩) ?_
                  refine r_take 19 (.int .i64 i471) (RB.pre _ _) rfl (by kernel_rfl) (fun _ _ _ h => hQ.panic _ _ _ _ _ h) (.inl ⟨(by kernel_rfl), fun wq hq => (by kernel_rfl)⟩) ?_
                  obtain ⟨h1197, hp⟩ := hp
                  obtain ⟨b1198, o1199, cs1200, ha1201, nx1202, lt1203, ok1204, hc1205⟩ := Sl.atI hr1167 i471 h1197
                  obtain ⟨ae1206, ce1207, rfl, he1208⟩ := ok1204
                  replace hp := hp (Sl.len he1208)
                  refine r_take 20 (.pointer (some ⟨b1198, o1199 + i471.toNat * 1, none⟩)) (RB.pre _ _) rfl (by kernel_rfl) (fun _ _ _ h => hQ.panic _ _ _ _ _ h) (.inl ⟨(by kernel_rfl), fun wq hq => (x_ixA (m := r75.length) (c := cr80) (k := .i64) (i := i471) Tryd.underlying52 Tryd.sizeOf55 (by rw [← ha1201]; kernel_rfl) (by kernel_rfl) h1197)⟩) ?_
                  refine r_take 21 (.slice ae1206 ((lget r75 i471).length) ce1207) (RB.pre _ _) rfl (by kernel_rfl) (fun _ _ _ h => hQ.panic _ _ _ _ _ h) (.inl ⟨(by kernel_rfl), fun wq hq => (x_load1 (by kernel_rfl) Tryd.isAgg55 ((CellsAt.rb hc1205 (RB.trans er1160 hq) (Nat.lt_of_lt_of_eq lt1203 z1159) (fun h => by cases h)) 0 _ rfl))⟩) ?_
                  refine r_take 22 (.int .i64 j473) (RB.pre _ _) rfl (by kernel_rfl) (fun _ _ _ h => hQ.panic _ _ _ _ _ h) (.inl ⟨(by kernel_rfl), fun wq hq => (by kernel_rfl)⟩) ?_
                  obtain ⟨h1209, hp⟩ := hp
                  refine r_take 23 (.int .i64 (j473 + (1 : Int))) (RB.pre _ _) rfl (by kernel_rfl) (fun _ _ _ h => hQ.panic _ _ _ _ _ h) (.inl ⟨(by kernel_rfl), fun wq hq => (x_add2 (k := .i64) (a := j473) (b := (1 : Int)) (j473 + (1 : Int)) (by kernel_rfl) (by kernel_rfl) (wrap_inR h1209))⟩) ?_
                  obtain ⟨h1210, hp⟩ := hp
                  obtain ⟨b1211, o1212, cs1213, ha1214, nx1215, lt1216, ok1217, hc1218⟩ := Sl.atI he1208 (j473 + (1 : Int)) h1210
                  obtain ⟨rfl, re1219⟩ := ok1217
                  replace hp := hp re1219
                  refine r_take 24 (.pointer (some ⟨b1211, o1212 + (j473 + (1 : Int)).toNat * 1, none⟩)) (RB.pre _ _) rfl (by kernel_rfl) (fun _ _ _ h => hQ.panic _ _ _ _ _ h) (.inl ⟨(by kernel_rfl), fun wq hq => (x_ixA (m := (lget r75 i471).length) (c := ce1207) (k := .i64) (i := j473 + (1 : Int)) Tryd.underlying55 Tryd.sizeOf3 (by rw [← ha1214]; kernel_rfl) (by kernel_rfl) h1210)⟩) ?_
                  refine r_take 25 (.int .i64 (lget (lget r75 i471) (j473 + (1 : Int)))) (RB.pre _ _) rfl (by kernel_rfl) (fun _ _ _ h => hQ.panic _ _ _ _ _ h) (.inl ⟨(by kernel_rfl), fun wq hq => (x_load1 (by kernel_rfl) Tryd.isAgg3 ((CellsAt.rb hc1218 (RB.trans er1160 hq) (Nat.lt_of_lt_of_eq lt1216 z1159) (fun h => by cases h)) 0 _ rfl))⟩) ?_
                  refine r_take 26 (.bool (decide ((lget (lget r75 (i471 + (1 : Int))) j473) ≥ (lget (lget r75 i471) (j473 + (1 : Int)))))) (RB.pre _ _) rfl (by kernel_rfl) (fun _ _ _ h => hQ.panic _ _ _ _ _ h) (.inl ⟨(by kernel_rfl), fun wq hq => (by kernel_rfl)⟩) ?_
                  refine r_take 27 (.bool (decide ((lget (lget r75 (i471 + (1 : Int))) j473) ≥ (lget (lget r75 i471) (j473 + (1 : Int)))))) (RB.pre _ _) rfl (by kernel_rfl) (fun _ _ _ h => hQ.panic _ _ _ _ _ h) (.inl ⟨(by kernel_rfl), fun wq hq => (by kernel_rfl)⟩) ?_
                  refine r_take 28 (.bool (decide ((lget (lget r75 (i471 + (1 : Int))) j473) ≥ (lget (lget r75 i471) (j473 + (1 : Int)))))) (RB.pre _ _) rfl (by kernel_rfl) (fun _ _ _ h => hQ.panic _ _ _ _ _ h) (.inl ⟨rfl, fun wq hq => (by kernel_rfl)⟩) ?_
                  refine r_ready [29] (by kernel_rfl) rfl (all_cons ⟨_, _, _, _, _, _, rfl, ?_⟩ all_nil)
                  refine o_pv (.bool (decide ((lget (lget r75 (i471 + (1 : Int))) j473) ≥ (lget (lget r75 i471) (j473 + (1 : Int)))))) rfl (by kernel_rfl) ?_
                  refine ⟨fun h => absurd h (by decide), ?_⟩
                  refine r_done (by kernel_rfl) ?_
                  refine then_normal (hJ1142 _ _ _ ⟨[(75, (.bool (decide ((lget (lget r75 (i471 + (1 : Int))) j473) ≥ (lget (lget r75 i471) (j473 + (1 : Int)))))))], fit_mk (fun _ _ => rfl) (by kernel_rfl) (vs_cons (by kernel_rfl) vs_nil), ?_⟩)
                  exact ⟨X968, (decide ((lget (lget r75 (i471 + (1 : Int))) j473) ≥ (lget (lget r75 i471) (j473 + (1 : Int))))), rfl, E1162, hXo1163, hS1164, ha1165, hb1166, hr1167, O1168, k1169, hrParts1170, k1171, p982, p983, hp⟩
              ·
                replace hp := hp.2 h1172
                refine r_take 3 (.bool false) (RB.pre _ _) rfl (by kernel_rfl) (fun _ _ _ h => hQ.panic _ _ _ _ _ h) (.inl ⟨rfl, fun wq hq => (x_df (p := i471 < (a.length : Int)) (by kernel_rfl) h1172)⟩) ?_
                refine r_take 4 (.bool false) (RB.pre _ _) rfl (by kernel_rfl) (fun _ _ _ h => hQ.panic _ _ _ _ _ h) (.inl ⟨rfl, fun wq hq => (by kernel_rfl)⟩) ?_
                refine r_take 5 undef (RB.pre _ _) rfl (by kernel_rfl) (fun _ _ _ h => hQ.panic _ _ _ _ _ h) (.inr ⟨by kernel_rfl, rfl⟩) ?_
                refine r_take 6 undef (RB.pre _ _) rfl (by kernel_rfl) (fun _ _ _ h => hQ.panic _ _ _ _ _ h) (.inr ⟨by kernel_rfl, rfl⟩) ?_
                refine r_take 7 undef (RB.pre _ _) rfl (by kernel_rfl) (fun _ _ _ h => hQ.panic _ _ _ _ _ h) (.inr ⟨by kernel_rfl, rfl⟩) ?_
                refine r_take 8 undef (RB.pre _ _) rfl (by kernel_rfl) (fun _ _ _ h => hQ.panic _ _ _ _ _ h) (.inr ⟨by kernel_rfl, rfl⟩) ?_
                refine r_take 9 undef (RB.pre _ _) rfl (by kernel_rfl) (fun _ _ _ h => hQ.panic _ _ _ _ _ h) (.inr ⟨by kernel_rfl, rfl⟩) ?_
                refine r_take 10 undef (RB.pre _ _) rfl (by kernel_rfl) (fun _ _ _ h => hQ.panic _ _ _ _ _ h) (.inr ⟨by kernel_rfl, rfl⟩) ?_
                refine r_take 11 undef (RB.pre _ _) rfl (by kernel_rfl) (fun _ _ _ h => hQ.panic _ _ _ _ _ h) (.inr ⟨by kernel_rfl, rfl⟩) ?_
                refine r_take 12 undef (RB.pre _ _) rfl (by kernel_rfl) (fun _ _ _ h => hQ.panic _ _ _ _ _ h) (.inr ⟨by kernel_rfl, rfl⟩) ?_
                refine r_take 13 undef (RB.pre _ _) rfl (by kernel_rfl) (fun _ _ _ h => hQ.panic _ _ _ _ _ h) (.inr ⟨by kernel_rfl, rfl⟩) ?_
                refine r_take 14 undef (RB.pre _ _) rfl (by kernel_rfl) (fun _ _ _ h => hQ.panic _ _ _ _ _ h) (.inr ⟨by kernel_rfl, rfl⟩) ?_
                refine r_take 15 undef (RB.pre _ _) rfl (by kernel_rfl) (fun _ _ _ h => hQ.panic _ _ _ _ _ h) (.inr ⟨by kernel_rfl, rfl⟩) ?_
                refine r_take 16 undef (RB.pre _ _) rfl (by kernel_rfl) (fun _ _ _ h => hQ.panic _ _ _ _ _ h) (.inr ⟨by kernel_rfl, rfl⟩) ?_
                refine r_take 17 undef (RB.pre _ _) rfl (by kernel_rfl) (fun _ _ _ h => hQ.panic _ _ _ _ _ h) (.inr ⟨by kernel_rfl, rfl⟩) ?_
                refine r_take 18 undef (RB.pre _ _) rfl (by kernel_rfl) (fun _ _ _ h => hQ.panic _ _ _ _ _ h) (.inr ⟨by kernel_rfl, rfl⟩) ?_
                refine r_take 19 undef (RB.pre _ _) rfl (by kernel_rfl) (fun _ _ _ h => hQ.panic _ _ _ _ _ h) (.inr ⟨by kernel_rfl, rfl⟩) ?_
                refine r_take 20 undef (RB.pre _ _) rfl (by kernel_rfl) (fun _ _ _ h => hQ.panic _ _ _ _ _ h) (.inr ⟨by kernel_rfl, rfl⟩) ?_
                refine r_take 21 undef (RB.pre _ _) rfl (by kernel_rfl) (fun _ _ _ h => hQ.panic _ _ _ _ _ h) (.inr ⟨by kernel_rfl, rfl⟩) ?_
                refine r_take 22 undef (RB.pre _ _) rfl (by kernel_rfl) (fun _ _ _ h => hQ.panic _ _ _ _ _ h) (.inr ⟨by kernel_rfl, rfl⟩) ?_
                refine r_take 23 undef (RB.pre _ _) rfl (by kernel_rfl) (fun _ _ _ h => hQ.panic _ _ _ _ _ h) (.inr ⟨by kernel_rfl, rfl⟩) ?_
                refine r_take 24 undef (RB.pre _ _) rfl (by kernel_rfl) (fun _ _ _ h => hQ.panic _ _ _ _ _ h) (.inr ⟨by kernel_rfl, rfl⟩) ?_
                refine r_take 25 undef (RB.pre _ _) rfl (by kernel_rfl) (fun _ _ _ h => hQ.panic _ _ _ _ _ h) (.inr ⟨by kernel_rfl, rfl⟩) ?_
                refine r_take 26 undef (RB.pre _ _) rfl (by kernel_rfl) (fun _ _ _ h => hQ.panic _ _ _ _ _ h) (.inr ⟨by kernel_rfl, rfl⟩) ?_
                refine r_take 27 undef (RB.pre _ _) rfl (by kernel_rfl) (fun _ _ _ h => hQ.panic _ _ _ _ _ h) (.inr ⟨by kernel_rfl, rfl⟩) ?_
                refine r_take 28 (.bool false) (RB.pre _ _) rfl (by kernel_rfl) (fun _ _ _ h => hQ.panic _ _ _ _ _ h) (.inl ⟨rfl, fun wq hq => (by kernel_rfl)⟩) ?_
                refine r_ready [29] (by kernel_rfl) rfl (all_cons ⟨_, _, _, _, _, _, rfl, ?_⟩ all_nil)
                refine o_pv (.bool false) rfl (by kernel_rfl) ?_
                refine ⟨fun h => absurd h (by decide), ?_⟩
                refine r_done (by kernel_rfl) ?_
                refine then_normal (hJ1142 _ _ _ ⟨[(75, (.bool false))], fit_mk (fun _ _ => rfl) (by kernel_rfl) (vs_cons (by kernel_rfl) vs_nil), ?_⟩)
                exact ⟨X968, false, rfl, E1162, hXo1163, hS1164, ha1165, hb1166, hr1167, O1168, k1169, hrParts1170, k1171, p982, p983, hp⟩
            ·
              rintro _ w1139 g1220 ⟨X1140, s1136, rfl, E1144, hXo1145, hS1146, ha1147, hb1148, hr1149, O1150, k1151, hrParts1152, k1153, p1154, p1155, hv1143⟩
              replace hp := hk1138 s1136 hv1143
              refine then_normal (K1071 _ _ _ _ ?_)
              refine cond_b s1136 (by kernel_rfl) (fun h1221 => ?_) (fun h1221 => ?_)
              ·
                replace hp := hp.1 h1221
                refine seq_ (fun _ K1222 => ?_)
                refine reg_ ?_
                refine sq (o_pv (.slice a467 n468 c469) rfl (by kernel_rfl) ?_)
                refine sq (o_pv (.slice aa1 a.length ca2) rfl (by kernel_rfl) ?_)
                refine sq (o_pv (.int .i64 i471) rfl (by kernel_rfl) ?_)
                obtain ⟨h1223, hp⟩ := hp
                obtain ⟨b1224, o1225, cs1226, ha1227, nx1228, lt1229, ok1230, hc1231⟩ := Sl.atI ha1147 i471 h1223
                obtain ⟨rfl, ze1232⟩ := ok1230
                replace hp := hp ze1232
                refine sq (o_pv (.pointer (some ⟨b1224, o1225 + i471.toNat * 1, none⟩)) rfl (x_ixA (m := a.length) (c := ca2) (k := .i64) (i := i471) Tryd.underlying22 Tryd.sizeOf9 (by rw [← ha1227]; kernel_rfl) (by kernel_rfl) h1223) ?_)
                refine sq (o_pv (.string (lget a i471)) rfl (x_load1 (by kernel_rfl) Tryd.isAgg9 (hc1231 0 _ rfl)) ?_)
                refine sq (o_pv (.agg #[(.int .i64 (2 : Int)), (.string (lget a i471))]) rfl (by kernel_rfl) ?_)
                refine sq (o_rowX (R := r_rectoref11_Edit) [(.int .i64 (2 : Int)), (.string (lget a i471))] [(S_rectoref11_Edit.mk (2 : Int) (lget a i471))] 54 1 (X := X1140) (B := w.heap.size) E1144.size rfl (by kernel_rfl) (Flat.cons (cs := [(.int .i64 (2 : Int)), (.string (lget a i471))]) (r_rectoref11_Edit_mk (by decide : inR .i64 (2 : Int)) ze1232) Flat.nil) rfl (by decide) ?_)
                intro b1233 w1234 X1235 s1236 O1237 n1238
                have p1239 := n1238 _ (OS.old O1150)
                have p1240 := n1238 _ (OB.old k1151)
                have p1241 := n1238 _ (OB.old k1153)
                obtain ⟨h1242, hp⟩ := hp
                have O1243 := (OS.step0 O1150 s1236)
                have k1244 := (OB.step0 k1151 s1236)
                have k1245 := (OB.step0 k1153 s1236)
                have E1246 := (Evo.then0 E1144 (Step.evo s1236))
                refine sq (o_appX (R := r_rectoref11_Edit) (X := X1235) (B := w.heap.size) (L := out466) (M := [(S_rectoref11_Edit.mk (2 : Int) (lget a i471))]) rfl elT25 rfl E1246.size O1243 (OS.src O1237) O1237.1 (by kernel_rfl) (by kernel_rfl) h1242 ?_)
                intro a1247 n1248 c1249 w1250 X1251 s1252 O1253 gr1254
                have p1255 := gr1254 _ p897 (OB.old k1244)
                have p1256 := gr1254 _ p898 (OB.old k1245)
                refine sq (o_pv (.slice a1247 n1248 c1249) rfl (by kernel_rfl) ?_)
                refine nil_ ?_
                refine then_normal (K1222 _ _ _ _ ?_)
                refine reg_ ?_
                refine sq (o_pv (.int .i64 i471) rfl (by kernel_rfl) ?_)
                obtain ⟨h1257, hp⟩ := hp
                refine sq (o_pv (.int .i64 (i471 + (1 : Int))) rfl (x_add2 (k := .i64) (a := i471) (b := (1 : Int)) (i471 + (1 : Int)) (by kernel_rfl) (by kernel_rfl) (wrap_inR h1257)) ?_)
                refine sq (o_pv (.int .i64 (i471 + (1 : Int))) rfl (by kernel_rfl) ?_)
                refine nil_ ?_
                refine blk_normal ?_
                refine blk_normal ?_
                have E1258 := (Evo.thenW E1246 (Step.evo s1252) O1243.2.2)
                have hXo1259 := (Old.step (Old.step hXo1145 s1236) s1252)
                have hS1260 := (Sub.trans (Sub.trans hS1146 (Step.up s1236)) (Step.up s1252))
                have ha1261 := (Sl.step (Sl.step ha1147 s1236) s1252)
                have hb1262 := (Sl.step (Sl.step hb1148 s1236) s1252)
                have hr1263 := (Sl.step (Sl.step hr1149 s1236) s1252)
                have k1264 := (OB.step k1244 s1252 p897)
                have hrParts1265 := (Sl.step (Sl.step hrParts1152 s1236) s1252)
                have k1266 := (OB.step k1245 s1252 p898)
                refine then_normal (hA879 _ _ _ ⟨_, [(8, (.slice a1247 n1248 c1249)), (9, (.int .i64 (i471 + (1 : Int)))), (10, (.int .i64 j473))], hp.2, fit_mk (AgB.nest (AgB.look (AgB.nest (AgB.look (AgB.nest (AgB.look (AgB.mix _ _ _) (by kernel_rfl)) (by kernel_rfl) (by kernel_rfl)) (by kernel_rfl)) (by kernel_rfl) (by kernel_rfl)) (by kernel_rfl)) (by kernel_rfl) (by kernel_rfl)) (by kernel_rfl) (vs_cons (by kernel_rfl) (vs_cons (by kernel_rfl) (vs_cons (by kernel_rfl) vs_nil))), ?_⟩)
                exact ⟨X1251, (out466 ++ ([(S_rectoref11_Edit.mk (2 : Int) (lget a i471))])), (i471 + (1 : Int)), j473, a1247, n1248, c1249, rfl, rfl, E1258, hXo1259, hS1260, ha1261, hb1262, hr1263, k1264, hrParts1265, k1266, O1253, p1255, p1256, h1257, rj474, hp.1⟩
              ·
                replace hp := hp.2 h1221
                refine seq_ (fun _ K1267 => ?_)
                refine reg_ ?_
                refine sq (o_pv (.slice a467 n468 c469) rfl (by kernel_rfl) ?_)
                refine sq (o_pv (.slice ab4 b.length cb5) rfl (by kernel_rfl) ?_)
                refine sq (o_pv (.int .i64 j473) rfl (by kernel_rfl) ?_)
                obtain ⟨h1268, hp⟩ := hp
                obtain ⟨b1269, o1270, cs1271, ha1272, nx1273, lt1274, ok1275, hc1276⟩ := Sl.atI hb1148 j473 h1268
                obtain ⟨rfl, ze1277⟩ := ok1275
                replace hp := hp ze1277
                refine sq (o_pv (.pointer (some ⟨b1269, o1270 + j473.toNat * 1, none⟩)) rfl (x_ixA (m := b.length) (c := cb5) (k := .i64) (i := j473) Tryd.underlying22 Tryd.sizeOf9 (by rw [← ha1272]; kernel_rfl) (by kernel_rfl) h1268) ?_)
                refine sq (o_pv (.string (lget b j473)) rfl (x_load1 (by kernel_rfl) Tryd.isAgg9 (hc1276 0 _ rfl)) ?_)
                refine sq (o_pv (.agg #[(.int .i64 (3 : Int)), (.string (lget b j473))]) rfl (by kernel_rfl) ?_)
                refine sq (o_rowX (R := r_rectoref11_Edit) [(.int .i64 (3 : Int)), (.string (lget b j473))] [(S_rectoref11_Edit.mk (3 : Int) (lget b j473))] 54 1 (X := X1140) (B := w.heap.size) E1144.size rfl (by kernel_rfl) (Flat.cons (cs := [(.int .i64 (3 : Int)), (.string (lget b j473))]) (r_rectoref11_Edit_mk (by decide : inR .i64 (3 : Int)) ze1277) Flat.nil) rfl (by decide) ?_)
                intro b1278 w1279 X1280 s1281 O1282 n1283
                have p1284 := n1283 _ (OS.old O1150)
                have p1285 := n1283 _ (OB.old k1151)
                have p1286 := n1283 _ (OB.old k1153)
                obtain ⟨h1287, hp⟩ := hp
                have O1288 := (OS.step0 O1150 s1281)
                have k1289 := (OB.step0 k1151 s1281)
                have k1290 := (OB.step0 k1153 s1281)
                have E1291 := (Evo.then0 E1144 (Step.evo s1281))
                refine sq (o_appX (R := r_rectoref11_Edit) (X := X1280) (B := w.heap.size) (L := out466) (M := [(S_rectoref11_Edit.mk (3 : Int) (lget b j473))]) rfl elT25 rfl E1291.size O1288 (OS.src O1282) O1282.1 (by kernel_rfl) (by kernel_rfl) h1287 ?_)
                intro a1292 n1293 c1294 w1295 X1296 s1297 O1298 gr1299
                have p1300 := gr1299 _ p897 (OB.old k1289)
                have p1301 := gr1299 _ p898 (OB.old k1290)
                refine sq (o_pv (.slice a1292 n1293 c1294) rfl (by kernel_rfl) ?_)
                refine nil_ ?_
                refine then_normal (K1267 _ _ _ _ ?_)
                refine reg_ ?_
                refine sq (o_pv (.int .i64 j473) rfl (by kernel_rfl) ?_)
                obtain ⟨h1302, hp⟩ := hp
                refine sq (o_pv (.int .i64 (j473 + (1 : Int))) rfl (x_add2 (k := .i64) (a := j473) (b := (1 : Int)) (j473 + (1 : Int)) (by kernel_rfl) (by kernel_rfl) (wrap_inR h1302)) ?_)
                refine sq (o_pv (.int .i64 (j473 + (1 : Int))) rfl (by kernel_rfl) ?_)
                refine nil_ ?_
                refine blk_normal ?_
                refine blk_normal ?_
                have E1303 := (Evo.thenW E1291 (Step.evo s1297) O1288.2.2)
                have hXo1304 := (Old.step (Old.step hXo1145 s1281) s1297)
                have hS1305 := (Sub.trans (Sub.trans hS1146 (Step.up s1281)) (Step.up s1297))
                have ha1306 := (Sl.step (Sl.step ha1147 s1281) s1297)
                have hb1307 := (Sl.step (Sl.step hb1148 s1281) s1297)
                have hr1308 := (Sl.step (Sl.step hr1149 s1281) s1297)
                have k1309 := (OB.step k1289 s1297 p897)
                have hrParts1310 := (Sl.step (Sl.step hrParts1152 s1281) s1297)
                have k1311 := (OB.step k1290 s1297 p898)
                refine then_normal (hA879 _ _ _ ⟨_, [(8, (.slice a1292 n1293 c1294)), (9, (.int .i64 i471)), (10, (.int .i64 (j473 + (1 : Int))))], hp.2, fit_mk (AgB.nest (AgB.look (AgB.nest (AgB.look (AgB.nest (AgB.look (AgB.mix _ _ _) (by kernel_rfl)) (by kernel_rfl) (by kernel_rfl)) (by kernel_rfl)) (by kernel_rfl) (by kernel_rfl)) (by kernel_rfl)) (by kernel_rfl) (by kernel_rfl)) (by kernel_rfl) (vs_cons (by kernel_rfl) (vs_cons (by kernel_rfl) (vs_cons (by kernel_rfl) vs_nil))), ?_⟩)
                exact ⟨X1296, (out466 ++ ([(S_rectoref11_Edit.mk (3 : Int) (lget b j473))])), i471, (j473 + (1 : Int)), a1292, n1293, c1294, rfl, rfl, E1303, hXo1304, hS1305, ha1306, hb1307, hr1308, k1309, hrParts1310, k1311, O1298, p1300, p1301, ri472, h1302, hp.1⟩
      ·
        replace hp := hp.2 h924
        refine wp_exit ?_
        refine then_exit ?_
        refine then_exit ?_
        refine blk_exit ?_
        refine then_normal (K85 _ _ _ _ ?_)
        refine seq_ (fun _ K1312 => ?_)
        refine reg_drawn (RB w905.heap.size []) 3 (by kernel_rfl) (fun w1313 hd1314 => ?_)
        have e1315 := Evo.of_drew hd1314
        have z1316 : w1313.heap.size = w905.heap.size := by rw [hd1314]
        clear hd1314
        have s1318 := Step.of0 X906 e1315
        have er1317 := RB.refl w905.heap.size [] w1313
        have E1319 := (Evo.then0 E910 (Step.evo s1318))
        have hXo1320 := (Old.step hXo911 s1318)
        have hS1321 := (Sub.trans hS912 (Step.up s1318))
        have ha1322 := (Sl.step ha913 s1318)
        have hb1323 := (Sl.step hb914 s1318)
        have hr1324 := (Sl.step hr915 s1318)
        have O1325 := (OS.step0 O916 s1318)
        have k1326 := (OB.step0 k917 s1318)
        have hrParts1327 := (Sl.step hrParts918 s1318)
        have k1328 := (OB.step0 k919 s1318)
        refine r_take 0 (.slice a467 n468 c469) (RB.pre _ _) rfl (by kernel_rfl) (fun _ _ _ h => hQ.panic _ _ _ _ _ h) (.inl ⟨rfl, fun wq hq => (by kernel_rfl)⟩) ?_
        refine r_take 1 (.agg #[(.slice arParts22 r18.Parts.length crParts23), (.int .i64 r18.Err)]) (RB.pre _ _) rfl (by kernel_rfl) (fun _ _ _ h => hQ.panic _ _ _ _ _ h) (.inl ⟨rfl, fun wq hq => (x_loadN [(.slice arParts22 r18.Parts.length crParts23), (.int .i64 r18.Err)] (by kernel_rfl) Tryd.isAgg28 Tryd.sizeOf28 ((Blk.rb k1328.2.1 (RB.trans er1317 hq) (Nat.lt_of_lt_of_eq (Blk.lt k1328.2.1) z1316) (fun h => by cases h)).cells' 0 rfl))⟩) ?_
        refine r_take 2 (.slice a467 n468 c469) (RB.pre _ _) rfl (by kernel_rfl) (fun _ _ _ h => hQ.panic _ _ _ _ _ h) (.inl ⟨rfl, fun wq hq => (by kernel_rfl)⟩) ?_
        refine r_ready [3] (by kernel_rfl) rfl (all_cons ⟨_, _, _, _, _, _, rfl, ?_⟩ all_nil)
        refine o_stB (o := 0) (v := (.agg #[(.slice arParts22 r18.Parts.length crParts23), (.int .i64 r18.Err)])) [(.slice arParts22 r18.Parts.length crParts23), (.int .i64 r18.Err)] rfl k1326 (by kernel_rfl) (by kernel_rfl) Tryd.sizeOf28 rfl rfl rfl ?_
        intro w1329 s1330 k1331
        refine ⟨fun h => absurd h (by decide), ?_⟩
        refine r_done (by kernel_rfl) ?_
        refine then_normal (K1312 _ _ _ _ ?_)
        refine wp_ret ?_
        have O1332 := (OS.step O1325 s1330 p920)
        have hS1333 := (Sub.trans hS1321 (Step.up s1330))
        have hrParts1334 := (Sl.step hrParts1327 s1330)
        have E1335 := (Evo.thenW E1319 (Step.evo s1330) k1326.2.2)
        refine end_ret hQ (.tuple #[(.slice a467 n468 c469), (.agg #[(.slice arParts22 r18.Parts.length crParts23), (.int .i64 r18.Err)])]) (rs2 Tryd.results6 (rs_tmp (by kernel_rfl)) (rs_agg [(.slice arParts22 r18.Parts.length crParts23), (.int .i64 r18.Err)] (by kernel_rfl) Tryd.isAgg28 Tryd.sizeOf28 (k1331.2.1.cells' 0 rfl))) ?_
        exact ⟨out466, r18, hp, E1335, a467, c469, arParts22, crParts23, (by (rw [show n468 = out466.length from O1332.1]); first | done | rfl), (OS.out O1332 hS1333 hX0), (Sl.less hrParts1334 hS1333), rrErr25⟩

def rectolaw11_To_p (l : (List S_rectoref11_Edit)) (Q : (List S_diff_Edit) → Prop) : Prop :=
  ((l.length ≤ 9223372036854775807) → (∃ (I144 : (List S_diff_Edit) → Int → Prop) (m145 : (List S_diff_Edit) → Int → Nat), (I144 ([] : List S_diff_Edit) (0 : Int)) ∧ (∀ (out72 : (List S_diff_Edit)) (i77 : Int), (I144 out72 i77) → (out72.length ≤ 9223372036854775807) → (inR .i64 i77) → (((i77 < (l.length : Int)) → ((inL l i77) ∧ ((inR .i64 ((lget l i77).Op)) → ((((lget l i77).Line).size ≤ maxLen) → ((inL l i77) ∧ ((inR .i64 ((lget l i77).Op)) → ((((lget l i77).Line).size ≤ maxLen) → (((out72.length + ([(S_diff_Edit.mk ((lget l i77).Op) ((lget l i77).Line))]).length) * 24 ≤ 140737488355328) ∧ ((inR .i64 (i77 + (1 : Int))) ∧ ((I144 (out72 ++ ([(S_diff_Edit.mk ((lget l i77).Op) ((lget l i77).Line))])) (i77 + (1 : Int))) ∧ m145 (out72 ++ ([(S_diff_Edit.mk ((lget l i77).Op) ((lget l i77).Line))])) (i77 + (1 : Int)) < m145 out72 i77)))))))))) ∧ ((¬ (i77 < (l.length : Int))) → Q out72)))))
set_option maxRecDepth 20000 in
set_option maxHeartbeats 4000000 in
theorem rectolaw11_To_w {X : List Nat} {w : World} {l : (List S_rectoref11_Edit)} {al1 : Option Addr} {cl2 : Nat} {Q : (List S_diff_Edit) → Prop} (hX0 : Old X w) (hl3 : Sl r_rectoref11_Edit X w al1 cl2 l) (hp : rectolaw11_To_p l Q) :
    Calls Tryd.prog 8 #[(.slice al1 l.length cl2)] w (Ret fun v w' => ∃ (r0 : (List S_diff_Edit)), Q r0 ∧ Evo [] w w' ∧ ∃ (aq01 : Option Addr) (cq02 : Nat), v = (.slice aq01 r0.length cq02) ∧ Sl r_diff_Edit X w' aq01 cq02 r0) := by
  have hXo := hX0
  have E0 : Evo [] w w := RB.refl _ _ _
  have hS : Sub X X := Sub.refl _
  unfold rectolaw11_To_p at hp
  refine enter_ Tryd.func8 rfl 26 [(0, (.slice al1 l.length cl2))] (by kernel_rfl) (fun Qe hQ => ?_)
  replace hp := hp (Sl.len hl3)
  refine seq_ (fun _ K4 => ?_)
  refine reg_ ?_
  refine sq (o_pv (.slice none 0 0) rfl (by kernel_rfl) ?_)
  refine nil_ ?_
  refine then_normal (K4 _ _ _ _ ?_)
  refine seq_ (fun _ K5 => ?_)
  refine reg_ ?_
  refine sq (o_pv (.slice none 0 0) rfl (by kernel_rfl) ?_)
  refine nil_ ?_
  refine then_normal (K5 _ _ _ _ ?_)
  refine seq_ (fun _ K6 => ?_)
  refine seq_ (fun _ K7 => ?_)
  refine reg_ ?_
  refine sq (o_pv (.int .i64 (0 : Int)) rfl (by kernel_rfl) ?_)
  refine nil_ ?_
  refine then_normal (K7 _ _ _ _ ?_)
  refine wp_block ?_
  obtain ⟨I144, m145, hI146, hp⟩ := hp
  refine loop_ 33554424 (fun kq lq w148 => ∃ (X149 : List Nat) (out72 : (List S_diff_Edit)) (i77 : Int) (a73 : Option Addr) (n74 : Nat) (c75 : Nat), (lq = [(3, (.slice a73 n74 c75)), (4, (.int .i64 i77))]) ∧ (kq = m145 out72 i77) ∧ (Evo [] w w148) ∧ (Old X149 w148) ∧ (Sub X X149) ∧ (Sl r_rectoref11_Edit X149 w148 al1 cl2 l) ∧ (OS r_diff_Edit ([]) w.heap.size X149 w148 48 a73 n74 c75 out72) ∧ (inR .i64 i77) ∧ (I144 out72 i77)) (m145 ([] : List S_diff_Edit) (0 : Int)) [(3, (.slice none 0 0)), (4, (.int .i64 (0 : Int)))] (vs_cons (by kernel_rfl) (vs_cons (by kernel_rfl) vs_nil)) ⟨X, ([] : List S_diff_Edit), (0 : Int), none, 0, 0, rfl, rfl, E0, hXo, hS, hl3, (OS.nil _ _ _ _), (by decide : inR .i64 (0 : Int)), hI146⟩ ?_
  rintro _ _ w148 g151 ⟨X149, out72, i77, a73, n74, c75, rfl, rfl, E154, hXo155, hS156, hl157, O76, ri78, hI147⟩ Kl152 hA153
  replace hp := hp out72 i77 hI147 (OS.len O76) ri78
  refine seq_ (fun _ K158 => ?_)
  refine seq_ (fun _ K159 => ?_)
  refine reg_ ?_
  refine sq (o_pv (.int .i64 i77) rfl (by kernel_rfl) ?_)
  refine sq (o_pv (.slice al1 l.length cl2) rfl (by kernel_rfl) ?_)
  refine sq (o_pv (.int .i64 (l.length : Int)) rfl (by kernel_rfl) ?_)
  refine sq (o_pv (.bool (decide (i77 < (l.length : Int)))) rfl (by kernel_rfl) ?_)
  refine nil_ ?_
  refine then_normal (K159 _ _ _ _ ?_)
  refine cond_d (i77 < (l.length : Int)) (by kernel_rfl) (fun h160 => ?_) (fun h160 => ?_)
  ·
    replace hp := hp.1 h160
    refine wp_skip ?_
    refine then_normal (K158 _ _ _ _ ?_)
    refine seq_ (fun _ K161 => ?_)
    refine wp_block ?_
    refine reg_drawn (RB w148.heap.size []) 13 (by kernel_rfl) (fun w162 hd163 => ?_)
    have e164 := Evo.of_drew hd163
    have z165 : w162.heap.size = w148.heap.size := by rw [hd163]
    clear hd163
    have s167 := Step.of0 X149 e164
    have er166 := RB.refl w148.heap.size [] w162
    have E168 := (Evo.then0 E154 (Step.evo s167))
    have hXo169 := (Old.step hXo155 s167)
    have hS170 := (Sub.trans hS156 (Step.up s167))
    have hl171 := (Sl.step hl157 s167)
    have O172 := (OS.step0 O76 s167)
    refine r_take 0 (.slice a73 n74 c75) (RB.pre _ _) rfl (by kernel_rfl) (fun _ _ _ h => hQ.panic _ _ _ _ _ h) (.inl ⟨rfl, fun wq hq => (by kernel_rfl)⟩) ?_
    refine r_take 1 (.slice al1 l.length cl2) (RB.pre _ _) rfl (by kernel_rfl) (fun _ _ _ h => hQ.panic _ _ _ _ _ h) (.inl ⟨rfl, fun wq hq => (by kernel_rfl)⟩) ?_
    refine r_take 2 (.int .i64 i77) (RB.pre _ _) rfl (by kernel_rfl) (fun _ _ _ h => hQ.panic _ _ _ _ _ h) (.inl ⟨rfl, fun wq hq => (by kernel_rfl)⟩) ?_
    obtain ⟨h173, hp⟩ := hp
    obtain ⟨b174, o175, cs176, ha177, nx178, lt179, ok180, hc181⟩ := Sl.atI hl171 i77 h173
    obtain ⟨rfl, reOp182, zeLine183⟩ := r_rectoref11_Edit_open ok180
    replace hp := hp reOp182
    replace hp := hp zeLine183
    refine r_take 3 (.pointer (some ⟨b174, o175 + i77.toNat * 2, none⟩)) (RB.pre _ _) rfl (by kernel_rfl) (fun _ _ _ h => hQ.panic _ _ _ _ _ h) (.inl ⟨rfl, fun wq hq => (x_ixA (m := l.length) (c := cl2) (k := .i64) (i := i77) Tryd.underlying25 Tryd.sizeOf54 (by rw [← ha177]; kernel_rfl) (by kernel_rfl) h173)⟩) ?_
    refine r_take 4 (.pointer (some ⟨b174, o175 + i77.toNat * 2, none⟩)) (RB.pre _ _) rfl (by kernel_rfl) (fun _ _ _ h => hQ.panic _ _ _ _ _ h) (.inl ⟨rfl, fun wq hq => (by kernel_rfl)⟩) ?_
    refine r_take 5 (.int .i64 ((lget l i77).Op)) (RB.pre _ _) rfl (by kernel_rfl) (fun _ _ _ h => hQ.panic _ _ _ _ _ h) (.inl ⟨rfl, fun wq hq => (x_load1 (by kernel_rfl) Tryd.isAgg3 ((CellsAt.rb hc181 (RB.trans er166 hq) (Nat.lt_of_lt_of_eq lt179 z165) (fun h => by cases h)) 0 _ rfl))⟩) ?_
    refine r_take 6 (.slice al1 l.length cl2) (RB.pre _ _) rfl (by kernel_rfl) (fun _ _ _ h => hQ.panic _ _ _ _ _ h) (.inl ⟨rfl, fun wq hq => (by kernel_rfl)⟩) ?_
    refine r_take 7 (.int .i64 i77) (RB.pre _ _) rfl (by kernel_rfl) (fun _ _ _ h => hQ.panic _ _ _ _ _ h) (.inl ⟨rfl, fun wq hq => (by kernel_rfl)⟩) ?_
    obtain ⟨h184, hp⟩ := hp
    obtain ⟨b185, o186, cs187, ha188, nx189, lt190, ok191, hc192⟩ := Sl.atI hl171 i77 h184
    obtain ⟨rfl, reOp193, zeLine194⟩ := r_rectoref11_Edit_open ok191
    replace hp := hp reOp193
    replace hp := hp zeLine194
    refine r_take 8 (.pointer (some ⟨b185, o186 + i77.toNat * 2, none⟩)) (RB.pre _ _) rfl (by kernel_rfl) (fun _ _ _ h => hQ.panic _ _ _ _ _ h) (.inl ⟨rfl, fun wq hq => (x_ixA (m := l.length) (c := cl2) (k := .i64) (i := i77) Tryd.underlying25 Tryd.sizeOf54 (by rw [← ha188]; kernel_rfl) (by kernel_rfl) h184)⟩) ?_
    refine r_take 9 (.pointer (some ⟨b185, o186 + i77.toNat * 2 + 1, none⟩)) (RB.pre _ _) rfl (by kernel_rfl) (fun _ _ _ h => hQ.panic _ _ _ _ _ h) (.inl ⟨rfl, fun wq hq => (by kernel_rfl)⟩) ?_
    refine r_take 10 (.string ((lget l i77).Line)) (RB.pre _ _) rfl (by kernel_rfl) (fun _ _ _ h => hQ.panic _ _ _ _ _ h) (.inl ⟨rfl, fun wq hq => (x_load1 (by kernel_rfl) Tryd.isAgg9 ((CellsAt.rb hc192 (RB.trans er166 hq) (Nat.lt_of_lt_of_eq lt190 z165) (fun h => by cases h)) 1 _ rfl))⟩) ?_
    refine r_take 11 (.agg #[(.int .i64 ((lget l i77).Op)), (.string ((lget l i77).Line))]) (RB.pre _ _) rfl (by kernel_rfl) (fun _ _ _ h => hQ.panic _ _ _ _ _ h) (.inl ⟨rfl, fun wq hq => (by kernel_rfl)⟩) ?_
    refine r_ready [12] (by kernel_rfl) rfl (all_cons ⟨_, _, _, _, _, _, rfl, ?_⟩ all_nil)
    refine o_rowX (R := r_diff_Edit) [(.int .i64 ((lget l i77).Op)), (.string ((lget l i77).Line))] [(S_diff_Edit.mk ((lget l i77).Op) ((lget l i77).Line))] 48 1 (X := X149) (B := w.heap.size) E168.size rfl (by kernel_rfl) (Flat.cons (cs := [(.int .i64 ((lget l i77).Op)), (.string ((lget l i77).Line))]) (r_diff_Edit_mk reOp182 zeLine194) Flat.nil) rfl (by decide) ?_
    intro b195 w196 X197 s198 O199 n200
    have nb201 := new_of (Nat.le_trans (Nat.le_of_eq z165.symm) (RB.size er166)) n200
    have rm := RB.mono (F' := []) (Step.evo s198) (Nat.le_trans (Nat.le_of_eq z165.symm) (RB.size er166)) (fun _ h => by cases h)
    have er202 := RB.trans er166 rm
    refine ⟨fun _ => rm, ?_⟩
    have p203 := n200 _ (OS.old O172)
    refine r_ready [13] (by kernel_rfl) rfl (all_cons ⟨_, _, _, _, _, _, rfl, ?_⟩ all_nil)
    obtain ⟨h204, hp⟩ := hp
    have O205 := (OS.step0 O172 s198)
    have E206 := (Evo.then0 E168 (Step.evo s198))
    refine o_appX (R := r_diff_Edit) (X := X197) (B := w.heap.size) (L := out72) (M := [(S_diff_Edit.mk ((lget l i77).Op) ((lget l i77).Line))]) rfl elT33 rfl E206.size O205 (OS.src O199) O199.1 (by kernel_rfl) (by kernel_rfl) h204 ?_
    intro a207 n208 c209 w210 X211 s212 O213 gr214
    refine ⟨fun h => absurd h (by decide), ?_⟩
    refine r_ready [14] (by kernel_rfl) rfl (all_cons ⟨_, _, _, _, _, _, rfl, ?_⟩ all_nil)
    refine o_pv (.slice a207 n208 c209) rfl (by kernel_rfl) ?_
    refine ⟨fun h => absurd h (by decide), ?_⟩
    refine r_done (by kernel_rfl) ?_
    refine blk_normal ?_
    refine then_normal (K161 _ _ _ _ ?_)
    refine reg_ ?_
    refine sq (o_pv (.int .i64 i77) rfl (by kernel_rfl) ?_)
    obtain ⟨h215, hp⟩ := hp
    refine sq (o_pv (.int .i64 (i77 + (1 : Int))) rfl (x_add2 (k := .i64) (a := i77) (b := (1 : Int)) (i77 + (1 : Int)) (by kernel_rfl) (by kernel_rfl) (wrap_inR h215)) ?_)
    refine sq (o_pv (.int .i64 (i77 + (1 : Int))) rfl (by kernel_rfl) ?_)
    refine nil_ ?_
    have E216 := (Evo.thenW E206 (Step.evo s212) O205.2.2)
    have hXo217 := (Old.step (Old.step hXo169 s198) s212)
    have hS218 := (Sub.trans (Sub.trans hS170 (Step.up s198)) (Step.up s212))
    have hl219 := (Sl.step (Sl.step hl171 s198) s212)
    refine then_normal (hA153 _ _ _ ⟨_, [(3, (.slice a207 n208 c209)), (4, (.int .i64 (i77 + (1 : Int))))], hp.2, fit_mk (AgB.mix _ _ _) (by kernel_rfl) (vs_cons (by kernel_rfl) (vs_cons (by kernel_rfl) vs_nil)), ?_⟩)
    exact ⟨X211, (out72 ++ ([(S_diff_Edit.mk ((lget l i77).Op) ((lget l i77).Line))])), (i77 + (1 : Int)), a207, n208, c209, rfl, rfl, E216, hXo217, hS218, hl219, O213, h215, hp.1⟩
  ·
    replace hp := hp.2 h160
    refine wp_exit ?_
    refine then_exit ?_
    refine then_exit ?_
    refine blk_exit ?_
    refine then_normal (K6 _ _ _ _ ?_)
    refine seq_ (fun _ K220 => ?_)
    refine reg_ ?_
    refine sq (o_pv (.slice a73 n74 c75) rfl (by kernel_rfl) ?_)
    refine sq (o_pv (.slice a73 n74 c75) rfl (by kernel_rfl) ?_)
    refine nil_ ?_
    refine then_normal (K220 _ _ _ _ ?_)
    refine wp_ret ?_
    refine end_ret hQ (.slice a73 n74 c75) (by kernel_rfl) ?_
    exact ⟨out72, hp, E154, a73, c75, (by (rw [show n74 = out72.length from O76.1]); first | done | rfl), (OS.out O76 hS156 hX0)⟩

end Go.Proofs.YtnnbnljofklieaaDoor
