/- Walks of functions: what each asks and computes, as a plain predicate, and the contract from it. -/
import Derived.Test.YtmepomdpjlbaaaaChecked
import Derived.Test.YtmepomdpjlbaaaaG2
namespace Go.Proofs.Ytmepomdpjlbaaaa
open Go


def rectolaw8_ints_p (a : (List Int)) (b : (List Int)) (Q : Bool → Prop) : Prop :=
  ((a.length ≤ 9223372036854775807) → ((b.length ≤ 9223372036854775807) → (((¬ ((a.length : Int) = (b.length : Int))) → Q false) ∧ (((a.length : Int) = (b.length : Int)) → (∃ (I57 : Int → Prop) (m58 : Int → Nat), (I57 (0 : Int)) ∧ ∀ (i14 : Int), (I57 i14) → (inR .i64 i14) → (((i14 < (a.length : Int)) → ((inL a i14) ∧ ((inR .i64 (lget a i14)) → ((inL b i14) ∧ ((inR .i64 (lget b i14)) → (((¬ ((lget a i14) = (lget b i14))) → Q false) ∧ (((lget a i14) = (lget b i14)) → ((inR .i64 (i14 + (1 : Int))) ∧ ((I57 (i14 + (1 : Int))) ∧ m58 (i14 + (1 : Int)) < m58 i14))))))))) ∧ ((¬ (i14 < (a.length : Int))) → Q true)))))))
set_option maxRecDepth 20000 in
set_option maxHeartbeats 4000000 in
theorem rectolaw8_ints_w {X : List Nat} {w : World} {a : (List Int)} {b : (List Int)} {aa1 : Option Addr} {ca2 : Nat} {ab4 : Option Addr} {cb5 : Nat} {Q : Bool → Prop} (hX0 : Old X w) (ha3 : Sl (rInt .i64) X w aa1 ca2 a) (hb6 : Sl (rInt .i64) X w ab4 cb5 b) (hp : rectolaw8_ints_p a b Q) :
    Calls Try.prog 77 #[(.slice aa1 a.length ca2), (.slice ab4 b.length cb5)] w (Ret fun v w' => ∃ (r0 : Bool), Q r0 ∧ Evo [] w w' ∧ v = (.bool r0)) := by
  have hXo := hX0
  have E0 : Evo [] w w := RB.refl _ _ _
  have hS : Sub X X := Sub.refl _
  unfold rectolaw8_ints_p at hp
  refine enter_ Try.func77 rfl 26 [(0, (.slice aa1 a.length ca2)), (1, (.slice ab4 b.length cb5))] (by kernel_rfl) (fun Qe hQ => ?_)
  replace hp := hp (Sl.len ha3)
  replace hp := hp (Sl.len hb6)
  refine seq_ (fun _ K7 => ?_)
  refine reg_ ?_
  refine sq (o_pv (.bool false) rfl (by kernel_rfl) ?_)
  refine nil_ ?_
  refine then_normal (K7 _ _ _ _ ?_)
  refine seq_ (fun _ K8 => ?_)
  refine seq_ (fun _ K9 => ?_)
  refine reg_ ?_
  refine sq (o_pv (.slice aa1 a.length ca2) rfl (by kernel_rfl) ?_)
  refine sq (o_pv (.int .i64 (a.length : Int)) rfl (by kernel_rfl) ?_)
  refine sq (o_pv (.slice ab4 b.length cb5) rfl (by kernel_rfl) ?_)
  refine sq (o_pv (.int .i64 (b.length : Int)) rfl (by kernel_rfl) ?_)
  refine sq (o_pv (.bool (!decide ((a.length : Int) = (b.length : Int)))) rfl (by kernel_rfl) ?_)
  refine nil_ ?_
  refine then_normal (K9 _ _ _ _ ?_)
  refine cond_nd ((a.length : Int) = (b.length : Int)) (by kernel_rfl) (fun h10 => ?_) (fun h10 => ?_)
  ·
    replace hp := hp.1 h10
    refine seq_ (fun _ K11 => ?_)
    refine reg_ ?_
    refine sq (o_pv (.bool false) rfl (by kernel_rfl) ?_)
    refine nil_ ?_
    refine then_normal (K11 _ _ _ _ ?_)
    refine wp_ret ?_
    refine then_ret ?_
    refine end_ret hQ (.bool false) (by kernel_rfl) ?_
    exact ⟨false, hp, E0, rfl⟩
  ·
    replace hp := hp.2 h10
    refine wp_skip ?_
    refine then_normal (K8 _ _ _ _ ?_)
    refine seq_ (fun _ K12 => ?_)
    refine seq_ (fun _ K13 => ?_)
    refine reg_ ?_
    refine sq (o_pv (.int .i64 (0 : Int)) rfl (by kernel_rfl) ?_)
    refine nil_ ?_
    refine then_normal (K13 _ _ _ _ ?_)
    refine wp_block ?_
    obtain ⟨I57, m58, hI59, hp⟩ := hp
    refine loop_ 67106864 (fun kq lq w61 => ∃ (X62 : List Nat) (i14 : Int), (lq = [(5, (.int .i64 i14))]) ∧ (kq = m58 i14) ∧ (Evo [] w w61) ∧ (Old X62 w61) ∧ (Sub X X62) ∧ (Sl (rInt .i64) X62 w61 aa1 ca2 a) ∧ (Sl (rInt .i64) X62 w61 ab4 cb5 b) ∧ (inR .i64 i14) ∧ (I57 i14)) (m58 (0 : Int)) [(5, (.int .i64 (0 : Int)))] (vs_cons (by kernel_rfl) vs_nil) ⟨X, (0 : Int), rfl, rfl, E0, hXo, hS, ha3, hb6, (by decide), hI59⟩ ?_
    rintro _ _ w61 g64 ⟨X62, i14, rfl, rfl, E67, hXo68, hS69, ha70, hb71, ri15, hI60⟩ Kl65 hA66
    replace hp := hp i14 hI60 ri15
    refine seq_ (fun _ K72 => ?_)
    refine seq_ (fun _ K73 => ?_)
    refine reg_ ?_
    refine sq (o_pv (.int .i64 i14) rfl (by kernel_rfl) ?_)
    refine sq (o_pv (.slice aa1 a.length ca2) rfl (by kernel_rfl) ?_)
    refine sq (o_pv (.int .i64 (a.length : Int)) rfl (by kernel_rfl) ?_)
    refine sq (o_pv (.bool (decide (i14 < (a.length : Int)))) rfl (by kernel_rfl) ?_)
    refine nil_ ?_
    refine then_normal (K73 _ _ _ _ ?_)
    refine cond_d (i14 < (a.length : Int)) (by kernel_rfl) (fun h74 => ?_) (fun h74 => ?_)
    ·
      replace hp := hp.1 h74
      refine wp_skip ?_
      refine then_normal (K72 _ _ _ _ ?_)
      refine seq_ (fun _ K75 => ?_)
      refine wp_block ?_
      refine seq_ (fun _ K76 => ?_)
      refine reg_drawn (RB w61.heap.size []) 9 (by kernel_rfl) (fun w77 hd78 => ?_)
      have e79 := Evo.of_drew hd78
      have z80 : w77.heap.size = w61.heap.size := by rw [hd78]
      clear hd78
      have s82 := Step.of0 X62 e79
      have er81 := RB.refl w61.heap.size [] w77
      have E83 := (Evo.then0 E67 (Step.evo s82))
      have hXo84 := (Old.step hXo68 s82)
      have hS85 := (Sub.trans hS69 (Step.up s82))
      have ha86 := (Sl.step ha70 s82)
      have hb87 := (Sl.step hb71 s82)
      refine r_take 0 (.slice aa1 a.length ca2) (RB.pre _ _) rfl (by kernel_rfl) (fun _ _ _ h => hQ.panic _ _ _ _ _ h) (.inl ⟨rfl, fun wq hq => (by kernel_rfl)⟩) ?_
      refine r_take 1 (.int .i64 i14) (RB.pre _ _) rfl (by kernel_rfl) (fun _ _ _ h => hQ.panic _ _ _ _ _ h) (.inl ⟨rfl, fun wq hq => (by kernel_rfl)⟩) ?_
      obtain ⟨h88, hp⟩ := hp
      obtain ⟨b89, o90, cs91, ha92, nx93, lt94, ok95, hc96⟩ := Sl.atI ha86 i14 h88
      obtain ⟨rfl, re97⟩ := ok95
      replace hp := hp re97
      refine r_take 2 (.pointer (some ⟨b89, o90 + i14.toNat * 1, none⟩)) (RB.pre _ _) rfl (by kernel_rfl) (fun _ _ _ h => hQ.panic _ _ _ _ _ h) (.inl ⟨rfl, fun wq hq => (x_ixA (m := a.length) (c := ca2) (k := .i64) (i := i14) Try.underlying61 Try.sizeOf3 (by rw [← ha92]; kernel_rfl) (by kernel_rfl) h88)⟩) ?_
      refine r_take 3 (.int .i64 (lget a i14)) (RB.pre _ _) rfl (by kernel_rfl) (fun _ _ _ h => hQ.panic _ _ _ _ _ h) (.inl ⟨rfl, fun wq hq => (x_load1 (by kernel_rfl) Try.isAgg3 ((CellsAt.rb hc96 (RB.trans er81 hq) (Nat.lt_of_lt_of_eq lt94 z80) (fun h => by cases h)) 0 _ rfl))⟩) ?_
      refine r_take 4 (.slice ab4 b.length cb5) (RB.pre _ _) rfl (by kernel_rfl) (fun _ _ _ h => hQ.panic _ _ _ _ _ h) (.inl ⟨rfl, fun wq hq => (by kernel_rfl)⟩) ?_
      refine r_take 5 (.int .i64 i14) (RB.pre _ _) rfl (by kernel_rfl) (fun _ _ _ h => hQ.panic _ _ _ _ _ h) (.inl ⟨rfl, fun wq hq => (by kernel_rfl)⟩) ?_
      obtain ⟨h98, hp⟩ := hp
      obtain ⟨b99, o100, cs101, ha102, nx103, lt104, ok105, hc106⟩ := Sl.atI hb87 i14 h98
      obtain ⟨rfl, re107⟩ := ok105
      replace hp := hp re107
      refine r_take 6 (.pointer (some ⟨b99, o100 + i14.toNat * 1, none⟩)) (RB.pre _ _) rfl (by kernel_rfl) (fun _ _ _ h => hQ.panic _ _ _ _ _ h) (.inl ⟨rfl, fun wq hq => (x_ixA (m := b.length) (c := cb5) (k := .i64) (i := i14) Try.underlying61 Try.sizeOf3 (by rw [← ha102]; kernel_rfl) (by kernel_rfl) h98)⟩) ?_
      refine r_take 7 (.int .i64 (lget b i14)) (RB.pre _ _) rfl (by kernel_rfl) (fun _ _ _ h => hQ.panic _ _ _ _ _ h) (.inl ⟨rfl, fun wq hq => (x_load1 (by kernel_rfl) Try.isAgg3 ((CellsAt.rb hc106 (RB.trans er81 hq) (Nat.lt_of_lt_of_eq lt104 z80) (fun h => by cases h)) 0 _ rfl))⟩) ?_
      refine r_take 8 (.bool (!decide ((lget a i14) = (lget b i14)))) (RB.pre _ _) rfl (by kernel_rfl) (fun _ _ _ h => hQ.panic _ _ _ _ _ h) (.inl ⟨rfl, fun wq hq => (by kernel_rfl)⟩) ?_
      refine r_done (by kernel_rfl) ?_
      refine then_normal (K76 _ _ _ _ ?_)
      refine cond_nd ((lget a i14) = (lget b i14)) (by kernel_rfl) (fun h108 => ?_) (fun h108 => ?_)
      ·
        replace hp := hp.1 h108
        refine seq_ (fun _ K109 => ?_)
        refine reg_ ?_
        refine sq (o_pv (.bool false) rfl (by kernel_rfl) ?_)
        refine nil_ ?_
        refine then_normal (K109 _ _ _ _ ?_)
        refine wp_ret ?_
        refine blk_ret ?_
        refine then_ret ?_
        refine then_ret ?_
        refine blk_ret ?_
        refine then_ret ?_
        refine end_ret hQ (.bool false) (by kernel_rfl) ?_
        exact ⟨false, hp, E83, rfl⟩
      ·
        replace hp := hp.2 h108
        refine wp_skip ?_
        refine blk_normal ?_
        refine then_normal (K75 _ _ _ _ ?_)
        refine reg_ ?_
        refine sq (o_pv (.int .i64 i14) rfl (by kernel_rfl) ?_)
        obtain ⟨h110, hp⟩ := hp
        refine sq (o_pv (.int .i64 (i14 + (1 : Int))) rfl (x_add2 (k := .i64) (a := i14) (b := (1 : Int)) (i14 + (1 : Int)) (by kernel_rfl) (by kernel_rfl) (wrap_inR h110)) ?_)
        refine sq (o_pv (.int .i64 (i14 + (1 : Int))) rfl (by kernel_rfl) ?_)
        refine nil_ ?_
        refine then_normal (hA66 _ _ _ ⟨_, [(5, (.int .i64 (i14 + (1 : Int))))], hp.2, fit_mk (AgB.mix _ _ _) (by kernel_rfl) (vs_cons (by kernel_rfl) vs_nil), ?_⟩)
        exact ⟨X62, (i14 + (1 : Int)), rfl, rfl, E83, hXo84, hS85, ha86, hb87, h110, hp.1⟩
    ·
      replace hp := hp.2 h74
      refine wp_exit ?_
      refine then_exit ?_
      refine then_exit ?_
      refine blk_exit ?_
      refine then_normal (K12 _ _ _ _ ?_)
      refine seq_ (fun _ K111 => ?_)
      refine reg_ ?_
      refine sq (o_pv (.bool true) rfl (by kernel_rfl) ?_)
      refine nil_ ?_
      refine then_normal (K111 _ _ _ _ ?_)
      refine wp_ret ?_
      refine end_ret hQ (.bool true) (by kernel_rfl) ?_
      exact ⟨true, hp, E67, rfl⟩

def rectolaw8_Ints_p (a : (List Int)) (b : (List Int)) (Q : Bool → Prop) : Prop :=
  ((a.length ≤ 9223372036854775807) → ((b.length ≤ 9223372036854775807) → (rectolaw8_ints_p a b (fun (r9 : Bool) => Q r9))))
set_option maxRecDepth 20000 in
set_option maxHeartbeats 4000000 in
theorem rectolaw8_Ints_w {X : List Nat} {w : World} {a : (List Int)} {b : (List Int)} {aa1 : Option Addr} {ca2 : Nat} {ab4 : Option Addr} {cb5 : Nat} {Q : Bool → Prop} (hX0 : Old X w) (ha3 : Sl (rInt .i64) X w aa1 ca2 a) (hb6 : Sl (rInt .i64) X w ab4 cb5 b) (hp : rectolaw8_Ints_p a b Q) :
    Calls Try.prog 36 #[(.slice aa1 a.length ca2), (.slice ab4 b.length cb5)] w (Ret fun v w' => ∃ (r0 : Bool), Q r0 ∧ Evo [] w w' ∧ v = (.bool r0)) := by
  have hXo := hX0
  have E0 : Evo [] w w := RB.refl _ _ _
  have hS : Sub X X := Sub.refl _
  unfold rectolaw8_Ints_p at hp
  refine enter_ Try.func36 rfl 8 [(0, (.slice aa1 a.length ca2)), (1, (.slice ab4 b.length cb5))] (by kernel_rfl) (fun Qe hQ => ?_)
  replace hp := hp (Sl.len ha3)
  replace hp := hp (Sl.len hb6)
  refine seq_ (fun _ K7 => ?_)
  refine reg_ ?_
  refine sq (o_pv (.bool false) rfl (by kernel_rfl) ?_)
  refine nil_ ?_
  refine then_normal (K7 _ _ _ _ ?_)
  refine seq_ (fun _ K8 => ?_)
  refine reg_ ?_
  refine sq (o_pv (.slice aa1 a.length ca2) rfl (by kernel_rfl) ?_)
  refine sq (o_pv (.slice ab4 b.length cb5) rfl (by kernel_rfl) ?_)
  refine sq (o_call 77 #[(.slice aa1 a.length ca2), (.slice ab4 b.length cb5)] rfl (x_call Try.call77 (by kernel_rfl)) (rectolaw8_ints_w (X := []) (a := a) (b := b) (Old.nil _) (Sl.less ha3 (Sub.nil _)) (Sl.less hb6 (Sub.nil _)) hp) ?_)
  rintro _ w10 ⟨r9, hp, e11, rfl⟩
  have s12 := Step.of0 X e11
  refine sq (o_pv (.bool r9) rfl (by kernel_rfl) ?_)
  refine nil_ ?_
  refine then_normal (K8 _ _ _ _ ?_)
  refine wp_ret ?_
  have E13 := (Evo.then0 E0 e11)
  refine end_ret hQ (.bool r9) (by kernel_rfl) ?_
  exact ⟨r9, hp, E13, rfl⟩

def rectoref17_Is_p (g : (List (List Int))) (a : Int) (c : Int) (Q : Bool → Prop) : Prop :=
  ((g.length ≤ 9223372036854775807) → ((inR .i64 a) → ((inR .i64 c) → (∃ k49 : Bool → Prop, (∀ (s48 : Bool), k49 s48 → Q s48) ∧ (((a ≥ (1 : Int)) → (((a ≤ (g.length : Int)) → (rectoref17_Marks_p g ([c]) (fun (r78 : (List Bool)) => ((r78.length ≤ 9223372036854775807) → ((inR .i64 (a - (1 : Int))) ∧ ((inL r78 (a - (1 : Int))) ∧ (k49 (lget r78 (a - (1 : Int)))))))))) ∧ ((¬ (a ≤ (g.length : Int))) → (k49 false)))) ∧ ((¬ (a ≥ (1 : Int))) → (k49 false)))))))
set_option maxRecDepth 20000 in
set_option maxHeartbeats 4000000 in
theorem rectoref17_Is_w {X : List Nat} {w : World} {g : (List (List Int))} {a : Int} {c : Int} {ag1 : Option Addr} {cg2 : Nat} {Q : Bool → Prop} (hX0 : Old X w) (hg3 : Sl (rSl (rInt .i64)) X w ag1 cg2 g) (ra4 : inR .i64 a) (rc5 : inR .i64 c) (hp : rectoref17_Is_p g a c Q) :
    Calls Try.prog 40 #[(.slice ag1 g.length cg2), (.int .i64 a), (.int .i64 c)] w (Ret fun v w' => ∃ (r0 : Bool), Q r0 ∧ Evo [] w w' ∧ v = (.bool r0)) := by
  have hXo := hX0
  have E0 : Evo [] w w := RB.refl _ _ _
  have hS : Sub X X := Sub.refl _
  unfold rectoref17_Is_p at hp
  refine enter_ Try.func40 rfl 25 [(0, (.slice ag1 g.length cg2)), (1, (.int .i64 a)), (2, (.int .i64 c))] (by kernel_rfl) (fun Qe hQ => ?_)
  replace hp := hp (Sl.len hg3)
  replace hp := hp ra4
  replace hp := hp rc5
  refine seq_ (fun _ K6 => ?_)
  refine reg_ ?_
  refine sq (o_pv (.bool false) rfl (by kernel_rfl) ?_)
  refine nil_ ?_
  refine then_normal (K6 _ _ _ _ ?_)
  refine seq_ (fun _ K7 => ?_)
  obtain ⟨k49, hk50, hp⟩ := hp
  refine ground_ ?_
  refine join_ 33554368 (fun lq w51 => ∃ (X52 : List Nat) (s48 : Bool), (lq = [(6, (.bool s48))]) ∧ (Evo [] w w51) ∧ (Old X52 w51) ∧ (Sub X X52) ∧ (k49 s48)) (fun Kj53 hJ54 => ?_) ?_
  ·
    refine reg_ ?_
    refine sq (o_pv (.int .i64 a) rfl (by kernel_rfl) ?_)
    by_cases h59 : a ≥ (1 : Int)
    ·
      replace hp := hp.1 h59
      refine sq (o_pv (.bool true) rfl (x_dt (p := a ≥ (1 : Int)) (by kernel_rfl) h59) ?_)
      refine sq (o_pv (.bool true) rfl (by kernel_rfl) ?_)
      refine sq (o_pv (.int .i64 a) (by kernel_rfl) (by kernel_rfl) ?_)
      refine sq (o_pv (.slice ag1 g.length cg2) (by kernel_rfl) (by kernel_rfl) ?_)
      refine sq (o_pv (.int .i64 (g.length : Int)) (by kernel_rfl) (by kernel_rfl) ?_)
      by_cases h60 : a ≤ (g.length : Int)
      ·
        replace hp := hp.1 h60
        refine sq (o_pv (.bool true) (by kernel_rfl) (x_dt (p := a ≤ (g.length : Int)) (by kernel_rfl) h60) ?_)
        refine sq (o_pv (.bool true) rfl (by kernel_rfl) ?_)
        refine sq (o_pv (.bool true) rfl (by kernel_rfl) ?_)
        refine sq (o_pv (.slice ag1 g.length cg2) (by kernel_rfl) (by kernel_rfl) ?_)
        refine sq (o_pv (.int .i64 c) (by kernel_rfl) (by kernel_rfl) ?_)
        refine sq (o_rowX (R := (rInt .i64)) [(.int .i64 c)] [c] 3 1 (X := X) (B := w.heap.size) E0.size (by kernel_rfl) (by kernel_rfl) (Flat.cons (cs := [(.int .i64 c)]) (rInt_mk rc5) Flat.nil) rfl (by decide) ?_)
        intro b61 w62 X63 s64 O65 n66
        have hS67 := (Sub.trans hS (Step.up s64))
        have hg73 := (Sl.step hg3 s64)
        have hXo74 := (Old.step hXo s64)
        have E75 := (Evo.then0 E0 (Step.evo s64))
        have ax72 := OS.apold O65 hX0
        obtain ⟨X68, u69, r70, hm71⟩ := OS.release O65
        have hg76 := (Sl.less hg73 u69)
        have hXo77 := (Old.less hXo74 u69)
        refine sq (o_call 81 #[(.slice ag1 g.length cg2), (.slice (some ⟨b61, 0, none⟩) ([c]).length 1)] (by kernel_rfl) (x_call Try.call81 (by rw [← show 1 = ([c]).length from O65.1]; kernel_rfl)) (rectoref17_Marks_w (X := X68) (g := g) (c := [c]) hXo77 hg76 r70 hp) ?_)
        rintro _ w79 ⟨r78, hp, e80, a82, c83, rfl, O84⟩
        have E88 := E75
        obtain ⟨X85, s81, O86, n87⟩ := OS.own_in O84 e80 E88.size
        replace hp := hp (OS.len O86)
        refine sq (o_pv (.int .i64 a) (by kernel_rfl) (by kernel_rfl) ?_)
        obtain ⟨h89, hp⟩ := hp
        refine sq (o_pv (.int .i64 (a - (1 : Int))) (by kernel_rfl) (x_sub2 (k := .i64) (a := a) (b := (1 : Int)) (a - (1 : Int)) (by kernel_rfl) (by kernel_rfl) (wrap_inR h89)) ?_)
        obtain ⟨h90, hp⟩ := hp
        obtain ⟨b91, o92, cs93, ha94, nx95, lt96, ok97, hc98⟩ := Sl.atI (OS.rd O86) (a - (1 : Int)) h90
        obtain rfl := ok97
        refine sq (o_pv (.pointer (some ⟨b91, o92 + (a - (1 : Int)).toNat * 1, none⟩)) (by kernel_rfl) (x_ixA (m := r78.length) (c := c83) (k := .i64) (i := a - (1 : Int)) Try.underlying111 Try.sizeOf4 (by rw [← ha94]; kernel_rfl) (by kernel_rfl) ⟨h90.1, by rw [O86.1]; exact h90.2⟩) ?_)
        refine sq (o_pv (.bool (lget r78 (a - (1 : Int)))) (by kernel_rfl) (x_load1 (by kernel_rfl) Try.isAgg4 (hc98 0 _ rfl)) ?_)
        refine sq (o_pv (.bool (lget r78 (a - (1 : Int)))) rfl (by kernel_rfl) ?_)
        refine sq (o_pv (.bool (lget r78 (a - (1 : Int)))) rfl (by kernel_rfl) ?_)
        refine nil_ ?_
        have E99 := (Evo.then0 E88 (Step.evo s81))
        have hXo100 := (Old.step hXo77 s81)
        have hS101 := (Sub.trans (hm71 _ ax72 hS67) (Step.up s81))
        refine then_normal (hJ54 _ _ _ ⟨[(6, (.bool (lget r78 (a - (1 : Int)))))], fit_mk (fun _ _ => rfl) (by kernel_rfl) (vs_cons (by kernel_rfl) vs_nil), ?_⟩)
        exact ⟨X85, (lget r78 (a - (1 : Int))), rfl, E99, hXo100, hS101, hp⟩
      ·
        replace hp := hp.2 h60
        refine sq (o_pv (.bool false) (by kernel_rfl) (x_df (p := a ≤ (g.length : Int)) (by kernel_rfl) h60) ?_)
        refine sq (o_pv (.bool false) rfl (by kernel_rfl) ?_)
        refine sq (o_pv (.bool false) rfl (by kernel_rfl) ?_)
        refine sq (o_not (by kernel_rfl) ?_)
        refine sq (o_not (by kernel_rfl) ?_)
        refine sq (o_not (by kernel_rfl) ?_)
        refine sq (o_not (by kernel_rfl) ?_)
        refine sq (o_not (by kernel_rfl) ?_)
        refine sq (o_not (by kernel_rfl) ?_)
        refine sq (o_not (by kernel_rfl) ?_)
        refine sq (o_not (by kernel_rfl) ?_)
        refine sq (o_pv (.bool false) rfl (by kernel_rfl) ?_)
        refine sq (o_pv (.bool false) rfl (by kernel_rfl) ?_)
        refine nil_ ?_
        refine then_normal (hJ54 _ _ _ ⟨[(6, (.bool false))], fit_mk (fun _ _ => rfl) (by kernel_rfl) (vs_cons (by kernel_rfl) vs_nil), ?_⟩)
        exact ⟨X, false, rfl, E0, hXo, hS, hp⟩
    ·
      replace hp := hp.2 h59
      refine sq (o_pv (.bool false) rfl (x_df (p := a ≥ (1 : Int)) (by kernel_rfl) h59) ?_)
      refine sq (o_pv (.bool false) rfl (by kernel_rfl) ?_)
      refine sq (o_not (by kernel_rfl) ?_)
      refine sq (o_not (by kernel_rfl) ?_)
      refine sq (o_not (by kernel_rfl) ?_)
      refine sq (o_not (by kernel_rfl) ?_)
      refine sq (o_pv (.bool false) rfl (by kernel_rfl) ?_)
      refine sq (o_pv (.bool false) rfl (by kernel_rfl) ?_)
      refine sq (o_not (by kernel_rfl) ?_)
      refine sq (o_not (by kernel_rfl) ?_)
      refine sq (o_not (by kernel_rfl) ?_)
      refine sq (o_not (by kernel_rfl) ?_)
      refine sq (o_not (by kernel_rfl) ?_)
      refine sq (o_not (by kernel_rfl) ?_)
      refine sq (o_not (by kernel_rfl) ?_)
      refine sq (o_not (by kernel_rfl) ?_)
      refine sq (o_pv (.bool false) rfl (by kernel_rfl) ?_)
      refine sq (o_pv (.bool false) rfl (by kernel_rfl) ?_)
      refine nil_ ?_
      refine then_normal (hJ54 _ _ _ ⟨[(6, (.bool false))], fit_mk (fun _ _ => rfl) (by kernel_rfl) (vs_cons (by kernel_rfl) vs_nil), ?_⟩)
      exact ⟨X, false, rfl, E0, hXo, hS, hp⟩
  ·
    rintro _ w51 g102 ⟨X52, s48, rfl, E56, hXo57, hS58, hv55⟩
    replace hp := hk50 s48 hv55
    refine then_normal (K7 _ _ _ _ ?_)
    refine wp_ret ?_
    refine end_ret hQ (.bool s48) (by kernel_rfl) ?_
    exact ⟨s48, hp, E56, rfl⟩

def rectoref17_Bases_p (g : (List (List Int))) (a : Int) (b : Int) (Q : (List Int) → Prop) : Prop :=
  ((g.length ≤ 9223372036854775807) → ((inR .i64 a) → ((inR .i64 b) → (rectoref17_Marks_p g ([a]) (fun (r25 : (List Bool)) => ((r25.length ≤ 9223372036854775807) → (rectoref17_Marks_p g ([b]) (fun (r58 : (List Bool)) => ((r58.length ≤ 9223372036854775807) → ((0 ≤ (g.length : Int) ∧ (1 : Int) * (g.length : Int) ≤ 281474976710656) ∧ (∃ (I338 : (List Bool) → Int → Prop) (m339 : (List Bool) → Int → Nat), (I338 (List.replicate (g.length : Int).toNat (default : Bool)) (0 : Int)) ∧ ∀ (s211 : (List Bool)) (i213 : Int), (I338 s211 i213) → (s211.length ≤ 9223372036854775807) → (inR .i64 i213) → (((i213 < (g.length : Int)) → (∃ k411 : (List Bool) → Prop, (∀ (s409 : (List Bool)), k411 s409 → (s409.length ≤ 9223372036854775807) → ((inR .i64 (i213 + (1 : Int))) ∧ ((I338 s409 (i213 + (1 : Int))) ∧ m339 s409 (i213 + (1 : Int)) < m339 s211 i213))) ∧ ((inL r25 i213) ∧ ((((lget r25 i213) = true) → ((inL r58 i213) ∧ ((inL s211 i213) ∧ (k411 (lset s211 i213 (lget r58 i213)))))) ∧ ((¬ ((lget r25 i213) = true)) → ((inL s211 i213) ∧ (k411 (lset s211 i213 false)))))))) ∧ ((¬ (i213 < (g.length : Int))) → (∃ (I697 : (List Int) → Int → Prop) (m698 : (List Int) → Int → Nat), (I697 ([] : List Int) (0 : Int)) ∧ ∀ (under588 : (List Int)) (i593 : Int), (I697 under588 i593) → (under588.length ≤ 9223372036854775807) → (inR .i64 i593) → (((i593 < (g.length : Int)) → (∃ k755 : (List Int) → Prop, (∀ (under750 : (List Int)), k755 under750 → (under750.length ≤ 9223372036854775807) → ((inR .i64 (i593 + (1 : Int))) ∧ ((I697 under750 (i593 + (1 : Int))) ∧ m698 under750 (i593 + (1 : Int)) < m698 under588 i593))) ∧ ((inL s211 i593) ∧ ((((lget s211 i593) = true) → ((inL g i593) ∧ (((lget g i593).length ≤ 9223372036854775807) → (((under588.length + (lget g i593).length) * 8 ≤ 140737488355328) ∧ (k755 (under588 ++ (lget g i593))))))) ∧ (((lget s211 i593) = false) → (k755 under588)))))) ∧ ((¬ (i593 < (g.length : Int))) → (rectoref17_Marks_p g under588 (fun (r816 : (List Bool)) => ((r816.length ≤ 9223372036854775807) → (∃ (I1077 : (List Bool) → Int → Prop) (m1078 : (List Bool) → Int → Nat), (I1077 s211 (0 : Int)) ∧ ∀ (s953 : (List Bool)) (i955 : Int), (I1077 s953 i955) → (s953.length ≤ 9223372036854775807) → (inR .i64 i955) → (((i955 < (g.length : Int)) → (∃ k1147 : (List Bool) → Prop, (∀ (s1145 : (List Bool)), k1147 s1145 → (s1145.length ≤ 9223372036854775807) → ((inR .i64 (i955 + (1 : Int))) ∧ ((I1077 s1145 (i955 + (1 : Int))) ∧ m1078 s1145 (i955 + (1 : Int)) < m1078 s953 i955))) ∧ ((inL s953 i955) ∧ ((((lget s953 i955) = true) → ((inL r816 i955) ∧ ((inL s953 i955) ∧ (k1147 (lset s953 i955 (!(lget r816 i955))))))) ∧ ((¬ ((lget s953 i955) = true)) → ((inL s953 i955) ∧ (k1147 (lset s953 i955 false)))))))) ∧ ((¬ (i955 < (g.length : Int))) → (rectoref17_rising_p s953 (fun (r1215 : (List Int)) => ((r1215.length ≤ 9223372036854775807) → Q r1215)))))))))))))))))))))))))
set_option maxRecDepth 20000 in
set_option maxHeartbeats 4000000 in
theorem rectoref17_Bases_w {X : List Nat} {w : World} {g : (List (List Int))} {a : Int} {b : Int} {ag1 : Option Addr} {cg2 : Nat} {Q : (List Int) → Prop} (hX0 : Old X w) (hg3 : Sl (rSl (rInt .i64)) X w ag1 cg2 g) (ra4 : inR .i64 a) (rb5 : inR .i64 b) (hp : rectoref17_Bases_p g a b Q) :
    Calls Try.prog 44 #[(.slice ag1 g.length cg2), (.int .i64 a), (.int .i64 b)] w (Ret fun v w' => ∃ (r0 : (List Int)), Q r0 ∧ Evo [] w w' ∧ ∃ (aq01 : Option Addr) (cq02 : Nat), v = (.slice aq01 r0.length cq02) ∧ Sl (rInt .i64) X w' aq01 cq02 r0) := by
  have hXo := hX0
  have E0 : Evo [] w w := RB.refl _ _ _
  have hS : Sub X X := Sub.refl _
  unfold rectoref17_Bases_p at hp
  refine enter_ Try.func44 rfl 86 [(0, (.slice ag1 g.length cg2)), (1, (.int .i64 a)), (2, (.int .i64 b))] (by kernel_rfl) (fun Qe hQ => ?_)
  replace hp := hp (Sl.len hg3)
  replace hp := hp ra4
  replace hp := hp rb5
  refine seq_ (fun _ K6 => ?_)
  refine reg_ ?_
  refine sq (o_pv (.slice none 0 0) rfl (by kernel_rfl) ?_)
  refine nil_ ?_
  refine then_normal (K6 _ _ _ _ ?_)
  refine seq_ (fun _ K7 => ?_)
  refine reg_ ?_
  refine sq (o_pv (.slice ag1 g.length cg2) rfl (by kernel_rfl) ?_)
  refine sq (o_pv (.int .i64 a) rfl (by kernel_rfl) ?_)
  refine sq (o_rowX (R := (rInt .i64)) [(.int .i64 a)] [a] 3 1 (X := X) (B := w.heap.size) E0.size rfl (by kernel_rfl) (Flat.cons (cs := [(.int .i64 a)]) (rInt_mk ra4) Flat.nil) rfl (by decide) ?_)
  intro b8 w9 X10 s11 O12 n13
  have hS14 := (Sub.trans hS (Step.up s11))
  have hg20 := (Sl.step hg3 s11)
  have hXo21 := (Old.step hXo s11)
  have E22 := (Evo.then0 E0 (Step.evo s11))
  have ax19 := OS.apold O12 hX0
  obtain ⟨X15, u16, r17, hm18⟩ := OS.release O12
  have hg23 := (Sl.less hg20 u16)
  have hXo24 := (Old.less hXo21 u16)
  refine sq (o_call 81 #[(.slice ag1 g.length cg2), (.slice (some ⟨b8, 0, none⟩) ([a]).length 1)] rfl (x_call Try.call81 (by rw [← show 1 = ([a]).length from O12.1]; kernel_rfl)) (rectoref17_Marks_w (X := X15) (g := g) (c := [a]) hXo24 hg23 r17 hp) ?_)
  rintro _ w26 ⟨r25, hp, e27, a29, c30, rfl, O31⟩
  have E35 := E22
  obtain ⟨X32, s28, O33, n34⟩ := OS.own_in O31 e27 E35.size
  replace hp := hp (OS.len O33)
  refine sq (o_pv (.slice a29 r25.length c30) rfl (by kernel_rfl) ?_)
  refine nil_ ?_
  refine then_normal (K7 _ _ _ _ ?_)
  refine seq_ (fun _ K36 => ?_)
  refine reg_ ?_
  refine sq (o_pv (.slice ag1 g.length cg2) rfl (by kernel_rfl) ?_)
  refine sq (o_pv (.int .i64 b) rfl (by kernel_rfl) ?_)
  have E43 := (Evo.then0 E35 (Step.evo s28))
  refine sq (o_rowX (R := (rInt .i64)) [(.int .i64 b)] [b] 3 1 (X := X32) (B := w.heap.size) E43.size rfl (by kernel_rfl) (Flat.cons (cs := [(.int .i64 b)]) (rInt_mk rb5) Flat.nil) rfl (by decide) ?_)
  intro b37 w38 X39 s40 O41 n42
  have p44 := n42 _ (OS.old O33)
  have hS45 := (Sub.trans (Sub.trans (hm18 _ ax19 hS14) (Step.up s28)) (Step.up s40))
  have hg51 := (Sl.step (Sl.step hg23 s28) s40)
  have hXo52 := (Old.step (Old.step hXo24 s28) s40)
  have E53 := (Evo.then0 E43 (Step.evo s40))
  have r54 := (Sl.step (Sl.step r17 s28) s40)
  have O55 := (OS.step0 O33 s40)
  have ax50 := OS.apold O41 hX0
  obtain ⟨X46, u47, r48, hm49⟩ := OS.release O41
  have hg56 := (Sl.less hg51 u47)
  have hXo57 := (Old.less hXo52 u47)
  have O65 := (OS.less O55 u47 (hm49 _ p44 (OS.mem O55)))
  refine sq (o_call 81 #[(.slice ag1 g.length cg2), (.slice (some ⟨b37, 0, none⟩) ([b]).length 1)] rfl (x_call Try.call81 (by rw [← show 1 = ([b]).length from O41.1]; kernel_rfl)) (rectoref17_Marks_w (X := X46) (g := g) (c := [b]) hXo57 hg56 r48 hp) ?_)
  rintro _ w59 ⟨r58, hp, e60, a62, c63, rfl, O64⟩
  have E69 := E53
  obtain ⟨X66, s61, O67, n68⟩ := OS.own_in O64 e60 E69.size
  have p70 := n68 _ (OS.old O65)
  replace hp := hp (OS.len O67)
  refine sq (o_pv (.slice a62 r58.length c63) rfl (by kernel_rfl) ?_)
  refine nil_ ?_
  refine then_normal (K36 _ _ _ _ ?_)
  refine seq_ (fun _ K71 => ?_)
  refine reg_ ?_
  refine sq (o_pv (.slice ag1 g.length cg2) rfl (by kernel_rfl) ?_)
  refine sq (o_pv (.int .i64 (g.length : Int)) rfl (by kernel_rfl) ?_)
  obtain ⟨h72, hp⟩ := hp
  have O73 := (OS.step0 O65 s61)
  have E81 := (Evo.then0 E69 (Step.evo s61))
  refine sq (o_makeX (R := rBool) (kl := .i64) (kc := .i64) (X := X66) (B := w.heap.size) (.bool false) (g.length : Int) E81.size rfl Try.underlying111 (by kernel_rfl) rfl rfl (fun _ _ => rfl) (by kernel_rfl) (by kernel_rfl) h72 (inR_len (Sl.len hg56)) ?_)
  intro a74 n75 w76 X77 s78 O79 n80
  have p82 := n80 _ (OS.old O73)
  have p83 := n80 _ (OS.old O67)
  refine sq (o_pv (.slice a74 n75 n75) rfl (by kernel_rfl) ?_)
  refine nil_ ?_
  refine then_normal (K71 _ _ _ _ ?_)
  refine seq_ (fun _ K84 => ?_)
  refine seq_ (fun _ K85 => ?_)
  refine reg_ ?_
  refine sq (o_pv (.int .i64 (0 : Int)) rfl (by kernel_rfl) ?_)
  refine nil_ ?_
  refine then_normal (K85 _ _ _ _ ?_)
  refine wp_block ?_
  have hg348 := (Sl.step (Sl.step hg56 s61) s78)
  have hXo349 := (Old.step (Old.step hXo57 s61) s78)
  have E350 := (Evo.then0 E81 (Step.evo s78))
  have hS351 := (Sub.trans (Sub.trans (hm49 _ ax50 hS45) (Step.up s61)) (Step.up s78))
  have r352 := (Sl.step (Sl.step (Sl.less r54 u47) s61) s78)
  have O353 := (OS.step0 O73 s78)
  have r354 := (Sl.step (Sl.step r48 s61) s78)
  have O355 := (OS.step0 O67 s78)
  obtain ⟨I338, m339, hI340, hp⟩ := hp
  refine loop_ 35184304980992 (fun kq lq w342 => ∃ (X343 : List Nat) (s211 : (List Bool)) (i213 : Int), (lq = [(10, (.int .i64 i213))]) ∧ (kq = m339 s211 i213) ∧ (Evo [] w w342) ∧ (Old X343 w342) ∧ (Sub X X343) ∧ (Sl (rSl (rInt .i64)) X343 w342 ag1 cg2 g) ∧ (OS rBool ([]) w.heap.size X343 w342 4 a29 r25.length c30 r25) ∧ (OS rBool ([]) w.heap.size X343 w342 4 a62 r58.length c63 r58) ∧ (OS rBool ([]) w.heap.size X343 w342 4 a74 n75 n75 s211) ∧ (inR .i64 i213) ∧ (I338 s211 i213)) (m339 (List.replicate (g.length : Int).toNat (default : Bool)) (0 : Int)) [(10, (.int .i64 (0 : Int)))] (vs_cons (by kernel_rfl) vs_nil) ⟨X77, (List.replicate (g.length : Int).toNat (default : Bool)), (0 : Int), rfl, rfl, E350, hXo349, hS351, hg348, O353, O355, O79, (by decide), hI340⟩ ?_
  rintro _ _ w342 g345 ⟨X343, s211, i213, rfl, rfl, E356, hXo357, hS358, hg359, O360, O361, O212, ri214, hI341⟩ Kl346 hA347
  replace hp := hp s211 i213 hI341 (OS.len O212) ri214
  refine seq_ (fun _ K362 => ?_)
  refine seq_ (fun _ K363 => ?_)
  refine reg_ ?_
  refine sq (o_pv (.int .i64 i213) rfl (by kernel_rfl) ?_)
  refine sq (o_pv (.slice ag1 g.length cg2) rfl (by kernel_rfl) ?_)
  refine sq (o_pv (.int .i64 (g.length : Int)) rfl (by kernel_rfl) ?_)
  refine sq (o_pv (.bool (decide (i213 < (g.length : Int)))) rfl (by kernel_rfl) ?_)
  refine nil_ ?_
  refine then_normal (K363 _ _ _ _ ?_)
  refine cond_d (i213 < (g.length : Int)) (by kernel_rfl) (fun h364 => ?_) (fun h364 => ?_)
  ·
    replace hp := hp.1 h364
    refine wp_skip ?_
    refine then_normal (K362 _ _ _ _ ?_)
    refine seq_ (fun _ K365 => ?_)
    obtain ⟨k411, hk412, hp⟩ := hp
    refine ground_ ?_
    refine join_ 35180077121536 (fun lq w413 => ∃ (X414 : List Nat) (s409 : (List Bool)), (lq = []) ∧ (Evo [] w w413) ∧ (Old X414 w413) ∧ (Sub X X414) ∧ (Sl (rSl (rInt .i64)) X414 w413 ag1 cg2 g) ∧ (OS rBool ([]) w.heap.size X414 w413 4 a29 r25.length c30 r25) ∧ (OS rBool ([]) w.heap.size X414 w413 4 a62 r58.length c63 r58) ∧ (OS rBool ([]) w.heap.size X414 w413 4 a74 n75 n75 s409) ∧ (k411 s409)) (fun Kj415 hJ416 => ?_) ?_
    ·
      refine wp_block ?_
      refine reg_ ?_
      refine sq (o_pv (.slice a74 n75 n75) rfl (by kernel_rfl) ?_)
      refine sq (o_pv (.int .i64 i213) rfl (by kernel_rfl) ?_)
      refine sq (o_pv (.slice a29 r25.length c30) rfl (by kernel_rfl) ?_)
      refine sq (o_pv (.int .i64 i213) rfl (by kernel_rfl) ?_)
      obtain ⟨h424, hp⟩ := hp
      obtain ⟨b425, o426, cs427, ha428, nx429, lt430, ok431, hc432⟩ := Sl.atI (OS.rd O360) i213 h424
      obtain rfl := ok431
      refine sq (o_pv (.pointer (some ⟨b425, o426 + i213.toNat * 1, none⟩)) rfl (x_ixA (m := r25.length) (c := c30) (k := .i64) (i := i213) Try.underlying111 Try.sizeOf4 (by rw [← ha428]; kernel_rfl) (by kernel_rfl) ⟨h424.1, by rw [O360.1]; exact h424.2⟩) ?_)
      by_cases h433 : (lget r25 i213) = true
      ·
        replace hp := hp.1 h433
        refine sq (o_pv (.bool true) rfl (x_bt (x_load1 (by kernel_rfl) Try.isAgg4 (hc432 0 _ rfl)) h433) ?_)
        refine sq (o_pv (.bool true) rfl (by kernel_rfl) ?_)
        refine sq (o_pv (.slice a62 r58.length c63) (by kernel_rfl) (by kernel_rfl) ?_)
        refine sq (o_pv (.int .i64 i213) (by kernel_rfl) (by kernel_rfl) ?_)
        obtain ⟨h434, hp⟩ := hp
        obtain ⟨b435, o436, cs437, ha438, nx439, lt440, ok441, hc442⟩ := Sl.atI (OS.rd O361) i213 h434
        obtain rfl := ok441
        refine sq (o_pv (.pointer (some ⟨b435, o436 + i213.toNat * 1, none⟩)) (by kernel_rfl) (x_ixA (m := r58.length) (c := c63) (k := .i64) (i := i213) Try.underlying111 Try.sizeOf4 (by rw [← ha438]; kernel_rfl) (by kernel_rfl) ⟨h434.1, by rw [O361.1]; exact h434.2⟩) ?_)
        refine sq (o_pv (.bool (lget r58 i213)) (by kernel_rfl) (x_load1 (by kernel_rfl) Try.isAgg4 (hc442 0 _ rfl)) ?_)
        refine sq (o_pv (.bool (lget r58 i213)) rfl (by kernel_rfl) ?_)
        obtain ⟨h443, hp⟩ := hp
        obtain ⟨b444, o445, cs446, ha447, nx448, lt449, ok450, hc451⟩ := Sl.atI (OS.rd O212) i213 h443
        obtain rfl := ok450
        refine sq (o_pv (.pointer (some ⟨b444, o445 + i213.toNat * 1, none⟩)) rfl (x_ixA (m := n75) (c := n75) (k := .i64) (i := i213) Try.underlying111 Try.sizeOf4 (by rw [← ha447]; kernel_rfl) (by kernel_rfl) ⟨h443.1, by rw [O212.1]; exact h443.2⟩) ?_)
        refine sq (o_stS (o := o445) (v := (.bool (lget r58 i213))) i213 (lget r58 i213) rfl O212 ha447 (h443) (by kernel_rfl) (by kernel_rfl) Try.sizeOf4 (fun _ => rBool_mk) ?_)
        intro w452 s453 O454
        refine nil_ ?_
        refine blk_normal ?_
        have E455 := (Evo.thenW E356 (Step.evo s453) O212.2.2)
        have hXo456 := (Old.step hXo357 s453)
        have hS457 := (Sub.trans hS358 (Step.up s453))
        have hg458 := (Sl.step hg359 s453)
        have O459 := (OS.step O360 s453 p82)
        have O460 := (OS.step O361 s453 p83)
        refine then_normal (hJ416 _ _ _ ⟨[], fit_mk (fun _ _ => rfl) (by kernel_rfl) vs_nil, ?_⟩)
        exact ⟨X343, (lset s211 i213 (lget r58 i213)), rfl, E455, hXo456, hS457, hg458, O459, O460, O454, hp⟩
      ·
        replace hp := hp.2 h433
        refine sq (o_pv (.bool false) rfl (x_bf (x_load1 (by kernel_rfl) Try.isAgg4 (hc432 0 _ rfl)) h433) ?_)
        refine sq (o_pv (.bool false) rfl (by kernel_rfl) ?_)
        refine sq (o_not (by kernel_rfl) ?_)
        refine sq (o_not (by kernel_rfl) ?_)
        refine sq (o_not (by kernel_rfl) ?_)
        refine sq (o_not (by kernel_rfl) ?_)
        refine sq (o_pv (.bool false) rfl (by kernel_rfl) ?_)
        obtain ⟨h461, hp⟩ := hp
        obtain ⟨b462, o463, cs464, ha465, nx466, lt467, ok468, hc469⟩ := Sl.atI (OS.rd O212) i213 h461
        obtain rfl := ok468
        refine sq (o_pv (.pointer (some ⟨b462, o463 + i213.toNat * 1, none⟩)) rfl (x_ixA (m := n75) (c := n75) (k := .i64) (i := i213) Try.underlying111 Try.sizeOf4 (by rw [← ha465]; kernel_rfl) (by kernel_rfl) ⟨h461.1, by rw [O212.1]; exact h461.2⟩) ?_)
        refine sq (o_stS (o := o463) (v := (.bool false)) i213 false rfl O212 ha465 (h461) (by kernel_rfl) (by kernel_rfl) Try.sizeOf4 (fun _ => rBool_mk) ?_)
        intro w470 s471 O472
        refine nil_ ?_
        refine blk_normal ?_
        have E473 := (Evo.thenW E356 (Step.evo s471) O212.2.2)
        have hXo474 := (Old.step hXo357 s471)
        have hS475 := (Sub.trans hS358 (Step.up s471))
        have hg476 := (Sl.step hg359 s471)
        have O477 := (OS.step O360 s471 p82)
        have O478 := (OS.step O361 s471 p83)
        refine then_normal (hJ416 _ _ _ ⟨[], fit_mk (fun _ _ => rfl) (by kernel_rfl) vs_nil, ?_⟩)
        exact ⟨X343, (lset s211 i213 false), rfl, E473, hXo474, hS475, hg476, O477, O478, O472, hp⟩
    ·
      rintro _ w413 g479 ⟨X414, s409, rfl, E418, hXo419, hS420, hg421, O422, O423, O410, hv417⟩
      replace hp := hk412 s409 hv417 (OS.len O410)
      refine then_normal (K365 _ _ _ _ ?_)
      refine reg_ ?_
      refine sq (o_pv (.int .i64 i213) rfl (by kernel_rfl) ?_)
      obtain ⟨h480, hp⟩ := hp
      refine sq (o_pv (.int .i64 (i213 + (1 : Int))) rfl (x_add2 (k := .i64) (a := i213) (b := (1 : Int)) (i213 + (1 : Int)) (by kernel_rfl) (by kernel_rfl) (wrap_inR h480)) ?_)
      refine sq (o_pv (.int .i64 (i213 + (1 : Int))) rfl (by kernel_rfl) ?_)
      refine nil_ ?_
      refine then_normal (hA347 _ _ _ ⟨_, [(10, (.int .i64 (i213 + (1 : Int))))], hp.2, fit_mk (AgB.nest (AgB.look (AgB.mix _ _ _) (by kernel_rfl)) (by kernel_rfl) (by kernel_rfl)) (by kernel_rfl) (vs_cons (by kernel_rfl) vs_nil), ?_⟩)
      exact ⟨X414, s409, (i213 + (1 : Int)), rfl, rfl, E418, hXo419, hS420, hg421, O422, O423, O410, h480, hp.1⟩
  ·
    replace hp := hp.2 h364
    refine wp_exit ?_
    refine then_exit ?_
    refine then_exit ?_
    refine blk_exit ?_
    refine then_normal (K84 _ _ _ _ ?_)
    refine seq_ (fun _ K481 => ?_)
    refine reg_ ?_
    refine sq (o_pv (.slice none 0 0) rfl (by kernel_rfl) ?_)
    refine nil_ ?_
    refine then_normal (K481 _ _ _ _ ?_)
    refine seq_ (fun _ K482 => ?_)
    refine seq_ (fun _ K483 => ?_)
    refine reg_ ?_
    refine sq (o_pv (.int .i64 (0 : Int)) rfl (by kernel_rfl) ?_)
    refine nil_ ?_
    refine then_normal (K483 _ _ _ _ ?_)
    refine wp_block ?_
    obtain ⟨I697, m698, hI699, hp⟩ := hp
    refine loop_ 2305807824841611264 (fun kq lq w701 => ∃ (X702 : List Nat) (under588 : (List Int)) (i593 : Int) (a589 : Option Addr) (n590 : Nat) (c591 : Nat), (lq = [(11, (.slice a589 n590 c591)), (12, (.int .i64 i593))]) ∧ (kq = m698 under588 i593) ∧ (Evo [] w w701) ∧ (Old X702 w701) ∧ (Sub X X702) ∧ (Sl (rSl (rInt .i64)) X702 w701 ag1 cg2 g) ∧ (OS rBool ([]) w.heap.size X702 w701 4 a74 n75 n75 s211) ∧ (OS (rInt .i64) ([]) w.heap.size X702 w701 3 a589 n590 c591 under588) ∧ (Ap (blkL a74) (blkL a589)) ∧ (inR .i64 i593) ∧ (I697 under588 i593)) (m698 ([] : List Int) (0 : Int)) [(11, (.slice none 0 0)), (12, (.int .i64 (0 : Int)))] (vs_cons (by kernel_rfl) (vs_cons (by kernel_rfl) vs_nil)) ⟨X343, ([] : List Int), (0 : Int), none, 0, 0, rfl, rfl, E356, hXo357, hS358, hg359, O212, (OS.nil _ _ _ _), (Ap.nil_r _), (by decide), hI699⟩ ?_
    rintro _ _ w701 g704 ⟨X702, under588, i593, a589, n590, c591, rfl, rfl, E707, hXo708, hS709, hg710, O711, O592, p712, ri594, hI700⟩ Kl705 hA706
    replace hp := hp under588 i593 hI700 (OS.len O592) ri594
    refine seq_ (fun _ K713 => ?_)
    refine seq_ (fun _ K714 => ?_)
    refine reg_ ?_
    refine sq (o_pv (.int .i64 i593) rfl (by kernel_rfl) ?_)
    refine sq (o_pv (.slice ag1 g.length cg2) rfl (by kernel_rfl) ?_)
    refine sq (o_pv (.int .i64 (g.length : Int)) rfl (by kernel_rfl) ?_)
    refine sq (o_pv (.bool (decide (i593 < (g.length : Int)))) rfl (by kernel_rfl) ?_)
    refine nil_ ?_
    refine then_normal (K714 _ _ _ _ ?_)
    refine cond_d (i593 < (g.length : Int)) (by kernel_rfl) (fun h715 => ?_) (fun h715 => ?_)
    ·
      replace hp := hp.1 h715
      refine wp_skip ?_
      refine then_normal (K713 _ _ _ _ ?_)
      refine seq_ (fun _ K716 => ?_)
      obtain ⟨k755, hk756, hp⟩ := hp
      refine ground_ ?_
      refine join_ 2303591209400010752 (fun lq w757 => ∃ (X758 : List Nat) (under750 : (List Int)) (a751 : Option Addr) (n752 : Nat) (c753 : Nat), (lq = [(11, (.slice a751 n752 c753))]) ∧ (Evo [] w w757) ∧ (Old X758 w757) ∧ (Sub X X758) ∧ (Sl (rSl (rInt .i64)) X758 w757 ag1 cg2 g) ∧ (OS rBool ([]) w.heap.size X758 w757 4 a74 n75 n75 s211) ∧ (OS (rInt .i64) ([]) w.heap.size X758 w757 3 a751 n752 c753 under750) ∧ (Ap (blkL a74) (blkL a751)) ∧ (k755 under750)) (fun Kj759 hJ760 => ?_) ?_
      ·
        refine wp_block ?_
        refine seq_ (fun _ K768 => ?_)
        refine reg_ ?_
        refine sq (o_pv (.slice a74 n75 n75) rfl (by kernel_rfl) ?_)
        refine sq (o_pv (.int .i64 i593) rfl (by kernel_rfl) ?_)
        obtain ⟨h769, hp⟩ := hp
        obtain ⟨b770, o771, cs772, ha773, nx774, lt775, ok776, hc777⟩ := Sl.atI (OS.rd O711) i593 h769
        obtain rfl := ok776
        refine sq (o_pv (.pointer (some ⟨b770, o771 + i593.toNat * 1, none⟩)) rfl (x_ixA (m := n75) (c := n75) (k := .i64) (i := i593) Try.underlying111 Try.sizeOf4 (by rw [← ha773]; kernel_rfl) (by kernel_rfl) ⟨h769.1, by rw [O711.1]; exact h769.2⟩) ?_)
        refine sq (o_pv (.bool (lget s211 i593)) rfl (x_load1 (by kernel_rfl) Try.isAgg4 (hc777 0 _ rfl)) ?_)
        refine nil_ ?_
        refine then_normal (K768 _ _ _ _ ?_)
        refine cond_b (lget s211 i593) (by kernel_rfl) (fun h778 => ?_) (fun h778 => ?_)
        ·
          replace hp := hp.1 h778
          refine reg_ ?_
          refine sq (o_pv (.slice a589 n590 c591) rfl (by kernel_rfl) ?_)
          refine sq (o_pv (.slice ag1 g.length cg2) rfl (by kernel_rfl) ?_)
          refine sq (o_pv (.int .i64 i593) rfl (by kernel_rfl) ?_)
          obtain ⟨h779, hp⟩ := hp
          obtain ⟨b780, o781, cs782, ha783, nx784, lt785, ok786, hc787⟩ := Sl.atI hg710 i593 h779
          obtain ⟨ae788, ce789, rfl, he790⟩ := ok786
          replace hp := hp (Sl.len he790)
          refine sq (o_pv (.pointer (some ⟨b780, o781 + i593.toNat * 1, none⟩)) rfl (x_ixA (m := g.length) (c := cg2) (k := .i64) (i := i593) Try.underlying54 Try.sizeOf61 (by rw [← ha783]; kernel_rfl) (by kernel_rfl) h779) ?_)
          refine sq (o_pv (.slice ae788 ((lget g i593).length) ce789) rfl (x_load1 (by kernel_rfl) Try.isAgg61 (hc787 0 _ rfl)) ?_)
          obtain ⟨h791, hp⟩ := hp
          refine sq (o_appX (R := (rInt .i64)) (X := X702) (B := w.heap.size) (L := under588) (M := lget g i593) rfl elT61 rfl E707.size O592 (Sl.src he790) rfl (by kernel_rfl) (by kernel_rfl) h791 ?_)
          intro a792 n793 c794 w795 X796 s797 O798 gr799
          have p800 := gr799 _ p712 (OS.old O711)
          refine sq (o_pv (.slice a792 n793 c794) rfl (by kernel_rfl) ?_)
          refine nil_ ?_
          refine blk_normal ?_
          have E801 := (Evo.thenW E707 (Step.evo s797) O592.2.2)
          have hXo802 := (Old.step hXo708 s797)
          have hS803 := (Sub.trans hS709 (Step.up s797))
          have hg804 := (Sl.step hg710 s797)
          have O805 := (OS.step O711 s797 p712)
          refine then_normal (hJ760 _ _ _ ⟨[(11, (.slice a792 n793 c794))], fit_mk (fun _ _ => rfl) (by kernel_rfl) (vs_cons (by kernel_rfl) vs_nil), ?_⟩)
          exact ⟨X796, (under588 ++ (lget g i593)), a792, n793, c794, rfl, E801, hXo802, hS803, hg804, O805, O798, p800, hp⟩
        ·
          replace hp := hp.2 h778
          refine wp_skip ?_
          refine blk_normal ?_
          refine then_normal (hJ760 _ _ _ ⟨[(11, (.slice a589 n590 c591))], fit_mk (fun _ _ => rfl) (by kernel_rfl) (vs_cons (by kernel_rfl) vs_nil), ?_⟩)
          exact ⟨X702, under588, a589, n590, c591, rfl, E707, hXo708, hS709, hg710, O711, O592, p712, hp⟩
      ·
        rintro _ w757 g806 ⟨X758, under750, a751, n752, c753, rfl, E762, hXo763, hS764, hg765, O766, O754, p767, hv761⟩
        replace hp := hk756 under750 hv761 (OS.len O754)
        refine then_normal (K716 _ _ _ _ ?_)
        refine reg_ ?_
        refine sq (o_pv (.int .i64 i593) rfl (by kernel_rfl) ?_)
        obtain ⟨h807, hp⟩ := hp
        refine sq (o_pv (.int .i64 (i593 + (1 : Int))) rfl (x_add2 (k := .i64) (a := i593) (b := (1 : Int)) (i593 + (1 : Int)) (by kernel_rfl) (by kernel_rfl) (wrap_inR h807)) ?_)
        refine sq (o_pv (.int .i64 (i593 + (1 : Int))) rfl (by kernel_rfl) ?_)
        refine nil_ ?_
        refine then_normal (hA706 _ _ _ ⟨_, [(11, (.slice a751 n752 c753)), (12, (.int .i64 (i593 + (1 : Int))))], hp.2, fit_mk (AgB.nest (AgB.look (AgB.mix _ _ _) (by kernel_rfl)) (by kernel_rfl) (by kernel_rfl)) (by kernel_rfl) (vs_cons (by kernel_rfl) (vs_cons (by kernel_rfl) vs_nil)), ?_⟩)
        exact ⟨X758, under750, (i593 + (1 : Int)), a751, n752, c753, rfl, rfl, E762, hXo763, hS764, hg765, O766, O754, p767, h807, hp.1⟩
    ·
      replace hp := hp.2 h715
      refine wp_exit ?_
      refine then_exit ?_
      refine then_exit ?_
      refine blk_exit ?_
      refine then_normal (K482 _ _ _ _ ?_)
      refine seq_ (fun _ K808 => ?_)
      refine reg_ ?_
      refine sq (o_pv (.slice ag1 g.length cg2) rfl (by kernel_rfl) ?_)
      refine sq (o_pv (.slice a589 n590 c591) rfl (by kernel_rfl) ?_)
      have ax813 := OS.apold O592 hX0
      obtain ⟨X809, u810, r811, hm812⟩ := OS.release O592
      have hg814 := (Sl.less hg710 u810)
      have hXo815 := (Old.less hXo708 u810)
      have O823 := (OS.less O711 u810 (hm812 _ p712 (OS.mem O711)))
      refine sq (o_call 81 #[(.slice ag1 g.length cg2), (.slice a589 under588.length c591)] rfl (x_call Try.call81 (by rw [← show n590 = under588.length from O592.1]; kernel_rfl)) (rectoref17_Marks_w (X := X809) (g := g) (c := under588) hXo815 hg814 r811 hp) ?_)
      rintro _ w817 ⟨r816, hp, e818, a820, c821, rfl, O822⟩
      have E827 := E707
      obtain ⟨X824, s819, O825, n826⟩ := OS.own_in O822 e818 E827.size
      have p828 := n826 _ (OS.old O823)
      replace hp := hp (OS.len O825)
      refine sq (o_pv (.slice a820 r816.length c821) rfl (by kernel_rfl) ?_)
      refine nil_ ?_
      refine then_normal (K808 _ _ _ _ ?_)
      refine seq_ (fun _ K829 => ?_)
      refine seq_ (fun _ K830 => ?_)
      refine reg_ ?_
      refine sq (o_pv (.int .i64 (0 : Int)) rfl (by kernel_rfl) ?_)
      refine nil_ ?_
      refine then_normal (K830 _ _ _ _ ?_)
      refine wp_block ?_
      have E1087 := (Evo.then0 E827 (Step.evo s819))
      have hXo1088 := (Old.step hXo815 s819)
      have hS1089 := (Sub.trans (hm812 _ ax813 hS709) (Step.up s819))
      have hg1090 := (Sl.step hg814 s819)
      have O1091 := (OS.step0 O823 s819)
      have r1092 := (Sl.step r811 s819)
      obtain ⟨I1077, m1078, hI1079, hp⟩ := hp
      refine loop_ 19342794667089993085763584 (fun kq lq w1081 => ∃ (X1082 : List Nat) (s953 : (List Bool)) (i955 : Int), (lq = [(14, (.int .i64 i955))]) ∧ (kq = m1078 s953 i955) ∧ (Evo [] w w1081) ∧ (Old X1082 w1081) ∧ (Sub X X1082) ∧ (Sl (rSl (rInt .i64)) X1082 w1081 ag1 cg2 g) ∧ (OS rBool ([]) w.heap.size X1082 w1081 4 a820 r816.length c821 r816) ∧ (OS rBool ([]) w.heap.size X1082 w1081 4 a74 n75 n75 s953) ∧ (inR .i64 i955) ∧ (I1077 s953 i955)) (m1078 s211 (0 : Int)) [(14, (.int .i64 (0 : Int)))] (vs_cons (by kernel_rfl) vs_nil) ⟨X824, s211, (0 : Int), rfl, rfl, E1087, hXo1088, hS1089, hg1090, O825, O1091, (by decide), hI1079⟩ ?_
      rintro _ _ w1081 g1084 ⟨X1082, s953, i955, rfl, rfl, E1093, hXo1094, hS1095, hg1096, O1097, O954, ri956, hI1080⟩ Kl1085 hA1086
      replace hp := hp s953 i955 hI1080 (OS.len O954) ri956
      refine seq_ (fun _ K1098 => ?_)
      refine seq_ (fun _ K1099 => ?_)
      refine reg_ ?_
      refine sq (o_pv (.int .i64 i955) rfl (by kernel_rfl) ?_)
      refine sq (o_pv (.slice ag1 g.length cg2) rfl (by kernel_rfl) ?_)
      refine sq (o_pv (.int .i64 (g.length : Int)) rfl (by kernel_rfl) ?_)
      refine sq (o_pv (.bool (decide (i955 < (g.length : Int)))) rfl (by kernel_rfl) ?_)
      refine nil_ ?_
      refine then_normal (K1099 _ _ _ _ ?_)
      refine cond_d (i955 < (g.length : Int)) (by kernel_rfl) (fun h1100 => ?_) (fun h1100 => ?_)
      ·
        replace hp := hp.1 h1100
        refine wp_skip ?_
        refine then_normal (K1098 _ _ _ _ ?_)
        refine seq_ (fun _ K1101 => ?_)
        obtain ⟨k1147, hk1148, hp⟩ := hp
        refine ground_ ?_
        refine join_ 19341632522213349383995392 (fun lq w1149 => ∃ (X1150 : List Nat) (s1145 : (List Bool)), (lq = []) ∧ (Evo [] w w1149) ∧ (Old X1150 w1149) ∧ (Sub X X1150) ∧ (Sl (rSl (rInt .i64)) X1150 w1149 ag1 cg2 g) ∧ (OS rBool ([]) w.heap.size X1150 w1149 4 a820 r816.length c821 r816) ∧ (OS rBool ([]) w.heap.size X1150 w1149 4 a74 n75 n75 s1145) ∧ (k1147 s1145)) (fun Kj1151 hJ1152 => ?_) ?_
        ·
          refine wp_block ?_
          refine reg_ ?_
          refine sq (o_pv (.slice a74 n75 n75) rfl (by kernel_rfl) ?_)
          refine sq (o_pv (.int .i64 i955) rfl (by kernel_rfl) ?_)
          refine sq (o_pv (.slice a74 n75 n75) rfl (by kernel_rfl) ?_)
          refine sq (o_pv (.int .i64 i955) rfl (by kernel_rfl) ?_)
          obtain ⟨h1159, hp⟩ := hp
          obtain ⟨b1160, o1161, cs1162, ha1163, nx1164, lt1165, ok1166, hc1167⟩ := Sl.atI (OS.rd O954) i955 h1159
          obtain rfl := ok1166
          refine sq (o_pv (.pointer (some ⟨b1160, o1161 + i955.toNat * 1, none⟩)) rfl (x_ixA (m := n75) (c := n75) (k := .i64) (i := i955) Try.underlying111 Try.sizeOf4 (by rw [← ha1163]; kernel_rfl) (by kernel_rfl) ⟨h1159.1, by rw [O954.1]; exact h1159.2⟩) ?_)
          by_cases h1168 : (lget s953 i955) = true
          ·
            replace hp := hp.1 h1168
            refine sq (o_pv (.bool true) rfl (x_bt (x_load1 (by kernel_rfl) Try.isAgg4 (hc1167 0 _ rfl)) h1168) ?_)
            refine sq (o_pv (.bool true) rfl (by kernel_rfl) ?_)
            refine sq (o_pv (.slice a820 r816.length c821) (by kernel_rfl) (by kernel_rfl) ?_)
            refine sq (o_pv (.int .i64 i955) (by kernel_rfl) (by kernel_rfl) ?_)
            obtain ⟨h1169, hp⟩ := hp
            obtain ⟨b1170, o1171, cs1172, ha1173, nx1174, lt1175, ok1176, hc1177⟩ := Sl.atI (OS.rd O1097) i955 h1169
            obtain rfl := ok1176
            refine sq (o_pv (.pointer (some ⟨b1170, o1171 + i955.toNat * 1, none⟩)) (by kernel_rfl) (x_ixA (m := r816.length) (c := c821) (k := .i64) (i := i955) Try.underlying111 Try.sizeOf4 (by rw [← ha1173]; kernel_rfl) (by kernel_rfl) ⟨h1169.1, by rw [O1097.1]; exact h1169.2⟩) ?_)
            refine sq (o_pv (.bool (lget r816 i955)) (by kernel_rfl) (x_load1 (by kernel_rfl) Try.isAgg4 (hc1177 0 _ rfl)) ?_)
            refine sq (o_pv (.bool (!(lget r816 i955))) (by kernel_rfl) (by kernel_rfl) ?_)
            refine sq (o_pv (.bool (!(lget r816 i955))) rfl (by kernel_rfl) ?_)
            obtain ⟨h1178, hp⟩ := hp
            obtain ⟨b1179, o1180, cs1181, ha1182, nx1183, lt1184, ok1185, hc1186⟩ := Sl.atI (OS.rd O954) i955 h1178
            obtain rfl := ok1185
            refine sq (o_pv (.pointer (some ⟨b1179, o1180 + i955.toNat * 1, none⟩)) rfl (x_ixA (m := n75) (c := n75) (k := .i64) (i := i955) Try.underlying111 Try.sizeOf4 (by rw [← ha1182]; kernel_rfl) (by kernel_rfl) ⟨h1178.1, by rw [O954.1]; exact h1178.2⟩) ?_)
            refine sq (o_stS (o := o1180) (v := (.bool (!(lget r816 i955)))) i955 (!(lget r816 i955)) rfl O954 ha1182 (h1178) (by kernel_rfl) (by kernel_rfl) Try.sizeOf4 (fun _ => rBool_mk) ?_)
            intro w1187 s1188 O1189
            refine nil_ ?_
            refine blk_normal ?_
            have E1190 := (Evo.thenW E1093 (Step.evo s1188) O954.2.2)
            have hXo1191 := (Old.step hXo1094 s1188)
            have hS1192 := (Sub.trans hS1095 (Step.up s1188))
            have hg1193 := (Sl.step hg1096 s1188)
            have O1194 := (OS.step O1097 s1188 (Ap.symm p828))
            refine then_normal (hJ1152 _ _ _ ⟨[], fit_mk (fun _ _ => rfl) (by kernel_rfl) vs_nil, ?_⟩)
            exact ⟨X1082, (lset s953 i955 (!(lget r816 i955))), rfl, E1190, hXo1191, hS1192, hg1193, O1194, O1189, hp⟩
          ·
            replace hp := hp.2 h1168
            refine sq (o_pv (.bool false) rfl (x_bf (x_load1 (by kernel_rfl) Try.isAgg4 (hc1167 0 _ rfl)) h1168) ?_)
            refine sq (o_pv (.bool false) rfl (by kernel_rfl) ?_)
            refine sq (o_not (by kernel_rfl) ?_)
            refine sq (o_not (by kernel_rfl) ?_)
            refine sq (o_not (by kernel_rfl) ?_)
            refine sq (o_not (by kernel_rfl) ?_)
            refine sq (o_not (by kernel_rfl) ?_)
            refine sq (o_pv (.bool false) rfl (by kernel_rfl) ?_)
            obtain ⟨h1195, hp⟩ := hp
            obtain ⟨b1196, o1197, cs1198, ha1199, nx1200, lt1201, ok1202, hc1203⟩ := Sl.atI (OS.rd O954) i955 h1195
            obtain rfl := ok1202
            refine sq (o_pv (.pointer (some ⟨b1196, o1197 + i955.toNat * 1, none⟩)) rfl (x_ixA (m := n75) (c := n75) (k := .i64) (i := i955) Try.underlying111 Try.sizeOf4 (by rw [← ha1199]; kernel_rfl) (by kernel_rfl) ⟨h1195.1, by rw [O954.1]; exact h1195.2⟩) ?_)
            refine sq (o_stS (o := o1197) (v := (.bool false)) i955 false rfl O954 ha1199 (h1195) (by kernel_rfl) (by kernel_rfl) Try.sizeOf4 (fun _ => rBool_mk) ?_)
            intro w1204 s1205 O1206
            refine nil_ ?_
            refine blk_normal ?_
            have E1207 := (Evo.thenW E1093 (Step.evo s1205) O954.2.2)
            have hXo1208 := (Old.step hXo1094 s1205)
            have hS1209 := (Sub.trans hS1095 (Step.up s1205))
            have hg1210 := (Sl.step hg1096 s1205)
            have O1211 := (OS.step O1097 s1205 (Ap.symm p828))
            refine then_normal (hJ1152 _ _ _ ⟨[], fit_mk (fun _ _ => rfl) (by kernel_rfl) vs_nil, ?_⟩)
            exact ⟨X1082, (lset s953 i955 false), rfl, E1207, hXo1208, hS1209, hg1210, O1211, O1206, hp⟩
        ·
          rintro _ w1149 g1212 ⟨X1150, s1145, rfl, E1154, hXo1155, hS1156, hg1157, O1158, O1146, hv1153⟩
          replace hp := hk1148 s1145 hv1153 (OS.len O1146)
          refine then_normal (K1101 _ _ _ _ ?_)
          refine reg_ ?_
          refine sq (o_pv (.int .i64 i955) rfl (by kernel_rfl) ?_)
          obtain ⟨h1213, hp⟩ := hp
          refine sq (o_pv (.int .i64 (i955 + (1 : Int))) rfl (x_add2 (k := .i64) (a := i955) (b := (1 : Int)) (i955 + (1 : Int)) (by kernel_rfl) (by kernel_rfl) (wrap_inR h1213)) ?_)
          refine sq (o_pv (.int .i64 (i955 + (1 : Int))) rfl (by kernel_rfl) ?_)
          refine nil_ ?_
          refine then_normal (hA1086 _ _ _ ⟨_, [(14, (.int .i64 (i955 + (1 : Int))))], hp.2, fit_mk (AgB.nest (AgB.look (AgB.mix _ _ _) (by kernel_rfl)) (by kernel_rfl) (by kernel_rfl)) (by kernel_rfl) (vs_cons (by kernel_rfl) vs_nil), ?_⟩)
          exact ⟨X1150, s1145, (i955 + (1 : Int)), rfl, rfl, E1154, hXo1155, hS1156, hg1157, O1158, O1146, h1213, hp.1⟩
      ·
        replace hp := hp.2 h1100
        refine wp_exit ?_
        refine then_exit ?_
        refine then_exit ?_
        refine blk_exit ?_
        refine then_normal (K829 _ _ _ _ ?_)
        refine seq_ (fun _ K1214 => ?_)
        refine reg_ ?_
        refine sq (o_pv (.slice a74 n75 n75) rfl (by kernel_rfl) ?_)
        refine sq (o_call 80 #[(.slice a74 s953.length n75)] rfl (x_call Try.call80 (by rw [← show n75 = s953.length from O954.1]; kernel_rfl)) (rectoref17_rising_w (X := X) (in_ := s953) (Old.less hXo1094 hS1095) (OS.out O954 hS1095 hX0) hp) ?_)
        rintro _ w1216 ⟨r1215, hp, e1217, ar1219, cr1220, rfl, hr1221⟩
        have s1218 := Step.of0 X1082 e1217
        replace hp := hp (Sl.len hr1221)
        refine sq (o_pv (.slice ar1219 r1215.length cr1220) rfl (by kernel_rfl) ?_)
        refine nil_ ?_
        refine then_normal (K1214 _ _ _ _ ?_)
        refine wp_ret ?_
        have E1222 := (Evo.then0 E1093 e1217)
        refine end_ret hQ (.slice ar1219 r1215.length cr1220) (by kernel_rfl) ?_
        exact ⟨r1215, hp, E1222, ar1219, cr1220, rfl, hr1221⟩

def rectoref17_Base_p (g : (List (List Int))) (a : Int) (b : Int) (Q : Int → Prop) : Prop :=
  ((g.length ≤ 9223372036854775807) → ((inR .i64 a) → ((inR .i64 b) → (rectoref17_Bases_p g a b (fun (r8 : (List Int)) => ((r8.length ≤ 9223372036854775807) → ((((r8.length : Int) = (0 : Int)) → Q (0 : Int)) ∧ ((¬ ((r8.length : Int) = (0 : Int))) → ((inR .i64 ((r8.length : Int) - (1 : Int))) ∧ ((inL r8 ((r8.length : Int) - (1 : Int))) ∧ ((inR .i64 (lget r8 ((r8.length : Int) - (1 : Int)))) → Q (lget r8 ((r8.length : Int) - (1 : Int))))))))))))))
set_option maxRecDepth 20000 in
set_option maxHeartbeats 4000000 in
theorem rectoref17_Base_w {X : List Nat} {w : World} {g : (List (List Int))} {a : Int} {b : Int} {ag1 : Option Addr} {cg2 : Nat} {Q : Int → Prop} (hX0 : Old X w) (hg3 : Sl (rSl (rInt .i64)) X w ag1 cg2 g) (ra4 : inR .i64 a) (rb5 : inR .i64 b) (hp : rectoref17_Base_p g a b Q) :
    Calls Try.prog 42 #[(.slice ag1 g.length cg2), (.int .i64 a), (.int .i64 b)] w (Ret fun v w' => ∃ (r0 : Int), Q r0 ∧ Evo [] w w' ∧ v = (.int .i64 r0) ∧ inR .i64 r0) := by
  have hXo := hX0
  have E0 : Evo [] w w := RB.refl _ _ _
  have hS : Sub X X := Sub.refl _
  unfold rectoref17_Base_p at hp
  refine enter_ Try.func42 rfl 21 [(0, (.slice ag1 g.length cg2)), (1, (.int .i64 a)), (2, (.int .i64 b))] (by kernel_rfl) (fun Qe hQ => ?_)
  replace hp := hp (Sl.len hg3)
  replace hp := hp ra4
  replace hp := hp rb5
  refine seq_ (fun _ K6 => ?_)
  refine reg_ ?_
  refine sq (o_pv (.int .i64 (0 : Int)) rfl (by kernel_rfl) ?_)
  refine nil_ ?_
  refine then_normal (K6 _ _ _ _ ?_)
  refine seq_ (fun _ K7 => ?_)
  refine reg_ ?_
  refine sq (o_pv (.slice ag1 g.length cg2) rfl (by kernel_rfl) ?_)
  refine sq (o_pv (.int .i64 a) rfl (by kernel_rfl) ?_)
  refine sq (o_pv (.int .i64 b) rfl (by kernel_rfl) ?_)
  refine sq (o_call 44 #[(.slice ag1 g.length cg2), (.int .i64 a), (.int .i64 b)] rfl (x_call Try.call44 (by kernel_rfl)) (rectoref17_Bases_w (X := X) (g := g) (a := a) (b := b) hXo hg3 ra4 rb5 hp) ?_)
  rintro _ w9 ⟨r8, hp, e10, ar12, cr13, rfl, hr14⟩
  have s11 := Step.of0 X e10
  replace hp := hp (Sl.len hr14)
  refine sq (o_pv (.slice ar12 r8.length cr13) rfl (by kernel_rfl) ?_)
  refine nil_ ?_
  refine then_normal (K7 _ _ _ _ ?_)
  refine seq_ (fun _ K15 => ?_)
  refine seq_ (fun _ K16 => ?_)
  refine reg_ ?_
  refine sq (o_pv (.slice ar12 r8.length cr13) rfl (by kernel_rfl) ?_)
  refine sq (o_pv (.int .i64 (r8.length : Int)) rfl (by kernel_rfl) ?_)
  refine sq (o_pv (.bool (decide ((r8.length : Int) = (0 : Int)))) rfl (by kernel_rfl) ?_)
  refine nil_ ?_
  refine then_normal (K16 _ _ _ _ ?_)
  refine cond_d ((r8.length : Int) = (0 : Int)) (by kernel_rfl) (fun h17 => ?_) (fun h17 => ?_)
  ·
    replace hp := hp.1 h17
    refine seq_ (fun _ K18 => ?_)
    refine reg_ ?_
    refine sq (o_pv (.int .i64 (0 : Int)) rfl (by kernel_rfl) ?_)
    refine nil_ ?_
    refine then_normal (K18 _ _ _ _ ?_)
    refine wp_ret ?_
    refine then_ret ?_
    have E19 := (Evo.then0 E0 e10)
    refine end_ret hQ (.int .i64 (0 : Int)) (by kernel_rfl) ?_
    exact ⟨(0 : Int), hp, E19, rfl, (by decide)⟩
  ·
    replace hp := hp.2 h17
    refine wp_skip ?_
    refine then_normal (K15 _ _ _ _ ?_)
    refine seq_ (fun _ K20 => ?_)
    refine reg_ ?_
    refine sq (o_pv (.slice ar12 r8.length cr13) rfl (by kernel_rfl) ?_)
    refine sq (o_pv (.slice ar12 r8.length cr13) rfl (by kernel_rfl) ?_)
    refine sq (o_pv (.int .i64 (r8.length : Int)) rfl (by kernel_rfl) ?_)
    obtain ⟨h21, hp⟩ := hp
    refine sq (o_pv (.int .i64 ((r8.length : Int) - (1 : Int))) rfl (x_sub2 (k := .i64) (a := (r8.length : Int)) (b := (1 : Int)) ((r8.length : Int) - (1 : Int)) (by kernel_rfl) (by kernel_rfl) (wrap_inR h21)) ?_)
    obtain ⟨h22, hp⟩ := hp
    obtain ⟨b23, o24, cs25, ha26, nx27, lt28, ok29, hc30⟩ := Sl.atI hr14 ((r8.length : Int) - (1 : Int)) h22
    obtain ⟨rfl, re31⟩ := ok29
    replace hp := hp re31
    refine sq (o_pv (.pointer (some ⟨b23, o24 + ((r8.length : Int) - (1 : Int)).toNat * 1, none⟩)) rfl (x_ixA (m := r8.length) (c := cr13) (k := .i64) (i := (r8.length : Int) - (1 : Int)) Try.underlying61 Try.sizeOf3 (by rw [← ha26]; kernel_rfl) (by kernel_rfl) h22) ?_)
    refine sq (o_pv (.int .i64 (lget r8 ((r8.length : Int) - (1 : Int)))) rfl (x_load1 (by kernel_rfl) Try.isAgg3 (hc30 0 _ rfl)) ?_)
    refine sq (o_pv (.int .i64 (lget r8 ((r8.length : Int) - (1 : Int)))) rfl (by kernel_rfl) ?_)
    refine nil_ ?_
    refine then_normal (K20 _ _ _ _ ?_)
    refine wp_ret ?_
    have E32 := (Evo.then0 E0 e10)
    refine end_ret hQ (.int .i64 (lget r8 ((r8.length : Int) - (1 : Int)))) (by kernel_rfl) ?_
    exact ⟨(lget r8 ((r8.length : Int) - (1 : Int))), hp, E32, rfl, re31⟩

def rectoref17_Only_p (g : (List (List Int))) (a : Int) (b : Int) (Q : (List Int) → Prop) : Prop :=
  ((g.length ≤ 9223372036854775807) → ((inR .i64 a) → ((inR .i64 b) → (rectoref17_Marks_p g ([a]) (fun (r25 : (List Bool)) => ((r25.length ≤ 9223372036854775807) → (rectoref17_Marks_p g ([b]) (fun (r58 : (List Bool)) => ((r58.length ≤ 9223372036854775807) → (∃ (I319 : (List Bool) → Int → Prop) (m320 : (List Bool) → Int → Nat), (I319 r25 (0 : Int)) ∧ ∀ (s195 : (List Bool)) (i197 : Int), (I319 s195 i197) → (s195.length ≤ 9223372036854775807) → (inR .i64 i197) → (((i197 < (g.length : Int)) → (∃ k390 : (List Bool) → Prop, (∀ (s388 : (List Bool)), k390 s388 → (s388.length ≤ 9223372036854775807) → ((inR .i64 (i197 + (1 : Int))) ∧ ((I319 s388 (i197 + (1 : Int))) ∧ m320 s388 (i197 + (1 : Int)) < m320 s195 i197))) ∧ ((inL s195 i197) ∧ ((((lget s195 i197) = true) → ((inL r58 i197) ∧ ((inL s195 i197) ∧ (k390 (lset s195 i197 (!(lget r58 i197))))))) ∧ ((¬ ((lget s195 i197) = true)) → ((inL s195 i197) ∧ (k390 (lset s195 i197 false)))))))) ∧ ((¬ (i197 < (g.length : Int))) → (rectoref17_rising_p s195 (fun (r458 : (List Int)) => ((r458.length ≤ 9223372036854775807) → Q r458)))))))))))))))
set_option maxRecDepth 20000 in
set_option maxHeartbeats 4000000 in
theorem rectoref17_Only_w {X : List Nat} {w : World} {g : (List (List Int))} {a : Int} {b : Int} {ag1 : Option Addr} {cg2 : Nat} {Q : (List Int) → Prop} (hX0 : Old X w) (hg3 : Sl (rSl (rInt .i64)) X w ag1 cg2 g) (ra4 : inR .i64 a) (rb5 : inR .i64 b) (hp : rectoref17_Only_p g a b Q) :
    Calls Try.prog 46 #[(.slice ag1 g.length cg2), (.int .i64 a), (.int .i64 b)] w (Ret fun v w' => ∃ (r0 : (List Int)), Q r0 ∧ Evo [] w w' ∧ ∃ (aq01 : Option Addr) (cq02 : Nat), v = (.slice aq01 r0.length cq02) ∧ Sl (rInt .i64) X w' aq01 cq02 r0) := by
  have hXo := hX0
  have E0 : Evo [] w w := RB.refl _ _ _
  have hS : Sub X X := Sub.refl _
  unfold rectoref17_Only_p at hp
  refine enter_ Try.func46 rfl 40 [(0, (.slice ag1 g.length cg2)), (1, (.int .i64 a)), (2, (.int .i64 b))] (by kernel_rfl) (fun Qe hQ => ?_)
  replace hp := hp (Sl.len hg3)
  replace hp := hp ra4
  replace hp := hp rb5
  refine seq_ (fun _ K6 => ?_)
  refine reg_ ?_
  refine sq (o_pv (.slice none 0 0) rfl (by kernel_rfl) ?_)
  refine nil_ ?_
  refine then_normal (K6 _ _ _ _ ?_)
  refine seq_ (fun _ K7 => ?_)
  refine reg_ ?_
  refine sq (o_pv (.slice ag1 g.length cg2) rfl (by kernel_rfl) ?_)
  refine sq (o_pv (.int .i64 a) rfl (by kernel_rfl) ?_)
  refine sq (o_rowX (R := (rInt .i64)) [(.int .i64 a)] [a] 3 1 (X := X) (B := w.heap.size) E0.size rfl (by kernel_rfl) (Flat.cons (cs := [(.int .i64 a)]) (rInt_mk ra4) Flat.nil) rfl (by decide) ?_)
  intro b8 w9 X10 s11 O12 n13
  have hS14 := (Sub.trans hS (Step.up s11))
  have hg20 := (Sl.step hg3 s11)
  have hXo21 := (Old.step hXo s11)
  have E22 := (Evo.then0 E0 (Step.evo s11))
  have ax19 := OS.apold O12 hX0
  obtain ⟨X15, u16, r17, hm18⟩ := OS.release O12
  have hg23 := (Sl.less hg20 u16)
  have hXo24 := (Old.less hXo21 u16)
  refine sq (o_call 81 #[(.slice ag1 g.length cg2), (.slice (some ⟨b8, 0, none⟩) ([a]).length 1)] rfl (x_call Try.call81 (by rw [← show 1 = ([a]).length from O12.1]; kernel_rfl)) (rectoref17_Marks_w (X := X15) (g := g) (c := [a]) hXo24 hg23 r17 hp) ?_)
  rintro _ w26 ⟨r25, hp, e27, a29, c30, rfl, O31⟩
  have E35 := E22
  obtain ⟨X32, s28, O33, n34⟩ := OS.own_in O31 e27 E35.size
  replace hp := hp (OS.len O33)
  refine sq (o_pv (.slice a29 r25.length c30) rfl (by kernel_rfl) ?_)
  refine nil_ ?_
  refine then_normal (K7 _ _ _ _ ?_)
  refine seq_ (fun _ K36 => ?_)
  refine reg_ ?_
  refine sq (o_pv (.slice ag1 g.length cg2) rfl (by kernel_rfl) ?_)
  refine sq (o_pv (.int .i64 b) rfl (by kernel_rfl) ?_)
  have E43 := (Evo.then0 E35 (Step.evo s28))
  refine sq (o_rowX (R := (rInt .i64)) [(.int .i64 b)] [b] 3 1 (X := X32) (B := w.heap.size) E43.size rfl (by kernel_rfl) (Flat.cons (cs := [(.int .i64 b)]) (rInt_mk rb5) Flat.nil) rfl (by decide) ?_)
  intro b37 w38 X39 s40 O41 n42
  have p44 := n42 _ (OS.old O33)
  have hS45 := (Sub.trans (Sub.trans (hm18 _ ax19 hS14) (Step.up s28)) (Step.up s40))
  have hg51 := (Sl.step (Sl.step hg23 s28) s40)
  have hXo52 := (Old.step (Old.step hXo24 s28) s40)
  have E53 := (Evo.then0 E43 (Step.evo s40))
  have r54 := (Sl.step (Sl.step r17 s28) s40)
  have O55 := (OS.step0 O33 s40)
  have ax50 := OS.apold O41 hX0
  obtain ⟨X46, u47, r48, hm49⟩ := OS.release O41
  have hg56 := (Sl.less hg51 u47)
  have hXo57 := (Old.less hXo52 u47)
  have O65 := (OS.less O55 u47 (hm49 _ p44 (OS.mem O55)))
  refine sq (o_call 81 #[(.slice ag1 g.length cg2), (.slice (some ⟨b37, 0, none⟩) ([b]).length 1)] rfl (x_call Try.call81 (by rw [← show 1 = ([b]).length from O41.1]; kernel_rfl)) (rectoref17_Marks_w (X := X46) (g := g) (c := [b]) hXo57 hg56 r48 hp) ?_)
  rintro _ w59 ⟨r58, hp, e60, a62, c63, rfl, O64⟩
  have E69 := E53
  obtain ⟨X66, s61, O67, n68⟩ := OS.own_in O64 e60 E69.size
  have p70 := n68 _ (OS.old O65)
  replace hp := hp (OS.len O67)
  refine sq (o_pv (.slice a62 r58.length c63) rfl (by kernel_rfl) ?_)
  refine nil_ ?_
  refine then_normal (K36 _ _ _ _ ?_)
  refine seq_ (fun _ K71 => ?_)
  refine seq_ (fun _ K72 => ?_)
  refine reg_ ?_
  refine sq (o_pv (.int .i64 (0 : Int)) rfl (by kernel_rfl) ?_)
  refine nil_ ?_
  refine then_normal (K72 _ _ _ _ ?_)
  refine wp_block ?_
  have hg329 := (Sl.step hg56 s61)
  have hXo330 := (Old.step hXo57 s61)
  have E331 := (Evo.then0 E69 (Step.evo s61))
  have hS332 := (Sub.trans (hm49 _ ax50 hS45) (Step.up s61))
  have r333 := (Sl.step (Sl.less r54 u47) s61)
  have O334 := (OS.step0 O65 s61)
  have r335 := (Sl.step r48 s61)
  obtain ⟨I319, m320, hI321, hp⟩ := hp
  refine loop_ 274877645312 (fun kq lq w323 => ∃ (X324 : List Nat) (s195 : (List Bool)) (i197 : Int), (lq = [(9, (.int .i64 i197))]) ∧ (kq = m320 s195 i197) ∧ (Evo [] w w323) ∧ (Old X324 w323) ∧ (Sub X X324) ∧ (Sl (rSl (rInt .i64)) X324 w323 ag1 cg2 g) ∧ (OS rBool ([]) w.heap.size X324 w323 4 a62 r58.length c63 r58) ∧ (OS rBool ([]) w.heap.size X324 w323 4 a29 r25.length c30 s195) ∧ (inR .i64 i197) ∧ (I319 s195 i197)) (m320 r25 (0 : Int)) [(9, (.int .i64 (0 : Int)))] (vs_cons (by kernel_rfl) vs_nil) ⟨X66, r25, (0 : Int), rfl, rfl, E331, hXo330, hS332, hg329, O67, O334, (by decide), hI321⟩ ?_
  rintro _ _ w323 g326 ⟨X324, s195, i197, rfl, rfl, E336, hXo337, hS338, hg339, O340, O196, ri198, hI322⟩ Kl327 hA328
  replace hp := hp s195 i197 hI322 (OS.len O196) ri198
  refine seq_ (fun _ K341 => ?_)
  refine seq_ (fun _ K342 => ?_)
  refine reg_ ?_
  refine sq (o_pv (.int .i64 i197) rfl (by kernel_rfl) ?_)
  refine sq (o_pv (.slice ag1 g.length cg2) rfl (by kernel_rfl) ?_)
  refine sq (o_pv (.int .i64 (g.length : Int)) rfl (by kernel_rfl) ?_)
  refine sq (o_pv (.bool (decide (i197 < (g.length : Int)))) rfl (by kernel_rfl) ?_)
  refine nil_ ?_
  refine then_normal (K342 _ _ _ _ ?_)
  refine cond_d (i197 < (g.length : Int)) (by kernel_rfl) (fun h343 => ?_) (fun h343 => ?_)
  ·
    replace hp := hp.1 h343
    refine wp_skip ?_
    refine then_normal (K341 _ _ _ _ ?_)
    refine seq_ (fun _ K344 => ?_)
    obtain ⟨k390, hk391, hp⟩ := hp
    refine ground_ ?_
    refine join_ 274861129728 (fun lq w392 => ∃ (X393 : List Nat) (s388 : (List Bool)), (lq = []) ∧ (Evo [] w w392) ∧ (Old X393 w392) ∧ (Sub X X393) ∧ (Sl (rSl (rInt .i64)) X393 w392 ag1 cg2 g) ∧ (OS rBool ([]) w.heap.size X393 w392 4 a62 r58.length c63 r58) ∧ (OS rBool ([]) w.heap.size X393 w392 4 a29 r25.length c30 s388) ∧ (k390 s388)) (fun Kj394 hJ395 => ?_) ?_
    ·
      refine wp_block ?_
      refine reg_ ?_
      refine sq (o_pv (.slice a29 r25.length c30) rfl (by kernel_rfl) ?_)
      refine sq (o_pv (.int .i64 i197) rfl (by kernel_rfl) ?_)
      refine sq (o_pv (.slice a29 r25.length c30) rfl (by kernel_rfl) ?_)
      refine sq (o_pv (.int .i64 i197) rfl (by kernel_rfl) ?_)
      obtain ⟨h402, hp⟩ := hp
      obtain ⟨b403, o404, cs405, ha406, nx407, lt408, ok409, hc410⟩ := Sl.atI (OS.rd O196) i197 h402
      obtain rfl := ok409
      refine sq (o_pv (.pointer (some ⟨b403, o404 + i197.toNat * 1, none⟩)) rfl (x_ixA (m := r25.length) (c := c30) (k := .i64) (i := i197) Try.underlying111 Try.sizeOf4 (by rw [← ha406]; kernel_rfl) (by kernel_rfl) ⟨h402.1, by rw [O196.1]; exact h402.2⟩) ?_)
      by_cases h411 : (lget s195 i197) = true
      ·
        replace hp := hp.1 h411
        refine sq (o_pv (.bool true) rfl (x_bt (x_load1 (by kernel_rfl) Try.isAgg4 (hc410 0 _ rfl)) h411) ?_)
        refine sq (o_pv (.bool true) rfl (by kernel_rfl) ?_)
        refine sq (o_pv (.slice a62 r58.length c63) (by kernel_rfl) (by kernel_rfl) ?_)
        refine sq (o_pv (.int .i64 i197) (by kernel_rfl) (by kernel_rfl) ?_)
        obtain ⟨h412, hp⟩ := hp
        obtain ⟨b413, o414, cs415, ha416, nx417, lt418, ok419, hc420⟩ := Sl.atI (OS.rd O340) i197 h412
        obtain rfl := ok419
        refine sq (o_pv (.pointer (some ⟨b413, o414 + i197.toNat * 1, none⟩)) (by kernel_rfl) (x_ixA (m := r58.length) (c := c63) (k := .i64) (i := i197) Try.underlying111 Try.sizeOf4 (by rw [← ha416]; kernel_rfl) (by kernel_rfl) ⟨h412.1, by rw [O340.1]; exact h412.2⟩) ?_)
        refine sq (o_pv (.bool (lget r58 i197)) (by kernel_rfl) (x_load1 (by kernel_rfl) Try.isAgg4 (hc420 0 _ rfl)) ?_)
        refine sq (o_pv (.bool (!(lget r58 i197))) (by kernel_rfl) (by kernel_rfl) ?_)
        refine sq (o_pv (.bool (!(lget r58 i197))) rfl (by kernel_rfl) ?_)
        obtain ⟨h421, hp⟩ := hp
        obtain ⟨b422, o423, cs424, ha425, nx426, lt427, ok428, hc429⟩ := Sl.atI (OS.rd O196) i197 h421
        obtain rfl := ok428
        refine sq (o_pv (.pointer (some ⟨b422, o423 + i197.toNat * 1, none⟩)) rfl (x_ixA (m := r25.length) (c := c30) (k := .i64) (i := i197) Try.underlying111 Try.sizeOf4 (by rw [← ha425]; kernel_rfl) (by kernel_rfl) ⟨h421.1, by rw [O196.1]; exact h421.2⟩) ?_)
        refine sq (o_stS (o := o423) (v := (.bool (!(lget r58 i197)))) i197 (!(lget r58 i197)) rfl O196 ha425 (h421) (by kernel_rfl) (by kernel_rfl) Try.sizeOf4 (fun _ => rBool_mk) ?_)
        intro w430 s431 O432
        refine nil_ ?_
        refine blk_normal ?_
        have E433 := (Evo.thenW E336 (Step.evo s431) O196.2.2)
        have hXo434 := (Old.step hXo337 s431)
        have hS435 := (Sub.trans hS338 (Step.up s431))
        have hg436 := (Sl.step hg339 s431)
        have O437 := (OS.step O340 s431 (Ap.symm p70))
        refine then_normal (hJ395 _ _ _ ⟨[], fit_mk (fun _ _ => rfl) (by kernel_rfl) vs_nil, ?_⟩)
        exact ⟨X324, (lset s195 i197 (!(lget r58 i197))), rfl, E433, hXo434, hS435, hg436, O437, O432, hp⟩
      ·
        replace hp := hp.2 h411
        refine sq (o_pv (.bool false) rfl (x_bf (x_load1 (by kernel_rfl) Try.isAgg4 (hc410 0 _ rfl)) h411) ?_)
        refine sq (o_pv (.bool false) rfl (by kernel_rfl) ?_)
        refine sq (o_not (by kernel_rfl) ?_)
        refine sq (o_not (by kernel_rfl) ?_)
        refine sq (o_not (by kernel_rfl) ?_)
        refine sq (o_not (by kernel_rfl) ?_)
        refine sq (o_not (by kernel_rfl) ?_)
        refine sq (o_pv (.bool false) rfl (by kernel_rfl) ?_)
        obtain ⟨h438, hp⟩ := hp
        obtain ⟨b439, o440, cs441, ha442, nx443, lt444, ok445, hc446⟩ := Sl.atI (OS.rd O196) i197 h438
        obtain rfl := ok445
        refine sq (o_pv (.pointer (some ⟨b439, o440 + i197.toNat * 1, none⟩)) rfl (x_ixA (m := r25.length) (c := c30) (k := .i64) (i := i197) Try.underlying111 Try.sizeOf4 (by rw [← ha442]; kernel_rfl) (by kernel_rfl) ⟨h438.1, by rw [O196.1]; exact h438.2⟩) ?_)
        refine sq (o_stS (o := o440) (v := (.bool false)) i197 false rfl O196 ha442 (h438) (by kernel_rfl) (by kernel_rfl) Try.sizeOf4 (fun _ => rBool_mk) ?_)
        intro w447 s448 O449
        refine nil_ ?_
        refine blk_normal ?_
        have E450 := (Evo.thenW E336 (Step.evo s448) O196.2.2)
        have hXo451 := (Old.step hXo337 s448)
        have hS452 := (Sub.trans hS338 (Step.up s448))
        have hg453 := (Sl.step hg339 s448)
        have O454 := (OS.step O340 s448 (Ap.symm p70))
        refine then_normal (hJ395 _ _ _ ⟨[], fit_mk (fun _ _ => rfl) (by kernel_rfl) vs_nil, ?_⟩)
        exact ⟨X324, (lset s195 i197 false), rfl, E450, hXo451, hS452, hg453, O454, O449, hp⟩
    ·
      rintro _ w392 g455 ⟨X393, s388, rfl, E397, hXo398, hS399, hg400, O401, O389, hv396⟩
      replace hp := hk391 s388 hv396 (OS.len O389)
      refine then_normal (K344 _ _ _ _ ?_)
      refine reg_ ?_
      refine sq (o_pv (.int .i64 i197) rfl (by kernel_rfl) ?_)
      obtain ⟨h456, hp⟩ := hp
      refine sq (o_pv (.int .i64 (i197 + (1 : Int))) rfl (x_add2 (k := .i64) (a := i197) (b := (1 : Int)) (i197 + (1 : Int)) (by kernel_rfl) (by kernel_rfl) (wrap_inR h456)) ?_)
      refine sq (o_pv (.int .i64 (i197 + (1 : Int))) rfl (by kernel_rfl) ?_)
      refine nil_ ?_
      refine then_normal (hA328 _ _ _ ⟨_, [(9, (.int .i64 (i197 + (1 : Int))))], hp.2, fit_mk (AgB.nest (AgB.look (AgB.mix _ _ _) (by kernel_rfl)) (by kernel_rfl) (by kernel_rfl)) (by kernel_rfl) (vs_cons (by kernel_rfl) vs_nil), ?_⟩)
      exact ⟨X393, s388, (i197 + (1 : Int)), rfl, rfl, E397, hXo398, hS399, hg400, O401, O389, h456, hp.1⟩
  ·
    replace hp := hp.2 h343
    refine wp_exit ?_
    refine then_exit ?_
    refine then_exit ?_
    refine blk_exit ?_
    refine then_normal (K71 _ _ _ _ ?_)
    refine seq_ (fun _ K457 => ?_)
    refine reg_ ?_
    refine sq (o_pv (.slice a29 r25.length c30) rfl (by kernel_rfl) ?_)
    refine sq (o_call 80 #[(.slice a29 s195.length c30)] rfl (x_call Try.call80 (by rw [← show r25.length = s195.length from O196.1]; kernel_rfl)) (rectoref17_rising_w (X := X) (in_ := s195) (Old.less hXo337 hS338) (OS.out O196 hS338 hX0) hp) ?_)
    rintro _ w459 ⟨r458, hp, e460, ar462, cr463, rfl, hr464⟩
    have s461 := Step.of0 X324 e460
    replace hp := hp (Sl.len hr464)
    refine sq (o_pv (.slice ar462 r458.length cr463) rfl (by kernel_rfl) ?_)
    refine nil_ ?_
    refine then_normal (K457 _ _ _ _ ?_)
    refine wp_ret ?_
    have E465 := (Evo.then0 E336 e460)
    refine end_ret hQ (.slice ar462 r458.length cr463) (by kernel_rfl) ?_
    exact ⟨r458, hp, E465, ar462, cr463, rfl, hr464⟩

def rectolaw17_GraphAny_p (g : (List (List Int))) (a : Int) (b : Int) (Q : Bool → Prop) : Prop :=
  ((g.length ≤ 9223372036854775807) → ((inR .i64 a) → ((inR .i64 b) → (rectolaw17_known_p  (fun (r9 : Bool) => ((((!r9) = true) → Q false) ∧ (((!r9) = false) → (rectolaw17_few_p g (fun (r19 : Bool) => ((((!r19) = true) → Q true) ∧ (((!r19) = false) → (graph_Graph_Check_p g (fun (r29 : Int) => ((inR .i64 r29) → (rectoref17_Check_p g (fun (r35 : Int) => ((inR .i64 r35) → (((¬ (r29 = r35)) → Q false) ∧ ((r29 = r35) → (rectoref17_Check_p g (fun (r46 : Int) => ((inR .i64 r46) → (((¬ (r46 = (0 : Int))) → Q true) ∧ ((r46 = (0 : Int)) → (∃ k216 : Bool → Prop, (∀ (s215 : Bool), k216 s215 → Q s215) ∧ (graph_Graph_Ancestors_p g ([a, b]) (fun (r239 : (List Int)) => ((r239.length ≤ 9223372036854775807) → (rectoref17_Ancestors_p g ([a, b]) (fun (r258 : (List Int)) => ((r258.length ≤ 9223372036854775807) → (rectolaw8_Ints_p r239 r258 (fun (r266 : Bool) => (((r266 = true) → (graph_Graph_Ancestors_p g ([a]) (fun (r287 : (List Int)) => ((r287.length ≤ 9223372036854775807) → (rectoref17_Ancestors_p g ([a]) (fun (r310 : (List Int)) => ((r310.length ≤ 9223372036854775807) → (rectolaw8_Ints_p r287 r310 (fun (r318 : Bool) => (((r318 = true) → (graph_Graph_Is_p g a b (fun (r326 : Bool) => (rectoref17_Is_p g a b (fun (r331 : Bool) => ((((r326 : Bool) = r331) → (graph_Graph_Base_p g a b (fun (r337 : Int) => ((inR .i64 r337) → (rectoref17_Base_p g a b (fun (r343 : Int) => ((inR .i64 r343) → (((r337 = r343) → (graph_Graph_Bases_p g a b (fun (r351 : (List Int)) => ((r351.length ≤ 9223372036854775807) → (rectoref17_Bases_p g a b (fun (r360 : (List Int)) => ((r360.length ≤ 9223372036854775807) → (rectolaw8_Ints_p r351 r360 (fun (r368 : Bool) => (((r368 = true) → (graph_Graph_Only_p g a b (fun (r377 : (List Int)) => ((r377.length ≤ 9223372036854775807) → (rectoref17_Only_p g a b (fun (r386 : (List Int)) => ((r386.length ≤ 9223372036854775807) → (rectolaw8_Ints_p r377 r386 (fun (r394 : Bool) => (k216 r394)))))))))) ∧ ((r368 = false) → (k216 false)))))))))))) ∧ ((¬ (r337 = r343)) → (k216 false)))))))))) ∧ ((¬ ((r326 : Bool) = r331)) → (k216 false)))))))) ∧ ((r318 = false) → (k216 false)))))))))))) ∧ ((r266 = false) → (k216 false))))))))))))))))))))))))))))))))))))
set_option maxRecDepth 20000 in
set_option maxHeartbeats 4000000 in
theorem rectolaw17_GraphAny_w {X : List Nat} {w : World} {g : (List (List Int))} {a : Int} {b : Int} {ag1 : Option Addr} {cg2 : Nat} {Q : Bool → Prop} (hX0 : Old X w) (hg3 : Sl (rSl (rInt .i64)) X w ag1 cg2 g) (ra4 : inR .i64 a) (rb5 : inR .i64 b) (hp : rectolaw17_GraphAny_p g a b Q) :
    Calls Try.prog 7 #[(.slice ag1 g.length cg2), (.int .i64 a), (.int .i64 b)] w (Ret fun v w' => ∃ (r0 : Bool), Q r0 ∧ Evo [] w w' ∧ v = (.bool r0)) := by
  have hXo := hX0
  have E0 : Evo [] w w := RB.refl _ _ _
  have hS : Sub X X := Sub.refl _
  unfold rectolaw17_GraphAny_p at hp
  refine enter_ Try.func7 rfl 86 [(0, (.slice ag1 g.length cg2)), (1, (.int .i64 a)), (2, (.int .i64 b))] (by kernel_rfl) (fun Qe hQ => ?_)
  replace hp := hp (Sl.len hg3)
  replace hp := hp ra4
  replace hp := hp rb5
  refine seq_ (fun _ K6 => ?_)
  refine reg_ ?_
  refine sq (o_pv (.bool false) rfl (by kernel_rfl) ?_)
  refine nil_ ?_
  refine then_normal (K6 _ _ _ _ ?_)
  refine seq_ (fun _ K7 => ?_)
  refine seq_ (fun _ K8 => ?_)
  refine reg_ ?_
  refine sq (o_call 32 #[] rfl (x_call Try.call32 (by kernel_rfl)) (rectolaw17_known_w (X := [])  (Old.nil _) hp) ?_)
  rintro _ w10 ⟨r9, hp, e11, rfl⟩
  have s12 := Step.of0 X e11
  refine sq (o_pv (.bool (!r9)) rfl (by kernel_rfl) ?_)
  refine nil_ ?_
  refine then_normal (K8 _ _ _ _ ?_)
  refine cond_b (!r9) (by kernel_rfl) (fun h13 => ?_) (fun h13 => ?_)
  ·
    replace hp := hp.1 h13
    refine seq_ (fun _ K14 => ?_)
    refine reg_ ?_
    refine sq (o_pv (.bool false) rfl (by kernel_rfl) ?_)
    refine nil_ ?_
    refine then_normal (K14 _ _ _ _ ?_)
    refine wp_ret ?_
    refine then_ret ?_
    have E15 := (Evo.then0 E0 e11)
    refine end_ret hQ (.bool false) (by kernel_rfl) ?_
    exact ⟨false, hp, E15, rfl⟩
  ·
    replace hp := hp.2 h13
    refine wp_skip ?_
    refine then_normal (K7 _ _ _ _ ?_)
    refine seq_ (fun _ K16 => ?_)
    refine seq_ (fun _ K17 => ?_)
    refine reg_ ?_
    refine sq (o_pv (.slice ag1 g.length cg2) rfl (by kernel_rfl) ?_)
    have hg18 := (Sl.step hg3 s12)
    refine sq (o_call 33 #[(.slice ag1 g.length cg2)] rfl (x_call Try.call33 (by kernel_rfl)) (rectolaw17_few_w (X := []) (g := g) (Old.nil _) (Sl.less hg18 (Sub.nil _)) hp) ?_)
    rintro _ w20 ⟨r19, hp, e21, rfl⟩
    have s22 := Step.of0 X e21
    refine sq (o_pv (.bool (!r19)) rfl (by kernel_rfl) ?_)
    refine nil_ ?_
    refine then_normal (K17 _ _ _ _ ?_)
    refine cond_b (!r19) (by kernel_rfl) (fun h23 => ?_) (fun h23 => ?_)
    ·
      replace hp := hp.1 h23
      refine seq_ (fun _ K24 => ?_)
      refine reg_ ?_
      refine sq (o_pv (.bool true) rfl (by kernel_rfl) ?_)
      refine nil_ ?_
      refine then_normal (K24 _ _ _ _ ?_)
      refine wp_ret ?_
      refine then_ret ?_
      have E25 := (Evo.then0 (Evo.then0 E0 e11) e21)
      refine end_ret hQ (.bool true) (by kernel_rfl) ?_
      exact ⟨true, hp, E25, rfl⟩
    ·
      replace hp := hp.2 h23
      refine wp_skip ?_
      refine then_normal (K16 _ _ _ _ ?_)
      refine seq_ (fun _ K26 => ?_)
      refine seq_ (fun _ K27 => ?_)
      refine reg_ ?_
      refine sq (o_pv (.slice ag1 g.length cg2) rfl (by kernel_rfl) ?_)
      have hg28 := (Sl.step hg18 s22)
      refine sq (o_call 34 #[(.slice ag1 g.length cg2)] rfl (x_call Try.call34 (by kernel_rfl)) (graph_Graph_Check_w (X := []) (g := g) (Old.nil _) (Sl.less hg28 (Sub.nil _)) hp) ?_)
      rintro _ w30 ⟨r29, hp, e31, rfl, rr33⟩
      have s32 := Step.of0 X e31
      replace hp := hp rr33
      refine sq (o_pv (.slice ag1 g.length cg2) rfl (by kernel_rfl) ?_)
      have hg34 := (Sl.step hg28 s32)
      refine sq (o_call 35 #[(.slice ag1 g.length cg2)] rfl (x_call Try.call35 (by kernel_rfl)) (rectoref17_Check_w (X := []) (g := g) (Old.nil _) (Sl.less hg34 (Sub.nil _)) hp) ?_)
      rintro _ w36 ⟨r35, hp, e37, rfl, rr39⟩
      have s38 := Step.of0 X e37
      replace hp := hp rr39
      refine sq (o_pv (.bool (!decide (r29 = r35))) rfl (by kernel_rfl) ?_)
      refine nil_ ?_
      refine then_normal (K27 _ _ _ _ ?_)
      refine cond_nd (r29 = r35) (by kernel_rfl) (fun h40 => ?_) (fun h40 => ?_)
      ·
        replace hp := hp.1 h40
        refine seq_ (fun _ K41 => ?_)
        refine reg_ ?_
        refine sq (o_pv (.bool false) rfl (by kernel_rfl) ?_)
        refine nil_ ?_
        refine then_normal (K41 _ _ _ _ ?_)
        refine wp_ret ?_
        refine then_ret ?_
        have E42 := (Evo.then0 (Evo.then0 (Evo.then0 (Evo.then0 E0 e11) e21) e31) e37)
        refine end_ret hQ (.bool false) (by kernel_rfl) ?_
        exact ⟨false, hp, E42, rfl⟩
      ·
        replace hp := hp.2 h40
        refine wp_skip ?_
        refine then_normal (K26 _ _ _ _ ?_)
        refine seq_ (fun _ K43 => ?_)
        refine seq_ (fun _ K44 => ?_)
        refine reg_ ?_
        refine sq (o_pv (.slice ag1 g.length cg2) rfl (by kernel_rfl) ?_)
        have hg45 := (Sl.step hg34 s38)
        refine sq (o_call 35 #[(.slice ag1 g.length cg2)] rfl (x_call Try.call35 (by kernel_rfl)) (rectoref17_Check_w (X := []) (g := g) (Old.nil _) (Sl.less hg45 (Sub.nil _)) hp) ?_)
        rintro _ w47 ⟨r46, hp, e48, rfl, rr50⟩
        have s49 := Step.of0 X e48
        replace hp := hp rr50
        refine sq (o_pv (.bool (!decide (r46 = (0 : Int)))) rfl (by kernel_rfl) ?_)
        refine nil_ ?_
        refine then_normal (K44 _ _ _ _ ?_)
        refine cond_nd (r46 = (0 : Int)) (by kernel_rfl) (fun h51 => ?_) (fun h51 => ?_)
        ·
          replace hp := hp.1 h51
          refine seq_ (fun _ K52 => ?_)
          refine reg_ ?_
          refine sq (o_pv (.bool true) rfl (by kernel_rfl) ?_)
          refine nil_ ?_
          refine then_normal (K52 _ _ _ _ ?_)
          refine wp_ret ?_
          refine then_ret ?_
          have E53 := (Evo.then0 (Evo.then0 (Evo.then0 (Evo.then0 (Evo.then0 E0 e11) e21) e31) e37) e48)
          refine end_ret hQ (.bool true) (by kernel_rfl) ?_
          exact ⟨true, hp, E53, rfl⟩
        ·
          replace hp := hp.2 h51
          refine wp_skip ?_
          refine then_normal (K43 _ _ _ _ ?_)
          refine seq_ (fun _ K54 => ?_)
          have hg223 := (Sl.step hg45 s49)
          have hXo224 := (Old.step (Old.step (Old.step (Old.step (Old.step hXo s12) s22) s32) s38) s49)
          have E225 := (Evo.then0 (Evo.then0 (Evo.then0 (Evo.then0 (Evo.then0 E0 e11) e21) e31) e37) e48)
          have hS226 := (Sub.trans (Sub.trans (Sub.trans (Sub.trans (Sub.trans hS (Step.up s12)) (Step.up s22)) (Step.up s32)) (Step.up s38)) (Step.up s49))
          obtain ⟨k216, hk217, hp⟩ := hp
          refine ground_ ?_
          refine join_ 77371252455336267180146752 (fun lq w218 => ∃ (X219 : List Nat) (s215 : Bool), (lq = [(6, (.bool s215))]) ∧ (Evo [] w w218) ∧ (Old X219 w218) ∧ (Sub X X219) ∧ (k216 s215)) (fun Kj220 hJ221 => ?_) ?_
          ·
            refine reg_ ?_
            refine sq (o_pv (.slice ag1 g.length cg2) rfl (by kernel_rfl) ?_)
            refine sq (o_pv (.int .i64 a) rfl (by kernel_rfl) ?_)
            refine sq (o_pv (.int .i64 b) rfl (by kernel_rfl) ?_)
            refine sq (o_rowX (R := (rInt .i64)) [(.int .i64 a), (.int .i64 b)] [a, b] 3 2 (X := X) (B := w.heap.size) E225.size rfl (by kernel_rfl) (Flat.cons (cs := [(.int .i64 a)]) (rInt_mk ra4) (Flat.cons (cs := [(.int .i64 b)]) (rInt_mk rb5) Flat.nil)) rfl (by decide) ?_)
            intro b230 w231 X232 s233 O234 n235
            have hg236 := (Sl.step hg223 s233)
            have hS237 := (Sub.trans hS226 (Step.up s233))
            have hXo238 := (Old.step hXo224 s233)
            refine sq (o_call 37 #[(.slice ag1 g.length cg2), (.slice (some ⟨b230, 0, none⟩) ([a, b]).length 2)] rfl (x_call Try.call37 (by rw [← show 2 = ([a, b]).length from O234.1]; kernel_rfl)) (graph_Graph_Ancestors_w (X := X) (g := g) (c := [a, b]) (Old.less hXo238 hS237) (Sl.less hg236 hS237) (OS.out O234 hS237 hX0) hp) ?_)
            rintro _ w240 ⟨r239, hp, e241, ar243, cr244, rfl, hr245⟩
            have s242 := Step.of0 X232 e241
            replace hp := hp (Sl.len hr245)
            refine sq (o_pv (.slice ag1 g.length cg2) rfl (by kernel_rfl) ?_)
            refine sq (o_pv (.int .i64 a) rfl (by kernel_rfl) ?_)
            refine sq (o_pv (.int .i64 b) rfl (by kernel_rfl) ?_)
            have O246 := (OS.step0 O234 s242)
            have E253 := (Evo.then0 (Evo.then0 E225 (Step.evo s233)) e241)
            refine sq (o_rowX (R := (rInt .i64)) [(.int .i64 a), (.int .i64 b)] [a, b] 3 2 (X := X232) (B := w.heap.size) E253.size rfl (by kernel_rfl) (Flat.cons (cs := [(.int .i64 a)]) (rInt_mk ra4) (Flat.cons (cs := [(.int .i64 b)]) (rInt_mk rb5) Flat.nil)) rfl (by decide) ?_)
            intro b247 w248 X249 s250 O251 n252
            have p254 := n252 _ (OS.old O246)
            have hg255 := (Sl.step (Sl.step hg236 s242) s250)
            have hS256 := (Sub.trans (Sub.trans hS237 (Step.up s242)) (Step.up s250))
            have hXo257 := (Old.step (Old.step hXo238 s242) s250)
            refine sq (o_call 38 #[(.slice ag1 g.length cg2), (.slice (some ⟨b247, 0, none⟩) ([a, b]).length 2)] rfl (x_call Try.call38 (by rw [← show 2 = ([a, b]).length from O251.1]; kernel_rfl)) (rectoref17_Ancestors_w (X := X) (g := g) (c := [a, b]) (Old.less hXo257 hS256) (Sl.less hg255 hS256) (OS.out O251 hS256 hX0) hp) ?_)
            rintro _ w259 ⟨r258, hp, e260, ar262, cr263, rfl, hr264⟩
            have s261 := Step.of0 X249 e260
            replace hp := hp (Sl.len hr264)
            have hr265 := (Sl.evo0 (Sl.evo0 hr245 (Step.evo s250)) e260)
            refine sq (o_call 36 #[(.slice ar243 r239.length cr244), (.slice ar262 r258.length cr263)] rfl (x_call Try.call36 (by kernel_rfl)) (rectolaw8_Ints_w (X := []) (a := r239) (b := r258) (Old.nil _) (Sl.less hr265 (Sub.nil _)) (Sl.less hr264 (Sub.nil _)) hp) ?_)
            rintro _ w267 ⟨r266, hp, e268, rfl⟩
            have s269 := Step.of0 X249 e268
            cases r266
            ·
              replace hp := hp.2 rfl
              refine sq (o_pv (.bool false) rfl (by kernel_rfl) ?_)
              refine sq (o_not (by kernel_rfl) ?_)
              refine sq (o_not (by kernel_rfl) ?_)
              refine sq (o_not (by kernel_rfl) ?_)
              refine sq (o_not (by kernel_rfl) ?_)
              refine sq (o_not (by kernel_rfl) ?_)
              refine sq (o_not (by kernel_rfl) ?_)
              refine sq (o_not (by kernel_rfl) ?_)
              refine sq (o_not (by kernel_rfl) ?_)
              refine sq (o_not (by kernel_rfl) ?_)
              refine sq (o_pv (.bool false) rfl (by kernel_rfl) ?_)
              refine sq (o_pv (.bool false) rfl (by kernel_rfl) ?_)
              refine sq (o_not (by kernel_rfl) ?_)
              refine sq (o_not (by kernel_rfl) ?_)
              refine sq (o_not (by kernel_rfl) ?_)
              refine sq (o_not (by kernel_rfl) ?_)
              refine sq (o_not (by kernel_rfl) ?_)
              refine sq (o_not (by kernel_rfl) ?_)
              refine sq (o_not (by kernel_rfl) ?_)
              refine sq (o_not (by kernel_rfl) ?_)
              refine sq (o_not (by kernel_rfl) ?_)
              refine sq (o_pv (.bool false) rfl (by kernel_rfl) ?_)
              refine sq (o_pv (.bool false) rfl (by kernel_rfl) ?_)
              refine sq (o_not (by kernel_rfl) ?_)
              refine sq (o_not (by kernel_rfl) ?_)
              refine sq (o_not (by kernel_rfl) ?_)
              refine sq (o_not (by kernel_rfl) ?_)
              refine sq (o_not (by kernel_rfl) ?_)
              refine sq (o_not (by kernel_rfl) ?_)
              refine sq (o_not (by kernel_rfl) ?_)
              refine sq (o_not (by kernel_rfl) ?_)
              refine sq (o_not (by kernel_rfl) ?_)
              refine sq (o_pv (.bool false) rfl (by kernel_rfl) ?_)
              refine sq (o_pv (.bool false) rfl (by kernel_rfl) ?_)
              refine sq (o_not (by kernel_rfl) ?_)
              refine sq (o_not (by kernel_rfl) ?_)
              refine sq (o_not (by kernel_rfl) ?_)
              refine sq (o_not (by kernel_rfl) ?_)
              refine sq (o_not (by kernel_rfl) ?_)
              refine sq (o_not (by kernel_rfl) ?_)
              refine sq (o_not (by kernel_rfl) ?_)
              refine sq (o_not (by kernel_rfl) ?_)
              refine sq (o_not (by kernel_rfl) ?_)
              refine sq (o_pv (.bool false) rfl (by kernel_rfl) ?_)
              refine sq (o_pv (.bool false) rfl (by kernel_rfl) ?_)
              refine sq (o_not (by kernel_rfl) ?_)
              refine sq (o_not (by kernel_rfl) ?_)
              refine sq (o_not (by kernel_rfl) ?_)
              refine sq (o_not (by kernel_rfl) ?_)
              refine sq (o_not (by kernel_rfl) ?_)
              refine sq (o_not (by kernel_rfl) ?_)
              refine sq (o_not (by kernel_rfl) ?_)
              refine sq (o_not (by kernel_rfl) ?_)
              refine sq (o_not (by kernel_rfl) ?_)
              refine sq (o_pv (.bool false) rfl (by kernel_rfl) ?_)
              refine sq (o_pv (.bool false) rfl (by kernel_rfl) ?_)
              refine nil_ ?_
              have E270 := (Evo.then0 (Evo.then0 (Evo.then0 E253 (Step.evo s250)) e260) e268)
              have hXo271 := (Old.step (Old.step hXo257 s261) s269)
              have hS272 := (Sub.trans (Sub.trans hS256 (Step.up s261)) (Step.up s269))
              refine then_normal (hJ221 _ _ _ ⟨[(6, (.bool false))], fit_mk (fun _ _ => rfl) (by kernel_rfl) (vs_cons (by kernel_rfl) vs_nil), ?_⟩)
              exact ⟨X249, false, rfl, E270, hXo271, hS272, hp⟩
            ·
              replace hp := hp.1 rfl
              refine sq (o_pv (.bool true) rfl (by kernel_rfl) ?_)
              refine sq (o_pv (.slice ag1 g.length cg2) (by kernel_rfl) (by kernel_rfl) ?_)
              refine sq (o_pv (.int .i64 a) (by kernel_rfl) (by kernel_rfl) ?_)
              have O273 := (OS.step0 (OS.step0 (OS.step0 O246 s250) s261) s269)
              have O274 := (OS.step0 (OS.step0 O251 s261) s269)
              have E281 := (Evo.then0 (Evo.then0 (Evo.then0 E253 (Step.evo s250)) e260) e268)
              refine sq (o_rowX (R := (rInt .i64)) [(.int .i64 a)] [a] 3 1 (X := X249) (B := w.heap.size) E281.size (by kernel_rfl) (by kernel_rfl) (Flat.cons (cs := [(.int .i64 a)]) (rInt_mk ra4) Flat.nil) rfl (by decide) ?_)
              intro b275 w276 X277 s278 O279 n280
              have p282 := n280 _ (OS.old O273)
              have p283 := n280 _ (OS.old O274)
              have hg284 := (Sl.step (Sl.step (Sl.step hg255 s261) s269) s278)
              have hS285 := (Sub.trans (Sub.trans (Sub.trans hS256 (Step.up s261)) (Step.up s269)) (Step.up s278))
              have hXo286 := (Old.step (Old.step (Old.step hXo257 s261) s269) s278)
              refine sq (o_call 37 #[(.slice ag1 g.length cg2), (.slice (some ⟨b275, 0, none⟩) ([a]).length 1)] (by kernel_rfl) (x_call Try.call37 (by rw [← show 1 = ([a]).length from O279.1]; kernel_rfl)) (graph_Graph_Ancestors_w (X := X) (g := g) (c := [a]) (Old.less hXo286 hS285) (Sl.less hg284 hS285) (OS.out O279 hS285 hX0) hp) ?_)
              rintro _ w288 ⟨r287, hp, e289, ar291, cr292, rfl, hr293⟩
              have s290 := Step.of0 X277 e289
              replace hp := hp (Sl.len hr293)
              refine sq (o_pv (.slice ag1 g.length cg2) (by kernel_rfl) (by kernel_rfl) ?_)
              refine sq (o_pv (.int .i64 a) (by kernel_rfl) (by kernel_rfl) ?_)
              have O294 := (OS.step0 (OS.step0 O273 s278) s290)
              have O295 := (OS.step0 (OS.step0 O274 s278) s290)
              have O296 := (OS.step0 O279 s290)
              have E303 := (Evo.then0 (Evo.then0 E281 (Step.evo s278)) e289)
              refine sq (o_rowX (R := (rInt .i64)) [(.int .i64 a)] [a] 3 1 (X := X277) (B := w.heap.size) E303.size (by kernel_rfl) (by kernel_rfl) (Flat.cons (cs := [(.int .i64 a)]) (rInt_mk ra4) Flat.nil) rfl (by decide) ?_)
              intro b297 w298 X299 s300 O301 n302
              have p304 := n302 _ (OS.old O294)
              have p305 := n302 _ (OS.old O295)
              have p306 := n302 _ (OS.old O296)
              have hg307 := (Sl.step (Sl.step hg284 s290) s300)
              have hS308 := (Sub.trans (Sub.trans hS285 (Step.up s290)) (Step.up s300))
              have hXo309 := (Old.step (Old.step hXo286 s290) s300)
              refine sq (o_call 38 #[(.slice ag1 g.length cg2), (.slice (some ⟨b297, 0, none⟩) ([a]).length 1)] (by kernel_rfl) (x_call Try.call38 (by rw [← show 1 = ([a]).length from O301.1]; kernel_rfl)) (rectoref17_Ancestors_w (X := X) (g := g) (c := [a]) (Old.less hXo309 hS308) (Sl.less hg307 hS308) (OS.out O301 hS308 hX0) hp) ?_)
              rintro _ w311 ⟨r310, hp, e312, ar314, cr315, rfl, hr316⟩
              have s313 := Step.of0 X299 e312
              replace hp := hp (Sl.len hr316)
              have hr317 := (Sl.evo0 (Sl.evo0 hr293 (Step.evo s300)) e312)
              refine sq (o_call 36 #[(.slice ar291 r287.length cr292), (.slice ar314 r310.length cr315)] (by kernel_rfl) (x_call Try.call36 (by kernel_rfl)) (rectolaw8_Ints_w (X := []) (a := r287) (b := r310) (Old.nil _) (Sl.less hr317 (Sub.nil _)) (Sl.less hr316 (Sub.nil _)) hp) ?_)
              rintro _ w319 ⟨r318, hp, e320, rfl⟩
              have s321 := Step.of0 X299 e320
              cases r318
              ·
                replace hp := hp.2 rfl
                refine sq (o_pv (.bool false) rfl (by kernel_rfl) ?_)
                refine sq (o_pv (.bool false) rfl (by kernel_rfl) ?_)
                refine sq (o_not (by kernel_rfl) ?_)
                refine sq (o_not (by kernel_rfl) ?_)
                refine sq (o_not (by kernel_rfl) ?_)
                refine sq (o_not (by kernel_rfl) ?_)
                refine sq (o_not (by kernel_rfl) ?_)
                refine sq (o_not (by kernel_rfl) ?_)
                refine sq (o_not (by kernel_rfl) ?_)
                refine sq (o_not (by kernel_rfl) ?_)
                refine sq (o_not (by kernel_rfl) ?_)
                refine sq (o_pv (.bool false) rfl (by kernel_rfl) ?_)
                refine sq (o_pv (.bool false) rfl (by kernel_rfl) ?_)
                refine sq (o_not (by kernel_rfl) ?_)
                refine sq (o_not (by kernel_rfl) ?_)
                refine sq (o_not (by kernel_rfl) ?_)
                refine sq (o_not (by kernel_rfl) ?_)
                refine sq (o_not (by kernel_rfl) ?_)
                refine sq (o_not (by kernel_rfl) ?_)
                refine sq (o_not (by kernel_rfl) ?_)
                refine sq (o_not (by kernel_rfl) ?_)
                refine sq (o_not (by kernel_rfl) ?_)
                refine sq (o_pv (.bool false) rfl (by kernel_rfl) ?_)
                refine sq (o_pv (.bool false) rfl (by kernel_rfl) ?_)
                refine sq (o_not (by kernel_rfl) ?_)
                refine sq (o_not (by kernel_rfl) ?_)
                refine sq (o_not (by kernel_rfl) ?_)
                refine sq (o_not (by kernel_rfl) ?_)
                refine sq (o_not (by kernel_rfl) ?_)
                refine sq (o_not (by kernel_rfl) ?_)
                refine sq (o_not (by kernel_rfl) ?_)
                refine sq (o_not (by kernel_rfl) ?_)
                refine sq (o_not (by kernel_rfl) ?_)
                refine sq (o_pv (.bool false) rfl (by kernel_rfl) ?_)
                refine sq (o_pv (.bool false) rfl (by kernel_rfl) ?_)
                refine sq (o_not (by kernel_rfl) ?_)
                refine sq (o_not (by kernel_rfl) ?_)
                refine sq (o_not (by kernel_rfl) ?_)
                refine sq (o_not (by kernel_rfl) ?_)
                refine sq (o_not (by kernel_rfl) ?_)
                refine sq (o_not (by kernel_rfl) ?_)
                refine sq (o_not (by kernel_rfl) ?_)
                refine sq (o_not (by kernel_rfl) ?_)
                refine sq (o_not (by kernel_rfl) ?_)
                refine sq (o_pv (.bool false) rfl (by kernel_rfl) ?_)
                refine sq (o_pv (.bool false) rfl (by kernel_rfl) ?_)
                refine nil_ ?_
                have E322 := (Evo.then0 (Evo.then0 (Evo.then0 E303 (Step.evo s300)) e312) e320)
                have hXo323 := (Old.step (Old.step hXo309 s313) s321)
                have hS324 := (Sub.trans (Sub.trans hS308 (Step.up s313)) (Step.up s321))
                refine then_normal (hJ221 _ _ _ ⟨[(6, (.bool false))], fit_mk (fun _ _ => rfl) (by kernel_rfl) (vs_cons (by kernel_rfl) vs_nil), ?_⟩)
                exact ⟨X299, false, rfl, E322, hXo323, hS324, hp⟩
              ·
                replace hp := hp.1 rfl
                refine sq (o_pv (.bool true) rfl (by kernel_rfl) ?_)
                refine sq (o_pv (.bool true) rfl (by kernel_rfl) ?_)
                refine sq (o_pv (.slice ag1 g.length cg2) (by kernel_rfl) (by kernel_rfl) ?_)
                refine sq (o_pv (.int .i64 a) (by kernel_rfl) (by kernel_rfl) ?_)
                refine sq (o_pv (.int .i64 b) (by kernel_rfl) (by kernel_rfl) ?_)
                have hg325 := (Sl.step (Sl.step hg307 s313) s321)
                refine sq (o_call 39 #[(.slice ag1 g.length cg2), (.int .i64 a), (.int .i64 b)] (by kernel_rfl) (x_call Try.call39 (by kernel_rfl)) (graph_Graph_Is_w (X := []) (g := g) (a := a) (c := b) (Old.nil _) (Sl.less hg325 (Sub.nil _)) ra4 rb5 hp) ?_)
                rintro _ w327 ⟨r326, hp, e328, rfl⟩
                have s329 := Step.of0 X299 e328
                refine sq (o_pv (.slice ag1 g.length cg2) (by kernel_rfl) (by kernel_rfl) ?_)
                refine sq (o_pv (.int .i64 a) (by kernel_rfl) (by kernel_rfl) ?_)
                refine sq (o_pv (.int .i64 b) (by kernel_rfl) (by kernel_rfl) ?_)
                have hg330 := (Sl.step hg325 s329)
                refine sq (o_call 40 #[(.slice ag1 g.length cg2), (.int .i64 a), (.int .i64 b)] (by kernel_rfl) (x_call Try.call40 (by kernel_rfl)) (rectoref17_Is_w (X := []) (g := g) (a := a) (c := b) (Old.nil _) (Sl.less hg330 (Sub.nil _)) ra4 rb5 hp) ?_)
                rintro _ w332 ⟨r331, hp, e333, rfl⟩
                have s334 := Step.of0 X299 e333
                by_cases h335 : (r326 : Bool) = r331
                ·
                  replace hp := hp.1 h335
                  refine sq (o_pv (.bool true) (by kernel_rfl) (x_dt (p := (r326 : Bool) = r331) (x_booleq (a := r326) (b := r331) Try.underlying4 (by kernel_rfl) (by kernel_rfl)) h335) ?_)
                  refine sq (o_pv (.bool true) rfl (by kernel_rfl) ?_)
                  refine sq (o_pv (.bool true) rfl (by kernel_rfl) ?_)
                  refine sq (o_pv (.slice ag1 g.length cg2) (by kernel_rfl) (by kernel_rfl) ?_)
                  refine sq (o_pv (.int .i64 a) (by kernel_rfl) (by kernel_rfl) ?_)
                  refine sq (o_pv (.int .i64 b) (by kernel_rfl) (by kernel_rfl) ?_)
                  have hg336 := (Sl.step hg330 s334)
                  refine sq (o_call 41 #[(.slice ag1 g.length cg2), (.int .i64 a), (.int .i64 b)] (by kernel_rfl) (x_call Try.call41 (by kernel_rfl)) (graph_Graph_Base_w (X := []) (g := g) (a := a) (b := b) (Old.nil _) (Sl.less hg336 (Sub.nil _)) ra4 rb5 hp) ?_)
                  rintro _ w338 ⟨r337, hp, e339, rfl, rr341⟩
                  have s340 := Step.of0 X299 e339
                  replace hp := hp rr341
                  refine sq (o_pv (.slice ag1 g.length cg2) (by kernel_rfl) (by kernel_rfl) ?_)
                  refine sq (o_pv (.int .i64 a) (by kernel_rfl) (by kernel_rfl) ?_)
                  refine sq (o_pv (.int .i64 b) (by kernel_rfl) (by kernel_rfl) ?_)
                  have hg342 := (Sl.step hg336 s340)
                  refine sq (o_call 42 #[(.slice ag1 g.length cg2), (.int .i64 a), (.int .i64 b)] (by kernel_rfl) (x_call Try.call42 (by kernel_rfl)) (rectoref17_Base_w (X := []) (g := g) (a := a) (b := b) (Old.nil _) (Sl.less hg342 (Sub.nil _)) ra4 rb5 hp) ?_)
                  rintro _ w344 ⟨r343, hp, e345, rfl, rr347⟩
                  have s346 := Step.of0 X299 e345
                  replace hp := hp rr347
                  by_cases h348 : r337 = r343
                  ·
                    replace hp := hp.1 h348
                    refine sq (o_pv (.bool true) (by kernel_rfl) (x_dt (p := r337 = r343) (by kernel_rfl) h348) ?_)
                    refine sq (o_pv (.bool true) rfl (by kernel_rfl) ?_)
                    refine sq (o_pv (.bool true) rfl (by kernel_rfl) ?_)
                    refine sq (o_pv (.slice ag1 g.length cg2) (by kernel_rfl) (by kernel_rfl) ?_)
                    refine sq (o_pv (.int .i64 a) (by kernel_rfl) (by kernel_rfl) ?_)
                    refine sq (o_pv (.int .i64 b) (by kernel_rfl) (by kernel_rfl) ?_)
                    have hg349 := (Sl.step hg342 s346)
                    have hXo350 := (Old.step (Old.step (Old.step (Old.step (Old.step (Old.step hXo309 s313) s321) s329) s334) s340) s346)
                    refine sq (o_call 43 #[(.slice ag1 g.length cg2), (.int .i64 a), (.int .i64 b)] (by kernel_rfl) (x_call Try.call43 (by kernel_rfl)) (graph_Graph_Bases_w (X := X299) (g := g) (a := a) (b := b) hXo350 hg349 ra4 rb5 hp) ?_)
                    rintro _ w352 ⟨r351, hp, e353, ar355, cr356, rfl, hr357⟩
                    have s354 := Step.of0 X299 e353
                    replace hp := hp (Sl.len hr357)
                    refine sq (o_pv (.slice ag1 g.length cg2) (by kernel_rfl) (by kernel_rfl) ?_)
                    refine sq (o_pv (.int .i64 a) (by kernel_rfl) (by kernel_rfl) ?_)
                    refine sq (o_pv (.int .i64 b) (by kernel_rfl) (by kernel_rfl) ?_)
                    have hg358 := (Sl.step hg349 s354)
                    have hXo359 := (Old.step hXo350 s354)
                    refine sq (o_call 44 #[(.slice ag1 g.length cg2), (.int .i64 a), (.int .i64 b)] (by kernel_rfl) (x_call Try.call44 (by kernel_rfl)) (rectoref17_Bases_w (X := X299) (g := g) (a := a) (b := b) hXo359 hg358 ra4 rb5 hp) ?_)
                    rintro _ w361 ⟨r360, hp, e362, ar364, cr365, rfl, hr366⟩
                    have s363 := Step.of0 X299 e362
                    replace hp := hp (Sl.len hr366)
                    have hr367 := (Sl.step hr357 s363)
                    refine sq (o_call 36 #[(.slice ar355 r351.length cr356), (.slice ar364 r360.length cr365)] (by kernel_rfl) (x_call Try.call36 (by kernel_rfl)) (rectolaw8_Ints_w (X := []) (a := r351) (b := r360) (Old.nil _) (Sl.less hr367 (Sub.nil _)) (Sl.less hr366 (Sub.nil _)) hp) ?_)
                    rintro _ w369 ⟨r368, hp, e370, rfl⟩
                    have s371 := Step.of0 X299 e370
                    cases r368
                    ·
                      replace hp := hp.2 rfl
                      refine sq (o_pv (.bool false) rfl (by kernel_rfl) ?_)
                      refine sq (o_pv (.bool false) rfl (by kernel_rfl) ?_)
                      refine sq (o_not (by kernel_rfl) ?_)
                      refine sq (o_not (by kernel_rfl) ?_)
                      refine sq (o_not (by kernel_rfl) ?_)
                      refine sq (o_not (by kernel_rfl) ?_)
                      refine sq (o_not (by kernel_rfl) ?_)
                      refine sq (o_not (by kernel_rfl) ?_)
                      refine sq (o_not (by kernel_rfl) ?_)
                      refine sq (o_not (by kernel_rfl) ?_)
                      refine sq (o_not (by kernel_rfl) ?_)
                      refine sq (o_pv (.bool false) rfl (by kernel_rfl) ?_)
                      refine sq (o_pv (.bool false) rfl (by kernel_rfl) ?_)
                      refine nil_ ?_
                      have E372 := (Evo.then0 (Evo.then0 (Evo.then0 (Evo.then0 (Evo.then0 (Evo.then0 (Evo.then0 (Evo.then0 (Evo.then0 (Evo.then0 E303 (Step.evo s300)) e312) e320) e328) e333) e339) e345) e353) e362) e370)
                      have hXo373 := (Old.step (Old.step hXo359 s363) s371)
                      have hS374 := (Sub.trans (Sub.trans (Sub.trans (Sub.trans (Sub.trans (Sub.trans (Sub.trans (Sub.trans (Sub.trans hS308 (Step.up s313)) (Step.up s321)) (Step.up s329)) (Step.up s334)) (Step.up s340)) (Step.up s346)) (Step.up s354)) (Step.up s363)) (Step.up s371))
                      refine then_normal (hJ221 _ _ _ ⟨[(6, (.bool false))], fit_mk (fun _ _ => rfl) (by kernel_rfl) (vs_cons (by kernel_rfl) vs_nil), ?_⟩)
                      exact ⟨X299, false, rfl, E372, hXo373, hS374, hp⟩
                    ·
                      replace hp := hp.1 rfl
                      refine sq (o_pv (.bool true) rfl (by kernel_rfl) ?_)
                      refine sq (o_pv (.bool true) rfl (by kernel_rfl) ?_)
                      refine sq (o_pv (.slice ag1 g.length cg2) (by kernel_rfl) (by kernel_rfl) ?_)
                      refine sq (o_pv (.int .i64 a) (by kernel_rfl) (by kernel_rfl) ?_)
                      refine sq (o_pv (.int .i64 b) (by kernel_rfl) (by kernel_rfl) ?_)
                      have hg375 := (Sl.step (Sl.step hg358 s363) s371)
                      have hXo376 := (Old.step (Old.step hXo359 s363) s371)
                      refine sq (o_call 45 #[(.slice ag1 g.length cg2), (.int .i64 a), (.int .i64 b)] (by kernel_rfl) (x_call Try.call45 (by kernel_rfl)) (graph_Graph_Only_w (X := X299) (g := g) (a := a) (b := b) hXo376 hg375 ra4 rb5 hp) ?_)
                      rintro _ w378 ⟨r377, hp, e379, ar381, cr382, rfl, hr383⟩
                      have s380 := Step.of0 X299 e379
                      replace hp := hp (Sl.len hr383)
                      refine sq (o_pv (.slice ag1 g.length cg2) (by kernel_rfl) (by kernel_rfl) ?_)
                      refine sq (o_pv (.int .i64 a) (by kernel_rfl) (by kernel_rfl) ?_)
                      refine sq (o_pv (.int .i64 b) (by kernel_rfl) (by kernel_rfl) ?_)
                      have hg384 := (Sl.step hg375 s380)
                      have hXo385 := (Old.step hXo376 s380)
                      refine sq (o_call 46 #[(.slice ag1 g.length cg2), (.int .i64 a), (.int .i64 b)] (by kernel_rfl) (x_call Try.call46 (by kernel_rfl)) (rectoref17_Only_w (X := X299) (g := g) (a := a) (b := b) hXo385 hg384 ra4 rb5 hp) ?_)
                      rintro _ w387 ⟨r386, hp, e388, ar390, cr391, rfl, hr392⟩
                      have s389 := Step.of0 X299 e388
                      replace hp := hp (Sl.len hr392)
                      have hr393 := (Sl.step hr383 s389)
                      refine sq (o_call 36 #[(.slice ar381 r377.length cr382), (.slice ar390 r386.length cr391)] (by kernel_rfl) (x_call Try.call36 (by kernel_rfl)) (rectolaw8_Ints_w (X := []) (a := r377) (b := r386) (Old.nil _) (Sl.less hr393 (Sub.nil _)) (Sl.less hr392 (Sub.nil _)) hp) ?_)
                      rintro _ w395 ⟨r394, hp, e396, rfl⟩
                      have s397 := Step.of0 X299 e396
                      refine sq (o_pv (.bool r394) rfl (by kernel_rfl) ?_)
                      refine sq (o_pv (.bool r394) rfl (by kernel_rfl) ?_)
                      refine nil_ ?_
                      have E398 := (Evo.then0 (Evo.then0 (Evo.then0 (Evo.then0 (Evo.then0 (Evo.then0 (Evo.then0 (Evo.then0 (Evo.then0 (Evo.then0 (Evo.then0 (Evo.then0 (Evo.then0 E303 (Step.evo s300)) e312) e320) e328) e333) e339) e345) e353) e362) e370) e379) e388) e396)
                      have hXo399 := (Old.step (Old.step hXo385 s389) s397)
                      have hS400 := (Sub.trans (Sub.trans (Sub.trans (Sub.trans (Sub.trans (Sub.trans (Sub.trans (Sub.trans (Sub.trans (Sub.trans (Sub.trans (Sub.trans hS308 (Step.up s313)) (Step.up s321)) (Step.up s329)) (Step.up s334)) (Step.up s340)) (Step.up s346)) (Step.up s354)) (Step.up s363)) (Step.up s371)) (Step.up s380)) (Step.up s389)) (Step.up s397))
                      refine then_normal (hJ221 _ _ _ ⟨[(6, (.bool r394))], fit_mk (fun _ _ => rfl) (by kernel_rfl) (vs_cons (by kernel_rfl) vs_nil), ?_⟩)
                      exact ⟨X299, r394, rfl, E398, hXo399, hS400, hp⟩
                  ·
                    replace hp := hp.2 h348
                    refine sq (o_pv (.bool false) (by kernel_rfl) (x_df (p := r337 = r343) (by kernel_rfl) h348) ?_)
                    refine sq (o_pv (.bool false) rfl (by kernel_rfl) ?_)
                    refine sq (o_pv (.bool false) rfl (by kernel_rfl) ?_)
                    refine sq (o_not (by kernel_rfl) ?_)
                    refine sq (o_not (by kernel_rfl) ?_)
                    refine sq (o_not (by kernel_rfl) ?_)
                    refine sq (o_not (by kernel_rfl) ?_)
                    refine sq (o_not (by kernel_rfl) ?_)
                    refine sq (o_not (by kernel_rfl) ?_)
                    refine sq (o_not (by kernel_rfl) ?_)
                    refine sq (o_not (by kernel_rfl) ?_)
                    refine sq (o_not (by kernel_rfl) ?_)
                    refine sq (o_pv (.bool false) rfl (by kernel_rfl) ?_)
                    refine sq (o_pv (.bool false) rfl (by kernel_rfl) ?_)
                    refine sq (o_not (by kernel_rfl) ?_)
                    refine sq (o_not (by kernel_rfl) ?_)
                    refine sq (o_not (by kernel_rfl) ?_)
                    refine sq (o_not (by kernel_rfl) ?_)
                    refine sq (o_not (by kernel_rfl) ?_)
                    refine sq (o_not (by kernel_rfl) ?_)
                    refine sq (o_not (by kernel_rfl) ?_)
                    refine sq (o_not (by kernel_rfl) ?_)
                    refine sq (o_not (by kernel_rfl) ?_)
                    refine sq (o_pv (.bool false) rfl (by kernel_rfl) ?_)
                    refine sq (o_pv (.bool false) rfl (by kernel_rfl) ?_)
                    refine nil_ ?_
                    have E401 := (Evo.then0 (Evo.then0 (Evo.then0 (Evo.then0 (Evo.then0 (Evo.then0 (Evo.then0 E303 (Step.evo s300)) e312) e320) e328) e333) e339) e345)
                    have hXo402 := (Old.step (Old.step (Old.step (Old.step (Old.step (Old.step hXo309 s313) s321) s329) s334) s340) s346)
                    have hS403 := (Sub.trans (Sub.trans (Sub.trans (Sub.trans (Sub.trans (Sub.trans hS308 (Step.up s313)) (Step.up s321)) (Step.up s329)) (Step.up s334)) (Step.up s340)) (Step.up s346))
                    refine then_normal (hJ221 _ _ _ ⟨[(6, (.bool false))], fit_mk (fun _ _ => rfl) (by kernel_rfl) (vs_cons (by kernel_rfl) vs_nil), ?_⟩)
                    exact ⟨X299, false, rfl, E401, hXo402, hS403, hp⟩
                ·
                  replace hp := hp.2 h335
                  refine sq (o_pv (.bool false) (by kernel_rfl) (x_df (p := (r326 : Bool) = r331) (x_booleq (a := r326) (b := r331) Try.underlying4 (by kernel_rfl) (by kernel_rfl)) h335) ?_)
                  refine sq (o_pv (.bool false) rfl (by kernel_rfl) ?_)
                  refine sq (o_pv (.bool false) rfl (by kernel_rfl) ?_)
                  refine sq (o_not (by kernel_rfl) ?_)
                  refine sq (o_not (by kernel_rfl) ?_)
                  refine sq (o_not (by kernel_rfl) ?_)
                  refine sq (o_not (by kernel_rfl) ?_)
                  refine sq (o_not (by kernel_rfl) ?_)
                  refine sq (o_not (by kernel_rfl) ?_)
                  refine sq (o_not (by kernel_rfl) ?_)
                  refine sq (o_not (by kernel_rfl) ?_)
                  refine sq (o_not (by kernel_rfl) ?_)
                  refine sq (o_pv (.bool false) rfl (by kernel_rfl) ?_)
                  refine sq (o_pv (.bool false) rfl (by kernel_rfl) ?_)
                  refine sq (o_not (by kernel_rfl) ?_)
                  refine sq (o_not (by kernel_rfl) ?_)
                  refine sq (o_not (by kernel_rfl) ?_)
                  refine sq (o_not (by kernel_rfl) ?_)
                  refine sq (o_not (by kernel_rfl) ?_)
                  refine sq (o_not (by kernel_rfl) ?_)
                  refine sq (o_not (by kernel_rfl) ?_)
                  refine sq (o_not (by kernel_rfl) ?_)
                  refine sq (o_not (by kernel_rfl) ?_)
                  refine sq (o_pv (.bool false) rfl (by kernel_rfl) ?_)
                  refine sq (o_pv (.bool false) rfl (by kernel_rfl) ?_)
                  refine sq (o_not (by kernel_rfl) ?_)
                  refine sq (o_not (by kernel_rfl) ?_)
                  refine sq (o_not (by kernel_rfl) ?_)
                  refine sq (o_not (by kernel_rfl) ?_)
                  refine sq (o_not (by kernel_rfl) ?_)
                  refine sq (o_not (by kernel_rfl) ?_)
                  refine sq (o_not (by kernel_rfl) ?_)
                  refine sq (o_not (by kernel_rfl) ?_)
                  refine sq (o_not (by kernel_rfl) ?_)
                  refine sq (o_pv (.bool false) rfl (by kernel_rfl) ?_)
                  refine sq (o_pv (.bool false) rfl (by kernel_rfl) ?_)
                  refine nil_ ?_
                  have E404 := (Evo.then0 (Evo.then0 (Evo.then0 (Evo.then0 (Evo.then0 E303 (Step.evo s300)) e312) e320) e328) e333)
                  have hXo405 := (Old.step (Old.step (Old.step (Old.step hXo309 s313) s321) s329) s334)
                  have hS406 := (Sub.trans (Sub.trans (Sub.trans (Sub.trans hS308 (Step.up s313)) (Step.up s321)) (Step.up s329)) (Step.up s334))
                  refine then_normal (hJ221 _ _ _ ⟨[(6, (.bool false))], fit_mk (fun _ _ => rfl) (by kernel_rfl) (vs_cons (by kernel_rfl) vs_nil), ?_⟩)
                  exact ⟨X299, false, rfl, E404, hXo405, hS406, hp⟩
          ·
            rintro _ w218 g407 ⟨X219, s215, rfl, E227, hXo228, hS229, hv222⟩
            replace hp := hk217 s215 hv222
            refine then_normal (K54 _ _ _ _ ?_)
            refine wp_ret ?_
            refine end_ret hQ (.bool s215) (by kernel_rfl) ?_
            exact ⟨s215, hp, E227, rfl⟩

end Go.Proofs.Ytmepomdpjlbaaaa
