/- Walks of functions: what each asks and computes, as a plain predicate, and the contract from it. -/
import Derived.Test.YtlkfoebophjhfaaGreatDoorChecked
import Derived.Test.YtlkfoebophjhfaaGreatDoorPk
import Derived.Test.YtlkfoebophjhfaaGreatDoorJa7
namespace Go.Proofs.YtlkfoebophjhfaaGreatDoor
open Go
def rectolaw6_few_p (l : (List S_journal_Change)) (Q : Bool → Prop) : Prop :=
 ((l.length ≤ 9223372036854775807) → ((((l.length : Int) > (20 : Int)) → Q false) ∧ ((¬ ((l.length : Int) > (20 : Int))) → (∃ (z3 : Int → Prop) (z4 : Int → Nat), (z3 (0 : Int)) ∧ (∀ (z0 : Int), (z3 z0) → (inR .i64 z0) → (((z0 < (l.length : Int)) → (∃ z1 : Bool → Prop, (∀ (z2 : Bool), z1 z2 → (((z2 = true) → Q false) ∧ ((z2 = false) → ((inR .i64 (z0 + (1 : Int))) ∧ ((z3 (z0 + (1 : Int))) ∧ z4 (z0 + (1 : Int)) < z4 z0))))) ∧ ((inL l z0) ∧ ((((lget l z0).Path).size ≤ maxLen) → ((inR .i64 ((lget l z0).Mode)) → ((((lget l z0).Data).length ≤ 9223372036854775807) → ((((((lget l z0).Path).size : Int) > (100 : Int)) → (z1 true)) ∧ ((¬ ((((lget l z0).Path).size : Int) > (100 : Int))) → ((inL l z0) ∧ ((((lget l z0).Path).size ≤ maxLen) → ((inR .i64 ((lget l z0).Mode)) → ((((lget l z0).Data).length ≤ 9223372036854775807) → (z1 (decide ((((lget l z0).Data).length : Int) > (300 : Int)))))))))))))))) ∧ ((¬ (z0 < (l.length : Int))) → Q true)))))))
set_option maxRecDepth 20000 in
set_option maxHeartbeats 4000000 in
theorem rectolaw6_few_w {X : List Nat} {w : World} {l : (List S_journal_Change)} {z2 : Option Addr} {z1 : Nat} {Q : Bool → Prop} (r1 : Old X w) (t6 : Sl r_journal_Change X w z2 z1 l) (hp : rectolaw6_few_p l Q) :
  Calls Tryz.prog 8 #[(.slice z2 l.length z1)] w (Ret fun v w' => ∃ (r2 : Bool), Q r2 ∧ Evo [] w w' ∧ v = (.bool r2)) := by
 have hXo := r1
 have E0 : Evo [] w w := RB.refl _ _ _
 have hS : Sub X X := Sub.refl _
 unfold rectolaw6_few_p at hp
 refine enter_ Tryz.func8 rfl 29 [(0, (.slice z2 l.length z1))] (by kernel_rfl) (fun Qe hQ => ?_)
 replace hp := hp (Sl.len t6)
 refine sr (fun _ q3 => pv (.bool false) ?_)
 refine nt q3 (seq_ (fun _ q4 => sr (fun _ q5 => pv (.slice z2 l.length z1) ?_)))
 refine pv (.int .i64 (l.length : Int)) ?_
 refine pv (.bool (decide ((l.length : Int) > (20 : Int)))) ?_
 refine nt q5 ?_
 refine cond_d ((l.length : Int) > (20 : Int)) (by kernel_rfl) (fun s0 => ?_) (fun s0 => ?_)
 ·
  replace hp := hp.1 s0
  refine sr (fun _ q6 => pv (.bool false) ?_)
  refine nt q6 (wp_ret (then_ret ?_))
  refine end_ret hQ (.bool false) (by kernel_rfl) ?_
  exact ⟨false, hp, E0, rfl⟩
 ·
  replace hp := hp.2 s0
  refine wp_skip (then_normal (q4 _ _ _ _ (seq_ (fun _ q7 => sr (fun _ r3 => pv (.int .i64 (0 : Int)) ?_)))))
  refine nt r3 (wp_block ?_)
  obtain ⟨r4, t7, s1, hp⟩ := hp
  refine loop_ 536870796 (fun kq lq v1 => ∃ (z6 : List Nat) (z0 : Int), (lq = [(3, (.int .i64 z0))]) ∧ (kq = t7 z0) ∧ (Evo [] w v1) ∧ (Old z6 v1) ∧ (Sub X z6) ∧ (Sl r_journal_Change z6 v1 z2 z1 l) ∧ (inR .i64 z0) ∧ (r4 z0)) (t7 (0 : Int)) [(3, (.int .i64 (0 : Int)))] (vs_cons (by kernel_rfl) vs_nil) ⟨X, (0 : Int), rfl, rfl, E0, hXo, hS, t6, (by decide : inR .i64 (0 : Int)), s1⟩ ?_
  rintro _ _ v1 q8 ⟨z6, z0, rfl, rfl, y8, z9, v2, z3, s2, s3⟩ r5 u4
  replace hp := hp z0 s3 s2
  refine seq_ (fun _ s4 => sr (fun _ s5 => pv (.int .i64 z0) ?_))
  refine pv (.slice z2 l.length z1) ?_
  refine pv (.int .i64 (l.length : Int)) ?_
  refine pv (.bool (decide (z0 < (l.length : Int)))) ?_
  refine nt s5 ?_
  refine cond_d (z0 < (l.length : Int)) (by kernel_rfl) (fun y9 => ?_) (fun y9 => ?_)
  ·
   replace hp := hp.1 y9
   refine wp_skip (then_normal (s4 _ _ _ _ (seq_ (fun _ s6 => wp_block (seq_ (fun _ s7 => ?_))))))
   obtain ⟨s8, u5, hp⟩ := hp
   refine ground_ ?_
   refine join_ 536862720 (fun lq z7 => ∃ (z4 : List Nat) (z5 : Bool), (lq = [(28, (.bool z5))]) ∧ (Evo [] w z7) ∧ (Old z4 z7) ∧ (Sub X z4) ∧ (Sl r_journal_Change z4 z7 z2 z1 l) ∧ (s8 z5)) (fun r6 v3 => ?_) ?_
   ·
    refine reg_ (pv (.slice z2 l.length z1) ?_)
    refine pv (.int .i64 z0) ?_
    obtain ⟨v4, hp⟩ := hp
    obtain ⟨v5, v6, r7, u6, r8, r9, u7, u9⟩ := Sl.atI z3 z0 v4
    obtain ⟨t8, t9, rfl, y0, y1, y2⟩ := r_journal_Change_open u7
    replace hp := hp y0 y1 (Sl.len y2)
    refine pw (.pointer (some ⟨v5, v6 + z0.toNat * 4, none⟩)) (x_ixA (m := l.length) (c := z1) (k := .i64) (i := z0) Tryz.underlying22 Tryz.sizeOf34 (by rw [← u6]; kernel_rfl) (by kernel_rfl) v4) ?_
    refine pv (.pointer (some ⟨v5, v6 + z0.toNat * 4, none⟩)) ?_
    refine pw (.string ((lget l z0).Path)) (x_load1 (by kernel_rfl) Tryz.isAgg9 (u9 0 _ rfl)) ?_
    refine pv (.int .i64 (((lget l z0).Path).size : Int)) ?_
    by_cases z8 : (((lget l z0).Path).size : Int) > (100 : Int)
    ·
     replace hp := hp.1 z8
     refine pw (.bool true) (x_dt (p := (((lget l z0).Path).size : Int) > (100 : Int)) (by kernel_rfl) z8) ?_
     refine pv (.bool true) ?_
     refine no ?_
     refine no ?_
     refine no ?_
     refine no ?_
     refine no ?_
     refine no ?_
     refine no ?_
     refine pv (.bool true) ?_
     refine nil_ (then_normal (v3 _ _ _ ⟨[(28, (.bool true))], fit_mk (fun _ _ => rfl) (by kernel_rfl) (vs_cons (by kernel_rfl) vs_nil), ?_⟩))
     exact ⟨z6, true, rfl, y8, z9, v2, z3, hp⟩
    ·
     replace hp := hp.2 z8
     refine pw (.bool false) (x_df (p := (((lget l z0).Path).size : Int) > (100 : Int)) (by kernel_rfl) z8) ?_
     refine pv (.bool false) ?_
     refine pv (.slice z2 l.length z1) ?_
     refine pv (.int .i64 z0) ?_
     obtain ⟨v7, hp⟩ := hp
     obtain ⟨v8, v9, q0, t0, q1, q2, t1, t2⟩ := Sl.atI z3 z0 v7
     obtain ⟨y3, y4, rfl, y5, y6, y7⟩ := r_journal_Change_open t1
     replace hp := hp y5 y6 (Sl.len y7)
     refine pw (.pointer (some ⟨v8, v9 + z0.toNat * 4, none⟩)) (x_ixA (m := l.length) (c := z1) (k := .i64) (i := z0) Tryz.underlying22 Tryz.sizeOf34 (by rw [← t0]; kernel_rfl) (by kernel_rfl) v7) ?_
     refine pv (.pointer (some ⟨v8, v9 + z0.toNat * 4 + 3, none⟩)) ?_
     refine pw (.slice y3 (((lget l z0).Data).length) y4) (x_load1 (by kernel_rfl) Tryz.isAgg32 (t2 3 _ rfl)) ?_
     refine pv (.int .i64 (((lget l z0).Data).length : Int)) ?_
     refine pv (.bool (decide ((((lget l z0).Data).length : Int) > (300 : Int)))) ?_
     refine pv (.bool (decide ((((lget l z0).Data).length : Int) > (300 : Int)))) ?_
     refine nil_ (then_normal (v3 _ _ _ ⟨[(28, (.bool (decide ((((lget l z0).Data).length : Int) > (300 : Int)))))], fit_mk (fun _ _ => rfl) (by kernel_rfl) (vs_cons (by kernel_rfl) vs_nil), ?_⟩))
     exact ⟨z6, (decide ((((lget l z0).Data).length : Int) > (300 : Int))), rfl, y8, z9, v2, z3, hp⟩
   ·
    rintro _ z7 q9 ⟨z4, z5, rfl, u1, u2, t3, t4, t5⟩
    replace hp := u5 z5 t5
    refine then_normal (s7 _ _ _ _ ?_)
    refine cond_b z5 (by kernel_rfl) (fun v0 => ?_) (fun v0 => ?_)
    ·
     replace hp := hp.1 v0
     refine sr (fun _ s9 => pv (.bool false) ?_)
     refine nt s9 (wp_ret (blk_ret (then_ret (then_ret (blk_ret (then_ret ?_))))))
     refine end_ret hQ (.bool false) (by kernel_rfl) ?_
     exact ⟨false, hp, u1, rfl⟩
    ·
     replace hp := hp.2 v0
     refine wp_skip (blk_normal (then_normal (s6 _ _ _ _ (reg_ (pv (.int .i64 z0) ?_)))))
     obtain ⟨u3, hp⟩ := hp
     refine pw (.int .i64 (z0 + (1 : Int))) (x_add2 (k := .i64) (a := z0) (b := (1 : Int)) (z0 + (1 : Int)) (by kernel_rfl) (by kernel_rfl) (wrap_inR u3)) ?_
     refine pv (.int .i64 (z0 + (1 : Int))) ?_
     refine nil_ (then_normal (u4 _ _ _ ⟨_, [(3, (.int .i64 (z0 + (1 : Int))))], hp.2, fit_mk (AgB.nest (AgB.look (AgB.mix _ _ _) (by kernel_rfl)) (by kernel_rfl) (by kernel_rfl)) (by kernel_rfl) (vs_cons (by kernel_rfl) vs_nil), ?_⟩))
     exact ⟨z4, (z0 + (1 : Int)), rfl, rfl, u1, u2, t3, t4, u3, hp.1⟩
  ·
   replace hp := hp.2 y9
   refine wp_exit ?_
   refine then_exit (then_exit (blk_exit (then_normal (q7 _ _ _ _ (sr (fun _ r0 => pv (.bool true) ?_))))))
   refine nt r0 (wp_ret ?_)
   refine end_ret hQ (.bool true) (by kernel_rfl) ?_
   exact ⟨true, hp, y8, rfl⟩
def rectoref1_Parts_p (p : ByteArray) (Q : (List ByteArray) → Prop) : Prop :=
 ((p.size ≤ maxLen) → ((((p : ByteArray) = (ByteArray.mk #[])) → Q ([] : List ByteArray)) ∧ ((¬ ((p : ByteArray) = (ByteArray.mk #[]))) → (∃ (z3 : (List ByteArray) → Int → Prop) (z5 : (List ByteArray) → Int → Nat), (z3 ([(ByteArray.mk #[])]) (0 : Int)) ∧ (∀ (z0 : (List ByteArray)) (z1 : Int), (z3 z0 z1) → (z0.length ≤ 9223372036854775807) → (inR .i64 z1) → (((z1 < (p.size : Int)) → (∃ z4 : (List ByteArray) → Prop, (∀ (z2 : (List ByteArray)), z4 z2 → (z2.length ≤ 9223372036854775807) → ((inR .i64 (z1 + (1 : Int))) ∧ ((z3 z2 (z1 + (1 : Int))) ∧ z5 z2 (z1 + (1 : Int)) < z5 z0 z1))) ∧ ((0 ≤ z1 ∧ z1 < (p.size : Int)) ∧ ((((bget p z1) = (47 : Int)) → (((z0.length + ([(ByteArray.mk #[])]).length) * 16 ≤ 140737488355328) ∧ (z4 (z0 ++ ([(ByteArray.mk #[])]))))) ∧ ((¬ ((bget p z1) = (47 : Int))) → ((inR .i64 ((z0.length : Int) - (1 : Int))) ∧ ((inR .i64 ((z0.length : Int) - (1 : Int))) ∧ ((inL z0 ((z0.length : Int) - (1 : Int))) ∧ (((lget z0 ((z0.length : Int) - (1 : Int))).size ≤ maxLen) → ((inR .i64 (z1 + (1 : Int))) ∧ ((0 ≤ z1 ∧ z1 ≤ (z1 + (1 : Int)) ∧ (z1 + (1 : Int)) ≤ (p.size : Int)) ∧ ((((lget z0 ((z0.length : Int) - (1 : Int))) ++ (bsub p z1 (z1 + (1 : Int)))).size ≤ maxLen) ∧ ((inL z0 ((z0.length : Int) - (1 : Int))) ∧ (((lget z0 ((z0.length : Int) - (1 : Int))).size ≤ maxLen) → (∀ z6 : List ByteArray, z6 = (lset z0 ((z0.length : Int) - (1 : Int)) ((lget z0 ((z0.length : Int) - (1 : Int))) ++ (bsub p z1 (z1 + (1 : Int))))) → (z4 z6)))))))))))))))) ∧ ((¬ (z1 < (p.size : Int))) → Q z0)))))))
set_option maxRecDepth 20000 in
set_option maxHeartbeats 4000000 in
theorem rectoref1_Parts_w {X : List Nat} {w : World} {p : ByteArray} {Q : (List ByteArray) → Prop} (q3 : Old X w) (g5 : p.size ≤ maxLen) (hp : rectoref1_Parts_p p Q) :
  Calls Tryz.prog 46 #[(.string p)] w (Ret fun v w' => ∃ (q4 : (List ByteArray)), Q q4 ∧ Evo [] w w' ∧ ∃ (u4 : Option Addr) (u5 : Nat), v = (.slice u4 q4.length u5) ∧ Sl rStr X w' u4 u5 q4) := by
 have hXo := q3
 have E0 : Evo [] w w := RB.refl _ _ _
 have hS : Sub X X := Sub.refl _
 unfold rectoref1_Parts_p at hp
 refine enter_ Tryz.func46 rfl 39 [(0, (.string p))] (by kernel_rfl) (fun Qe hQ => ?_)
 replace hp := hp g5
 refine sr (fun _ d9 => pv (.slice none 0 0) ?_)
 refine nt d9 (seq_ (fun _ l0 => sr (fun _ l1 => pv (.string p) ?_)))
 refine pw (.bool (decide ((p : ByteArray) = (ByteArray.mk #[])))) (x_streq (by kernel_rfl) (by kernel_rfl)) ?_
 refine nt l1 ?_
 refine cond_d ((p : ByteArray) = (ByteArray.mk #[])) (by kernel_rfl) (fun q5 => ?_) (fun q5 => ?_)
 ·
  replace hp := hp.1 q5
  refine sr (fun _ l2 => pv (.slice none 0 0) ?_)
  refine nt l2 (wp_ret (then_ret ?_))
  refine end_ret hQ (.slice none 0 0) (by kernel_rfl) ?_
  exact ⟨([] : List ByteArray), hp, E0, none, 0, rfl, Sl.nil⟩
 ·
  replace hp := hp.2 q5
  refine wp_skip (then_normal (l0 _ _ _ _ (sr (fun _ l3 => ?_))))
  refine sq (o_rowX (R := rStr) [(.string (ByteArray.mk #[]))] [(ByteArray.mk #[])] 9 1 (X := X) (B := w.heap.size) E0.size rfl (by kernel_rfl) (Flat.cons (cs := [(.string (ByteArray.mk #[]))]) (rStr_mk (by decide : (ByteArray.mk #[]).size ≤ maxLen)) Flat.nil) rfl (by decide) ?_)
  intro q6 m2 g6 u6 g7 m1
  refine pv (.slice (some ⟨q6, 0, none⟩) 1 1) ?_
  refine nt l3 (seq_ (fun _ g8 => sr (fun _ g9 => pv (.int .i64 (0 : Int)) ?_)))
  refine nt g9 (wp_block ?_)
  have u7 := Old.step hXo u6
  have q7 := Evo.then0 E0 (Step.evo u6)
  have s4 := Sub.trans hS (Step.up u6)
  obtain ⟨q8, u9, s5, hp⟩ := hp
  refine loop_ 274877906712 (fun kq lq z7 => ∃ (z8 : List Nat) (z0 : (List ByteArray)) (z1 : Int) (z4 : Option Addr) (z2 : Nat) (z3 : Nat), (lq = [(3, (.slice z4 z2 z3)), (4, (.int .i64 z1))]) ∧ (kq = u9 z0 z1) ∧ (Evo [] w z7) ∧ (Old z8 z7) ∧ (Sub X z8) ∧ (OS rStr ([]) w.heap.size z8 z7 9 z4 z2 z3 z0) ∧ (inR .i64 z1) ∧ (q8 z0 z1)) (u9 ([(ByteArray.mk #[])]) (0 : Int)) [(3, (.slice (some ⟨q6, 0, none⟩) 1 1)), (4, (.int .i64 (0 : Int)))] (vs_cons (by kernel_rfl) (vs_cons (by kernel_rfl) vs_nil)) ⟨g6, ([(ByteArray.mk #[])]), (0 : Int), (some ⟨q6, 0, none⟩), 1, 1, rfl, rfl, q7, u7, s4, g7, (by decide : inR .i64 (0 : Int)), s5⟩ ?_
  rintro _ _ z7 l4 ⟨z8, z0, z1, z4, z2, z3, rfl, rfl, y4, v1, y5, z9, s6, s7⟩ d0 s8
  replace hp := hp z0 z1 s7 (OS.len z9) s6
  refine seq_ (fun _ q9 => sr (fun _ k0 => pv (.int .i64 z1) ?_))
  refine pv (.string p) ?_
  refine pv (.int .i64 (p.size : Int)) ?_
  refine pv (.bool (decide (z1 < (p.size : Int)))) ?_
  refine nt k0 ?_
  refine cond_d (z1 < (p.size : Int)) (by kernel_rfl) (fun v2 => ?_) (fun v2 => ?_)
  ·
   replace hp := hp.1 v2
   refine wp_skip (then_normal (q9 _ _ _ _ (seq_ (fun _ k1 => ?_))))
   obtain ⟨k2, s9, hp⟩ := hp
   refine ground_ ?_
   refine join_ 274877890568 (fun lq y6 => ∃ (y0 : List Nat) (z5 : (List ByteArray)) (y1 : Option Addr) (y2 : Nat) (y3 : Nat), (lq = [(3, (.slice y1 y2 y3))]) ∧ (Evo [] w y6) ∧ (Old y0 y6) ∧ (Sub X y0) ∧ (OS rStr ([]) w.heap.size y0 y6 9 y1 y2 y3 z5) ∧ (k2 z5)) (fun d1 u1 => ?_) ?_
   ·
    refine wp_block (seq_ (fun _ k3 => sr (fun _ k4 => pv (.string p) ?_)))
    refine pv (.int .i64 z1) ?_
    obtain ⟨k5, hp⟩ := hp
    refine pw (.int .u8 (bget p z1)) (x_bget (k := .i64) (by kernel_rfl) (by kernel_rfl) Tryz.underlying9 k5) ?_
    refine pv (.bool (decide ((bget p z1) = (47 : Int)))) ?_
    refine nt k4 ?_
    refine cond_d ((bget p z1) = (47 : Int)) (by kernel_rfl) (fun v3 => ?_) (fun v3 => ?_)
    ·
     replace hp := hp.1 v3
     refine sr (fun _ k6 => pv (.slice z4 z2 z3) ?_)
     refine sq (o_rowX (R := rStr) [(.string (ByteArray.mk #[]))] [(ByteArray.mk #[])] 9 1 (X := z8) (B := w.heap.size) y4.size rfl (by kernel_rfl) (Flat.cons (cs := [(.string (ByteArray.mk #[]))]) (rStr_mk (by decide : (ByteArray.mk #[]).size ≤ maxLen)) Flat.nil) rfl (by decide) ?_)
     intro l5 l6 k7 y7 t0 l7
     obtain ⟨k8, hp⟩ := hp
     have t1 := OS.step0 z9 y7
     have t2 := Evo.then0 y4 (Step.evo y7)
     refine sq (o_appX (R := rStr) (X := k7) (B := w.heap.size) (L := z0) (M := [(ByteArray.mk #[])]) rfl elT65 rfl t2.size t1 (OS.src t0) t0.1 (by kernel_rfl) (by kernel_rfl) k8 ?_)
     intro v4 v5 v6 l8 k9 v7 j0 d2
     refine pv (.slice v4 v5 v6) ?_
     refine nt k6 ?_
     refine wp_exit ?_
     refine then_exit (blk_exit ?_)
     have j1 := Evo.thenW t2 (Step.evo v7) t1.2.2
     have t3 := Old.step (Old.step v1 y7) v7
     have r0 := Sub.trans (Sub.trans y5 (Step.up y7)) (Step.up v7)
     refine then_normal (u1 _ _ _ ⟨[(3, (.slice v4 v5 v6))], fit_mk (fun _ _ => rfl) (by kernel_rfl) (vs_cons (by kernel_rfl) vs_nil), ?_⟩)
     exact ⟨k9, (z0 ++ ([(ByteArray.mk #[])])), v4, v5, v6, rfl, j1, t3, r0, j0, hp⟩
    ·
     replace hp := hp.2 v3
     refine wp_skip (then_normal (k3 _ _ _ _ ?_))
     refine reg_drawn (RB z7.heap.size []) 17 (by kernel_rfl) (fun t4 y8 => ?_)
     have j2 := Evo.of_drew y8
     have j3 : t4.heap.size = z7.heap.size := by rw [y8]
     clear y8
     have y9 := Step.of0 z8 j2
     have r1 := RB.refl z7.heap.size [] t4
     have j4 := Evo.then0 y4 (Step.evo y9)
     have t5 := Old.step v1 y9
     have r2 := Sub.trans y5 (Step.up y9)
     have z6 := OS.step0 z9 y9
     refine r_take 0 (.slice z4 z2 z3) (RB.pre _ _) rfl (by kernel_rfl) (fun _ _ _ h => hQ.panic _ _ _ _ _ h) (.inl ⟨rfl, fun wq hq => (by kernel_rfl)⟩) ?_
     refine r_take 1 (.slice z4 z2 z3) (RB.pre _ _) rfl (by kernel_rfl) (fun _ _ _ h => hQ.panic _ _ _ _ _ h) (.inl ⟨rfl, fun wq hq => (by kernel_rfl)⟩) ?_
     refine r_take 2 (.int .i64 (z0.length : Int)) (RB.pre _ _) rfl (by kernel_rfl) (fun _ _ _ h => hQ.panic _ _ _ _ _ h) (.inl ⟨rfl, fun wq hq => (by rw [← show z2 = z0.length from z6.1]; kernel_rfl)⟩) ?_
     obtain ⟨j5, hp⟩ := hp
     refine r_take 3 (.int .i64 ((z0.length : Int) - (1 : Int))) (RB.pre _ _) rfl (by kernel_rfl) (fun _ _ _ h => hQ.panic _ _ _ _ _ h) (.inl ⟨rfl, fun wq hq => (x_sub2 (k := .i64) (a := (z0.length : Int)) (b := (1 : Int)) ((z0.length : Int) - (1 : Int)) (by kernel_rfl) (by kernel_rfl) (wrap_inR j5))⟩) ?_
     refine r_take 4 (.slice z4 z2 z3) (RB.pre _ _) rfl (by kernel_rfl) (fun _ _ _ h => hQ.panic _ _ _ _ _ h) (.inl ⟨rfl, fun wq hq => (by kernel_rfl)⟩) ?_
     refine r_take 5 (.slice z4 z2 z3) (RB.pre _ _) rfl (by kernel_rfl) (fun _ _ _ h => hQ.panic _ _ _ _ _ h) (.inl ⟨rfl, fun wq hq => (by kernel_rfl)⟩) ?_
     refine r_take 6 (.int .i64 (z0.length : Int)) (RB.pre _ _) rfl (by kernel_rfl) (fun _ _ _ h => hQ.panic _ _ _ _ _ h) (.inl ⟨rfl, fun wq hq => (by rw [← show z2 = z0.length from z6.1]; kernel_rfl)⟩) ?_
     obtain ⟨j6, hp⟩ := hp
     refine r_take 7 (.int .i64 ((z0.length : Int) - (1 : Int))) (RB.pre _ _) rfl (by kernel_rfl) (fun _ _ _ h => hQ.panic _ _ _ _ _ h) (.inl ⟨rfl, fun wq hq => (x_sub2 (k := .i64) (a := (z0.length : Int)) (b := (1 : Int)) ((z0.length : Int) - (1 : Int)) (by kernel_rfl) (by kernel_rfl) (wrap_inR j6))⟩) ?_
     obtain ⟨v8, hp⟩ := hp
     obtain ⟨j7, j8, d3, r3, d4, r4, r5, r6⟩ := Sl.atI (OS.rd z6) ((z0.length : Int) - (1 : Int)) v8
     obtain ⟨rfl, r7⟩ := r5
     replace hp := hp r7
     refine r_take 8 (.pointer (some ⟨j7, j8 + ((z0.length : Int) - (1 : Int)).toNat * 1, none⟩)) (RB.pre _ _) rfl (by kernel_rfl) (fun _ _ _ h => hQ.panic _ _ _ _ _ h) (.inl ⟨rfl, fun wq hq => (x_ixA (m := z2) (c := z3) (k := .i64) (i := (z0.length : Int) - (1 : Int)) Tryz.underlying65 Tryz.sizeOf9 (by rw [← r3]; kernel_rfl) (by kernel_rfl) ⟨v8.1, by rw [z6.1]; exact v8.2⟩)⟩) ?_
     refine r_take 9 (.string (lget z0 ((z0.length : Int) - (1 : Int)))) (RB.pre _ _) rfl (by kernel_rfl) (fun _ _ _ h => hQ.panic _ _ _ _ _ h) (.inl ⟨rfl, fun wq hq => (x_load1 (by kernel_rfl) Tryz.isAgg9 ((CellsAt.rb r6 (RB.trans r1 hq) (Nat.lt_of_lt_of_eq r4 j3) (fun h => by cases h)) 0 _ rfl))⟩) ?_
     refine r_take 10 (.string p) (RB.pre _ _) rfl (by kernel_rfl) (fun _ _ _ h => hQ.panic _ _ _ _ _ h) (.inl ⟨rfl, fun wq hq => (by kernel_rfl)⟩) ?_
     refine r_take 11 (.int .i64 z1) (RB.pre _ _) rfl (by kernel_rfl) (fun _ _ _ h => hQ.panic _ _ _ _ _ h) (.inl ⟨rfl, fun wq hq => (by kernel_rfl)⟩) ?_
     refine r_take 12 (.int .i64 z1) (RB.pre _ _) rfl (by kernel_rfl) (fun _ _ _ h => hQ.panic _ _ _ _ _ h) (.inl ⟨rfl, fun wq hq => (by kernel_rfl)⟩) ?_
     obtain ⟨j9, hp⟩ := hp
     refine r_take 13 (.int .i64 (z1 + (1 : Int))) (RB.pre _ _) rfl (by kernel_rfl) (fun _ _ _ h => hQ.panic _ _ _ _ _ h) (.inl ⟨rfl, fun wq hq => (x_add2 (k := .i64) (a := z1) (b := (1 : Int)) (z1 + (1 : Int)) (by kernel_rfl) (by kernel_rfl) (wrap_inR j9))⟩) ?_
     obtain ⟨g0, hp⟩ := hp
     refine r_take 14 (.string (bsub p z1 (z1 + (1 : Int)))) (RB.pre _ _) rfl (by kernel_rfl) (fun _ _ _ h => hQ.panic _ _ _ _ _ h) (.inl ⟨rfl, fun wq hq => (x_sub11 (k := .i64) (k' := .i64) (by kernel_rfl) (by kernel_rfl) (by kernel_rfl) Tryz.underlying9 g0)⟩) ?_
     obtain ⟨t6, hp⟩ := hp
     refine r_take 15 (.string ((lget z0 ((z0.length : Int) - (1 : Int))) ++ (bsub p z1 (z1 + (1 : Int))))) (RB.pre _ _) rfl (by kernel_rfl) (fun _ _ _ h => hQ.panic _ _ _ _ _ h) (.inl ⟨rfl, fun wq hq => (x_cat (by kernel_rfl) (by kernel_rfl) t6)⟩) ?_
     obtain ⟨v0, hp⟩ := hp
     obtain ⟨g1, t7, d5, u2, d6, d7, r8, d8⟩ := Sl.atI (OS.rd z6) ((z0.length : Int) - (1 : Int)) v0
     obtain ⟨rfl, r9⟩ := r8
     replace hp := hp r9
     refine r_take 16 (.pointer (some ⟨g1, t7 + ((z0.length : Int) - (1 : Int)).toNat * 1, none⟩)) (RB.pre _ _) rfl (by kernel_rfl) (fun _ _ _ h => hQ.panic _ _ _ _ _ h) (.inl ⟨rfl, fun wq hq => (x_ixA (m := z2) (c := z3) (k := .i64) (i := (z0.length : Int) - (1 : Int)) Tryz.underlying65 Tryz.sizeOf9 (by rw [← u2]; kernel_rfl) (by kernel_rfl) ⟨v0.1, by rw [z6.1]; exact v0.2⟩)⟩) ?_
     refine r_ready [17] (by kernel_rfl) rfl (all_cons ⟨_, _, _, _, _, _, rfl, ?_⟩ all_nil)
     refine o_stS (o := t7) (v := (.string ((lget z0 ((z0.length : Int) - (1 : Int))) ++ (bsub p z1 (z1 + (1 : Int)))))) ((z0.length : Int) - (1 : Int)) ((lget z0 ((z0.length : Int) - (1 : Int))) ++ (bsub p z1 (z1 + (1 : Int)))) rfl z6 u2 (v0) (by kernel_rfl) (by kernel_rfl) Tryz.sizeOf9 (fun _ => (rStr_mk t6)) ?_
     intro l9 v9 t8
     refine ⟨fun h => absurd h (by decide), ?_⟩
     obtain ⟨t9, u3⟩ : ∃ y, y = (lset z0 ((z0.length : Int) - (1 : Int)) ((lget z0 ((z0.length : Int) - (1 : Int))) ++ (bsub p z1 (z1 + (1 : Int))))) := ⟨_, rfl⟩
     replace hp := hp t9 u3
     rw [← u3] at t8
     refine r_done (by kernel_rfl) ?_
     refine blk_normal ?_
     have g2 := Evo.thenW j4 (Step.evo v9) z6.2.2
     have s0 := Old.step t5 v9
     have q0 := Sub.trans r2 (Step.up v9)
     refine then_normal (u1 _ _ _ ⟨[(3, (.slice z4 z2 z3))], fit_mk (fun _ _ => rfl) (by kernel_rfl) (vs_cons (by kernel_rfl) vs_nil), ?_⟩)
     exact ⟨z8, t9, z4, z2, z3, rfl, g2, s0, q0, t8, hp⟩
   ·
    rintro _ y6 m0 ⟨y0, z5, y1, y2, y3, rfl, g3, s1, q1, s2, q2⟩
    replace hp := s9 z5 q2 (OS.len s2)
    refine then_normal (k1 _ _ _ _ (reg_ (pv (.int .i64 z1) ?_)))
    obtain ⟨s3, hp⟩ := hp
    refine pw (.int .i64 (z1 + (1 : Int))) (x_add2 (k := .i64) (a := z1) (b := (1 : Int)) (z1 + (1 : Int)) (by kernel_rfl) (by kernel_rfl) (wrap_inR s3)) ?_
    refine pv (.int .i64 (z1 + (1 : Int))) ?_
    refine nil_ (then_normal (s8 _ _ _ ⟨_, [(3, (.slice y1 y2 y3)), (4, (.int .i64 (z1 + (1 : Int))))], hp.2, fit_mk (AgB.nest (AgB.look (AgB.mix _ _ _) (by kernel_rfl)) (by kernel_rfl) (by kernel_rfl)) (by kernel_rfl) (vs_cons (by kernel_rfl) (vs_cons (by kernel_rfl) vs_nil)), ?_⟩))
    exact ⟨y0, z5, (z1 + (1 : Int)), y1, y2, y3, rfl, rfl, g3, s1, q1, s2, s3, hp.1⟩
  ·
   replace hp := hp.2 v2
   refine wp_exit ?_
   refine then_exit (then_exit (blk_exit (then_normal (g8 _ _ _ _ (sr (fun _ g4 => pv (.slice z4 z2 z3) ?_))))))
   refine pv (.slice z4 z2 z3) ?_
   refine nt g4 (wp_ret ?_)
   refine end_ret hQ (.slice z4 z2 z3) (by kernel_rfl) ?_
   exact ⟨z0, hp, y4, z4, z3, (by (rw [show z2 = z0.length from z9.1]); first | done | rfl), (OS.out z9 y5 q3)⟩
end Go.Proofs.YtlkfoebophjhfaaGreatDoor
