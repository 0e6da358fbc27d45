/- Walks of functions: what each asks and computes, as a plain predicate, and the contract from it. -/
import Derived.Test.YtlkfoebophjhfaaGreatDoorChecked
import Derived.Test.YtlkfoebophjhfaaGreatDoorPk
import Derived.Test.YtlkfoebophjhfaaGreatDoorJa5
namespace Go.Proofs.YtlkfoebophjhfaaGreatDoor
open Go
def simfs_FS_room_p (f_ : S_simfs_FS) (p : ByteArray) (n_ : Int) (Q : S_simfs_FS → Bool → Prop) : Prop :=
 ((p.size ≤ maxLen) → ((inR .i64 n_) → ((f_.pending.length ≤ 9223372036854775807) → ((inR .i64 f_.quota) → ((inR .i64 f_.now) → ((inR .i64 f_.inodes) → ((inR .i64 f_.ops_) → ((inR .i64 f_.left) → ((f_.keep.length ≤ 9223372036854775807) → ((inR .i64 ((mgetD f_.files p).mode)) → ((inR .i64 ((mgetD f_.files p).time)) → ((inR .i64 ((mgetD f_.files p).inode)) → ((((mgetD f_.files p).b).length ≤ 9223372036854775807) → (∃ z0 : Bool → Prop, (∀ (z3 : Bool), z0 z3 → Q f_ z3) ∧ (((f_.quota ≤ (0 : Int)) → (z0 true)) ∧ ((¬ (f_.quota ≤ (0 : Int))) → (((n_ = (0 : Int)) → (z0 true)) ∧ ((¬ (n_ = (0 : Int))) → ((((mhas f_.files p) = true) → (((n_ ≤ (((mgetD f_.files p).b).length : Int)) → (z0 true)) ∧ ((¬ (n_ ≤ (((mgetD f_.files p).b).length : Int))) → (simfs_sum_p f_.files (fun (z1 : Int) => ((inR .i64 z1) → ((inR .i64 (z1 - (((mgetD f_.files p).b).length : Int))) ∧ ((inR .i64 ((z1 - (((mgetD f_.files p).b).length : Int)) + n_)) ∧ (z0 (decide (((z1 - (((mgetD f_.files p).b).length : Int)) + n_) ≤ f_.quota))))))))))) ∧ ((¬ ((mhas f_.files p) = true)) → (simfs_sum_p f_.files (fun (z2 : Int) => ((inR .i64 z2) → ((inR .i64 (z2 - (((mgetD f_.files p).b).length : Int))) ∧ ((inR .i64 ((z2 - (((mgetD f_.files p).b).length : Int)) + n_)) ∧ (z0 (decide (((z2 - (((mgetD f_.files p).b).length : Int)) + n_) ≤ f_.quota))))))))))))))))))))))))))))
set_option maxRecDepth 20000 in
set_option maxHeartbeats 4000000 in
theorem simfs_FS_room_w {X : List Nat} {w : World} {f_ : S_simfs_FS} {p : ByteArray} {n_ : Int} {z0 : Nat} {z9 : List Nat} {Q : S_simfs_FS → Bool → Prop} (d7 : Old X w) (r8 : MO o_simfs_FS 62 z9 w.heap.size X w z9 z0 f_) (d8 : p.size ≤ maxLen) (j7 : inR .i64 n_) (hp : simfs_FS_room_p f_ p n_ Q) :
  Calls Tryz.prog 90 #[(.pointer (some ⟨z0, 0, none⟩)), (.string p), (.int .i64 n_)] w (Ret fun v w' => ∃ (d9 : S_simfs_FS) (l0 : Bool), Q d9 l0 ∧ ∃ (X' : List Nat) (l1 : List Nat), Step X w z9 X' w' ∧ v = (.bool l0) ∧ MO o_simfs_FS 62 z9 w.heap.size X' w' l1 z0 d9) := by
 have hXo := d7
 have E0 : Evo z9 w w := RB.refl _ _ _
 have hS : Sub X X := Sub.refl _
 have hN : News X w X w := News.refl _ _
 have l2 : Sub z9 X := MO.mem r8
 unfold simfs_FS_room_p at hp
 refine enter_ Tryz.func90 rfl 55 [(0, (.pointer (some ⟨z0, 0, none⟩))), (1, (.string p)), (2, (.int .i64 n_))] (by kernel_rfl) (fun Qe hQ => ?_)
 replace hp := hp d8 j7
 refine sr (fun _ n0 => pv (.bool false) ?_)
 refine nt n0 (sr (fun _ n1 => pv (.pointer (some ⟨z0, 0, none⟩)) ?_))
 refine pv (.pointer (some ⟨z0, 0, none⟩)) ?_
 obtain ⟨u9, z2, r9, q0, q1, u2, u3, q2, t0, y6, r1, v9, t1, v0, u4, u5, u6, n2, n3, n4, n5, l3, l4, l5, l6, l7, l8⟩ := o_simfs_FS_open r8
 replace hp := hp (OS.len r1) v9 t1 v0 u4 u5 (Sl.len u6)
 refine pv (.pointer (some ⟨z0, 1, none⟩)) ?_
 refine pw (.map (some z2)) (x_load1 (by kernel_rfl) Tryz.isAgg59 (q2.2.1.cell' 1 rfl)) ?_
 refine pv (.string p) ?_
 obtain ⟨n6, j8, j9⟩ := MapAt.look y6.2.1 p [(.int .i64 (0 : Int)), (.int .i64 (0 : Int)), (.int .i64 (0 : Int)), (.slice none 0 0)] (fun _ _ => (r_simfs_file_mk (by decide : inR .i64 (0 : Int)) (by decide : inR .i64 (0 : Int)) (by decide : inR .i64 (0 : Int)) (Sl.nil) rfl))
 obtain ⟨z7, z8, rfl, r2, r3, s1, q9⟩ := r_simfs_file_open j8
 replace hp := hp r2 r3 s1 (Sl.len q9)
 refine pw (.tuple #[(.agg #[(.int .i64 ((mgetD f_.files p).mode)), (.int .i64 ((mgetD f_.files p).time)), (.int .i64 ((mgetD f_.files p).inode)), (.slice z7 (((mgetD f_.files p).b).length) z8)]), (.bool (mhas f_.files p))]) (x_lookup2 (w0 := w) (k := p) (v := (.agg #[(.int .i64 ((mgetD f_.files p).mode)), (.int .i64 ((mgetD f_.files p).time)), (.int .i64 ((mgetD f_.files p).inode)), (.slice z7 (((mgetD f_.files p).b).length) z8)])) (z := (.agg #[(.int .i64 (0 : Int)), (.int .i64 (0 : Int)), (.int .i64 (0 : Int)), (.slice none 0 0)])) (b := mhas f_.files p) (s := 4) (bts := 48) (by kernel_rfl) (by kernel_rfl) j9 rfl Tryz.underlying59 Tryz.underlying9 (by kernel_rfl)) ?_
 refine pv (.tuple #[(.agg #[(.int .i64 ((mgetD f_.files p).mode)), (.int .i64 ((mgetD f_.files p).time)), (.int .i64 ((mgetD f_.files p).inode)), (.slice z7 (((mgetD f_.files p).b).length) z8)]), (.bool (mhas f_.files p))]) ?_
 refine pv (.agg #[(.int .i64 ((mgetD f_.files p).mode)), (.int .i64 ((mgetD f_.files p).time)), (.int .i64 ((mgetD f_.files p).inode)), (.slice z7 (((mgetD f_.files p).b).length) z8)]) ?_
 refine pv (.bool (mhas f_.files p)) ?_
 refine sq (o_newX [(.int .i64 (0 : Int)), (.int .i64 (0 : Int)), (.int .i64 (0 : Int)), (.slice none 0 0)] 74 (X := X) (B := w.heap.size) E0.size rfl (by kernel_rfl) ?_)
 intro q3 o0 u1 v1 j6 r7
 have l9 := r7 _ (OB.old q2)
 have m0 := r7 _ (OM.old t0)
 have m1 := r7 _ (OM.old y6)
 have m2 := r7 _ (OS.old r1)
 have m3 := OB.step0 q2 v1
 have r4 := OM.step0 t0 v1
 have s2 := OM.step0 y6 v1
 have g0 := OS.step0 r1 v1
 have m4 := Evo.then0 E0 (Step.evo v1)
 refine sq (o_stB (o := 0) (v := (.agg #[(.int .i64 ((mgetD f_.files p).mode)), (.int .i64 ((mgetD f_.files p).time)), (.int .i64 ((mgetD f_.files p).inode)), (.slice z7 (((mgetD f_.files p).b).length) z8)])) [(.int .i64 ((mgetD f_.files p).mode)), (.int .i64 ((mgetD f_.files p).time)), (.int .i64 ((mgetD f_.files p).inode)), (.slice z7 (((mgetD f_.files p).b).length) z8)] rfl j6 (by kernel_rfl) (by kernel_rfl) Tryz.sizeOf74 rfl rfl rfl ?_)
 intro q4 v2 m5
 refine pv (.bool (mhas f_.files p)) ?_
 refine nt n1 (seq_ (fun _ m6 => ?_))
 have q5 := Old.step (Old.step hXo v1) v2
 have g1 := Evo.thenW m4 (Step.evo v2) (Wr.of j6.2.2)
 have k0 := Sub.trans (Sub.trans hS (Step.up v1)) (Step.up v2)
 have k1 := News.step (News.step hN v1) v2
 have g2 := OB.step m3 v2 l9
 have s3 := OM.step r4 v2 m0
 have t2 := OM.step s2 v2 m1
 have k2 := OS.step g0 v2 m2
 have s4 := Sl.step (Sl.step u6 v1) v2
 obtain ⟨g3, k3, hp⟩ := hp
 refine ground_ ?_
 refine join_ 36028797018701888 (fun lq y5 => ∃ (y2 : List Nat) (v7 : Bool), (lq = [(6, (.bool v7))]) ∧ (Evo z9 w y5) ∧ (Old y2 y5) ∧ (Sub X y2) ∧ (News X w y2 y5) ∧ (OM r_simfs_file true z9 w.heap.size y2 y5 u9 f_.kept) ∧ (OM r_simfs_file true z9 w.heap.size y2 y5 z2 f_.files) ∧ (OS r_simfs_op z9 w.heap.size y2 y5 76 r9 q0 q1 f_.pending) ∧ (Sl rBool y2 y5 u2 u3 f_.keep) ∧ (OB z9 w.heap.size y2 y5 z0 [(.map (some u9)), (.map (some z2)), (.slice r9 q0 q1), (.int .i64 f_.quota), (.int .i64 f_.now), (.int .i64 f_.inodes), (.int .i64 f_.ops_), (.bool f_.off), (.bool f_.armed), (.int .i64 f_.left), (.slice u2 f_.keep.length u3)] 62) ∧ (g3 v7)) (fun m8 v3 => ?_) ?_
 ·
  refine reg_drawn (RB q4.heap.size []) 37 (by kernel_rfl) (fun q6 t3 => ?_)
  have g4 := Evo.of_drew t3
  have y3 : q6.heap.size = q4.heap.size := by rw [t3]
  clear t3
  have y4 := Step.of0 u1 g4
  have z4 := RB.refl q4.heap.size [] q6
  have y7 := Old.step q5 y4
  have u7 := Evo.then0 g1 (Step.evo y4)
  have v4 := Sub.trans k0 (Step.up y4)
  have v5 := News.step k1 y4
  have z3 := OB.step0 g2 y4
  have z5 := OM.step0 s3 y4
  have z1 := OM.step0 t2 y4
  have v6 := OS.step0 k2 y4
  have z6 := Sl.step s4 y4
  have v8 := OB.step0 m5 y4
  refine r_take 0 (.pointer (some ⟨z0, 0, none⟩)) (RB.pre _ _) rfl (by kernel_rfl) (fun _ _ _ h => hQ.panic _ _ _ _ _ h) (.inl ⟨rfl, fun wq hq => (by kernel_rfl)⟩) ?_
  refine r_take 1 (.pointer (some ⟨z0, 0, none⟩)) (RB.pre _ _) rfl (by kernel_rfl) (fun _ _ _ h => hQ.panic _ _ _ _ _ h) (.inl ⟨rfl, fun wq hq => (by kernel_rfl)⟩) ?_
  refine r_take 2 (.pointer (some ⟨z0, 3, none⟩)) (RB.pre _ _) rfl (by kernel_rfl) (fun _ _ _ h => hQ.panic _ _ _ _ _ h) (.inl ⟨rfl, fun wq hq => (by kernel_rfl)⟩) ?_
  refine r_take 3 (.int .i64 f_.quota) (RB.pre _ _) rfl (by kernel_rfl) (fun _ _ _ h => hQ.panic _ _ _ _ _ h) (.inl ⟨rfl, fun wq hq => (x_load1 (by kernel_rfl) Tryz.isAgg3 ((Blk.rb z3.2.1 (RB.trans z4 hq) (Nat.lt_of_lt_of_eq (Blk.lt z3.2.1) y3) (fun h => by cases h)).cell' 3 rfl))⟩) ?_
  by_cases t4 : f_.quota ≤ (0 : Int)
  ·
   replace hp := hp.1 t4
   refine r_take 4 (.bool true) (RB.pre _ _) rfl (by kernel_rfl) (fun _ _ _ h => hQ.panic _ _ _ _ _ h) (.inl ⟨rfl, fun wq hq => (x_dt (p := f_.quota ≤ (0 : Int)) (by kernel_rfl) t4)⟩) ?_
   refine r_take 5 (.bool true) (RB.pre _ _) rfl (by kernel_rfl) (fun _ _ _ h => hQ.panic _ _ _ _ _ h) (.inl ⟨rfl, fun wq hq => (by kernel_rfl)⟩) ?_
   refine r_take 6 undef (RB.pre _ _) rfl (by kernel_rfl) (fun _ _ _ h => hQ.panic _ _ _ _ _ h) (.inr ⟨by kernel_rfl, rfl⟩) ?_
   refine r_take 7 undef (RB.pre _ _) rfl (by kernel_rfl) (fun _ _ _ h => hQ.panic _ _ _ _ _ h) (.inr ⟨by kernel_rfl, rfl⟩) ?_
   refine r_take 8 (.bool true) (RB.pre _ _) rfl (by kernel_rfl) (fun _ _ _ h => hQ.panic _ _ _ _ _ h) (.inl ⟨rfl, fun wq hq => (by kernel_rfl)⟩) ?_
   refine r_take 9 (.bool true) (RB.pre _ _) rfl (by kernel_rfl) (fun _ _ _ h => hQ.panic _ _ _ _ _ h) (.inl ⟨rfl, fun wq hq => (by kernel_rfl)⟩) ?_
   refine r_take 10 undef (RB.pre _ _) rfl (by kernel_rfl) (fun _ _ _ h => hQ.panic _ _ _ _ _ h) (.inr ⟨by kernel_rfl, rfl⟩) ?_
   refine r_take 11 undef (RB.pre _ _) rfl (by kernel_rfl) (fun _ _ _ h => hQ.panic _ _ _ _ _ h) (.inr ⟨by kernel_rfl, rfl⟩) ?_
   refine r_take 12 undef (RB.pre _ _) rfl (by kernel_rfl) (fun _ _ _ h => hQ.panic _ _ _ _ _ h) (.inr ⟨by kernel_rfl, rfl⟩) ?_
   refine r_take 13 undef (RB.pre _ _) rfl (by kernel_rfl) (fun _ _ _ h => hQ.panic _ _ _ _ _ h) (.inr ⟨by kernel_rfl, rfl⟩) ?_
   refine r_take 14 undef (RB.pre _ _) rfl (by kernel_rfl) (fun _ _ _ h => hQ.panic _ _ _ _ _ h) (.inr ⟨by kernel_rfl, rfl⟩) ?_
   refine r_take 15 undef (RB.pre _ _) rfl (by kernel_rfl) (fun _ _ _ h => hQ.panic _ _ _ _ _ h) (.inr ⟨by kernel_rfl, rfl⟩) ?_
   refine r_take 16 undef (RB.pre _ _) rfl (by kernel_rfl) (fun _ _ _ h => hQ.panic _ _ _ _ _ h) (.inr ⟨by kernel_rfl, rfl⟩) ?_
   refine r_take 17 undef (RB.pre _ _) rfl (by kernel_rfl) (fun _ _ _ h => hQ.panic _ _ _ _ _ h) (.inr ⟨by kernel_rfl, rfl⟩) ?_
   refine r_take 18 (.bool true) (RB.pre _ _) rfl (by kernel_rfl) (fun _ _ _ h => hQ.panic _ _ _ _ _ h) (.inl ⟨rfl, fun wq hq => (by kernel_rfl)⟩) ?_
   refine r_take 19 (.bool true) (RB.pre _ _) rfl (by kernel_rfl) (fun _ _ _ h => hQ.panic _ _ _ _ _ h) (.inl ⟨rfl, fun wq hq => (by kernel_rfl)⟩) ?_
   refine r_take 20 undef (RB.pre _ _) rfl (by kernel_rfl) (fun _ _ _ h => hQ.panic _ _ _ _ _ h) (.inr ⟨by kernel_rfl, rfl⟩) ?_
   refine r_take 21 undef (RB.pre _ _) rfl (by kernel_rfl) (fun _ _ _ h => hQ.panic _ _ _ _ _ h) (.inr ⟨by kernel_rfl, rfl⟩) ?_
   refine r_take 22 undef (RB.pre _ _) rfl (by kernel_rfl) (fun _ _ _ h => hQ.panic _ _ _ _ _ h) (.inr ⟨by kernel_rfl, rfl⟩) ?_
   refine r_take 23 undef (RB.pre _ _) rfl (by kernel_rfl) (fun _ _ _ h => hQ.panic _ _ _ _ _ h) (.inr ⟨by kernel_rfl, rfl⟩) ?_
   refine r_take 24 undef (RB.pre _ _) rfl (by kernel_rfl) (fun _ _ _ h => hQ.panic _ _ _ _ _ h) (.inr ⟨by kernel_rfl, rfl⟩) ?_
   refine r_take 25 undef (RB.pre _ _) rfl (by kernel_rfl) (fun _ _ _ h => hQ.panic _ _ _ _ _ h) (.inr ⟨by kernel_rfl, rfl⟩) ?_
   refine r_take 26 undef (RB.pre _ _) rfl (by kernel_rfl) (fun _ _ _ h => hQ.panic _ _ _ _ _ h) (.inr ⟨by kernel_rfl, rfl⟩) ?_
   refine r_take 27 undef (RB.pre _ _) rfl (by kernel_rfl) (fun _ _ _ h => hQ.panic _ _ _ _ _ h) (.inr ⟨by kernel_rfl, rfl⟩) ?_
   refine r_take 28 undef (RB.pre _ _) rfl (by kernel_rfl) (fun _ _ _ h => hQ.panic _ _ _ _ _ h) (.inr ⟨by kernel_rfl, rfl⟩) ?_
   refine r_take 29 undef (RB.pre _ _) rfl (by kernel_rfl) (fun _ _ _ h => hQ.panic _ _ _ _ _ h) (.inr ⟨by kernel_rfl, rfl⟩) ?_
   refine r_take 30 undef (RB.pre _ _) rfl (by kernel_rfl) (fun _ _ _ h => hQ.panic _ _ _ _ _ h) (.inr ⟨by kernel_rfl, rfl⟩) ?_
   refine r_take 31 undef (RB.pre _ _) rfl (by kernel_rfl) (fun _ _ _ h => hQ.panic _ _ _ _ _ h) (.inr ⟨by kernel_rfl, rfl⟩) ?_
   refine r_take 32 undef (RB.pre _ _) rfl (by kernel_rfl) (fun _ _ _ h => hQ.panic _ _ _ _ _ h) (.inr ⟨by kernel_rfl, rfl⟩) ?_
   refine r_take 33 undef (RB.pre _ _) rfl (by kernel_rfl) (fun _ _ _ h => hQ.panic _ _ _ _ _ h) (.inr ⟨by kernel_rfl, rfl⟩) ?_
   refine r_take 34 undef (RB.pre _ _) rfl (by kernel_rfl) (fun _ _ _ h => hQ.panic _ _ _ _ _ h) (.inr ⟨by kernel_rfl, rfl⟩) ?_
   refine r_take 35 undef (RB.pre _ _) rfl (by kernel_rfl) (fun _ _ _ h => hQ.panic _ _ _ _ _ h) (.inr ⟨by kernel_rfl, rfl⟩) ?_
   refine r_take 36 (.bool true) (RB.pre _ _) rfl (by kernel_rfl) (fun _ _ _ h => hQ.panic _ _ _ _ _ h) (.inl ⟨rfl, fun wq hq => (by kernel_rfl)⟩) ?_
   refine r_ready [37] (by kernel_rfl) rfl (all_cons ⟨_, _, _, _, _, _, rfl, ?_⟩ all_nil)
   refine o_pv (.bool true) rfl (by kernel_rfl) ?_
   refine ⟨fun h => absurd h (by decide), ?_⟩
   refine r_done (by kernel_rfl) ?_
   refine then_normal (v3 _ _ _ ⟨[(6, (.bool true))], fit_mk (fun _ _ => rfl) (by kernel_rfl) (vs_cons (by kernel_rfl) vs_nil), ?_⟩)
   exact ⟨u1, true, rfl, u7, y7, v4, v5, z5, z1, v6, z6, z3, hp⟩
  ·
   replace hp := hp.2 t4
   refine r_take 4 (.bool false) (RB.pre _ _) rfl (by kernel_rfl) (fun _ _ _ h => hQ.panic _ _ _ _ _ h) (.inl ⟨rfl, fun wq hq => (x_df (p := f_.quota ≤ (0 : Int)) (by kernel_rfl) t4)⟩) ?_
   refine r_take 5 (.bool false) (RB.pre _ _) rfl (by kernel_rfl) (fun _ _ _ h => hQ.panic _ _ _ _ _ h) (.inl ⟨rfl, fun wq hq => (by kernel_rfl)⟩) ?_
   refine r_take 6 (.int .i64 n_) (RB.pre _ _) rfl (by kernel_rfl) (fun _ _ _ h => hQ.panic _ _ _ _ _ h) (.inl ⟨(by kernel_rfl), fun wq hq => (by kernel_rfl)⟩) ?_
   by_cases t5 : n_ = (0 : Int)
   ·
    replace hp := hp.1 t5
    refine r_take 7 (.bool true) (RB.pre _ _) rfl (by kernel_rfl) (fun _ _ _ h => hQ.panic _ _ _ _ _ h) (.inl ⟨(by kernel_rfl), fun wq hq => (x_dt (p := n_ = (0 : Int)) (by kernel_rfl) t5)⟩) ?_
    refine r_take 8 (.bool true) (RB.pre _ _) rfl (by kernel_rfl) (fun _ _ _ h => hQ.panic _ _ _ _ _ h) (.inl ⟨rfl, fun wq hq => (by kernel_rfl)⟩) ?_
    refine r_take 9 (.bool true) (RB.pre _ _) rfl (by kernel_rfl) (fun _ _ _ h => hQ.panic _ _ _ _ _ h) (.inl ⟨rfl, fun wq hq => (by kernel_rfl)⟩) ?_
    refine r_take 10 undef (RB.pre _ _) rfl (by kernel_rfl) (fun _ _ _ h => hQ.panic _ _ _ _ _ h) (.inr ⟨by kernel_rfl, rfl⟩) ?_
    refine r_take 11 undef (RB.pre _ _) rfl (by kernel_rfl) (fun _ _ _ h => hQ.panic _ _ _ _ _ h) (.inr ⟨by kernel_rfl, rfl⟩) ?_
    refine r_take 12 undef (RB.pre _ _) rfl (by kernel_rfl) (fun _ _ _ h => hQ.panic _ _ _ _ _ h) (.inr ⟨by kernel_rfl, rfl⟩) ?_
    refine r_take 13 undef (RB.pre _ _) rfl (by kernel_rfl) (fun _ _ _ h => hQ.panic _ _ _ _ _ h) (.inr ⟨by kernel_rfl, rfl⟩) ?_
    refine r_take 14 undef (RB.pre _ _) rfl (by kernel_rfl) (fun _ _ _ h => hQ.panic _ _ _ _ _ h) (.inr ⟨by kernel_rfl, rfl⟩) ?_
    refine r_take 15 undef (RB.pre _ _) rfl (by kernel_rfl) (fun _ _ _ h => hQ.panic _ _ _ _ _ h) (.inr ⟨by kernel_rfl, rfl⟩) ?_
    refine r_take 16 undef (RB.pre _ _) rfl (by kernel_rfl) (fun _ _ _ h => hQ.panic _ _ _ _ _ h) (.inr ⟨by kernel_rfl, rfl⟩) ?_
    refine r_take 17 undef (RB.pre _ _) rfl (by kernel_rfl) (fun _ _ _ h => hQ.panic _ _ _ _ _ h) (.inr ⟨by kernel_rfl, rfl⟩) ?_
    refine r_take 18 (.bool true) (RB.pre _ _) rfl (by kernel_rfl) (fun _ _ _ h => hQ.panic _ _ _ _ _ h) (.inl ⟨rfl, fun wq hq => (by kernel_rfl)⟩) ?_
    refine r_take 19 (.bool true) (RB.pre _ _) rfl (by kernel_rfl) (fun _ _ _ h => hQ.panic _ _ _ _ _ h) (.inl ⟨rfl, fun wq hq => (by kernel_rfl)⟩) ?_
    refine r_take 20 undef (RB.pre _ _) rfl (by kernel_rfl) (fun _ _ _ h => hQ.panic _ _ _ _ _ h) (.inr ⟨by kernel_rfl, rfl⟩) ?_
    refine r_take 21 undef (RB.pre _ _) rfl (by kernel_rfl) (fun _ _ _ h => hQ.panic _ _ _ _ _ h) (.inr ⟨by kernel_rfl, rfl⟩) ?_
    refine r_take 22 undef (RB.pre _ _) rfl (by kernel_rfl) (fun _ _ _ h => hQ.panic _ _ _ _ _ h) (.inr ⟨by kernel_rfl, rfl⟩) ?_
    refine r_take 23 undef (RB.pre _ _) rfl (by kernel_rfl) (fun _ _ _ h => hQ.panic _ _ _ _ _ h) (.inr ⟨by kernel_rfl, rfl⟩) ?_
    refine r_take 24 undef (RB.pre _ _) rfl (by kernel_rfl) (fun _ _ _ h => hQ.panic _ _ _ _ _ h) (.inr ⟨by kernel_rfl, rfl⟩) ?_
    refine r_take 25 undef (RB.pre _ _) rfl (by kernel_rfl) (fun _ _ _ h => hQ.panic _ _ _ _ _ h) (.inr ⟨by kernel_rfl, rfl⟩) ?_
    refine r_take 26 undef (RB.pre _ _) rfl (by kernel_rfl) (fun _ _ _ h => hQ.panic _ _ _ _ _ h) (.inr ⟨by kernel_rfl, rfl⟩) ?_
    refine r_take 27 undef (RB.pre _ _) rfl (by kernel_rfl) (fun _ _ _ h => hQ.panic _ _ _ _ _ h) (.inr ⟨by kernel_rfl, rfl⟩) ?_
    refine r_take 28 undef (RB.pre _ _) rfl (by kernel_rfl) (fun _ _ _ h => hQ.panic _ _ _ _ _ h) (.inr ⟨by kernel_rfl, rfl⟩) ?_
    refine r_take 29 undef (RB.pre _ _) rfl (by kernel_rfl) (fun _ _ _ h => hQ.panic _ _ _ _ _ h) (.inr ⟨by kernel_rfl, rfl⟩) ?_
    refine r_take 30 undef (RB.pre _ _) rfl (by kernel_rfl) (fun _ _ _ h => hQ.panic _ _ _ _ _ h) (.inr ⟨by kernel_rfl, rfl⟩) ?_
    refine r_take 31 undef (RB.pre _ _) rfl (by kernel_rfl) (fun _ _ _ h => hQ.panic _ _ _ _ _ h) (.inr ⟨by kernel_rfl, rfl⟩) ?_
    refine r_take 32 undef (RB.pre _ _) rfl (by kernel_rfl) (fun _ _ _ h => hQ.panic _ _ _ _ _ h) (.inr ⟨by kernel_rfl, rfl⟩) ?_
    refine r_take 33 undef (RB.pre _ _) rfl (by kernel_rfl) (fun _ _ _ h => hQ.panic _ _ _ _ _ h) (.inr ⟨by kernel_rfl, rfl⟩) ?_
    refine r_take 34 undef (RB.pre _ _) rfl (by kernel_rfl) (fun _ _ _ h => hQ.panic _ _ _ _ _ h) (.inr ⟨by kernel_rfl, rfl⟩) ?_
    refine r_take 35 undef (RB.pre _ _) rfl (by kernel_rfl) (fun _ _ _ h => hQ.panic _ _ _ _ _ h) (.inr ⟨by kernel_rfl, rfl⟩) ?_
    refine r_take 36 (.bool true) (RB.pre _ _) rfl (by kernel_rfl) (fun _ _ _ h => hQ.panic _ _ _ _ _ h) (.inl ⟨rfl, fun wq hq => (by kernel_rfl)⟩) ?_
    refine r_ready [37] (by kernel_rfl) rfl (all_cons ⟨_, _, _, _, _, _, rfl, ?_⟩ all_nil)
    refine o_pv (.bool true) rfl (by kernel_rfl) ?_
    refine ⟨fun h => absurd h (by decide), ?_⟩
    refine r_done (by kernel_rfl) ?_
    refine then_normal (v3 _ _ _ ⟨[(6, (.bool true))], fit_mk (fun _ _ => rfl) (by kernel_rfl) (vs_cons (by kernel_rfl) vs_nil), ?_⟩)
    exact ⟨u1, true, rfl, u7, y7, v4, v5, z5, z1, v6, z6, z3, hp⟩
   ·
    replace hp := hp.2 t5
    refine r_take 7 (.bool false) (RB.pre _ _) rfl (by kernel_rfl) (fun _ _ _ h => hQ.panic _ _ _ _ _ h) (.inl ⟨(by kernel_rfl), fun wq hq => (x_df (p := n_ = (0 : Int)) (by kernel_rfl) t5)⟩) ?_
    refine r_take 8 (.bool false) (RB.pre _ _) rfl (by kernel_rfl) (fun _ _ _ h => hQ.panic _ _ _ _ _ h) (.inl ⟨rfl, fun wq hq => (by kernel_rfl)⟩) ?_
    refine r_take 9 (.bool false) (RB.pre _ _) rfl (by kernel_rfl) (fun _ _ _ h => hQ.panic _ _ _ _ _ h) (.inl ⟨rfl, fun wq hq => (by kernel_rfl)⟩) ?_
    by_cases t6 : (mhas f_.files p) = true
    ·
     replace hp := hp.1 t6
     refine r_take 10 (.bool true) (RB.pre _ _) rfl (by kernel_rfl) (fun _ _ _ h => hQ.panic _ _ _ _ _ h) (.inl ⟨(by kernel_rfl), fun wq hq => (x_bt (by kernel_rfl) t6)⟩) ?_
     refine r_take 11 (.bool true) (RB.pre _ _) rfl (by kernel_rfl) (fun _ _ _ h => hQ.panic _ _ _ _ _ h) (.inl ⟨(by kernel_rfl), fun wq hq => (by kernel_rfl)⟩) ?_
     refine r_take 12 (.int .i64 n_) (RB.pre _ _) rfl (by kernel_rfl) (fun _ _ _ h => hQ.panic _ _ _ _ _ h) (.inl ⟨(by kernel_rfl), fun wq hq => (by kernel_rfl)⟩) ?_
     refine r_take 13 (.pointer (some ⟨q3, 3, none⟩)) (RB.pre _ _) rfl (by kernel_rfl) (fun _ _ _ h => hQ.panic _ _ _ _ _ h) (.inl ⟨(by kernel_rfl), fun wq hq => (by kernel_rfl)⟩) ?_
     refine r_take 14 (.slice z7 (((mgetD f_.files p).b).length) z8) (RB.pre _ _) rfl (by kernel_rfl) (fun _ _ _ h => hQ.panic _ _ _ _ _ h) (.inl ⟨(by kernel_rfl), fun wq hq => (x_load1 (by kernel_rfl) Tryz.isAgg32 ((Blk.rb v8.2.1 (RB.trans z4 hq) (Nat.lt_of_lt_of_eq (Blk.lt v8.2.1) y3) (fun h => by cases h)).cell' 3 rfl))⟩) ?_
     refine r_take 15 (.int .i64 (((mgetD f_.files p).b).length : Int)) (RB.pre _ _) rfl (by kernel_rfl) (fun _ _ _ h => hQ.panic _ _ _ _ _ h) (.inl ⟨(by kernel_rfl), fun wq hq => (by kernel_rfl)⟩) ?_
     by_cases t7 : n_ ≤ (((mgetD f_.files p).b).length : Int)
     ·
      replace hp := hp.1 t7
      refine r_take 16 (.bool true) (RB.pre _ _) rfl (by kernel_rfl) (fun _ _ _ h => hQ.panic _ _ _ _ _ h) (.inl ⟨(by kernel_rfl), fun wq hq => (x_dt (p := n_ ≤ (((mgetD f_.files p).b).length : Int)) (by kernel_rfl) t7)⟩) ?_
      refine r_take 17 (.bool true) (RB.pre _ _) rfl (by kernel_rfl) (fun _ _ _ h => hQ.panic _ _ _ _ _ h) (.inl ⟨(by kernel_rfl), fun wq hq => (by kernel_rfl)⟩) ?_
      refine r_take 18 (.bool true) (RB.pre _ _) rfl (by kernel_rfl) (fun _ _ _ h => hQ.panic _ _ _ _ _ h) (.inl ⟨rfl, fun wq hq => (by kernel_rfl)⟩) ?_
      refine r_take 19 (.bool true) (RB.pre _ _) rfl (by kernel_rfl) (fun _ _ _ h => hQ.panic _ _ _ _ _ h) (.inl ⟨rfl, fun wq hq => (by kernel_rfl)⟩) ?_
      refine r_take 20 undef (RB.pre _ _) rfl (by kernel_rfl) (fun _ _ _ h => hQ.panic _ _ _ _ _ h) (.inr ⟨by kernel_rfl, rfl⟩) ?_
      refine r_take 21 undef (RB.pre _ _) rfl (by kernel_rfl) (fun _ _ _ h => hQ.panic _ _ _ _ _ h) (.inr ⟨by kernel_rfl, rfl⟩) ?_
      refine r_take 22 undef (RB.pre _ _) rfl (by kernel_rfl) (fun _ _ _ h => hQ.panic _ _ _ _ _ h) (.inr ⟨by kernel_rfl, rfl⟩) ?_
      refine r_take 23 undef (RB.pre _ _) rfl (by kernel_rfl) (fun _ _ _ h => hQ.panic _ _ _ _ _ h) (.inr ⟨by kernel_rfl, rfl⟩) ?_
      refine r_take 24 undef (RB.pre _ _) rfl (by kernel_rfl) (fun _ _ _ h => hQ.panic _ _ _ _ _ h) (.inr ⟨by kernel_rfl, rfl⟩) ?_
      refine r_take 25 undef (RB.pre _ _) rfl (by kernel_rfl) (fun _ _ _ h => hQ.panic _ _ _ _ _ h) (.inr ⟨by kernel_rfl, rfl⟩) ?_
      refine r_take 26 undef (RB.pre _ _) rfl (by kernel_rfl) (fun _ _ _ h => hQ.panic _ _ _ _ _ h) (.inr ⟨by kernel_rfl, rfl⟩) ?_
      refine r_take 27 undef (RB.pre _ _) rfl (by kernel_rfl) (fun _ _ _ h => hQ.panic _ _ _ _ _ h) (.inr ⟨by kernel_rfl, rfl⟩) ?_
      refine r_take 28 undef (RB.pre _ _) rfl (by kernel_rfl) (fun _ _ _ h => hQ.panic _ _ _ _ _ h) (.inr ⟨by kernel_rfl, rfl⟩) ?_
      refine r_take 29 undef (RB.pre _ _) rfl (by kernel_rfl) (fun _ _ _ h => hQ.panic _ _ _ _ _ h) (.inr ⟨by kernel_rfl, rfl⟩) ?_
      refine r_take 30 undef (RB.pre _ _) rfl (by kernel_rfl) (fun _ _ _ h => hQ.panic _ _ _ _ _ h) (.inr ⟨by kernel_rfl, rfl⟩) ?_
      refine r_take 31 undef (RB.pre _ _) rfl (by kernel_rfl) (fun _ _ _ h => hQ.panic _ _ _ _ _ h) (.inr ⟨by kernel_rfl, rfl⟩) ?_
      refine r_take 32 undef (RB.pre _ _) rfl (by kernel_rfl) (fun _ _ _ h => hQ.panic _ _ _ _ _ h) (.inr ⟨by kernel_rfl, rfl⟩) ?_
      refine r_take 33 undef (RB.pre _ _) rfl (by kernel_rfl) (fun _ _ _ h => hQ.panic _ _ _ _ _ h) (.inr ⟨by kernel_rfl, rfl⟩) ?_
      refine r_take 34 undef (RB.pre _ _) rfl (by kernel_rfl) (fun _ _ _ h => hQ.panic _ _ _ _ _ h) (.inr ⟨by kernel_rfl, rfl⟩) ?_
      refine r_take 35 undef (RB.pre _ _) rfl (by kernel_rfl) (fun _ _ _ h => hQ.panic _ _ _ _ _ h) (.inr ⟨by kernel_rfl, rfl⟩) ?_
      refine r_take 36 (.bool true) (RB.pre _ _) rfl (by kernel_rfl) (fun _ _ _ h => hQ.panic _ _ _ _ _ h) (.inl ⟨rfl, fun wq hq => (by kernel_rfl)⟩) ?_
      refine r_ready [37] (by kernel_rfl) rfl (all_cons ⟨_, _, _, _, _, _, rfl, ?_⟩ all_nil)
      refine o_pv (.bool true) rfl (by kernel_rfl) ?_
      refine ⟨fun h => absurd h (by decide), ?_⟩
      refine r_done (by kernel_rfl) ?_
      refine then_normal (v3 _ _ _ ⟨[(6, (.bool true))], fit_mk (fun _ _ => rfl) (by kernel_rfl) (vs_cons (by kernel_rfl) vs_nil), ?_⟩)
      exact ⟨u1, true, rfl, u7, y7, v4, v5, z5, z1, v6, z6, z3, hp⟩
     ·
      replace hp := hp.2 t7
      refine r_take 16 (.bool false) (RB.pre _ _) rfl (by kernel_rfl) (fun _ _ _ h => hQ.panic _ _ _ _ _ h) (.inl ⟨(by kernel_rfl), fun wq hq => (x_df (p := n_ ≤ (((mgetD f_.files p).b).length : Int)) (by kernel_rfl) t7)⟩) ?_
      refine r_take 17 (.bool false) (RB.pre _ _) rfl (by kernel_rfl) (fun _ _ _ h => hQ.panic _ _ _ _ _ h) (.inl ⟨(by kernel_rfl), fun wq hq => (by kernel_rfl)⟩) ?_
      refine r_take 18 (.bool false) (RB.pre _ _) rfl (by kernel_rfl) (fun _ _ _ h => hQ.panic _ _ _ _ _ h) (.inl ⟨rfl, fun wq hq => (by kernel_rfl)⟩) ?_
      refine r_take 19 (.bool false) (RB.pre _ _) rfl (by kernel_rfl) (fun _ _ _ h => hQ.panic _ _ _ _ _ h) (.inl ⟨rfl, fun wq hq => (by kernel_rfl)⟩) ?_
      refine r_take 20 (.pointer (some ⟨z0, 0, none⟩)) (RB.pre _ _) rfl (by kernel_rfl) (fun _ _ _ h => hQ.panic _ _ _ _ _ h) (.inl ⟨(by kernel_rfl), fun wq hq => (by kernel_rfl)⟩) ?_
      refine r_take 21 (.pointer (some ⟨z0, 0, none⟩)) (RB.pre _ _) rfl (by kernel_rfl) (fun _ _ _ h => hQ.panic _ _ _ _ _ h) (.inl ⟨(by kernel_rfl), fun wq hq => (by kernel_rfl)⟩) ?_
      refine r_take 22 (.pointer (some ⟨z0, 1, none⟩)) (RB.pre _ _) rfl (by kernel_rfl) (fun _ _ _ h => hQ.panic _ _ _ _ _ h) (.inl ⟨(by kernel_rfl), fun wq hq => (by kernel_rfl)⟩) ?_
      refine r_take 23 (.map (some z2)) (RB.pre _ _) rfl (by kernel_rfl) (fun _ _ _ h => hQ.panic _ _ _ _ _ h) (.inl ⟨(by kernel_rfl), fun wq hq => (x_load1 (by kernel_rfl) Tryz.isAgg59 ((Blk.rb z3.2.1 (RB.trans z4 hq) (Nat.lt_of_lt_of_eq (Blk.lt z3.2.1) y3) (fun h => by cases h)).cell' 1 rfl))⟩) ?_
      refine r_take 25 (.pointer (some ⟨q3, 3, none⟩)) (RB.pre _ _) rfl (by kernel_rfl) (fun _ _ _ h => hQ.panic _ _ _ _ _ h) (.inl ⟨(by kernel_rfl), fun wq hq => (by kernel_rfl)⟩) ?_
      refine r_take 26 (.slice z7 (((mgetD f_.files p).b).length) z8) (RB.pre _ _) rfl (by kernel_rfl) (fun _ _ _ h => hQ.panic _ _ _ _ _ h) (.inl ⟨(by kernel_rfl), fun wq hq => (x_load1 (by kernel_rfl) Tryz.isAgg32 ((Blk.rb v8.2.1 (RB.trans z4 hq) (Nat.lt_of_lt_of_eq (Blk.lt v8.2.1) y3) (fun h => by cases h)).cell' 3 rfl))⟩) ?_
      refine r_take 27 (.int .i64 (((mgetD f_.files p).b).length : Int)) (RB.pre _ _) rfl (by kernel_rfl) (fun _ _ _ h => hQ.panic _ _ _ _ _ h) (.inl ⟨(by kernel_rfl), fun wq hq => (by kernel_rfl)⟩) ?_
      refine r_take 29 (.int .i64 n_) (RB.pre _ _) rfl (by kernel_rfl) (fun _ _ _ h => hQ.panic _ _ _ _ _ h) (.inl ⟨(by kernel_rfl), fun wq hq => (by kernel_rfl)⟩) ?_
      refine r_take 31 (.pointer (some ⟨z0, 0, none⟩)) (RB.pre _ _) rfl (by kernel_rfl) (fun _ _ _ h => hQ.panic _ _ _ _ _ h) (.inl ⟨(by kernel_rfl), fun wq hq => (by kernel_rfl)⟩) ?_
      refine r_take 32 (.pointer (some ⟨z0, 0, none⟩)) (RB.pre _ _) rfl (by kernel_rfl) (fun _ _ _ h => hQ.panic _ _ _ _ _ h) (.inl ⟨(by kernel_rfl), fun wq hq => (by kernel_rfl)⟩) ?_
      refine r_take 33 (.pointer (some ⟨z0, 3, none⟩)) (RB.pre _ _) rfl (by kernel_rfl) (fun _ _ _ h => hQ.panic _ _ _ _ _ h) (.inl ⟨(by kernel_rfl), fun wq hq => (by kernel_rfl)⟩) ?_
      refine r_take 34 (.int .i64 f_.quota) (RB.pre _ _) rfl (by kernel_rfl) (fun _ _ _ h => hQ.panic _ _ _ _ _ h) (.inl ⟨(by kernel_rfl), fun wq hq => (x_load1 (by kernel_rfl) Tryz.isAgg3 ((Blk.rb z3.2.1 (RB.trans z4 hq) (Nat.lt_of_lt_of_eq (Blk.lt z3.2.1) y3) (fun h => by cases h)).cell' 3 rfl))⟩) ?_
      refine r_ready [24] (by kernel_rfl) rfl (all_cons ⟨_, _, _, _, _, _, rfl, ?_⟩ all_nil)
      refine o_call 97 #[(.map (some z2))] (by kernel_rfl) (x_call Tryz.call97 (by kernel_rfl)) (simfs_sum_w (X := []) (l := f_.files) (Old.nil _) (OM.rm z1) hp) ?_
      rintro _ n7 ⟨y0, hp, r5, rfl, k4⟩
      have rm := RB.mono (F' := []) r5 (Nat.le_trans (Nat.le_of_eq y3.symm) (RB.size z4)) (fun _ h => by cases h)
      refine ⟨fun _ => rm, ?_⟩
      have y8 := Step.of0 u1 r5
      replace hp := hp k4
      obtain ⟨g5, hp⟩ := hp
      refine r_take 28 (.int .i64 (y0 - (((mgetD f_.files p).b).length : Int))) (RB.pre _ _) rfl (by kernel_rfl) (fun _ _ _ h => hQ.panic _ _ _ _ _ h) (.inl ⟨(by kernel_rfl), fun wq hq => (x_sub2 (k := .i64) (a := y0) (b := (((mgetD f_.files p).b).length : Int)) (y0 - (((mgetD f_.files p).b).length : Int)) (by kernel_rfl) (by kernel_rfl) (wrap_inR g5))⟩) ?_
      obtain ⟨g6, hp⟩ := hp
      refine r_take 30 (.int .i64 ((y0 - (((mgetD f_.files p).b).length : Int)) + n_)) (RB.pre _ _) rfl (by kernel_rfl) (fun _ _ _ h => hQ.panic _ _ _ _ _ h) (.inl ⟨(by kernel_rfl), fun wq hq => (x_add2 (k := .i64) (a := y0 - (((mgetD f_.files p).b).length : Int)) (b := n_) ((y0 - (((mgetD f_.files p).b).length : Int)) + n_) (by kernel_rfl) (by kernel_rfl) (wrap_inR g6))⟩) ?_
      refine r_take 35 (.bool (decide (((y0 - (((mgetD f_.files p).b).length : Int)) + n_) ≤ f_.quota))) (RB.pre _ _) rfl (by kernel_rfl) (fun _ _ _ h => hQ.panic _ _ _ _ _ h) (.inl ⟨(by kernel_rfl), fun wq hq => (by kernel_rfl)⟩) ?_
      refine r_take 36 (.bool (decide (((y0 - (((mgetD f_.files p).b).length : Int)) + n_) ≤ f_.quota))) (RB.pre _ _) rfl (by kernel_rfl) (fun _ _ _ h => hQ.panic _ _ _ _ _ h) (.inl ⟨rfl, fun wq hq => (by kernel_rfl)⟩) ?_
      refine r_ready [37] (by kernel_rfl) rfl (all_cons ⟨_, _, _, _, _, _, rfl, ?_⟩ all_nil)
      refine o_pv (.bool (decide (((y0 - (((mgetD f_.files p).b).length : Int)) + n_) ≤ f_.quota))) rfl (by kernel_rfl) ?_
      refine ⟨fun h => absurd h (by decide), ?_⟩
      refine r_done (by kernel_rfl) ?_
      have g7 := Evo.then0 u7 r5
      have q7 := Old.step y7 y8
      have k5 := Sub.trans v4 (Step.up y8)
      have k6 := News.step v5 y8
      have s5 := OM.step0 z5 y8
      have t8 := OM.step0 z1 y8
      have k7 := OS.step0 v6 y8
      have s6 := Sl.step z6 y8
      have g8 := OB.step0 z3 y8
      refine then_normal (v3 _ _ _ ⟨[(6, (.bool (decide (((y0 - (((mgetD f_.files p).b).length : Int)) + n_) ≤ f_.quota))))], fit_mk (fun _ _ => rfl) (by kernel_rfl) (vs_cons (by kernel_rfl) vs_nil), ?_⟩)
      exact ⟨u1, (decide (((y0 - (((mgetD f_.files p).b).length : Int)) + n_) ≤ f_.quota)), rfl, g7, q7, k5, k6, s5, t8, k7, s6, g8, hp⟩
    ·
     replace hp := hp.2 t6
     refine r_take 10 (.bool false) (RB.pre _ _) rfl (by kernel_rfl) (fun _ _ _ h => hQ.panic _ _ _ _ _ h) (.inl ⟨(by kernel_rfl), fun wq hq => (x_bf (by kernel_rfl) t6)⟩) ?_
     refine r_take 11 (.bool false) (RB.pre _ _) rfl (by kernel_rfl) (fun _ _ _ h => hQ.panic _ _ _ _ _ h) (.inl ⟨(by kernel_rfl), fun wq hq => (by kernel_rfl)⟩) ?_
     refine r_take 12 undef (RB.pre _ _) rfl (by kernel_rfl) (fun _ _ _ h => hQ.panic _ _ _ _ _ h) (.inr ⟨by kernel_rfl, rfl⟩) ?_
     refine r_take 13 undef (RB.pre _ _) rfl (by kernel_rfl) (fun _ _ _ h => hQ.panic _ _ _ _ _ h) (.inr ⟨by kernel_rfl, rfl⟩) ?_
     refine r_take 14 undef (RB.pre _ _) rfl (by kernel_rfl) (fun _ _ _ h => hQ.panic _ _ _ _ _ h) (.inr ⟨by kernel_rfl, rfl⟩) ?_
     refine r_take 15 undef (RB.pre _ _) rfl (by kernel_rfl) (fun _ _ _ h => hQ.panic _ _ _ _ _ h) (.inr ⟨by kernel_rfl, rfl⟩) ?_
     refine r_take 16 undef (RB.pre _ _) rfl (by kernel_rfl) (fun _ _ _ h => hQ.panic _ _ _ _ _ h) (.inr ⟨by kernel_rfl, rfl⟩) ?_
     refine r_take 17 (.bool false) (RB.pre _ _) rfl (by kernel_rfl) (fun _ _ _ h => hQ.panic _ _ _ _ _ h) (.inl ⟨(by kernel_rfl), fun wq hq => (by kernel_rfl)⟩) ?_
     refine r_take 18 (.bool false) (RB.pre _ _) rfl (by kernel_rfl) (fun _ _ _ h => hQ.panic _ _ _ _ _ h) (.inl ⟨rfl, fun wq hq => (by kernel_rfl)⟩) ?_
     refine r_take 19 (.bool false) (RB.pre _ _) rfl (by kernel_rfl) (fun _ _ _ h => hQ.panic _ _ _ _ _ h) (.inl ⟨rfl, fun wq hq => (by kernel_rfl)⟩) ?_
     refine r_take 20 (.pointer (some ⟨z0, 0, none⟩)) (RB.pre _ _) rfl (by kernel_rfl) (fun _ _ _ h => hQ.panic _ _ _ _ _ h) (.inl ⟨(by kernel_rfl), fun wq hq => (by kernel_rfl)⟩) ?_
     refine r_take 21 (.pointer (some ⟨z0, 0, none⟩)) (RB.pre _ _) rfl (by kernel_rfl) (fun _ _ _ h => hQ.panic _ _ _ _ _ h) (.inl ⟨(by kernel_rfl), fun wq hq => (by kernel_rfl)⟩) ?_
     refine r_take 22 (.pointer (some ⟨z0, 1, none⟩)) (RB.pre _ _) rfl (by kernel_rfl) (fun _ _ _ h => hQ.panic _ _ _ _ _ h) (.inl ⟨(by kernel_rfl), fun wq hq => (by kernel_rfl)⟩) ?_
     refine r_take 23 (.map (some z2)) (RB.pre _ _) rfl (by kernel_rfl) (fun _ _ _ h => hQ.panic _ _ _ _ _ h) (.inl ⟨(by kernel_rfl), fun wq hq => (x_load1 (by kernel_rfl) Tryz.isAgg59 ((Blk.rb z3.2.1 (RB.trans z4 hq) (Nat.lt_of_lt_of_eq (Blk.lt z3.2.1) y3) (fun h => by cases h)).cell' 1 rfl))⟩) ?_
     refine r_take 25 (.pointer (some ⟨q3, 3, none⟩)) (RB.pre _ _) rfl (by kernel_rfl) (fun _ _ _ h => hQ.panic _ _ _ _ _ h) (.inl ⟨(by kernel_rfl), fun wq hq => (by kernel_rfl)⟩) ?_
     refine r_take 26 (.slice z7 (((mgetD f_.files p).b).length) z8) (RB.pre _ _) rfl (by kernel_rfl) (fun _ _ _ h => hQ.panic _ _ _ _ _ h) (.inl ⟨(by kernel_rfl), fun wq hq => (x_load1 (by kernel_rfl) Tryz.isAgg32 ((Blk.rb v8.2.1 (RB.trans z4 hq) (Nat.lt_of_lt_of_eq (Blk.lt v8.2.1) y3) (fun h => by cases h)).cell' 3 rfl))⟩) ?_
     refine r_take 27 (.int .i64 (((mgetD f_.files p).b).length : Int)) (RB.pre _ _) rfl (by kernel_rfl) (fun _ _ _ h => hQ.panic _ _ _ _ _ h) (.inl ⟨(by kernel_rfl), fun wq hq => (by kernel_rfl)⟩) ?_
     refine r_take 29 (.int .i64 n_) (RB.pre _ _) rfl (by kernel_rfl) (fun _ _ _ h => hQ.panic _ _ _ _ _ h) (.inl ⟨(by kernel_rfl), fun wq hq => (by kernel_rfl)⟩) ?_
     refine r_take 31 (.pointer (some ⟨z0, 0, none⟩)) (RB.pre _ _) rfl (by kernel_rfl) (fun _ _ _ h => hQ.panic _ _ _ _ _ h) (.inl ⟨(by kernel_rfl), fun wq hq => (by kernel_rfl)⟩) ?_
     refine r_take 32 (.pointer (some ⟨z0, 0, none⟩)) (RB.pre _ _) rfl (by kernel_rfl) (fun _ _ _ h => hQ.panic _ _ _ _ _ h) (.inl ⟨(by kernel_rfl), fun wq hq => (by kernel_rfl)⟩) ?_
     refine r_take 33 (.pointer (some ⟨z0, 3, none⟩)) (RB.pre _ _) rfl (by kernel_rfl) (fun _ _ _ h => hQ.panic _ _ _ _ _ h) (.inl ⟨(by kernel_rfl), fun wq hq => (by kernel_rfl)⟩) ?_
     refine r_take 34 (.int .i64 f_.quota) (RB.pre _ _) rfl (by kernel_rfl) (fun _ _ _ h => hQ.panic _ _ _ _ _ h) (.inl ⟨(by kernel_rfl), fun wq hq => (x_load1 (by kernel_rfl) Tryz.isAgg3 ((Blk.rb z3.2.1 (RB.trans z4 hq) (Nat.lt_of_lt_of_eq (Blk.lt z3.2.1) y3) (fun h => by cases h)).cell' 3 rfl))⟩) ?_
     refine r_ready [24] (by kernel_rfl) rfl (all_cons ⟨_, _, _, _, _, _, rfl, ?_⟩ all_nil)
     refine o_call 97 #[(.map (some z2))] (by kernel_rfl) (x_call Tryz.call97 (by kernel_rfl)) (simfs_sum_w (X := []) (l := f_.files) (Old.nil _) (OM.rm z1) hp) ?_
     rintro _ n8 ⟨y1, hp, r6, rfl, k8⟩
     have rm := RB.mono (F' := []) r6 (Nat.le_trans (Nat.le_of_eq y3.symm) (RB.size z4)) (fun _ h => by cases h)
     refine ⟨fun _ => rm, ?_⟩
     have y9 := Step.of0 u1 r6
     replace hp := hp k8
     obtain ⟨g9, hp⟩ := hp
     refine r_take 28 (.int .i64 (y1 - (((mgetD f_.files p).b).length : Int))) (RB.pre _ _) rfl (by kernel_rfl) (fun _ _ _ h => hQ.panic _ _ _ _ _ h) (.inl ⟨(by kernel_rfl), fun wq hq => (x_sub2 (k := .i64) (a := y1) (b := (((mgetD f_.files p).b).length : Int)) (y1 - (((mgetD f_.files p).b).length : Int)) (by kernel_rfl) (by kernel_rfl) (wrap_inR g9))⟩) ?_
     obtain ⟨d0, hp⟩ := hp
     refine r_take 30 (.int .i64 ((y1 - (((mgetD f_.files p).b).length : Int)) + n_)) (RB.pre _ _) rfl (by kernel_rfl) (fun _ _ _ h => hQ.panic _ _ _ _ _ h) (.inl ⟨(by kernel_rfl), fun wq hq => (x_add2 (k := .i64) (a := y1 - (((mgetD f_.files p).b).length : Int)) (b := n_) ((y1 - (((mgetD f_.files p).b).length : Int)) + n_) (by kernel_rfl) (by kernel_rfl) (wrap_inR d0))⟩) ?_
     refine r_take 35 (.bool (decide (((y1 - (((mgetD f_.files p).b).length : Int)) + n_) ≤ f_.quota))) (RB.pre _ _) rfl (by kernel_rfl) (fun _ _ _ h => hQ.panic _ _ _ _ _ h) (.inl ⟨(by kernel_rfl), fun wq hq => (by kernel_rfl)⟩) ?_
     refine r_take 36 (.bool (decide (((y1 - (((mgetD f_.files p).b).length : Int)) + n_) ≤ f_.quota))) (RB.pre _ _) rfl (by kernel_rfl) (fun _ _ _ h => hQ.panic _ _ _ _ _ h) (.inl ⟨rfl, fun wq hq => (by kernel_rfl)⟩) ?_
     refine r_ready [37] (by kernel_rfl) rfl (all_cons ⟨_, _, _, _, _, _, rfl, ?_⟩ all_nil)
     refine o_pv (.bool (decide (((y1 - (((mgetD f_.files p).b).length : Int)) + n_) ≤ f_.quota))) rfl (by kernel_rfl) ?_
     refine ⟨fun h => absurd h (by decide), ?_⟩
     refine r_done (by kernel_rfl) ?_
     have d1 := Evo.then0 u7 r6
     have q8 := Old.step y7 y9
     have k9 := Sub.trans v4 (Step.up y9)
     have j0 := News.step v5 y9
     have s7 := OM.step0 z5 y9
     have t9 := OM.step0 z1 y9
     have j1 := OS.step0 v6 y9
     have s8 := Sl.step z6 y9
     have d2 := OB.step0 z3 y9
     refine then_normal (v3 _ _ _ ⟨[(6, (.bool (decide (((y1 - (((mgetD f_.files p).b).length : Int)) + n_) ≤ f_.quota))))], fit_mk (fun _ _ => rfl) (by kernel_rfl) (vs_cons (by kernel_rfl) vs_nil), ?_⟩)
     exact ⟨u1, (decide (((y1 - (((mgetD f_.files p).b).length : Int)) + n_) ≤ f_.quota)), rfl, d1, q8, k9, j0, s7, t9, j1, s8, d2, hp⟩
 ·
  rintro _ y5 n9 ⟨y2, v7, rfl, d3, m7, j2, j3, s9, s0, j4, r0, d4, j5⟩
  replace hp := k3 v7 j5
  refine then_normal (m6 _ _ _ _ (wp_ret ?_))
  obtain ⟨d5, d6, m9⟩ := MO.pack (o_simfs_FS_mk d4 s9 s0 j4 v9 t1 v0 u4 u5 r0 rfl l3 l4 l5 l6 l7 l8)
  refine end_ret hQ (.bool v7) (by kernel_rfl) ?_
  exact ⟨f_, v7, hp, y2, d5, step_of d3 l2 j2 j3, rfl, d6⟩
def simfs_FS_may_p (f_ : S_simfs_FS) (p : ByteArray) (mode : Int) (b : (List Int)) (Q : S_simfs_FS → Int → Prop) : Prop :=
 ((p.size ≤ maxLen) → ((inR .i64 mode) → ((b.length ≤ 9223372036854775807) → ((f_.pending.length ≤ 9223372036854775807) → ((inR .i64 f_.quota) → ((inR .i64 f_.now) → ((inR .i64 f_.inodes) → ((inR .i64 f_.ops_) → ((inR .i64 f_.left) → ((f_.keep.length ≤ 9223372036854775807) → (((f_.off = true) → Q f_ (13 : Int)) ∧ ((f_.off = false) → (path_Check_p p (fun (z0 : Int) => ((inR .i64 z0) → (((¬ (z0 = (0 : Int))) → Q f_ z0) ∧ ((z0 = (0 : Int)) → ((((b.length : Int) > (65536 : Int)) → Q f_ (4 : Int)) ∧ ((¬ ((b.length : Int) > (65536 : Int))) → ((((¬ (mode = (1 : Int))) ∧ (¬ (mode = (2 : Int)))) → Q f_ (1 : Int)) ∧ ((¬ ((¬ (mode = (1 : Int))) ∧ (¬ (mode = (2 : Int))))) → (simfs_clash_p f_.files p (ByteArray.mk #[]) (fun (z2 : Bool) => (((z2 = true) → Q f_ (11 : Int)) ∧ ((z2 = false) → (simfs_FS_room_p f_ p (b.length : Int) (fun (z1 : S_simfs_FS) (z3 : Bool) => ((((!z3) = true) → Q z1 (14 : Int)) ∧ (((!z3) = false) → Q z1 (0 : Int))))))))))))))))))))))))))))))
set_option maxRecDepth 20000 in
set_option maxHeartbeats 4000000 in
theorem simfs_FS_may_w {X : List Nat} {w : World} {f_ : S_simfs_FS} {p : ByteArray} {mode : Int} {b : (List Int)} {y0 : Nat} {y3 : List Nat} {u1 : Option Addr} {u2 : Nat} {Q : S_simfs_FS → Int → Prop} (g8 : Old X w) (s7 : MO o_simfs_FS 62 y3 w.heap.size X w y3 y0 f_) (s2 : p.size ≤ maxLen) (s8 : inR .i64 mode) (k0 : Sl (rInt .u8) X w u1 u2 b) (hp : simfs_FS_may_p f_ p mode b Q) :
  Calls Tryz.prog 75 #[(.pointer (some ⟨y0, 0, none⟩)), (.string p), (.int .i64 mode), (.slice u1 b.length u2)] w (Ret fun v w' => ∃ (g9 : S_simfs_FS) (k2 : Int), Q g9 k2 ∧ ∃ (X' : List Nat) (d0 : List Nat), Step X w y3 X' w' ∧ v = (.int .i64 k2) ∧ MO o_simfs_FS 62 y3 w.heap.size X' w' d0 y0 g9 ∧ inR .i64 k2) := by
 have hXo := g8
 have E0 : Evo y3 w w := RB.refl _ _ _
 have hS : Sub X X := Sub.refl _
 have hN : News X w X w := News.refl _ _
 have y7 : Sub y3 X := MO.mem s7
 unfold simfs_FS_may_p at hp
 refine enter_ Tryz.func75 rfl 44 [(0, (.pointer (some ⟨y0, 0, none⟩))), (1, (.string p)), (2, (.int .i64 mode)), (3, (.slice u1 b.length u2))] (by kernel_rfl) (fun Qe hQ => ?_)
 replace hp := hp s2 s8 (Sl.len k0)
 refine sr (fun _ m9 => pv (.int .i64 (0 : Int)) ?_)
 refine nt m9 (seq_ (fun _ d1 => sr (fun _ d2 => pv (.pointer (some ⟨y0, 0, none⟩)) ?_)))
 refine pv (.pointer (some ⟨y0, 0, none⟩)) ?_
 obtain ⟨k3, y5, n0, n1, n2, k4, k5, y8, z7, z9, y2, z2, z8, z1, z3, z4, z5, n3, n4, n5, n6, y9, v0, v1, v2, v3, v4⟩ := o_simfs_FS_open s7
 replace hp := hp (OS.len y2) z2 z8 z1 z3 z4 (Sl.len z5)
 refine pv (.pointer (some ⟨y0, 7, none⟩)) ?_
 refine pw (.bool f_.off) (x_load1 (by kernel_rfl) Tryz.isAgg4 (y8.2.1.cell' 7 rfl)) ?_
 refine nt d2 ?_
 refine cond_b f_.off (by kernel_rfl) (fun s9 => ?_) (fun s9 => ?_)
 ·
  replace hp := hp.1 s9
  refine sr (fun _ d3 => pv (.int .i64 (13 : Int)) ?_)
  refine nt d3 (wp_ret (then_ret ?_))
  obtain ⟨d4, d5, n7⟩ := MO.pack (o_simfs_FS_mk y8 z7 z9 y2 z2 z8 z1 z3 z4 z5 rfl y9 v0 v1 v2 v3 v4)
  refine end_ret hQ (.int .i64 (13 : Int)) (by kernel_rfl) ?_
  exact ⟨f_, (13 : Int), hp, X, d4, step_of E0 y7 hS hN, rfl, d5, (by decide : inR .i64 (13 : Int))⟩
 ·
  replace hp := hp.2 s9
  refine wp_skip (then_normal (d1 _ _ _ _ (seq_ (fun _ d6 => sr (fun _ d7 => pv (.string p) ?_)))))
  refine sq (o_call 70 #[(.string p)] rfl (x_call Tryz.call70 (by kernel_rfl)) (path_Check_w (X := []) (p := p) (Old.nil _) s2 hp) ?_)
  rintro _ d8 ⟨y6, hp, v5, rfl, r0⟩
  have z0 := Step.of0 X v5
  replace hp := hp r0
  refine pv (.int .i64 y6) ?_
  refine nt d7 (sr (fun _ d9 => pv (.int .i64 y6) ?_))
  refine pv (.bool (!decide (y6 = (0 : Int)))) ?_
  refine nt d9 ?_
  refine cond_nd (y6 = (0 : Int)) (by kernel_rfl) (fun r1 => ?_) (fun r1 => ?_)
  ·
   replace hp := hp.1 r1
   refine sr (fun _ l0 => pv (.int .i64 y6) ?_)
   refine pv (.int .i64 y6) ?_
   refine nt l0 (wp_ret (then_ret ?_))
   have l1 := Evo.then0 E0 v5
   have k6 := Sub.trans hS (Step.up z0)
   have k7 := News.step hN z0
   have l2 := OB.step0 y8 z0
   have t1 := OM.step0 z7 z0
   have u3 := OM.step0 z9 z0
   have k8 := OS.step0 y2 z0
   have t2 := Sl.step z5 z0
   obtain ⟨l3, l4, n8⟩ := MO.pack (o_simfs_FS_mk l2 t1 u3 k8 z2 z8 z1 z3 z4 t2 rfl y9 v0 v1 v2 v3 v4)
   refine end_ret hQ (.int .i64 y6) (by kernel_rfl) ?_
   exact ⟨f_, y6, hp, X, l3, step_of l1 y7 k6 k7, rfl, l4, r0⟩
  ·
   replace hp := hp.2 r1
   refine wp_skip (then_normal (d6 _ _ _ _ (seq_ (fun _ l5 => wp_block (sr (fun _ l6 => pv (.slice u1 b.length u2) ?_))))))
   refine pv (.int .i64 (b.length : Int)) ?_
   refine pv (.bool (decide ((b.length : Int) > (65536 : Int)))) ?_
   refine pv (.bool (decide ((b.length : Int) > (65536 : Int)))) ?_
   refine nt l6 ?_
   refine cond_d ((b.length : Int) > (65536 : Int)) (by kernel_rfl) (fun r2 => ?_) (fun r2 => ?_)
   ·
    replace hp := hp.1 r2
    refine sr (fun _ l7 => pv (.int .i64 (4 : Int)) ?_)
    refine nt l7 (wp_ret (blk_ret (then_ret ?_)))
    have l8 := Evo.then0 E0 v5
    have k9 := Sub.trans hS (Step.up z0)
    have j0 := News.step hN z0
    have l9 := OB.step0 y8 z0
    have t3 := OM.step0 z7 z0
    have u4 := OM.step0 z9 z0
    have j1 := OS.step0 y2 z0
    have t4 := Sl.step z5 z0
    obtain ⟨m0, m1, n9⟩ := MO.pack (o_simfs_FS_mk l9 t3 u4 j1 z2 z8 z1 z3 z4 t4 rfl y9 v0 v1 v2 v3 v4)
    refine end_ret hQ (.int .i64 (4 : Int)) (by kernel_rfl) ?_
    exact ⟨f_, (4 : Int), hp, X, m0, step_of l8 y7 k9 j0, rfl, m1, (by decide : inR .i64 (4 : Int))⟩
   ·
    replace hp := hp.2 r2
    refine seq_ (fun _ m2 => ?_)
    refine ground_ ?_
    refine join_ 1065353216 (fun lq k1 => lq = [(23, (.bool (decide ((¬ (mode = (1 : Int))) ∧ (¬ (mode = (2 : Int)))))))] ∧ d8 = k1) (fun o0 r3 => ?_) ?_
    ·
     refine reg_ (pv (.int .i64 mode) ?_)
     by_cases s3 : mode = (1 : Int)
     ·
      refine pw (.bool false) (x_ndf (p := mode = (1 : Int)) (by kernel_rfl) s3) ?_
      refine pv (.bool false) ?_
      refine no ?_
      refine no ?_
      refine pv (.bool false) ?_
      refine pv (.bool false) ?_
      refine nil_ (then_normal (r3 _ _ _ ⟨[(23, (.bool (decide ((¬ (mode = (1 : Int))) ∧ (¬ (mode = (2 : Int)))))))], fit_mk (fun _ _ => rfl) (by kernel_rfl) (vs_cons (Eq.trans (b := (.bool false)) (by kernel_rfl) (dec_f (iff_false_intro (fun h => (fun o1 => o1 s3) h.1))).symm) vs_nil), rfl, rfl⟩))
     ·
      refine pw (.bool true) (x_ndt (p := mode = (1 : Int)) (by kernel_rfl) s3) ?_
      refine pv (.bool true) ?_
      refine pv (.int .i64 mode) ?_
      refine pv (.bool (!decide (mode = (2 : Int)))) ?_
      refine pv (.bool (!decide (mode = (2 : Int)))) ?_
      refine pv (.bool (!decide (mode = (2 : Int)))) ?_
      refine nil_ (then_normal (r3 _ _ _ ⟨[(23, (.bool (decide ((¬ (mode = (1 : Int))) ∧ (¬ (mode = (2 : Int)))))))], fit_mk (fun _ _ => rfl) (by kernel_rfl) (vs_cons (Eq.trans (b := (.bool (!decide (mode = (2 : Int))))) (by kernel_rfl) (dec_n ((and_iff_right s3).trans Iff.rfl)).symm) vs_nil), rfl, rfl⟩))
    ·
     rintro _ k1 o5 ⟨rfl, hw⟩
     subst hw
     refine then_normal (m2 _ _ _ _ ?_)
     refine cond_d ((¬ (mode = (1 : Int))) ∧ (¬ (mode = (2 : Int)))) (by kernel_rfl) (fun r4 => ?_) (fun r4 => ?_)
     ·
      replace hp := hp.1 r4
      refine sr (fun _ m3 => pv (.int .i64 (1 : Int)) ?_)
      refine nt m3 (wp_ret (blk_ret (then_ret ?_)))
      have m4 := Evo.then0 E0 v5
      have j2 := Sub.trans hS (Step.up z0)
      have j3 := News.step hN z0
      have m5 := OB.step0 y8 z0
      have t5 := OM.step0 z7 z0
      have v6 := OM.step0 z9 z0
      have q1 := OS.step0 y2 z0
      have u5 := Sl.step z5 z0
      obtain ⟨j4, j5, m6⟩ := MO.pack (o_simfs_FS_mk m5 t5 v6 q1 z2 z8 z1 z3 z4 u5 rfl y9 v0 v1 v2 v3 v4)
      refine end_ret hQ (.int .i64 (1 : Int)) (by kernel_rfl) ?_
      exact ⟨f_, (1 : Int), hp, X, j4, step_of m4 y7 j2 j3, rfl, j5, (by decide : inR .i64 (1 : Int))⟩
     ·
      replace hp := hp.2 r4
      refine sr (fun _ j6 => pv (.pointer (some ⟨y0, 0, none⟩)) ?_)
      refine pv (.pointer (some ⟨y0, 0, none⟩)) ?_
      refine pv (.pointer (some ⟨y0, 1, none⟩)) ?_
      have t6 := OB.step0 y8 z0
      refine pw (.map (some y5)) (x_load1 (by kernel_rfl) Tryz.isAgg59 (t6.2.1.cell' 1 rfl)) ?_
      refine pv (.string p) ?_
      have y1 := OM.step0 z9 z0
      refine sq (o_call 62 #[(.map (some y5)), (.string p), (.string (ByteArray.mk #[]))] rfl (x_call Tryz.call62 (by kernel_rfl)) (simfs_clash_w (X := []) (l := f_.files) (p := p) (but := (ByteArray.mk #[])) (Old.nil _) (OM.rm y1) s2 (by decide : (ByteArray.mk #[]).size ≤ maxLen) hp) ?_)
      rintro _ o2 ⟨r5, hp, t7, rfl⟩
      have z6 := Step.of0 X t7
      refine pv (.bool r5) ?_
      refine nt j6 ?_
      refine cond_b r5 (by kernel_rfl) (fun t8 => ?_) (fun t8 => ?_)
      ·
       replace hp := hp.1 t8
       refine sr (fun _ j7 => pv (.int .i64 (11 : Int)) ?_)
       refine nt j7 (wp_ret (blk_ret (then_ret ?_)))
       have j8 := Evo.then0 (Evo.then0 E0 v5) t7
       have q2 := Sub.trans (Sub.trans hS (Step.up z0)) (Step.up z6)
       have q3 := News.step (News.step hN z0) z6
       have j9 := OB.step0 t6 z6
       have u6 := OM.step0 (OM.step0 z7 z0) z6
       have v7 := OM.step0 y1 z6
       have q4 := OS.step0 (OS.step0 y2 z0) z6
       have u7 := Sl.step (Sl.step z5 z0) z6
       obtain ⟨g0, g1, m7⟩ := MO.pack (o_simfs_FS_mk j9 u6 v7 q4 z2 z8 z1 z3 z4 u7 rfl y9 v0 v1 v2 v3 v4)
       refine end_ret hQ (.int .i64 (11 : Int)) (by kernel_rfl) ?_
       exact ⟨f_, (11 : Int), hp, X, g0, step_of j8 y7 q2 q3, rfl, g1, (by decide : inR .i64 (11 : Int))⟩
      ·
       replace hp := hp.2 t8
       refine sr (fun _ g2 => pv (.pointer (some ⟨y0, 0, none⟩)) ?_)
       refine pv (.string p) ?_
       refine pv (.slice u1 b.length u2) ?_
       refine pv (.int .i64 (b.length : Int)) ?_
       have r6 := Old.step (Old.step hXo z0) z6
       have t9 := Evo.then0 (Evo.then0 E0 v5) t7
       have s4 := Sub.trans (Sub.trans hS (Step.up z0)) (Step.up z6)
       have s5 := News.step (News.step hN z0) z6
       have g3 := OB.step0 t6 z6
       have u9 := OM.step0 (OM.step0 z7 z0) z6
       have v8 := OM.step0 y1 z6
       have q5 := OS.step0 (OS.step0 y2 z0) z6
       have t0 := Sl.step (Sl.step z5 z0) z6
       obtain ⟨o3, v9, m8⟩ := MO.pack (o_simfs_FS_mk g3 u9 v8 q5 z2 z8 z1 z3 z4 t0 rfl y9 v0 v1 v2 v3 v4)
       refine sq (o_call 90 #[(.pointer (some ⟨y0, 0, none⟩)), (.string p), (.int .i64 (b.length : Int))] rfl (x_call Tryz.call90 (by kernel_rfl)) (simfs_FS_room_w (X := X) (f_ := f_) (p := p) (n_ := (b.length : Int)) r6 (MO.re v9 (Wr.self _ _ (Sub.refl _))) s2 (inR_len (Sl.len k0)) hp) ?_)
       rintro _ o4 ⟨s6, s0, hp, r7, r8, y4, rfl, r9⟩
       have q0 := MO.re r9 (Wr.trans r9.wr v9.wr t9.size)
       refine pv (.bool (!s0)) ?_
       refine pv (.bool (!s0)) ?_
       refine nt g2 ?_
       refine cond_b (!s0) (by kernel_rfl) (fun s1 => ?_) (fun s1 => ?_)
       ·
        replace hp := hp.1 s1
        refine sr (fun _ g4 => pv (.int .i64 (14 : Int)) ?_)
        refine nt g4 (wp_ret (blk_ret (then_ret ?_)))
        have g5 := Evo.thenW t9 (Step.evo y4) v9.wr
        have q6 := Sub.trans s4 (Step.up y4)
        have q7 := News.step s5 y4
        refine end_ret hQ (.int .i64 (14 : Int)) (by kernel_rfl) ?_
        exact ⟨s6, (14 : Int), hp, r7, r8, step_of g5 y7 q6 q7, rfl, q0, (by decide : inR .i64 (14 : Int))⟩
       ·
        replace hp := hp.2 s1
        refine wp_skip (blk_normal (then_normal (l5 _ _ _ _ (sr (fun _ g6 => pv (.int .i64 (0 : Int)) ?_)))))
        refine nt g6 (wp_ret ?_)
        have g7 := Evo.thenW t9 (Step.evo y4) v9.wr
        have q8 := Sub.trans s4 (Step.up y4)
        have q9 := News.step s5 y4
        refine end_ret hQ (.int .i64 (0 : Int)) (by kernel_rfl) ?_
        exact ⟨s6, (0 : Int), hp, r7, r8, step_of g7 y7 q8 q9, rfl, q0, (by decide : inR .i64 (0 : Int))⟩
def simfs_FS_put_p (f_ : S_simfs_FS) (p : ByteArray) (mode : Int) (b : (List Int)) (Q : S_simfs_FS → S_simfs_op → Prop) : Prop :=
 ((p.size ≤ maxLen) → ((inR .i64 mode) → ((b.length ≤ 9223372036854775807) → ((f_.pending.length ≤ 9223372036854775807) → ((inR .i64 f_.quota) → ((inR .i64 f_.now) → ((inR .i64 f_.inodes) → ((inR .i64 f_.ops_) → ((inR .i64 f_.left) → ((f_.keep.length ≤ 9223372036854775807) → ((inR .i64 ((mgetD f_.files p).mode)) → ((inR .i64 ((mgetD f_.files p).time)) → ((inR .i64 ((mgetD f_.files p).inode)) → ((((mgetD f_.files p).b).length ≤ 9223372036854775807) → (∃ z0 : Int → Int → Prop, (∀ (z1 : Int) (z2 : Int), z0 z1 z2 → (inR .i64 z1) → (inR .i64 z2) → (slices_Clone_byte_byte_p b (fun (z3 : (List Int)) => ((z3.length ≤ 9223372036854775807) → Q (S_simfs_FS.mk f_.kept f_.files f_.pending f_.quota f_.now z1 f_.ops_ f_.off f_.armed f_.left f_.keep) (S_simfs_op.mk (1 : Int) p (ByteArray.mk #[]) (S_simfs_file.mk mode f_.now z2 z3)))))) ∧ ((((!(mhas f_.files p)) = true) → ((inR .i64 (f_.inodes + (1 : Int))) ∧ (z0 (f_.inodes + (1 : Int)) (f_.inodes + (1 : Int))))) ∧ (((!(mhas f_.files p)) = false) → (z0 f_.inodes ((mgetD f_.files p).inode)))))))))))))))))))
set_option maxRecDepth 20000 in
set_option maxHeartbeats 4000000 in
theorem simfs_FS_put_w {X : List Nat} {w : World} {f_ : S_simfs_FS} {p : ByteArray} {mode : Int} {b : (List Int)} {z0 : Nat} {z9 : List Nat} {t3 : Option Addr} {t4 : Nat} {Q : S_simfs_FS → S_simfs_op → Prop} (m9 : Old X w) (k9 : MO o_simfs_FS 62 z9 w.heap.size X w z9 z0 f_) (n0 : p.size ≤ maxLen) (s5 : inR .i64 mode) (n1 : Sl (rInt .u8) X w t3 t4 b) (hp : simfs_FS_put_p f_ p mode b Q) :
  Calls Tryz.prog 78 #[(.pointer (some ⟨z0, 0, none⟩)), (.string p), (.int .i64 mode), (.slice t3 b.length t4)] w (Ret fun v w' => ∃ (e7 : S_simfs_FS) (y7 : S_simfs_op), Q e7 y7 ∧ ∃ (X' : List Nat) (e8 : List Nat) (aq0fileb7 : Option Addr) (cq0fileb8 : Nat), Step X w z9 X' w' ∧ v = (.agg #[(.int .i64 y7.kind), (.string y7.path), (.string y7.to_), (.int .i64 y7.file.mode), (.int .i64 y7.file.time), (.int .i64 y7.file.inode), (.slice aq0fileb7 y7.file.b.length cq0fileb8)]) ∧ MO o_simfs_FS 62 z9 w.heap.size X' w' e8 z0 e7 ∧ inR .i64 y7.kind ∧ y7.path.size ≤ maxLen ∧ y7.to_.size ≤ maxLen ∧ inR .i64 y7.file.mode ∧ inR .i64 y7.file.time ∧ inR .i64 y7.file.inode ∧ Sl (rInt .u8) X' w' aq0fileb7 cq0fileb8 y7.file.b ∧ Pin w w' z0 1) := by
 have hXo := m9
 have E0 : Evo z9 w w := RB.refl _ _ _
 have hS : Sub X X := Sub.refl _
 have hN : News X w X w := News.refl _ _
 have e9 : Sub z9 X := MO.mem k9
 unfold simfs_FS_put_p at hp
 refine enter_ Tryz.func78 rfl 46 [(0, (.pointer (some ⟨z0, 0, none⟩))), (1, (.string p)), (2, (.int .i64 mode)), (3, (.slice t3 b.length t4))] (by kernel_rfl) (fun Qe hQ => ?_)
 replace hp := hp n0 s5 (Sl.len n1)
 obtain ⟨v6, y0, r9, q0, q1, y8, y9, j0, u6, v9, q2, u1, v7, v3, u7, u9, t0, h9, b0, b1, b2, n2, n3, n4, i0, i1, i2⟩ := o_simfs_FS_open k9
 replace hp := hp (OS.len q2) u1 v7 v3 u7 u9 (Sl.len t0)
 refine sr (fun _ i3 => ?_)
 refine sq (o_newX [(.int .i64 (0 : Int)), (.string (ByteArray.mk #[])), (.string (ByteArray.mk #[])), (.int .i64 (0 : Int)), (.int .i64 (0 : Int)), (.int .i64 (0 : Int)), (.slice none 0 0)] 76 (X := X) (B := w.heap.size) E0.size rfl (by kernel_rfl) ?_)
 intro i4 i5 i6 y6 n5 q9
 have n6 := q9 _ (OB.old j0)
 have i7 := q9 _ (OM.old u6)
 have i9 := q9 _ (OM.old v9)
 have h0 := q9 _ (OS.old q2)
 refine nt i3 (sr (fun _ h1 => pv (.pointer (some ⟨z0, 0, none⟩)) ?_))
 refine pv (.pointer (some ⟨z0, 0, none⟩)) ?_
 refine pv (.pointer (some ⟨z0, 1, none⟩)) ?_
 have j1 := OB.step0 j0 y6
 refine pw (.map (some y0)) (x_load1 (by kernel_rfl) Tryz.isAgg59 (j1.2.1.cell' 1 rfl)) ?_
 refine pv (.string p) ?_
 have y5 := OM.step0 v9 y6
 obtain ⟨b3, o5, o6⟩ := MapAt.look y5.2.1 p [(.int .i64 (0 : Int)), (.int .i64 (0 : Int)), (.int .i64 (0 : Int)), (.slice none 0 0)] (fun _ _ => (r_simfs_file_mk (by decide : inR .i64 (0 : Int)) (by decide : inR .i64 (0 : Int)) (by decide : inR .i64 (0 : Int)) (Sl.nil) rfl))
 obtain ⟨z7, z8, rfl, q3, q4, u2, k0⟩ := r_simfs_file_open o5
 replace hp := hp q3 q4 u2 (Sl.len k0)
 refine pw (.tuple #[(.agg #[(.int .i64 ((mgetD f_.files p).mode)), (.int .i64 ((mgetD f_.files p).time)), (.int .i64 ((mgetD f_.files p).inode)), (.slice z7 (((mgetD f_.files p).b).length) z8)]), (.bool (mhas f_.files p))]) (x_lookup2 (w0 := i5) (k := p) (v := (.agg #[(.int .i64 ((mgetD f_.files p).mode)), (.int .i64 ((mgetD f_.files p).time)), (.int .i64 ((mgetD f_.files p).inode)), (.slice z7 (((mgetD f_.files p).b).length) z8)])) (z := (.agg #[(.int .i64 (0 : Int)), (.int .i64 (0 : Int)), (.int .i64 (0 : Int)), (.slice none 0 0)])) (b := mhas f_.files p) (s := 4) (bts := 48) (by kernel_rfl) (by kernel_rfl) o6 rfl Tryz.underlying59 Tryz.underlying9 (by kernel_rfl)) ?_
 refine pv (.tuple #[(.agg #[(.int .i64 ((mgetD f_.files p).mode)), (.int .i64 ((mgetD f_.files p).time)), (.int .i64 ((mgetD f_.files p).inode)), (.slice z7 (((mgetD f_.files p).b).length) z8)]), (.bool (mhas f_.files p))]) ?_
 refine pv (.agg #[(.int .i64 ((mgetD f_.files p).mode)), (.int .i64 ((mgetD f_.files p).time)), (.int .i64 ((mgetD f_.files p).inode)), (.slice z7 (((mgetD f_.files p).b).length) z8)]) ?_
 refine pv (.bool (mhas f_.files p)) ?_
 have t1 := OM.step0 u6 y6
 have j2 := OS.step0 q2 y6
 have n7 := Evo.then0 E0 (Step.evo y6)
 refine sq (o_newX [(.int .i64 (0 : Int)), (.int .i64 (0 : Int)), (.int .i64 (0 : Int)), (.slice none 0 0)] 74 (X := i6) (B := w.heap.size) n7.size rfl (by kernel_rfl) ?_)
 intro j3 f0 n8 y3 n9 s6
 have j4 := s6 _ (OB.old j1)
 have o0 := s6 _ (OM.old t1)
 have o1 := s6 _ (OM.old y5)
 have o2 := s6 _ (OS.old j2)
 have o3 := s6 _ (OB.old n5)
 have h2 := OB.step0 j1 y3
 have q5 := OM.step0 t1 y3
 have s7 := OM.step0 y5 y3
 have o7 := OS.step0 j2 y3
 have h3 := OB.step0 n5 y3
 have h4 := Evo.then0 n7 (Step.evo y3)
 refine sq (o_stB (o := 0) (v := (.agg #[(.int .i64 ((mgetD f_.files p).mode)), (.int .i64 ((mgetD f_.files p).time)), (.int .i64 ((mgetD f_.files p).inode)), (.slice z7 (((mgetD f_.files p).b).length) z8)])) [(.int .i64 ((mgetD f_.files p).mode)), (.int .i64 ((mgetD f_.files p).time)), (.int .i64 ((mgetD f_.files p).inode)), (.slice z7 (((mgetD f_.files p).b).length) z8)] rfl n9 (by kernel_rfl) (by kernel_rfl) Tryz.sizeOf74 rfl rfl rfl ?_)
 intro f1 y4 o4
 refine pv (.bool (mhas f_.files p)) ?_
 refine nt h1 (seq_ (fun _ h5 => sr (fun _ h6 => pv (.bool (mhas f_.files p)) ?_)))
 refine pv (.bool (!(mhas f_.files p))) ?_
 refine nt h6 ?_
 have k1 := Sl.step (Sl.step (Sl.step n1 y6) y3) y4
 have s8 := Old.step (Old.step (Old.step hXo y6) y3) y4
 have j5 := Evo.thenW h4 (Step.evo y4) (Wr.of n9.2.2)
 have k2 := Sub.trans (Sub.trans (Sub.trans hS (Step.up y6)) (Step.up y3)) (Step.up y4)
 have k3 := News.step (News.step (News.step hN y6) y3) y4
 have t5 := OB.step h2 y4 j4
 have u3 := OM.step q5 y4 o0
 have v4 := OM.step s7 y4 o1
 have k4 := OS.step o7 y4 o2
 have u4 := Sl.step (Sl.step (Sl.step t0 y6) y3) y4
 have j6 := OB.step h3 y4 o3
 have s9 := Sl.step (Sl.step k0 y3) y4
 obtain ⟨o8, d7, hp⟩ := hp
 refine ground_ ?_
 refine join_ 17175674880 (fun lq z1 => ∃ (z2 : List Nat) (v8 : Int) (z3 : Int), (lq = []) ∧ (Evo z9 w z1) ∧ (Old z2 z1) ∧ (Sub X z2) ∧ (News X w z2 z1) ∧ (Sl (rInt .u8) z2 z1 t3 t4 b) ∧ (OM r_simfs_file true z9 w.heap.size z2 z1 v6 f_.kept) ∧ (OM r_simfs_file true z9 w.heap.size z2 z1 y0 f_.files) ∧ (OS r_simfs_op z9 w.heap.size z2 z1 76 r9 q0 q1 f_.pending) ∧ (Sl rBool z2 z1 y8 y9 f_.keep) ∧ (OB ([]) w.heap.size z2 z1 i4 [(.int .i64 (0 : Int)), (.string (ByteArray.mk #[])), (.string (ByteArray.mk #[])), (.int .i64 (0 : Int)), (.int .i64 (0 : Int)), (.int .i64 (0 : Int)), (.slice none 0 0)] 76) ∧ (Sl (rInt .u8) z2 z1 z7 z8 ((mgetD f_.files p).b)) ∧ (OB z9 w.heap.size z2 z1 z0 [(.map (some v6)), (.map (some y0)), (.slice r9 q0 q1), (.int .i64 f_.quota), (.int .i64 f_.now), (.int .i64 v8), (.int .i64 f_.ops_), (.bool f_.off), (.bool f_.armed), (.int .i64 f_.left), (.slice y8 f_.keep.length y9)] 62) ∧ (OB ([]) w.heap.size z2 z1 j3 [(.int .i64 ((mgetD f_.files p).mode)), (.int .i64 ((mgetD f_.files p).time)), (.int .i64 z3), (.slice z7 (((mgetD f_.files p).b).length) z8)] 74) ∧ (inR .i64 v8) ∧ (inR .i64 z3) ∧ (o8 v8 z3)) (fun h8 k5 => ?_) ?_
 ·
  refine cond_b (!(mhas f_.files p)) (by kernel_rfl) (fun q6 => ?_) (fun q6 => ?_)
  ·
   replace hp := hp.1 q6
   refine sr (fun _ o9 => pv (.pointer (some ⟨z0, 0, none⟩)) ?_)
   refine pv (.pointer (some ⟨z0, 0, none⟩)) ?_
   refine pv (.pointer (some ⟨z0, 5, none⟩)) ?_
   refine pw (.int .i64 f_.inodes) (x_load1 (by kernel_rfl) Tryz.isAgg3 (t5.2.1.cell' 5 rfl)) ?_
   obtain ⟨q7, hp⟩ := hp
   refine pw (.int .i64 (f_.inodes + (1 : Int))) (x_add2 (k := .i64) (a := f_.inodes) (b := (1 : Int)) (f_.inodes + (1 : Int)) (by kernel_rfl) (by kernel_rfl) (wrap_inR q7)) ?_
   refine pv (.pointer (some ⟨z0, 0, none⟩)) ?_
   refine pv (.pointer (some ⟨z0, 5, none⟩)) ?_
   refine sq (o_stB (o := 5) (v := (.int .i64 (f_.inodes + (1 : Int)))) [(.map (some v6)), (.map (some y0)), (.slice r9 q0 q1), (.int .i64 f_.quota), (.int .i64 f_.now), (.int .i64 (f_.inodes + (1 : Int))), (.int .i64 f_.ops_), (.bool f_.off), (.bool f_.armed), (.int .i64 f_.left), (.slice y8 f_.keep.length y9)] rfl t5 (by kernel_rfl) (by kernel_rfl) Tryz.sizeOf3 rfl rfl rfl ?_)
   intro b4 z4 j7
   refine nt o9 (reg_ (pv (.pointer (some ⟨z0, 0, none⟩)) ?_))
   refine pv (.pointer (some ⟨z0, 0, none⟩)) ?_
   refine pv (.pointer (some ⟨z0, 5, none⟩)) ?_
   refine pw (.int .i64 (f_.inodes + (1 : Int))) (x_load1 (by kernel_rfl) Tryz.isAgg3 (j7.2.1.cell' 5 rfl)) ?_
   refine pv (.pointer (some ⟨j3, 2, none⟩)) ?_
   have r0 := OM.step u3 z4 (Ap.symm n2)
   have t6 := OM.step v4 z4 (Ap.symm n3)
   have d8 := OS.step k4 z4 (Ap.symm n4)
   have c0 := OB.step j6 z4 (Ap.symm n6)
   have j8 := OB.step o4 z4 (Ap.symm j4)
   have c1 := Evo.thenW j5 (Step.evo z4) t5.2.2
   refine sq (o_stB (o := 2) (v := (.int .i64 (f_.inodes + (1 : Int)))) [(.int .i64 ((mgetD f_.files p).mode)), (.int .i64 ((mgetD f_.files p).time)), (.int .i64 (f_.inodes + (1 : Int))), (.slice z7 (((mgetD f_.files p).b).length) z8)] rfl j8 (by kernel_rfl) (by kernel_rfl) Tryz.sizeOf3 rfl rfl rfl ?_)
   intro b5 z5 c2
   refine nil_ ?_
   have c3 := Evo.thenW c1 (Step.evo z5) (Wr.of j8.2.2)
   have j9 := Old.step (Old.step s8 z4) z5
   have d9 := Sub.trans (Sub.trans k2 (Step.up z4)) (Step.up z5)
   have l0 := News.step (News.step k3 z4) z5
   have l1 := Sl.step (Sl.step k1 z4) z5
   have r1 := OM.step r0 z5 o0
   have t7 := OM.step t6 z5 o1
   have l2 := OS.step d8 z5 o2
   have r2 := Sl.step (Sl.step u4 z4) z5
   have c4 := OB.step c0 z5 o3
   have g0 := Sl.step (Sl.step s9 z4) z5
   have c5 := OB.step j7 z5 j4
   refine then_normal (k5 _ _ _ ⟨[], fit_mk (fun _ _ => rfl) (by kernel_rfl) vs_nil, ?_⟩)
   exact ⟨n8, (f_.inodes + (1 : Int)), (f_.inodes + (1 : Int)), rfl, c3, j9, d9, l0, l1, r1, t7, l2, r2, c4, g0, c5, c2, q7, q7, hp⟩
  ·
   replace hp := hp.2 q6
   refine wp_skip (then_normal (k5 _ _ _ ⟨[], fit_mk (fun _ _ => rfl) (by kernel_rfl) vs_nil, ?_⟩))
   exact ⟨n8, f_.inodes, ((mgetD f_.files p).inode), rfl, j5, s8, k2, k3, k1, u3, v4, k4, u4, j6, s9, t5, o4, v3, u2, hp⟩
 ·
  rintro _ z1 b6 ⟨z2, v8, z3, rfl, c6, g1, l3, l4, l5, r3, t8, l6, r4, c7, h7, c8, c9, k6, k7, l7⟩
  replace hp := d7 v8 z3 l7 k6 k7
  refine then_normal (h5 _ _ _ _ (seq_ (fun _ a0 => ?_)))
  refine reg_drawn (RB z1.heap.size []) 12 (by kernel_rfl) (fun g2 t9 => ?_)
  have a1 := Evo.of_drew t9
  have q8 : g2.heap.size = z1.heap.size := by rw [t9]
  clear t9
  have z6 := Step.of0 z2 a1
  have s0 := RB.refl z1.heap.size [] g2
  have g3 := Evo.then0 c6 (Step.evo z6)
  have g4 := Old.step g1 z6
  have l8 := Sub.trans l3 (Step.up z6)
  have l9 := News.step l4 z6
  have m0 := Sl.step l5 z6
  have u5 := OM.step0 r3 z6
  have v5 := OM.step0 t8 z6
  have k8 := OS.step0 l6 z6
  have r5 := Sl.step r4 z6
  have g5 := OB.step0 c7 z6
  have s1 := OB.step0 c8 z6
  have g6 := OB.step0 c9 z6
  refine r_take 0 (.string p) (RB.pre _ _) rfl (by kernel_rfl) (fun _ _ _ h => hQ.panic _ _ _ _ _ h) (.inl ⟨rfl, fun wq hq => (by kernel_rfl)⟩) ?_
  refine r_take 1 (.int .i64 mode) (RB.pre _ _) rfl (by kernel_rfl) (fun _ _ _ h => hQ.panic _ _ _ _ _ h) (.inl ⟨rfl, fun wq hq => (by kernel_rfl)⟩) ?_
  refine r_take 2 (.pointer (some ⟨z0, 0, none⟩)) (RB.pre _ _) rfl (by kernel_rfl) (fun _ _ _ h => hQ.panic _ _ _ _ _ h) (.inl ⟨rfl, fun wq hq => (by kernel_rfl)⟩) ?_
  refine r_take 3 (.pointer (some ⟨z0, 0, none⟩)) (RB.pre _ _) rfl (by kernel_rfl) (fun _ _ _ h => hQ.panic _ _ _ _ _ h) (.inl ⟨rfl, fun wq hq => (by kernel_rfl)⟩) ?_
  refine r_take 4 (.pointer (some ⟨z0, 4, none⟩)) (RB.pre _ _) rfl (by kernel_rfl) (fun _ _ _ h => hQ.panic _ _ _ _ _ h) (.inl ⟨rfl, fun wq hq => (by kernel_rfl)⟩) ?_
  refine r_take 5 (.int .i64 f_.now) (RB.pre _ _) rfl (by kernel_rfl) (fun _ _ _ h => hQ.panic _ _ _ _ _ h) (.inl ⟨rfl, fun wq hq => (x_load1 (by kernel_rfl) Tryz.isAgg3 ((Blk.rb s1.2.1 (RB.trans s0 hq) (Nat.lt_of_lt_of_eq (Blk.lt s1.2.1) q8) (fun h => by cases h)).cell' 4 rfl))⟩) ?_
  refine r_take 6 (.pointer (some ⟨j3, 2, none⟩)) (RB.pre _ _) rfl (by kernel_rfl) (fun _ _ _ h => hQ.panic _ _ _ _ _ h) (.inl ⟨rfl, fun wq hq => (by kernel_rfl)⟩) ?_
  refine r_take 7 (.int .i64 z3) (RB.pre _ _) rfl (by kernel_rfl) (fun _ _ _ h => hQ.panic _ _ _ _ _ h) (.inl ⟨rfl, fun wq hq => (x_load1 (by kernel_rfl) Tryz.isAgg3 ((Blk.rb g6.2.1 (RB.trans s0 hq) (Nat.lt_of_lt_of_eq (Blk.lt g6.2.1) q8) (fun h => by cases h)).cell' 2 rfl))⟩) ?_
  refine r_take 8 (.slice t3 b.length t4) (RB.pre _ _) rfl (by kernel_rfl) (fun _ _ _ h => hQ.panic _ _ _ _ _ h) (.inl ⟨rfl, fun wq hq => (by kernel_rfl)⟩) ?_
  refine r_ready [9] (by kernel_rfl) rfl (all_cons ⟨_, _, _, _, _, _, rfl, ?_⟩ all_nil)
  refine o_call 43 #[(.slice t3 b.length t4)] rfl (x_call Tryz.call43 (by kernel_rfl)) (slices_Clone_byte_byte_w (X := z2) (s := b) g4 (Sl.sq m0) hp) ?_
  rintro _ b7 ⟨v0, hp, g7, v1, v2, rfl, a2⟩
  have rm := RB.mono (F' := []) g7 (Nat.le_trans (Nat.le_of_eq q8.symm) (RB.size s0)) (fun _ h => by cases h)
  refine ⟨fun _ => rm, ?_⟩
  obtain ⟨b8, y1, g8, t2⟩ := OS.own_in a2 g7 g3.size
  have a3 := t2 _ (OM.old u5)
  have a4 := t2 _ (OM.old v5)
  have a5 := t2 _ (OS.old k8)
  have g9 := t2 _ (OB.old g5)
  have a6 := t2 _ (OB.old s1)
  replace hp := hp (OS.len g8)
  refine r_take 10 (.agg #[(.int .i64 mode), (.int .i64 f_.now), (.int .i64 z3), (.slice v1 v0.length v2)]) (RB.pre _ _) rfl (by kernel_rfl) (fun _ _ _ h => hQ.panic _ _ _ _ _ h) (.inl ⟨rfl, fun wq hq => (by kernel_rfl)⟩) ?_
  refine r_take 11 (.agg #[(.int .i64 (1 : Int)), (.string p), (.string (ByteArray.mk #[])), (.int .i64 mode), (.int .i64 f_.now), (.int .i64 z3), (.slice v1 v0.length v2)]) (RB.pre _ _) rfl (by kernel_rfl) (fun _ _ _ h => hQ.panic _ _ _ _ _ h) (.inl ⟨rfl, fun wq hq => (by kernel_rfl)⟩) ?_
  refine r_ready [12] (by kernel_rfl) rfl (all_cons ⟨_, _, _, _, _, _, rfl, ?_⟩ all_nil)
  have r6 := OM.step0 u5 y1
  have s2 := OM.step0 v5 y1
  have m1 := OS.step0 k8 y1
  have d0 := OB.step0 g5 y1
  have a7 := OB.step0 s1 y1
  have a8 := Evo.then0 g3 (Step.evo y1)
  refine o_stB (o := 0) (v := (.agg #[(.int .i64 (1 : Int)), (.string p), (.string (ByteArray.mk #[])), (.int .i64 mode), (.int .i64 f_.now), (.int .i64 z3), (.slice v1 v0.length v2)])) [(.int .i64 (1 : Int)), (.string p), (.string (ByteArray.mk #[])), (.int .i64 mode), (.int .i64 f_.now), (.int .i64 z3), (.slice v1 v0.length v2)] rfl d0 (by kernel_rfl) (by kernel_rfl) Tryz.sizeOf76 rfl rfl rfl ?_
  intro b9 y2 d1
  refine ⟨fun h => absurd h (by decide), ?_⟩
  refine r_done (by kernel_rfl) ?_
  refine then_normal (a0 _ _ _ _ (wp_ret ?_))
  have d2 := OB.step a7 y2 n6
  have d3 := pin_mk (off := 1) j0 d2 rfl rfl
  have a9 := Evo.thenW a8 (Step.evo y2) (Wr.of d0.2.2)
  have m2 := Sub.trans (Sub.trans l8 (Step.up y1)) (Step.up y2)
  have m3 := News.step (News.step l9 y1) y2
  have r7 := OM.step r6 y2 i7
  have s3 := OM.step s2 y2 i9
  have m4 := OS.step m1 y2 h0
  have r8 := Sl.step (Sl.step r5 y1) y2
  have d4 := OS.step g8 y2 (Ap.symm g9)
  obtain ⟨e0, d5, m5⟩ := MO.pack (o_simfs_FS_mk d2 r7 s3 m4 u1 v7 k6 u7 u9 r8 rfl n2 n3 n4 i0 i1 i2)
  have e1 := m5 _ (Ap.cons (Ap.symm a6) (Ap.app (Ap.symm a3) (Ap.app (Ap.symm a4) (Ap.app (Ap.symm a5) (Ap.app (Ap.nil_r _) (Ap.app (Ap.nil_r _) (Ap.app (Ap.nil_r _) (Ap.app (Ap.nil_r _) (Ap.app (Ap.nil_r _) (Ap.app (Ap.nil_r _) (Ap.app (Ap.nil_r _) (Ap.nil_r _))))))))))))
  have m6 := OS.apold d4 m9
  obtain ⟨e2, d6, e3, s4⟩ := OS.release d4
  have e4 := a9
  have m7 := s4 _ m6 m2
  have m8 := News.less m3 d6
  have e5 := OB.less d1 (s4 _ g9 (OB.mem d1))
  have e6 := MO.less d5 d6 (s4 _ (Ap.symm e1) (MO.mem d5))
  refine end_ret hQ (.agg #[(.int .i64 (1 : Int)), (.string p), (.string (ByteArray.mk #[])), (.int .i64 mode), (.int .i64 f_.now), (.int .i64 z3), (.slice v1 v0.length v2)]) (rs_single Tryz.results78 (rs_agg [(.int .i64 (1 : Int)), (.string p), (.string (ByteArray.mk #[])), (.int .i64 mode), (.int .i64 f_.now), (.int .i64 z3), (.slice v1 v0.length v2)] (by kernel_rfl) Tryz.isAgg76 Tryz.sizeOf76 (e5.2.1.cells' 0 rfl))) ?_
  exact ⟨(S_simfs_FS.mk f_.kept f_.files f_.pending f_.quota f_.now v8 f_.ops_ f_.off f_.armed f_.left f_.keep), (S_simfs_op.mk (1 : Int) p (ByteArray.mk #[]) (S_simfs_file.mk mode f_.now z3 v0)), hp, e2, e0, v1, v2, step_of e4 e9 m7 m8, rfl, e6, (by decide : inR .i64 (1 : Int)), n0, (by decide : (ByteArray.mk #[]).size ≤ maxLen), s5, v7, k7, e3, d3⟩
def simfs_FS_Write_p (f_ : S_simfs_FS) (p : ByteArray) (mode : Int) (b : (List Int)) (Q : S_simfs_FS → Int → Prop) : Prop :=
 ((p.size ≤ maxLen) → ((inR .i64 mode) → ((b.length ≤ 9223372036854775807) → (simfs_FS_may_p f_ p mode b (fun (z2 : S_simfs_FS) (z1 : Int) => ((inR .i64 z1) → (((¬ (z1 = (0 : Int))) → Q z2 z1) ∧ ((z1 = (0 : Int)) → (simfs_FS_trips_p z2 (fun (z3 : S_simfs_FS) (z4 : Bool) => (((z4 = true) → Q z3 (13 : Int)) ∧ ((z4 = false) → (simfs_FS_put_p z3 p mode b (fun (z5 : S_simfs_FS) (z0 : S_simfs_op) => ((inR .i64 z0.kind) → ((z0.path.size ≤ maxLen) → ((z0.to_.size ≤ maxLen) → ((inR .i64 z0.file.mode) → ((inR .i64 z0.file.time) → ((inR .i64 z0.file.inode) → ((z0.file.b.length ≤ 9223372036854775807) → (simfs_FS_do_p z5 z0 (fun (z6 : S_simfs_FS) => Q z6 (0 : Int))))))))))))))))))))))))
set_option maxRecDepth 20000 in
set_option maxHeartbeats 4000000 in
theorem simfs_FS_Write_w {X : List Nat} {w : World} {f_ : S_simfs_FS} {p : ByteArray} {mode : Int} {b : (List Int)} {z0 : Nat} {z4 : List Nat} {y0 : Option Addr} {y1 : Nat} {Q : S_simfs_FS → Int → Prop} (r3 : Old X w) (y2 : MO o_simfs_FS 62 z4 w.heap.size X w z4 z0 f_) (v4 : p.size ≤ maxLen) (y3 : inR .i64 mode) (v5 : Sl (rInt .u8) X w y0 y1 b) (hp : simfs_FS_Write_p f_ p mode b Q) :
  Calls Tryz.prog 53 #[(.pointer (some ⟨z0, 0, none⟩)), (.string p), (.int .i64 mode), (.slice y0 b.length y1)] w (Ret fun v w' => ∃ (r4 : S_simfs_FS) (t8 : Int), Q r4 t8 ∧ ∃ (X' : List Nat) (r5 : List Nat), Step X w z4 X' w' ∧ v = (.int .i64 t8) ∧ MO o_simfs_FS 62 z4 w.heap.size X' w' r5 z0 r4 ∧ inR .i64 t8) := by
 have hXo := r3
 have E0 : Evo z4 w w := RB.refl _ _ _
 have hS : Sub X X := Sub.refl _
 have hN : News X w X w := News.refl _ _
 have v6 : Sub z4 X := MO.mem y2
 unfold simfs_FS_Write_p at hp
 refine enter_ Tryz.func53 rfl 27 [(0, (.pointer (some ⟨z0, 0, none⟩))), (1, (.string p)), (2, (.int .i64 mode)), (3, (.slice y0 b.length y1))] (by kernel_rfl) (fun Qe hQ => ?_)
 replace hp := hp v4 y3 (Sl.len v5)
 refine sr (fun _ k6 => pv (.int .i64 (0 : Int)) ?_)
 refine nt k6 (seq_ (fun _ r6 => sr (fun _ r7 => pv (.pointer (some ⟨z0, 0, none⟩)) ?_)))
 refine pv (.string p) ?_
 refine pv (.int .i64 mode) ?_
 refine pv (.slice y0 b.length y1) ?_
 refine sq (o_call 75 #[(.pointer (some ⟨z0, 0, none⟩)), (.string p), (.int .i64 mode), (.slice y0 b.length y1)] rfl (x_call Tryz.call75 (by kernel_rfl)) (simfs_FS_may_w (X := X) (f_ := f_) (p := p) (mode := mode) (b := b) hXo (MO.re y2 (Wr.self _ _ (Sub.refl _))) v4 y3 v5 hp) ?_)
 rintro _ k7 ⟨v7, z5, hp, t0, r8, z6, rfl, t1, v8⟩
 have y7 := MO.re t1 (Wr.trans t1.wr y2.wr E0.size)
 replace hp := hp v8
 refine pv (.int .i64 z5) ?_
 refine nt r7 (sr (fun _ r9 => pv (.int .i64 z5) ?_))
 refine pv (.bool (!decide (z5 = (0 : Int)))) ?_
 refine nt r9 ?_
 refine cond_nd (z5 = (0 : Int)) (by kernel_rfl) (fun v9 => ?_) (fun v9 => ?_)
 ·
  replace hp := hp.1 v9
  refine sr (fun _ q0 => pv (.int .i64 z5) ?_)
  refine pv (.int .i64 z5) ?_
  refine nt q0 (wp_ret (then_ret ?_))
  have q1 := Evo.thenW E0 (Step.evo z6) y2.wr
  have t9 := Sub.trans hS (Step.up z6)
  have s0 := News.step hN z6
  refine end_ret hQ (.int .i64 z5) (by kernel_rfl) ?_
  exact ⟨v7, z5, hp, t0, r8, step_of q1 v6 t9 s0, rfl, y7, v8⟩
 ·
  replace hp := hp.2 v9
  refine wp_skip (then_normal (r6 _ _ _ _ (seq_ (fun _ q2 => sr (fun _ q3 => pv (.pointer (some ⟨z0, 0, none⟩)) ?_)))))
  have s1 := Sl.step v5 z6
  have v0 := Old.step hXo z6
  have u1 := Evo.thenW E0 (Step.evo z6) y2.wr
  have u2 := Sub.trans hS (Step.up z6)
  have u3 := News.step hN z6
  refine sq (o_call 76 #[(.pointer (some ⟨z0, 0, none⟩))] rfl (x_call Tryz.call76 (by kernel_rfl)) (simfs_FS_trips_w (X := t0) (f_ := v7) v0 (MO.re y7 (Wr.self _ _ (Sub.refl _))) hp) ?_)
  rintro _ k8 ⟨u4, q4, hp, t2, q5, z7, rfl, t3⟩
  have v1 := MO.re t3 (Wr.trans t3.wr y7.wr u1.size)
  refine nt q3 ?_
  refine cond_b q4 (by kernel_rfl) (fun u5 => ?_) (fun u5 => ?_)
  ·
   replace hp := hp.1 u5
   refine sr (fun _ q6 => pv (.int .i64 (13 : Int)) ?_)
   refine nt q6 (wp_ret (then_ret ?_))
   have q7 := Evo.thenW u1 (Step.evo z7) y7.wr
   have s2 := Sub.trans u2 (Step.up z7)
   have s3 := News.step u3 z7
   refine end_ret hQ (.int .i64 (13 : Int)) (by kernel_rfl) ?_
   exact ⟨u4, (13 : Int), hp, t2, q5, step_of q7 v6 s2 s3, rfl, v1, (by decide : inR .i64 (13 : Int))⟩
  ·
   replace hp := hp.2 u5
   refine wp_skip (then_normal (q2 _ _ _ _ (sr (fun _ q8 => pv (.pointer (some ⟨z0, 0, none⟩)) ?_))))
   refine pv (.pointer (some ⟨z0, 0, none⟩)) ?_
   refine pv (.string p) ?_
   refine pv (.int .i64 mode) ?_
   refine pv (.slice y0 b.length y1) ?_
   have s4 := Sl.step s1 z7
   have v2 := Old.step v0 z7
   have t4 := Evo.thenW u1 (Step.evo z7) y7.wr
   have s5 := Sub.trans u2 (Step.up z7)
   have s6 := News.step u3 z7
   refine sq (o_call 78 #[(.pointer (some ⟨z0, 0, none⟩)), (.string p), (.int .i64 mode), (.slice y0 b.length y1)] rfl (x_call Tryz.call78 (by kernel_rfl)) (simfs_FS_put_w (X := t2) (f_ := u4) (p := p) (mode := mode) (b := b) v2 (MO.re v1 (Wr.self _ _ (Sub.refl _))) v4 y3 s4 hp) ?_)
   rintro _ k9 ⟨s7, z8, hp, q9, j0, y8, y9, v3, rfl, t5, y4, y5, y6, z2, z3, z1, z9, k5⟩
   have u6 := MO.re t5 (Wr.trans t5.wr v1.wr t4.size)
   replace hp := hp y4 y5 y6 z2 z3 z1 (Sl.len z9)
   have u9 := Old.step v2 v3
   have t6 := Evo.thenW t4 (Step.evo v3) v1.wr
   have s8 := Sub.trans s5 (Step.up v3)
   have s9 := News.step s6 v3
   refine sq (o_call 77 #[(.pointer (some ⟨z0, 0, none⟩)), (.agg #[(.int .i64 z8.kind), (.string z8.path), (.string z8.to_), (.int .i64 z8.file.mode), (.int .i64 z8.file.time), (.int .i64 z8.file.inode), (.slice y8 z8.file.b.length y9)])] rfl (x_call Tryz.call77 (by kernel_rfl)) (simfs_FS_do_w (X := q9) (f_ := s7) (o := z8) u9 (MO.re u6 (Wr.self _ _ (Sub.refl _))) y4 y5 y6 z2 z3 z1 z9 hp) ?_)
   rintro _ j1 ⟨r0, hp, k0, k1, u7, rfl, t7⟩
   have k2 := MO.re t7 (Wr.trans t7.wr u6.wr t6.size)
   refine nt q8 (sr (fun _ k3 => pv (.int .i64 (0 : Int)) ?_))
   refine nt k3 (wp_ret ?_)
   have k4 := Evo.thenW t6 (Step.evo u7) u6.wr
   have r1 := Sub.trans s8 (Step.up u7)
   have r2 := News.step s9 u7
   refine end_ret hQ (.int .i64 (0 : Int)) (by kernel_rfl) ?_
   exact ⟨r0, (0 : Int), hp, k0, k1, step_of k4 v6 r1 r2, rfl, k2, (by decide : inR .i64 (0 : Int))⟩
def codec_Enc_Bytes_p (e : S_codec_Enc) (Q : S_codec_Enc → (List Int) → Prop) : Prop :=
 ((e.b.length ≤ 9223372036854775807) → (slices_Clone_byte_byte_p e.b (fun (z0 : (List Int)) => ((z0.length ≤ 9223372036854775807) → (slices_Clip_byte_byte_p z0 (fun (z1 : (List Int)) => ((z1.length ≤ 9223372036854775807) → Q e z1)))))))
set_option maxRecDepth 20000 in
set_option maxHeartbeats 4000000 in
theorem codec_Enc_Bytes_w {X : List Nat} {w : World} {e : S_codec_Enc} {z0 : Nat} {z1 : List Nat} {Q : S_codec_Enc → (List Int) → Prop} (y8 : Old X w) (y9 : MO o_codec_Enc 94 z1 w.heap.size X w z1 z0 e) (hp : codec_Enc_Bytes_p e Q) :
  Calls Tryz.prog 56 #[(.pointer (some ⟨z0, 0, none⟩))] w (Ret fun v w' => ∃ (u5 : S_codec_Enc) (v7 : (List Int)), Q u5 v7 ∧ ∃ (X' : List Nat) (u6 : List Nat) (z8 : Option Addr) (z9 : Nat), Step X w z1 X' w' ∧ v = (.slice z8 v7.length z9) ∧ MO o_codec_Enc 94 z1 w.heap.size X' w' u6 z0 u5 ∧ Sl (rInt .u8) X' w' z8 z9 v7) := by
 have hXo := y8
 have E0 : Evo z1 w w := RB.refl _ _ _
 have hS : Sub X X := Sub.refl _
 have hN : News X w X w := News.refl _ _
 have u7 : Sub z1 X := MO.mem y9
 unfold codec_Enc_Bytes_p at hp
 refine enter_ Tryz.func56 rfl 9 [(0, (.pointer (some ⟨z0, 0, none⟩)))] (by kernel_rfl) (fun Qe hQ => ?_)
 refine sr (fun _ s2 => pv (.slice none 0 0) ?_)
 refine nt s2 (sr (fun _ s3 => pv (.pointer (some ⟨z0, 0, none⟩)) ?_))
 refine pv (.pointer (some ⟨z0, 0, none⟩)) ?_
 obtain ⟨v0, v1, v2, y0, z4, s4, s5, u9⟩ := o_codec_Enc_open y9
 replace hp := hp (OS.len z4)
 refine pv (.pointer (some ⟨z0, 0, none⟩)) ?_
 refine pw (.slice v0 v1 v2) (x_load1 (by kernel_rfl) Tryz.isAgg32 (y0.2.1.cell' 0 rfl)) ?_
 refine sq (o_call 43 #[(.slice v0 e.b.length v2)] rfl (x_call Tryz.call43 (by rw [← show v1 = e.b.length from z4.1]; kernel_rfl)) (slices_Clone_byte_byte_w (X := X) (s := e.b) hXo (OS.sq z4) hp) ?_)
 rintro _ s7 ⟨v3, hp, t0, t1, t2, rfl, t3⟩
 obtain ⟨s8, z2, y1, v4⟩ := OS.own_in t3 t0 E0.size
 have t4 := v4 _ (OB.old y0)
 have t5 := v4 _ (OS.old z4)
 replace hp := hp (OS.len y1)
 have v8 := Sub.trans hS (Step.up z2)
 have y6 := Old.step hXo z2
 have t6 := Evo.then0 E0 (Step.evo z2)
 have v9 := News.step hN z2
 have v5 := OB.step0 y0 z2
 have y2 := OS.step0 z4 z2
 have u1 := OS.apold y1 y8
 obtain ⟨y3, y4, t7, z5⟩ := OS.release y1
 have y7 := Old.less y6 y4
 refine sq (o_call 42 #[(.slice t1 v3.length t2)] rfl (x_call Tryz.call42 (by kernel_rfl)) (slices_Clip_byte_byte_w (X := y3) (s := v3) y7 t7 hp) ?_)
 rintro _ s9 ⟨z3, hp, v6, z6, rfl, y5⟩
 have z7 := Step.of0 y3 v6
 replace hp := hp (Sl.len y5)
 refine pv (.slice z6 z3.length z3.length) ?_
 refine nt s3 (wp_ret ?_)
 have t8 := Evo.then0 t6 v6
 have u2 := Sub.trans (z5 _ u1 v8) (Step.up z7)
 have u3 := News.step (News.less v9 y4) z7
 have t9 := OB.step0 (OB.less v5 (z5 _ t4 (OB.mem v5))) z7
 have u4 := OS.step0 (OS.less y2 y4 (z5 _ t5 (OS.mem y2))) z7
 obtain ⟨s0, s1, s6⟩ := MO.pack (o_codec_Enc_mk t9 u4 u9)
 refine end_ret hQ (.slice z6 z3.length z3.length) (by kernel_rfl) ?_
 exact ⟨e, z3, hp, y3, s0, z6, z3.length, step_of t8 u7 u2 u3, rfl, s1, y5⟩
end Go.Proofs.YtlkfoebophjhfaaGreatDoor
