/- Walks of functions: what each asks and computes, as a plain predicate, and the contract from it. -/
import Derived.Test.YtlkfoebophjhfaaGreatDoorChecked
import Derived.Test.YtlkfoebophjhfaaGreatDoorJa9
namespace Go.Proofs.YtlkfoebophjhfaaGreatDoor
open Go
def rectolaw6_after_p (a : (List S_rectolaw6_file)) (l : (List S_journal_Change)) (Q : (List S_rectolaw6_file) → Bool → Prop) : Prop :=
 ((a.length ≤ 9223372036854775807) → ((l.length ≤ 9223372036854775807) → (∃ (y2 : (List S_rectolaw6_file) → Int → Prop) (v1 : (List S_rectolaw6_file) → Int → Nat), (y2 a (0 : Int)) ∧ (∀ (z1 : (List S_rectolaw6_file)) (z0 : Int), (y2 z1 z0) → (z1.length ≤ 9223372036854775807) → (inR .i64 z0) → (((z0 < (l.length : Int)) → ((inL l z0) ∧ ((((lget l z0).Path).size ≤ maxLen) → ((inR .i64 ((lget l z0).Mode)) → ((((lget l z0).Data).length ≤ 9223372036854775807) → ((inL l z0) ∧ ((((lget l z0).Path).size ≤ maxLen) → ((inR .i64 ((lget l z0).Mode)) → ((((lget l z0).Data).length ≤ 9223372036854775807) → ((inL l z0) ∧ ((((lget l z0).Path).size ≤ maxLen) → ((inR .i64 ((lget l z0).Mode)) → ((((lget l z0).Data).length ≤ 9223372036854775807) → ((inL l z0) ∧ ((((lget l z0).Path).size ≤ maxLen) → ((inR .i64 ((lget l z0).Mode)) → ((((lget l z0).Data).length ≤ 9223372036854775807) → (∃ (y3 : (List S_rectolaw6_file) → Bool → Int → Prop) (v2 : (List S_rectolaw6_file) → Bool → Int → Nat), (y3 ([] : List S_rectolaw6_file) ((lget l z0).Gone) (0 : Int)) ∧ (∀ (z4 : (List S_rectolaw6_file)) (z6 : Bool) (z2 : Int), (y3 z4 z6 z2) → (z4.length ≤ 9223372036854775807) → (inR .i64 z2) → (((z2 < (z1.length : Int)) → (∃ y4 : (List S_rectolaw6_file) → Bool → Prop, (∀ (z8 : (List S_rectolaw6_file)) (y0 : Bool), y4 z8 y0 → (z8.length ≤ 9223372036854775807) → ((inR .i64 (z2 + (1 : Int))) ∧ ((y3 z8 y0 (z2 + (1 : Int))) ∧ v2 z8 y0 (z2 + (1 : Int)) < v2 z4 z6 z2))) ∧ (∃ y5 : Bool → Prop, (∀ (y6 : Bool), y5 y6 → (∃ y7 : (List S_rectolaw6_file) → Bool → Prop, (∀ (z7 : (List S_rectolaw6_file)) (y1 : Bool), y7 z7 y1 → (z7.length ≤ 9223372036854775807) → ((inL z1 z2) ∧ ((((lget z1 z2).path).size ≤ maxLen) → ((inR .i64 ((lget z1 z2).mode)) → ((((lget z1 z2).data).size ≤ maxLen) → (((¬ (((lget z1 z2).path : ByteArray) = (lget l z0).Path)) → ((inL z1 z2) ∧ ((((lget z1 z2).path).size ≤ maxLen) → ((inR .i64 ((lget z1 z2).mode)) → ((((lget z1 z2).data).size ≤ maxLen) → (((z7.length + ([(lget z1 z2)]).length) * 40 ≤ 140737488355328) ∧ (y4 (z7 ++ ([(lget z1 z2)])) y1))))))) ∧ ((((lget z1 z2).path : ByteArray) = (lget l z0).Path) → (y4 z7 y1)))))))) ∧ (((y6 = true) → (((z4.length + ([(S_rectolaw6_file.mk ((lget l z0).Path) ((lget l z0).Mode) (strOfNums ((lget l z0).Data)))]).length) * 40 ≤ 140737488355328) ∧ (∀ v3 : List S_rectolaw6_file, v3 = (z4 ++ ([(S_rectolaw6_file.mk ((lget l z0).Path) ((lget l z0).Mode) (strOfNums ((lget l z0).Data)))])) → (y7 v3 true)))) ∧ ((y6 = false) → (y7 z4 z6))))) ∧ (((z6 = true) → (y5 false)) ∧ ((¬ (z6 = true)) → ((inL z1 z2) ∧ ((((lget z1 z2).path).size ≤ maxLen) → ((inR .i64 ((lget z1 z2).mode)) → ((((lget z1 z2).data).size ≤ maxLen) → (y5 (!(sless ((lget z1 z2).path) ((lget l z0).Path) || decide (((lget z1 z2).path) = ((lget l z0).Path)))))))))))))) ∧ ((¬ (z2 < (z1.length : Int))) → (∃ y8 : (List S_rectolaw6_file) → Prop, (∀ (z9 : (List S_rectolaw6_file)), y8 z9 → (z9.length ≤ 9223372036854775807) → ((inR .i64 (z0 + (1 : Int))) ∧ ((y2 z9 (z0 + (1 : Int))) ∧ v1 z9 (z0 + (1 : Int)) < v1 z1 z0))) ∧ ((((!z6) = true) → (((z4.length + ([(S_rectolaw6_file.mk ((lget l z0).Path) ((lget l z0).Mode) (strOfNums ((lget l z0).Data)))]).length) * 40 ≤ 140737488355328) ∧ (∀ v4 : List S_rectolaw6_file, v4 = (z4 ++ ([(S_rectolaw6_file.mk ((lget l z0).Path) ((lget l z0).Mode) (strOfNums ((lget l z0).Data)))])) → (y8 v4)))) ∧ (((!z6) = false) → (y8 z4))))))))))))))))))))))))) ∧ ((¬ (z0 < (l.length : Int))) → (∃ (y9 : Int → Prop) (v5 : Int → Nat), (y9 (0 : Int)) ∧ (∀ (z3 : Int), (y9 z3) → (inR .i64 z3) → (((z3 < (z1.length : Int)) → (∃ (v0 : Int → Prop) (v6 : Int → Nat), (v0 (0 : Int)) ∧ (∀ (z5 : Int), (v0 z5) → (inR .i64 z5) → (((z5 < z3) → ((inL z1 z5) ∧ ((((lget z1 z5).path).size ≤ maxLen) → ((inR .i64 ((lget z1 z5).mode)) → ((((lget z1 z5).data).size ≤ maxLen) → ((inL z1 z3) ∧ ((((lget z1 z3).path).size ≤ maxLen) → ((inR .i64 ((lget z1 z3).mode)) → ((((lget z1 z3).data).size ≤ maxLen) → (rectoref1_Clash_p ((lget z1 z5).path) ((lget z1 z3).path) (fun (v7 : Bool) => (((v7 = true) → Q z1 false) ∧ ((v7 = false) → ((inR .i64 (z5 + (1 : Int))) ∧ ((v0 (z5 + (1 : Int))) ∧ v6 (z5 + (1 : Int)) < v6 z5))))))))))))))) ∧ ((¬ (z5 < z3)) → ((inR .i64 (z3 + (1 : Int))) ∧ ((y9 (z3 + (1 : Int))) ∧ v5 (z3 + (1 : Int)) < v5 z3))))))) ∧ ((¬ (z3 < (z1.length : Int))) → Q z1 true))))))))))
set_option maxRecDepth 20000 in
set_option maxHeartbeats 4000000 in
theorem rectolaw6_after_w {X : List Nat} {w : World} {a : (List S_rectolaw6_file)} {l : (List S_journal_Change)} {n0 : Option Addr} {n1 : Nat} {v3 : Option Addr} {y2 : Nat} {Q : (List S_rectolaw6_file) → Bool → Prop} (E3 : Old X w) (E4 : Sl r_rectolaw6_file X w n0 n1 a) (E5 : Sl r_journal_Change X w v3 y2 l) (hp : rectolaw6_after_p a l Q) :
  Calls Tryz.prog 10 #[(.slice n0 a.length n1), (.slice v3 l.length y2)] w (Ret fun v w' => ∃ (E6 : (List S_rectolaw6_file)) (E7 : Bool), Q E6 E7 ∧ Evo [] w w' ∧ ∃ (Z6 : Option Addr) (Z7 : Nat), v = .tuple #[(.slice Z6 E6.length Z7), (.bool E7)] ∧ Sl r_rectolaw6_file X w' Z6 Z7 E6) := by
 have hXo := E3
 have E0 : Evo [] w w := RB.refl _ _ _
 have hS : Sub X X := Sub.refl _
 unfold rectolaw6_after_p at hp
 refine enter_ Tryz.func10 rfl 109 [(0, (.slice n0 a.length n1)), (1, (.slice v3 l.length y2))] (by kernel_rfl) (fun Qe hQ => ?_)
 replace hp := hp (Sl.len E4)
 replace hp := hp (Sl.len E5)
 refine seq_ (fun _ u00 => ?_)
 refine reg_ ?_
 refine sq (o_pv (.slice none 0 0) rfl (by kernel_rfl) ?_)
 refine sq (o_pv (.bool false) rfl (by kernel_rfl) ?_)
 refine nil_ ?_
 refine then_normal (u00 _ _ _ _ ?_)
 refine seq_ (fun _ t00 => ?_)
 refine seq_ (fun _ s00 => ?_)
 refine reg_ ?_
 refine sq (o_pv (.int .i64 (0 : Int)) rfl (by kernel_rfl) ?_)
 refine nil_ ?_
 refine then_normal (s00 _ _ _ _ ?_)
 refine wp_block ?_
 obtain ⟨L0, c2, Z8, hp⟩ := hp
 refine loop_ 38685626227668133590591425 (fun kq lq v4 => ∃ (v5 : List Nat) (z1 : (List S_rectolaw6_file)) (z0 : Int) (z5 : Option Addr) (z3 : Nat), (lq = [(0, (.slice z5 z1.length z3)), (6, (.int .i64 z0))]) ∧ (kq = c2 z1 z0) ∧ (Evo [] w v4) ∧ (Old v5 v4) ∧ (Sub X v5) ∧ (Sl r_journal_Change v5 v4 v3 y2 l) ∧ (Sl r_rectolaw6_file v5 v4 z5 z3 z1) ∧ (inR .i64 z0) ∧ (L0 z1 z0)) (c2 a (0 : Int)) [(0, (.slice n0 a.length n1)), (6, (.int .i64 (0 : Int)))] (vs_cons (by kernel_rfl) (vs_cons (by kernel_rfl) vs_nil)) ⟨X, a, (0 : Int), n0, n1, rfl, rfl, E0, hXo, hS, E5, E4, (by decide : inR .i64 (0 : Int)), Z8⟩ ?_
 rintro _ _ v4 S9 ⟨v5, z1, z0, z5, z3, rfl, rfl, c3, j2, n2, n3, j7, Z9, Y0⟩ E8 Y1
 replace hp := hp z1 z0 Y0 (Sl.len j7) Z9
 refine seq_ (fun _ L1 => ?_)
 refine seq_ (fun _ L2 => ?_)
 refine reg_ ?_
 refine sq (o_pv (.int .i64 z0) rfl (by kernel_rfl) ?_)
 refine sq (o_pv (.slice v3 l.length y2) rfl (by kernel_rfl) ?_)
 refine sq (o_pv (.int .i64 (l.length : Int)) rfl (by kernel_rfl) ?_)
 refine sq (o_pv (.bool (decide (z0 < (l.length : Int)))) rfl (by kernel_rfl) ?_)
 refine nil_ ?_
 refine then_normal (L2 _ _ _ _ ?_)
 refine cond_d (z0 < (l.length : Int)) (by kernel_rfl) (fun j8 => ?_) (fun j8 => ?_)
 ·
  replace hp := hp.1 j8
  refine wp_skip ?_
  refine then_normal (L1 _ _ _ _ ?_)
  refine seq_ (fun _ L3 => ?_)
  refine wp_block ?_
  refine seq_ (fun _ L4 => ?_)
  refine reg_ ?_
  refine sq (o_pv (.slice none 0 0) rfl (by kernel_rfl) ?_)
  refine nil_ ?_
  refine then_normal (L4 _ _ _ _ ?_)
  refine seq_ (fun _ L5 => ?_)
  refine reg_ ?_
  refine sq (o_pv (.slice v3 l.length y2) rfl (by kernel_rfl) ?_)
  refine sq (o_pv (.int .i64 z0) rfl (by kernel_rfl) ?_)
  obtain ⟨c4, hp⟩ := hp
  obtain ⟨c5, c6, E9, Y2, F0, F1, Y3, Y4⟩ := Sl.atI n3 z0 c4
  obtain ⟨L6, L7, rfl, j9, g0, g1⟩ := r_journal_Change_open Y3
  replace hp := hp j9
  replace hp := hp g0
  replace hp := hp (Sl.len g1)
  refine sq (o_pv (.pointer (some ⟨c5, c6 + z0.toNat * 4, none⟩)) rfl (x_ixA (m := l.length) (c := y2) (k := .i64) (i := z0) Tryz.underlying22 Tryz.sizeOf34 (by rw [← Y2]; kernel_rfl) (by kernel_rfl) c4) ?_)
  refine sq (o_pv (.pointer (some ⟨c5, c6 + z0.toNat * 4 + 1, none⟩)) rfl (by kernel_rfl) ?_)
  refine sq (o_pv (.bool ((lget l z0).Gone)) rfl (x_load1 (by kernel_rfl) Tryz.isAgg4 (Y4 1 _ rfl)) ?_)
  refine sq (o_pv (.bool ((lget l z0).Gone)) rfl (by kernel_rfl) ?_)
  refine nil_ ?_
  refine then_normal (L5 _ _ _ _ ?_)
  refine seq_ (fun _ L8 => ?_)
  refine reg_drawn (RB v4.heap.size []) 18 (by kernel_rfl) (fun c7 k5 => ?_)
  have L9 := Evo.of_drew k5
  have t5 : c7.heap.size = v4.heap.size := by rw [k5]
  clear k5
  have s3 := Step.of0 v5 L9
  have v8 := RB.refl v4.heap.size [] c7
  have c8 := (Evo.then0 c3 (Step.evo s3))
  have p4 := (Old.step j2 s3)
  have Y5 := (Sub.trans n2 (Step.up s3))
  have s4 := (Sl.step n3 s3)
  have K0 := (Sl.step j7 s3)
  refine r_take 0 (.slice v3 l.length y2) (RB.pre _ _) rfl (by kernel_rfl) (fun _ _ _ h => hQ.panic _ _ _ _ _ h) (.inl ⟨rfl, fun wq hq => (by kernel_rfl)⟩) ?_
  refine r_take 1 (.int .i64 z0) (RB.pre _ _) rfl (by kernel_rfl) (fun _ _ _ h => hQ.panic _ _ _ _ _ h) (.inl ⟨rfl, fun wq hq => (by kernel_rfl)⟩) ?_
  obtain ⟨c9, hp⟩ := hp
  obtain ⟨a0, a1, F2, Y6, F3, Y7, Y8, Y9⟩ := Sl.atI s4 z0 c9
  obtain ⟨K1, K2, rfl, u1, g2, g3⟩ := r_journal_Change_open Y8
  replace hp := hp u1
  replace hp := hp g2
  replace hp := hp (Sl.len g3)
  refine r_take 2 (.pointer (some ⟨a0, a1 + z0.toNat * 4, none⟩)) (RB.pre _ _) rfl (by kernel_rfl) (fun _ _ _ h => hQ.panic _ _ _ _ _ h) (.inl ⟨rfl, fun wq hq => (x_ixA (m := l.length) (c := y2) (k := .i64) (i := z0) Tryz.underlying22 Tryz.sizeOf34 (by rw [← Y6]; kernel_rfl) (by kernel_rfl) c9)⟩) ?_
  refine r_take 3 (.pointer (some ⟨a0, a1 + z0.toNat * 4, none⟩)) (RB.pre _ _) rfl (by kernel_rfl) (fun _ _ _ h => hQ.panic _ _ _ _ _ h) (.inl ⟨rfl, fun wq hq => (by kernel_rfl)⟩) ?_
  refine r_take 4 (.string ((lget l z0).Path)) (RB.pre _ _) rfl (by kernel_rfl) (fun _ _ _ h => hQ.panic _ _ _ _ _ h) (.inl ⟨rfl, fun wq hq => (x_load1 (by kernel_rfl) Tryz.isAgg9 ((CellsAt.rb Y9 (RB.trans v8 hq) (Nat.lt_of_lt_of_eq Y7 t5) (fun h => by cases h)) 0 _ rfl))⟩) ?_
  refine r_take 5 (.slice v3 l.length y2) (RB.pre _ _) rfl (by kernel_rfl) (fun _ _ _ h => hQ.panic _ _ _ _ _ h) (.inl ⟨rfl, fun wq hq => (by kernel_rfl)⟩) ?_
  refine r_take 6 (.int .i64 z0) (RB.pre _ _) rfl (by kernel_rfl) (fun _ _ _ h => hQ.panic _ _ _ _ _ h) (.inl ⟨rfl, fun wq hq => (by kernel_rfl)⟩) ?_
  obtain ⟨a2, hp⟩ := hp
  obtain ⟨a3, a4, F4, V0, F5, V1, V2, V3⟩ := Sl.atI s4 z0 a2
  obtain ⟨K3, K4, rfl, g4, u2, g5⟩ := r_journal_Change_open V2
  replace hp := hp g4
  replace hp := hp u2
  replace hp := hp (Sl.len g5)
  refine r_take 7 (.pointer (some ⟨a3, a4 + z0.toNat * 4, none⟩)) (RB.pre _ _) rfl (by kernel_rfl) (fun _ _ _ h => hQ.panic _ _ _ _ _ h) (.inl ⟨rfl, fun wq hq => (x_ixA (m := l.length) (c := y2) (k := .i64) (i := z0) Tryz.underlying22 Tryz.sizeOf34 (by rw [← V0]; kernel_rfl) (by kernel_rfl) a2)⟩) ?_
  refine r_take 8 (.pointer (some ⟨a3, a4 + z0.toNat * 4 + 2, none⟩)) (RB.pre _ _) rfl (by kernel_rfl) (fun _ _ _ h => hQ.panic _ _ _ _ _ h) (.inl ⟨rfl, fun wq hq => (by kernel_rfl)⟩) ?_
  refine r_take 9 (.int .i64 ((lget l z0).Mode)) (RB.pre _ _) rfl (by kernel_rfl) (fun _ _ _ h => hQ.panic _ _ _ _ _ h) (.inl ⟨rfl, fun wq hq => (x_load1 (by kernel_rfl) Tryz.isAgg3 ((CellsAt.rb V3 (RB.trans v8 hq) (Nat.lt_of_lt_of_eq V1 t5) (fun h => by cases h)) 2 _ rfl))⟩) ?_
  refine r_take 10 (.slice v3 l.length y2) (RB.pre _ _) rfl (by kernel_rfl) (fun _ _ _ h => hQ.panic _ _ _ _ _ h) (.inl ⟨rfl, fun wq hq => (by kernel_rfl)⟩) ?_
  refine r_take 11 (.int .i64 z0) (RB.pre _ _) rfl (by kernel_rfl) (fun _ _ _ h => hQ.panic _ _ _ _ _ h) (.inl ⟨rfl, fun wq hq => (by kernel_rfl)⟩) ?_
  obtain ⟨a5, hp⟩ := hp
  obtain ⟨a6, a7, F6, V4, F7, V5, V6, V7⟩ := Sl.atI s4 z0 a5
  obtain ⟨s5, s6, rfl, g6, g7, u3⟩ := r_journal_Change_open V6
  replace hp := hp g6
  replace hp := hp g7
  replace hp := hp (Sl.len u3)
  refine r_take 12 (.pointer (some ⟨a6, a7 + z0.toNat * 4, none⟩)) (RB.pre _ _) rfl (by kernel_rfl) (fun _ _ _ h => hQ.panic _ _ _ _ _ h) (.inl ⟨rfl, fun wq hq => (x_ixA (m := l.length) (c := y2) (k := .i64) (i := z0) Tryz.underlying22 Tryz.sizeOf34 (by rw [← V4]; kernel_rfl) (by kernel_rfl) a5)⟩) ?_
  refine r_take 13 (.pointer (some ⟨a6, a7 + z0.toNat * 4 + 3, none⟩)) (RB.pre _ _) rfl (by kernel_rfl) (fun _ _ _ h => hQ.panic _ _ _ _ _ h) (.inl ⟨rfl, fun wq hq => (by kernel_rfl)⟩) ?_
  refine r_take 14 (.slice s5 (((lget l z0).Data).length) s6) (RB.pre _ _) rfl (by kernel_rfl) (fun _ _ _ h => hQ.panic _ _ _ _ _ h) (.inl ⟨rfl, fun wq hq => (x_load1 (by kernel_rfl) Tryz.isAgg32 ((CellsAt.rb V7 (RB.trans v8 hq) (Nat.lt_of_lt_of_eq V5 t5) (fun h => by cases h)) 3 _ rfl))⟩) ?_
  have n4 := Sl.len u3
  refine r_take 15 (.string (strOfNums ((lget l z0).Data))) (RB.pre _ _) rfl (by kernel_rfl) (fun _ _ _ h => hQ.panic _ _ _ _ _ h) (.inl ⟨rfl, fun wq hq => (x_b2s_sl (a := s5) (len := ((lget l z0).Data).length) (c := s6) ((lget l z0).Data) Tryz.underlying32 Tryz.underlying5 Tryz.underlying9 (by kernel_rfl) rfl (Sl.step u3 (stepR (RB.trans v8 hq) t5 (Sub.nil _))))⟩) ?_
  refine r_take 16 (.agg #[(.string ((lget l z0).Path)), (.int .i64 ((lget l z0).Mode)), (.string (strOfNums ((lget l z0).Data)))]) (RB.pre _ _) rfl (by kernel_rfl) (fun _ _ _ h => hQ.panic _ _ _ _ _ h) (.inl ⟨rfl, fun wq hq => (by kernel_rfl)⟩) ?_
  refine r_ready [17] (by kernel_rfl) rfl (all_cons ⟨_, _, _, _, _, _, rfl, ?_⟩ all_nil)
  refine o_newX [(.string (ByteArray.mk #[])), (.int .i64 (0 : Int)), (.string (ByteArray.mk #[]))] 41 (X := v5) (B := w.heap.size) c8.size rfl (by kernel_rfl) ?_
  intro y5 A0 K5 t6 a8 K6
  have rm := RB.mono (F' := []) (Step.evo t6) (Nat.le_trans (Nat.le_of_eq t5.symm) (RB.size v8)) (fun _ h => by cases h)
  refine ⟨fun _ => rm, ?_⟩
  have F8 := apge K6 (Nat.le_trans (Nat.le_of_eq t5.symm) (RB.size v8))
  refine r_ready [18] (by kernel_rfl) rfl (all_cons ⟨_, _, _, _, _, _, rfl, ?_⟩ all_nil)
  have K7 := (Evo.then0 c8 (Step.evo t6))
  refine o_stB (o := 0) (v := (.agg #[(.string ((lget l z0).Path)), (.int .i64 ((lget l z0).Mode)), (.string (strOfNums ((lget l z0).Data)))])) [(.string ((lget l z0).Path)), (.int .i64 ((lget l z0).Mode)), (.string (strOfNums ((lget l z0).Data)))] rfl a8 (by kernel_rfl) (by kernel_rfl) Tryz.sizeOf41 rfl rfl rfl ?_
  intro A1 s7 K8
  refine ⟨fun h => absurd h (by decide), ?_⟩
  refine r_done (by kernel_rfl) ?_
  refine then_normal (L8 _ _ _ _ ?_)
  refine seq_ (fun _ K9 => ?_)
  refine seq_ (fun _ J0 => ?_)
  refine reg_ ?_
  refine sq (o_pv (.int .i64 (0 : Int)) rfl (by kernel_rfl) ?_)
  refine nil_ ?_
  refine then_normal (J0 _ _ _ _ ?_)
  refine wp_block ?_
  have J1 := (Evo.thenW K7 (Step.evo s7) a8.2.2)
  have p5 := (Old.step (Old.step p4 t6) s7)
  have V8 := (Sub.trans (Sub.trans Y5 (Step.up t6)) (Step.up s7))
  have V9 := (Sl.step (Sl.step s4 t6) s7)
  have J2 := (Sl.step (Sl.step K0 t6) s7)
  obtain ⟨J3, a9, U0, hp⟩ := hp
  refine loop_ 302231454901458270422400 (fun kq lq y6 => ∃ (z9 : List Nat) (z7 : (List S_rectolaw6_file)) (z8 : Bool) (z2 : Int) (y0 : Option Addr) (y7 : Nat) (y8 : Nat), (lq = [(7, (.slice y0 y7 y8)), (8, (.bool z8)), (10, (.int .i64 z2))]) ∧ (kq = a9 z7 z8 z2) ∧ (Evo [] w y6) ∧ (Old z9 y6) ∧ (Sub X z9) ∧ (Sl r_rectolaw6_file z9 y6 z5 z3 z1) ∧ (Sl r_journal_Change z9 y6 v3 y2 l) ∧ (OB ([]) w.heap.size z9 y6 y5 [(.string ((lget l z0).Path)), (.int .i64 ((lget l z0).Mode)), (.string (strOfNums ((lget l z0).Data)))] 41) ∧ (OS r_rectolaw6_file ([]) w.heap.size z9 y6 41 y0 y7 y8 z7) ∧ (Ap ([y5]) (blkL y0)) ∧ (inR .i64 z2) ∧ (J3 z7 z8 z2)) (a9 ([] : List S_rectolaw6_file) ((lget l z0).Gone) (0 : Int)) [(7, (.slice none 0 0)), (8, (.bool ((lget l z0).Gone))), (10, (.int .i64 (0 : Int)))] (vs_cons (by kernel_rfl) (vs_cons (by kernel_rfl) (vs_cons (by kernel_rfl) vs_nil))) ⟨K5, ([] : List S_rectolaw6_file), ((lget l z0).Gone), (0 : Int), none, 0, 0, rfl, rfl, J1, p5, V8, J2, V9, K8, (OS.nil _ _ _ _), (Ap.nil_r _), (by decide : inR .i64 (0 : Int)), U0⟩ ?_
  rintro _ _ y6 A2 ⟨z9, z7, z8, z2, y0, y7, y8, rfl, rfl, q3, q2, k6, J4, k7, e0, q4, s8, U1, U2⟩ F9 U3
  replace hp := hp z7 z8 z2 U2 (OS.len q4) U1
  refine seq_ (fun _ J5 => ?_)
  refine seq_ (fun _ J6 => ?_)
  refine reg_ ?_
  refine sq (o_pv (.int .i64 z2) rfl (by kernel_rfl) ?_)
  refine sq (o_pv (.slice z5 z1.length z3) rfl (by kernel_rfl) ?_)
  refine sq (o_pv (.int .i64 (z1.length : Int)) rfl (by kernel_rfl) ?_)
  refine sq (o_pv (.bool (decide (z2 < (z1.length : Int)))) rfl (by kernel_rfl) ?_)
  refine nil_ ?_
  refine then_normal (J6 _ _ _ _ ?_)
  refine cond_d (z2 < (z1.length : Int)) (by kernel_rfl) (fun g8 => ?_) (fun g8 => ?_)
  ·
   replace hp := hp.1 g8
   refine wp_skip ?_
   refine then_normal (J5 _ _ _ _ ?_)
   refine seq_ (fun _ J7 => ?_)
   obtain ⟨J8, U4, hp⟩ := hp
   refine ground_ ?_
   refine join_ 302231454762919805321600 (fun lq u4 => ∃ (v6 : List Nat) (v9 : (List S_rectolaw6_file)) (v2 : Bool) (t7 : Option Addr) (s9 : Nat) (r0 : Nat), (lq = [(7, (.slice t7 s9 r0)), (8, (.bool v2))]) ∧ (Evo [] w u4) ∧ (Old v6 u4) ∧ (Sub X v6) ∧ (Sl r_rectolaw6_file v6 u4 z5 z3 z1) ∧ (Sl r_journal_Change v6 u4 v3 y2 l) ∧ (OB ([]) w.heap.size v6 u4 y5 [(.string ((lget l z0).Path)), (.int .i64 ((lget l z0).Mode)), (.string (strOfNums ((lget l z0).Data)))] 41) ∧ (OS r_rectolaw6_file ([]) w.heap.size v6 u4 41 t7 s9 r0 v9) ∧ (Ap ([y5]) (blkL t7)) ∧ (J8 v9 v2)) (fun O0 n5 => ?_) ?_
   ·
    refine wp_block ?_
    refine seq_ (fun _ J9 => ?_)
    refine seq_ (fun _ I0 => ?_)
    obtain ⟨I1, U5, hp⟩ := hp
    refine ground_ ?_
    refine join_ 576320014815068160 (fun lq u5 => ∃ (v1 : List Nat) (r1 : Bool), (lq = [(58, (.bool r1))]) ∧ (Evo [] w u5) ∧ (Old v1 u5) ∧ (Sub X v1) ∧ (Sl r_rectolaw6_file v1 u5 z5 z3 z1) ∧ (Sl r_journal_Change v1 u5 v3 y2 l) ∧ (OS r_rectolaw6_file ([]) w.heap.size v1 u5 41 y0 y7 y8 z7) ∧ (OB ([]) w.heap.size v1 u5 y5 [(.string ((lget l z0).Path)), (.int .i64 ((lget l z0).Mode)), (.string (strOfNums ((lget l z0).Data)))] 41) ∧ (Ap (blkL y0) ([y5])) ∧ (I1 r1)) (fun O1 n6 => ?_) ?_
    ·
     refine reg_drawn (RB y6.heap.size []) 12 (by kernel_rfl) (fun e1 k8 => ?_)
     have I2 := Evo.of_drew k8
     have e2 : e1.heap.size = y6.heap.size := by rw [k8]
     clear k8
     have u6 := Step.of0 z9 I2
     have n7 := RB.refl y6.heap.size [] e1
     have e3 := (Evo.then0 q3 (Step.evo u6))
     have j3 := (Old.step q2 u6)
     have n8 := (Sub.trans k6 (Step.up u6))
     have g9 := (Sl.step J4 u6)
     have n9 := (Sl.step k7 u6)
     have q5 := (OB.step0 e0 u6)
     have e4 := (OS.step0 q4 u6)
     by_cases q6 : z8 = true
     ·
      replace hp := hp.1 q6
      refine r_take 0 (.bool true) (RB.pre _ _) rfl (by kernel_rfl) (fun _ _ _ h => hQ.panic _ _ _ _ _ h) (.inl ⟨rfl, fun wq hq => (x_bt (by kernel_rfl) q6)⟩) ?_
      refine r_take 1 (.bool false) (RB.pre _ _) rfl (by kernel_rfl) (fun _ _ _ h => hQ.panic _ _ _ _ _ h) (.inl ⟨rfl, fun wq hq => (by kernel_rfl)⟩) ?_
      refine r_take 2 (.bool false) (RB.pre _ _) rfl (by kernel_rfl) (fun _ _ _ h => hQ.panic _ _ _ _ _ h) (.inl ⟨rfl, fun wq hq => (by kernel_rfl)⟩) ?_
      refine r_take 3 undef (RB.pre _ _) rfl (by kernel_rfl) (fun _ _ _ h => hQ.panic _ _ _ _ _ h) (.inr ⟨by kernel_rfl, rfl⟩) ?_
      refine r_take 4 undef (RB.pre _ _) rfl (by kernel_rfl) (fun _ _ _ h => hQ.panic _ _ _ _ _ h) (.inr ⟨by kernel_rfl, rfl⟩) ?_
      refine r_take 5 undef (RB.pre _ _) rfl (by kernel_rfl) (fun _ _ _ h => hQ.panic _ _ _ _ _ h) (.inr ⟨by kernel_rfl, rfl⟩) ?_
      refine r_take 6 undef (RB.pre _ _) rfl (by kernel_rfl) (fun _ _ _ h => hQ.panic _ _ _ _ _ h) (.inr ⟨by kernel_rfl, rfl⟩) ?_
      refine r_take 7 undef (RB.pre _ _) rfl (by kernel_rfl) (fun _ _ _ h => hQ.panic _ _ _ _ _ h) (.inr ⟨by kernel_rfl, rfl⟩) ?_
      refine r_take 8 undef (RB.pre _ _) rfl (by kernel_rfl) (fun _ _ _ h => hQ.panic _ _ _ _ _ h) (.inr ⟨by kernel_rfl, rfl⟩) ?_
      refine r_take 9 undef (RB.pre _ _) rfl (by kernel_rfl) (fun _ _ _ h => hQ.panic _ _ _ _ _ h) (.inr ⟨by kernel_rfl, rfl⟩) ?_
      refine r_take 10 undef (RB.pre _ _) rfl (by kernel_rfl) (fun _ _ _ h => hQ.panic _ _ _ _ _ h) (.inr ⟨by kernel_rfl, rfl⟩) ?_
      refine r_take 11 (.bool false) (RB.pre _ _) rfl (by kernel_rfl) (fun _ _ _ h => hQ.panic _ _ _ _ _ h) (.inl ⟨rfl, fun wq hq => (by kernel_rfl)⟩) ?_
      refine r_done (by kernel_rfl) ?_
      refine then_normal (n6 _ _ _ ⟨[(58, (.bool false))], fit_mk (fun _ _ => rfl) (by kernel_rfl) (vs_cons (by kernel_rfl) vs_nil), ?_⟩)
      exact ⟨z9, false, rfl, e3, j3, n8, g9, n9, e4, q5, (Ap.symm s8), hp⟩
     ·
      replace hp := hp.2 q6
      refine r_take 0 (.bool false) (RB.pre _ _) rfl (by kernel_rfl) (fun _ _ _ h => hQ.panic _ _ _ _ _ h) (.inl ⟨rfl, fun wq hq => (x_bf (by kernel_rfl) q6)⟩) ?_
      refine r_take 1 (.bool true) (RB.pre _ _) rfl (by kernel_rfl) (fun _ _ _ h => hQ.panic _ _ _ _ _ h) (.inl ⟨rfl, fun wq hq => (by kernel_rfl)⟩) ?_
      refine r_take 2 (.bool true) (RB.pre _ _) rfl (by kernel_rfl) (fun _ _ _ h => hQ.panic _ _ _ _ _ h) (.inl ⟨rfl, fun wq hq => (by kernel_rfl)⟩) ?_
      refine r_take 3 (.slice z5 z1.length z3) (RB.pre _ _) rfl (by kernel_rfl) (fun _ _ _ h => hQ.panic _ _ _ _ _ h) (.inl ⟨(by kernel_rfl), fun wq hq => (by kernel_rfl)⟩) ?_
      refine r_take 4 (.int .i64 z2) (RB.pre _ _) rfl (by kernel_rfl) (fun _ _ _ h => hQ.panic _ _ _ _ _ h) (.inl ⟨(by kernel_rfl), fun wq hq => (by kernel_rfl)⟩) ?_
      obtain ⟨e5, hp⟩ := hp
      obtain ⟨e6, e7, O2, U6, O3, U7, U8, U9⟩ := Sl.atI g9 z2 e5
      obtain ⟨rfl, d0, d1, d2⟩ := r_rectolaw6_file_open U8
      replace hp := hp d0
      replace hp := hp d1
      replace hp := hp d2
      refine r_take 5 (.pointer (some ⟨e6, e7 + z2.toNat * 3, none⟩)) (RB.pre _ _) rfl (by kernel_rfl) (fun _ _ _ h => hQ.panic _ _ _ _ _ h) (.inl ⟨(by kernel_rfl), fun wq hq => (x_ixA (m := z1.length) (c := z3) (k := .i64) (i := z2) Tryz.underlying27 Tryz.sizeOf41 (by rw [← U6]; kernel_rfl) (by kernel_rfl) e5)⟩) ?_
      refine r_take 6 (.pointer (some ⟨e6, e7 + z2.toNat * 3, none⟩)) (RB.pre _ _) rfl (by kernel_rfl) (fun _ _ _ h => hQ.panic _ _ _ _ _ h) (.inl ⟨(by kernel_rfl), fun wq hq => (by kernel_rfl)⟩) ?_
      refine r_take 7 (.string ((lget z1 z2).path)) (RB.pre _ _) rfl (by kernel_rfl) (fun _ _ _ h => hQ.panic _ _ _ _ _ h) (.inl ⟨(by kernel_rfl), fun wq hq => (x_load1 (by kernel_rfl) Tryz.isAgg9 ((CellsAt.rb U9 (RB.trans n7 hq) (Nat.lt_of_lt_of_eq U7 e2) (fun h => by cases h)) 0 _ rfl))⟩) ?_
      refine r_take 8 (.pointer (some ⟨y5, 0, none⟩)) (RB.pre _ _) rfl (by kernel_rfl) (fun _ _ _ h => hQ.panic _ _ _ _ _ h) (.inl ⟨(by kernel_rfl), fun wq hq => (by kernel_rfl)⟩) ?_
      refine r_take 9 (.string ((lget l z0).Path)) (RB.pre _ _) rfl (by kernel_rfl) (fun _ _ _ h => hQ.panic _ _ _ _ _ h) (.inl ⟨(by kernel_rfl), fun wq hq => (x_load1 (by kernel_rfl) Tryz.isAgg9 ((Blk.rb q5.2.1 (RB.trans n7 hq) (Nat.lt_of_lt_of_eq (Blk.lt q5.2.1) e2) (fun h => by cases h)).cell' 0 rfl))⟩) ?_
      refine r_take 10 (.bool (!(sless ((lget z1 z2).path) ((lget l z0).Path) || decide (((lget z1 z2).path) = ((lget l z0).Path))))) (RB.pre _ _) rfl (by kernel_rfl) (fun _ _ _ h => hQ.panic _ _ _ _ _ h) (.inl ⟨(by kernel_rfl), fun wq hq => (x_strgtr (by kernel_rfl) (by kernel_rfl))⟩) ?_
      refine r_take 11 (.bool (!(sless ((lget z1 z2).path) ((lget l z0).Path) || decide (((lget z1 z2).path) = ((lget l z0).Path))))) (RB.pre _ _) rfl (by kernel_rfl) (fun _ _ _ h => hQ.panic _ _ _ _ _ h) (.inl ⟨rfl, fun wq hq => (by kernel_rfl)⟩) ?_
      refine r_done (by kernel_rfl) ?_
      refine then_normal (n6 _ _ _ ⟨[(58, (.bool (!(sless ((lget z1 z2).path) ((lget l z0).Path) || decide (((lget z1 z2).path) = ((lget l z0).Path))))))], fit_mk (fun _ _ => rfl) (by kernel_rfl) (vs_cons (by kernel_rfl) vs_nil), ?_⟩)
      exact ⟨z9, (!(sless ((lget z1 z2).path) ((lget l z0).Path) || decide (((lget z1 z2).path) = ((lget l z0).Path)))), rfl, e3, j3, n8, g9, n9, e4, q5, (Ap.symm s8), hp⟩
    ·
     rintro _ u5 A3 ⟨v1, r1, rfl, d3, j4, o0, e8, o1, e9, d4, A4, T0⟩
     replace hp := U5 r1 T0
     refine then_normal (I0 _ _ _ _ ?_)
     obtain ⟨I3, T1, hp⟩ := hp
     refine ground_ ?_
     refine join_ 8646911284551352704 (fun lq y9 => ∃ (v0 : List Nat) (y3 : (List S_rectolaw6_file)) (y1 : Bool) (u7 : Option Addr) (t8 : Nat) (t9 : Nat), (lq = [(7, (.slice u7 t8 t9)), (8, (.bool y1))]) ∧ (Evo [] w y9) ∧ (Old v0 y9) ∧ (Sub X v0) ∧ (Sl r_rectolaw6_file v0 y9 z5 z3 z1) ∧ (Sl r_journal_Change v0 y9 v3 y2 l) ∧ (OB ([]) w.heap.size v0 y9 y5 [(.string ((lget l z0).Path)), (.int .i64 ((lget l z0).Mode)), (.string (strOfNums ((lget l z0).Data)))] 41) ∧ (OS r_rectolaw6_file ([]) w.heap.size v0 y9 41 u7 t8 t9 y3) ∧ (Ap ([y5]) (blkL u7)) ∧ (I3 y3 y1)) (fun O4 o2 => ?_) ?_
     ·
      refine cond_b r1 (by kernel_rfl) (fun d5 => ?_) (fun d5 => ?_)
      ·
       replace hp := hp.1 d5
       refine seq_ (fun _ I4 => ?_)
       refine reg_ ?_
       refine sq (o_pv (.slice y0 y7 y8) rfl (by kernel_rfl) ?_)
       refine sq (o_pv (.agg #[(.string ((lget l z0).Path)), (.int .i64 ((lget l z0).Mode)), (.string (strOfNums ((lget l z0).Data)))]) rfl (x_loadN [(.string ((lget l z0).Path)), (.int .i64 ((lget l z0).Mode)), (.string (strOfNums ((lget l z0).Data)))] (by kernel_rfl) Tryz.isAgg41 Tryz.sizeOf41 (d4.2.1.cells' 0 rfl)) ?_)
       refine sq (o_rowX (R := r_rectolaw6_file) [(.string ((lget l z0).Path)), (.int .i64 ((lget l z0).Mode)), (.string (strOfNums ((lget l z0).Data)))] [(S_rectolaw6_file.mk ((lget l z0).Path) ((lget l z0).Mode) (strOfNums ((lget l z0).Data)))] 41 1 (X := v1) (B := w.heap.size) d3.size rfl (by kernel_rfl) (Flat.cons (cs := [(.string ((lget l z0).Path)), (.int .i64 ((lget l z0).Mode)), (.string (strOfNums ((lget l z0).Data)))]) (r_rectolaw6_file_mk u1 u2 (strOfNums_le n4)) Flat.nil) rfl (by decide) ?_)
       intro A5 A6 I5 u9 i0 A7
       obtain ⟨I6, hp⟩ := hp
       have i1 := (OS.step0 e9 u9)
       have i2 := (OB.step0 d4 u9)
       have i3 := (Evo.then0 d3 (Step.evo u9))
       refine sq (o_appX (R := r_rectolaw6_file) (X := I5) (B := w.heap.size) (L := z7) (M := [(S_rectolaw6_file.mk ((lget l z0).Path) ((lget l z0).Mode) (strOfNums ((lget l z0).Data)))]) rfl elT27 rfl i3.size i1 (OS.src i0) i0.1 (by kernel_rfl) (by kernel_rfl) I6 ?_)
       intro d6 d7 d8 A8 I7 s0 i4 T2
       obtain ⟨i5, o3⟩ : ∃ y, y = (z7 ++ ([(S_rectolaw6_file.mk ((lget l z0).Path) ((lget l z0).Mode) (strOfNums ((lget l z0).Data)))])) := ⟨_, rfl⟩
       replace hp := hp i5 o3
       rw [← o3] at i4
       have I8 := T2 _ s8 (OB.old i2)
       refine sq (o_pv (.slice d6 d7 d8) rfl (by kernel_rfl) ?_)
       refine nil_ ?_
       refine then_normal (I4 _ _ _ _ ?_)
       refine reg_ ?_
       refine sq (o_pv (.bool true) rfl (by kernel_rfl) ?_)
       refine nil_ ?_
       have I9 := (Evo.thenW i3 (Step.evo s0) i1.2.2)
       have p6 := (Old.step (Old.step j4 u9) s0)
       have T3 := (Sub.trans (Sub.trans o0 (Step.up u9)) (Step.up s0))
       have H0 := (Sl.step (Sl.step e8 u9) s0)
       have T4 := (Sl.step (Sl.step o1 u9) s0)
       have H1 := (OB.step i2 s0 s8)
       refine then_normal (o2 _ _ _ ⟨[(7, (.slice d6 d7 d8)), (8, (.bool true))], fit_mk (fun _ _ => rfl) (by kernel_rfl) (vs_cons (by kernel_rfl) (vs_cons (by kernel_rfl) vs_nil)), ?_⟩)
       exact ⟨I7, i5, true, d6, d7, d8, rfl, I9, p6, T3, H0, T4, H1, i4, I8, hp⟩
      ·
       replace hp := hp.2 d5
       refine wp_skip ?_
       refine then_normal (o2 _ _ _ ⟨[(7, (.slice y0 y7 y8)), (8, (.bool z8))], fit_mk (fun _ _ => rfl) (by kernel_rfl) (vs_cons (by kernel_rfl) (vs_cons (by kernel_rfl) vs_nil)), ?_⟩)
       exact ⟨v1, z7, z8, y0, y7, y8, rfl, d3, j4, o0, e8, o1, d4, e9, s8, hp⟩
     ·
      rintro _ y9 A9 ⟨v0, y3, y1, u7, t8, t9, rfl, H2, p7, T5, H3, T6, H4, i6, d9, T7⟩
      replace hp := T1 y3 y1 T7 (OS.len i6)
      refine then_normal (J9 _ _ _ _ ?_)
      refine seq_ (fun _ H5 => ?_)
      refine reg_drawn (RB y9.heap.size []) 8 (by kernel_rfl) (fun i7 k9 => ?_)
      have H6 := Evo.of_drew k9
      have i9 : i7.heap.size = y9.heap.size := by rw [k9]
      clear k9
      have t0 := Step.of0 v0 H6
      have o4 := RB.refl y9.heap.size [] i7
      have l0 := (Evo.then0 H2 (Step.evo t0))
      have j5 := (Old.step p7 t0)
      have o5 := (Sub.trans T5 (Step.up t0))
      have q7 := (Sl.step H3 t0)
      have o6 := (Sl.step T6 t0)
      have q8 := (OB.step0 H4 t0)
      have h0 := (OS.step0 i6 t0)
      refine r_take 0 (.slice z5 z1.length z3) (RB.pre _ _) rfl (by kernel_rfl) (fun _ _ _ h => hQ.panic _ _ _ _ _ h) (.inl ⟨rfl, fun wq hq => (by kernel_rfl)⟩) ?_
      refine r_take 1 (.int .i64 z2) (RB.pre _ _) rfl (by kernel_rfl) (fun _ _ _ h => hQ.panic _ _ _ _ _ h) (.inl ⟨rfl, fun wq hq => (by kernel_rfl)⟩) ?_
      obtain ⟨h1, hp⟩ := hp
      obtain ⟨h2, h3, O5, T8, O6, T9, R1, R2⟩ := Sl.atI q7 z2 h1
      obtain ⟨rfl, l1, l2, l3⟩ := r_rectolaw6_file_open R1
      replace hp := hp l1
      replace hp := hp l2
      replace hp := hp l3
      refine r_take 2 (.pointer (some ⟨h2, h3 + z2.toNat * 3, none⟩)) (RB.pre _ _) rfl (by kernel_rfl) (fun _ _ _ h => hQ.panic _ _ _ _ _ h) (.inl ⟨rfl, fun wq hq => (x_ixA (m := z1.length) (c := z3) (k := .i64) (i := z2) Tryz.underlying27 Tryz.sizeOf41 (by rw [← T8]; kernel_rfl) (by kernel_rfl) h1)⟩) ?_
      refine r_take 3 (.pointer (some ⟨h2, h3 + z2.toNat * 3, none⟩)) (RB.pre _ _) rfl (by kernel_rfl) (fun _ _ _ h => hQ.panic _ _ _ _ _ h) (.inl ⟨rfl, fun wq hq => (by kernel_rfl)⟩) ?_
      refine r_take 4 (.string ((lget z1 z2).path)) (RB.pre _ _) rfl (by kernel_rfl) (fun _ _ _ h => hQ.panic _ _ _ _ _ h) (.inl ⟨rfl, fun wq hq => (x_load1 (by kernel_rfl) Tryz.isAgg9 ((CellsAt.rb R2 (RB.trans o4 hq) (Nat.lt_of_lt_of_eq T9 i9) (fun h => by cases h)) 0 _ rfl))⟩) ?_
      refine r_take 5 (.pointer (some ⟨y5, 0, none⟩)) (RB.pre _ _) rfl (by kernel_rfl) (fun _ _ _ h => hQ.panic _ _ _ _ _ h) (.inl ⟨rfl, fun wq hq => (by kernel_rfl)⟩) ?_
      refine r_take 6 (.string ((lget l z0).Path)) (RB.pre _ _) rfl (by kernel_rfl) (fun _ _ _ h => hQ.panic _ _ _ _ _ h) (.inl ⟨rfl, fun wq hq => (x_load1 (by kernel_rfl) Tryz.isAgg9 ((Blk.rb q8.2.1 (RB.trans o4 hq) (Nat.lt_of_lt_of_eq (Blk.lt q8.2.1) i9) (fun h => by cases h)).cell' 0 rfl))⟩) ?_
      refine r_take 7 (.bool (!decide (((lget z1 z2).path : ByteArray) = (lget l z0).Path))) (RB.pre _ _) rfl (by kernel_rfl) (fun _ _ _ h => hQ.panic _ _ _ _ _ h) (.inl ⟨rfl, fun wq hq => (x_strne (by kernel_rfl) (by kernel_rfl))⟩) ?_
      refine r_done (by kernel_rfl) ?_
      refine then_normal (H5 _ _ _ _ ?_)
      refine cond_nd (((lget z1 z2).path : ByteArray) = (lget l z0).Path) (by kernel_rfl) (fun l4 => ?_) (fun l4 => ?_)
      ·
       replace hp := hp.1 l4
       refine reg_ ?_
       refine sq (o_pv (.slice u7 t8 t9) rfl (by kernel_rfl) ?_)
       refine sq (o_pv (.slice z5 z1.length z3) rfl (by kernel_rfl) ?_)
       refine sq (o_pv (.int .i64 z2) rfl (by kernel_rfl) ?_)
       obtain ⟨h4, hp⟩ := hp
       obtain ⟨H7, H8, O7, R3, O8, O9, R4, R5⟩ := Sl.atI q7 z2 h4
       obtain ⟨rfl, r2, r3, r4⟩ := r_rectolaw6_file_open R4
       replace hp := hp r2
       replace hp := hp r3
       replace hp := hp r4
       refine sq (o_pv (.pointer (some ⟨H7, H8 + z2.toNat * 3, none⟩)) rfl (x_ixA (m := z1.length) (c := z3) (k := .i64) (i := z2) Tryz.underlying27 Tryz.sizeOf41 (by rw [← R3]; kernel_rfl) (by kernel_rfl) h4) ?_)
       refine sq (o_pv (.agg #[(.string ((lget z1 z2).path)), (.int .i64 ((lget z1 z2).mode)), (.string ((lget z1 z2).data))]) rfl (x_loadN [(.string ((lget z1 z2).path)), (.int .i64 ((lget z1 z2).mode)), (.string ((lget z1 z2).data))] (by kernel_rfl) Tryz.isAgg41 Tryz.sizeOf41 R5) ?_)
       refine sq (o_rowX (R := r_rectolaw6_file) [(.string ((lget z1 z2).path)), (.int .i64 ((lget z1 z2).mode)), (.string ((lget z1 z2).data))] [(lget z1 z2)] 41 1 (X := v0) (B := w.heap.size) l0.size rfl (by kernel_rfl) (Flat.cons (cs := [(.string ((lget z1 z2).path)), (.int .i64 ((lget z1 z2).mode)), (.string ((lget z1 z2).data))]) (r_rectolaw6_file_mk r2 r3 r4) Flat.nil) rfl (by decide) ?_)
       intro W0 W1 H9 t1 h5 W2
       obtain ⟨G0, hp⟩ := hp
       have h6 := (OS.step0 h0 t1)
       have h7 := (OB.step0 q8 t1)
       have h8 := (Evo.then0 l0 (Step.evo t1))
       refine sq (o_appX (R := r_rectolaw6_file) (X := H9) (B := w.heap.size) (L := y3) (M := [(lget z1 z2)]) rfl elT27 rfl h8.size h6 (OS.src h5) h5.1 (by kernel_rfl) (by kernel_rfl) G0 ?_)
       intro l5 l6 l7 W3 G1 s1 G2 R6
       have G3 := R6 _ d9 (OB.old h7)
       refine sq (o_pv (.slice l5 l6 l7) rfl (by kernel_rfl) ?_)
       refine nil_ ?_
       refine blk_normal ?_
       have G4 := (Evo.thenW h8 (Step.evo s1) h6.2.2)
       have p8 := (Old.step (Old.step j5 t1) s1)
       have R7 := (Sub.trans (Sub.trans o5 (Step.up t1)) (Step.up s1))
       have G5 := (Sl.step (Sl.step q7 t1) s1)
       have R8 := (Sl.step (Sl.step o6 t1) s1)
       have G6 := (OB.step h7 s1 d9)
       refine then_normal (n5 _ _ _ ⟨[(7, (.slice l5 l6 l7)), (8, (.bool y1))], fit_mk (AgB.nest (AgB.look (AgB.nest (AgB.look (fun _ _ => rfl) (by kernel_rfl)) (by kernel_rfl) (by kernel_rfl)) (by kernel_rfl)) (by kernel_rfl) (by kernel_rfl)) (by kernel_rfl) (vs_cons (by kernel_rfl) (vs_cons (by kernel_rfl) vs_nil)), ?_⟩)
       exact ⟨G1, (y3 ++ ([(lget z1 z2)])), y1, l5, l6, l7, rfl, G4, p8, R7, G5, R8, G6, G2, G3, hp⟩
      ·
       replace hp := hp.2 l4
       refine wp_skip ?_
       refine blk_normal ?_
       refine then_normal (n5 _ _ _ ⟨[(7, (.slice u7 t8 t9)), (8, (.bool y1))], fit_mk (AgB.nest (AgB.look (AgB.nest (AgB.look (fun _ _ => rfl) (by kernel_rfl)) (by kernel_rfl) (by kernel_rfl)) (by kernel_rfl)) (by kernel_rfl) (by kernel_rfl)) (by kernel_rfl) (vs_cons (by kernel_rfl) (vs_cons (by kernel_rfl) vs_nil)), ?_⟩)
       exact ⟨v0, y3, y1, u7, t8, t9, rfl, l0, j5, o5, q7, o6, q8, h0, d9, hp⟩
   ·
    rintro _ u4 W4 ⟨v6, v9, v2, t7, s9, r0, rfl, G7, p9, R9, G8, P0, G9, h9, D0, P1⟩
    replace hp := U4 v9 v2 P1 (OS.len h9)
    refine then_normal (J7 _ _ _ _ ?_)
    refine reg_ ?_
    refine sq (o_pv (.int .i64 z2) rfl (by kernel_rfl) ?_)
    obtain ⟨b0, hp⟩ := hp
    refine sq (o_pv (.int .i64 (z2 + (1 : Int))) rfl (x_add2 (k := .i64) (a := z2) (b := (1 : Int)) (z2 + (1 : Int)) (by kernel_rfl) (by kernel_rfl) (wrap_inR b0)) ?_)
    refine sq (o_pv (.int .i64 (z2 + (1 : Int))) rfl (by kernel_rfl) ?_)
    refine nil_ ?_
    refine then_normal (U3 _ _ _ ⟨_, [(7, (.slice t7 s9 r0)), (8, (.bool v2)), (10, (.int .i64 (z2 + (1 : Int))))], hp.2, fit_mk (AgB.nest (AgB.look (AgB.mix _ _ _) (by kernel_rfl)) (by kernel_rfl) (by kernel_rfl)) (by kernel_rfl) (vs_cons (by kernel_rfl) (vs_cons (by kernel_rfl) (vs_cons (by kernel_rfl) vs_nil))), ?_⟩)
    exact ⟨v6, v9, v2, (z2 + (1 : Int)), t7, s9, r0, rfl, rfl, G7, p9, R9, G8, P0, G9, h9, D0, b0, hp.1⟩
  ·
   replace hp := hp.2 g8
   refine wp_exit ?_
   refine then_exit ?_
   refine then_exit ?_
   refine blk_exit ?_
   refine then_normal (K9 _ _ _ _ ?_)
   refine seq_ (fun _ D1 => ?_)
   refine seq_ (fun _ D2 => ?_)
   refine reg_ ?_
   refine sq (o_pv (.bool z8) rfl (by kernel_rfl) ?_)
   refine sq (o_pv (.bool (!z8)) rfl (by kernel_rfl) ?_)
   refine nil_ ?_
   refine then_normal (D2 _ _ _ _ ?_)
   obtain ⟨D3, P2, hp⟩ := hp
   refine ground_ ?_
   refine join_ 18133887294219437620592768 (fun lq r5 => ∃ (r6 : List Nat) (y4 : (List S_rectolaw6_file)) (t2 : Option Addr) (s2 : Nat) (t3 : Nat), (lq = [(7, (.slice t2 s2 t3))]) ∧ (Evo [] w r5) ∧ (Old r6 r5) ∧ (Sub X r6) ∧ (Sl r_journal_Change r6 r5 v3 y2 l) ∧ (OS r_rectolaw6_file ([]) w.heap.size r6 r5 41 t2 s2 t3 y4) ∧ (D3 y4)) (fun S0 o7 => ?_) ?_
   ·
    refine cond_b (!z8) (by kernel_rfl) (fun l8 => ?_) (fun l8 => ?_)
    ·
     replace hp := hp.1 l8
     refine reg_ ?_
     refine sq (o_pv (.slice y0 y7 y8) rfl (by kernel_rfl) ?_)
     refine sq (o_pv (.agg #[(.string ((lget l z0).Path)), (.int .i64 ((lget l z0).Mode)), (.string (strOfNums ((lget l z0).Data)))]) rfl (x_loadN [(.string ((lget l z0).Path)), (.int .i64 ((lget l z0).Mode)), (.string (strOfNums ((lget l z0).Data)))] (by kernel_rfl) Tryz.isAgg41 Tryz.sizeOf41 (e0.2.1.cells' 0 rfl)) ?_)
     refine sq (o_rowX (R := r_rectolaw6_file) [(.string ((lget l z0).Path)), (.int .i64 ((lget l z0).Mode)), (.string (strOfNums ((lget l z0).Data)))] [(S_rectolaw6_file.mk ((lget l z0).Path) ((lget l z0).Mode) (strOfNums ((lget l z0).Data)))] 41 1 (X := z9) (B := w.heap.size) q3.size rfl (by kernel_rfl) (Flat.cons (cs := [(.string ((lget l z0).Path)), (.int .i64 ((lget l z0).Mode)), (.string (strOfNums ((lget l z0).Data)))]) (r_rectolaw6_file_mk u1 u2 (strOfNums_le n4)) Flat.nil) rfl (by decide) ?_)
     intro W5 W6 D4 r7 b1 W7
     obtain ⟨D5, hp⟩ := hp
     have b2 := (OS.step0 q4 r7)
     have b3 := (Evo.then0 q3 (Step.evo r7))
     refine sq (o_appX (R := r_rectolaw6_file) (X := D4) (B := w.heap.size) (L := z7) (M := [(S_rectolaw6_file.mk ((lget l z0).Path) ((lget l z0).Mode) (strOfNums ((lget l z0).Data)))]) rfl elT27 rfl b3.size b2 (OS.src b1) b1.1 (by kernel_rfl) (by kernel_rfl) D5 ?_)
     intro l9 m0 m1 W8 D6 q9 b4 S2
     obtain ⟨b5, o8⟩ : ∃ y, y = (z7 ++ ([(S_rectolaw6_file.mk ((lget l z0).Path) ((lget l z0).Mode) (strOfNums ((lget l z0).Data)))])) := ⟨_, rfl⟩
     replace hp := hp b5 o8
     rw [← o8] at b4
     refine sq (o_pv (.slice l9 m0 m1) rfl (by kernel_rfl) ?_)
     refine nil_ ?_
     have D7 := (Evo.thenW b3 (Step.evo q9) b2.2.2)
     have Z0 := (Old.step (Old.step q2 r7) q9)
     have P3 := (Sub.trans (Sub.trans k6 (Step.up r7)) (Step.up q9))
     have P4 := (Sl.step (Sl.step k7 r7) q9)
     refine then_normal (o7 _ _ _ ⟨[(7, (.slice l9 m0 m1))], fit_mk (fun _ _ => rfl) (by kernel_rfl) (vs_cons (by kernel_rfl) vs_nil), ?_⟩)
     exact ⟨D6, b5, l9, m0, m1, rfl, D7, Z0, P3, P4, b4, hp⟩
    ·
     replace hp := hp.2 l8
     refine wp_skip ?_
     refine then_normal (o7 _ _ _ ⟨[(7, (.slice y0 y7 y8))], fit_mk (fun _ _ => rfl) (by kernel_rfl) (vs_cons (by kernel_rfl) vs_nil), ?_⟩)
     exact ⟨z9, z7, y0, y7, y8, rfl, q3, q2, k6, k7, q4, hp⟩
   ·
    rintro _ r5 W9 ⟨r6, y4, t2, s2, t3, rfl, D8, Z1, P5, P6, k0, P7⟩
    replace hp := P2 y4 P7 (OS.len k0)
    refine then_normal (D1 _ _ _ _ ?_)
    refine reg_ ?_
    refine sq (o_pv (.slice t2 s2 t3) rfl (by kernel_rfl) ?_)
    refine sq (o_pv (.slice t2 s2 t3) rfl (by kernel_rfl) ?_)
    refine nil_ ?_
    refine blk_normal ?_
    refine then_normal (L3 _ _ _ _ ?_)
    refine reg_ ?_
    refine sq (o_pv (.int .i64 z0) rfl (by kernel_rfl) ?_)
    obtain ⟨b6, hp⟩ := hp
    refine sq (o_pv (.int .i64 (z0 + (1 : Int))) rfl (x_add2 (k := .i64) (a := z0) (b := (1 : Int)) (z0 + (1 : Int)) (by kernel_rfl) (by kernel_rfl) (wrap_inR b6)) ?_)
    refine sq (o_pv (.int .i64 (z0 + (1 : Int))) rfl (by kernel_rfl) ?_)
    refine nil_ ?_
    have P8 := OS.apold k0 E3
    obtain ⟨D9, b7, C0, P9⟩ := OS.release k0
    obtain rfl : s2 = y4.length := k0.1
    have C1 := D8
    have Z2 := (Old.less Z1 b7)
    have N0 := (P9 _ P8 P5)
    have N1 := (Sl.less P6 b7)
    refine then_normal (Y1 _ _ _ ⟨_, [(0, (.slice t2 y4.length t3)), (6, (.int .i64 (z0 + (1 : Int))))], hp.2, fit_mk (AgB.nest (AgB.look (AgB.nest (AgB.mix _ _ _) (by kernel_rfl) (by kernel_rfl)) (by kernel_rfl)) (by kernel_rfl) (by kernel_rfl)) (by kernel_rfl) (vs_cons (by kernel_rfl) (vs_cons (by kernel_rfl) vs_nil)), ?_⟩)
    exact ⟨D9, y4, (z0 + (1 : Int)), t2, t3, rfl, rfl, C1, Z2, N0, N1, C0, b6, hp.1⟩
 ·
  replace hp := hp.2 j8
  refine wp_exit ?_
  refine then_exit ?_
  refine then_exit ?_
  refine blk_exit ?_
  refine then_normal (t00 _ _ _ _ ?_)
  refine seq_ (fun _ C2 => ?_)
  refine seq_ (fun _ C3 => ?_)
  refine reg_ ?_
  refine sq (o_pv (.int .i64 (0 : Int)) rfl (by kernel_rfl) ?_)
  refine nil_ ?_
  refine then_normal (C3 _ _ _ _ ?_)
  refine wp_block ?_
  obtain ⟨C4, b8, N2, hp⟩ := hp
  refine loop_ 324518514972800499115022429984816 (fun kq lq k1 => ∃ (r8 : List Nat) (z4 : Int), (lq = [(11, (.int .i64 z4))]) ∧ (kq = b8 z4) ∧ (Evo [] w k1) ∧ (Old r8 k1) ∧ (Sub X r8) ∧ (Sl r_rectolaw6_file r8 k1 z5 z3 z1) ∧ (inR .i64 z4) ∧ (C4 z4)) (b8 (0 : Int)) [(11, (.int .i64 (0 : Int)))] (vs_cons (by kernel_rfl) vs_nil) ⟨v5, (0 : Int), rfl, rfl, c3, j2, n2, j7, (by decide : inR .i64 (0 : Int)), N2⟩ ?_
  rintro _ _ k1 z00 ⟨r8, z4, rfl, rfl, b9, Z3, o9, f0, N3, N4⟩ S3 N5
  replace hp := hp z4 N4 N3
  refine seq_ (fun _ C5 => ?_)
  refine seq_ (fun _ C6 => ?_)
  refine reg_ ?_
  refine sq (o_pv (.int .i64 z4) rfl (by kernel_rfl) ?_)
  refine sq (o_pv (.slice z5 z1.length z3) rfl (by kernel_rfl) ?_)
  refine sq (o_pv (.int .i64 (z1.length : Int)) rfl (by kernel_rfl) ?_)
  refine sq (o_pv (.bool (decide (z4 < (z1.length : Int)))) rfl (by kernel_rfl) ?_)
  refine nil_ ?_
  refine then_normal (C6 _ _ _ _ ?_)
  refine cond_d (z4 < (z1.length : Int)) (by kernel_rfl) (fun m2 => ?_) (fun m2 => ?_)
  ·
   replace hp := hp.1 m2
   refine wp_skip ?_
   refine then_normal (C5 _ _ _ _ ?_)
   refine seq_ (fun _ C7 => ?_)
   refine wp_block ?_
   refine seq_ (fun _ C8 => ?_)
   refine reg_ ?_
   refine sq (o_pv (.int .i64 (0 : Int)) rfl (by kernel_rfl) ?_)
   refine nil_ ?_
   refine then_normal (C8 _ _ _ _ ?_)
   refine wp_block ?_
   obtain ⟨C9, f1, N6, hp⟩ := hp
   refine loop_ 324516077778348156022606222331952 (fun kq lq t4 => ∃ (v7 : List Nat) (z6 : Int), (lq = [(12, (.int .i64 z6))]) ∧ (kq = f1 z6) ∧ (Evo [] w t4) ∧ (Old v7 t4) ∧ (Sub X v7) ∧ (Sl r_rectolaw6_file v7 t4 z5 z3 z1) ∧ (inR .i64 z6) ∧ (C9 z6)) (f1 (0 : Int)) [(12, (.int .i64 (0 : Int)))] (vs_cons (by kernel_rfl) vs_nil) ⟨r8, (0 : Int), rfl, rfl, b9, Z3, o9, f0, (by decide : inR .i64 (0 : Int)), N6⟩ ?_
   rintro _ _ t4 y00 ⟨v7, z6, rfl, rfl, f2, j6, c0, f3, N7, N8⟩ S4 N9
   replace hp := hp z6 N8 N7
   refine seq_ (fun _ B0 => ?_)
   refine seq_ (fun _ B1 => ?_)
   refine reg_ ?_
   refine sq (o_pv (.int .i64 z6) rfl (by kernel_rfl) ?_)
   refine sq (o_pv (.int .i64 z4) rfl (by kernel_rfl) ?_)
   refine sq (o_pv (.bool (decide (z6 < z4))) rfl (by kernel_rfl) ?_)
   refine nil_ ?_
   refine then_normal (B1 _ _ _ _ ?_)
   refine cond_d (z6 < z4) (by kernel_rfl) (fun m3 => ?_) (fun m3 => ?_)
   ·
    replace hp := hp.1 m3
    refine wp_skip ?_
    refine then_normal (B0 _ _ _ _ ?_)
    refine seq_ (fun _ B2 => ?_)
    refine wp_block ?_
    refine seq_ (fun _ B3 => ?_)
    refine reg_drawn (RB t4.heap.size []) 11 (by kernel_rfl) (fun f4 j0 => ?_)
    have B4 := Evo.of_drew j0
    have m4 : f4.heap.size = t4.heap.size := by rw [j0]
    clear j0
    have k2 := Step.of0 v7 B4
    have j1 := RB.refl t4.heap.size [] f4
    have f5 := (Evo.then0 f2 (Step.evo k2))
    have Z4 := (Old.step j6 k2)
    have c1 := (Sub.trans c0 (Step.up k2))
    have k3 := (Sl.step f3 k2)
    refine r_take 0 (.slice z5 z1.length z3) (RB.pre _ _) rfl (by kernel_rfl) (fun _ _ _ h => hQ.panic _ _ _ _ _ h) (.inl ⟨rfl, fun wq hq => (by kernel_rfl)⟩) ?_
    refine r_take 1 (.int .i64 z6) (RB.pre _ _) rfl (by kernel_rfl) (fun _ _ _ h => hQ.panic _ _ _ _ _ h) (.inl ⟨rfl, fun wq hq => (by kernel_rfl)⟩) ?_
    obtain ⟨f6, hp⟩ := hp
    obtain ⟨f7, f8, S5, M0, S6, M1, M2, M3⟩ := Sl.atI k3 z6 f6
    obtain ⟨rfl, r9, m5, m6⟩ := r_rectolaw6_file_open M2
    replace hp := hp r9
    replace hp := hp m5
    replace hp := hp m6
    refine r_take 2 (.pointer (some ⟨f7, f8 + z6.toNat * 3, none⟩)) (RB.pre _ _) rfl (by kernel_rfl) (fun _ _ _ h => hQ.panic _ _ _ _ _ h) (.inl ⟨rfl, fun wq hq => (x_ixA (m := z1.length) (c := z3) (k := .i64) (i := z6) Tryz.underlying27 Tryz.sizeOf41 (by rw [← M0]; kernel_rfl) (by kernel_rfl) f6)⟩) ?_
    refine r_take 3 (.pointer (some ⟨f7, f8 + z6.toNat * 3, none⟩)) (RB.pre _ _) rfl (by kernel_rfl) (fun _ _ _ h => hQ.panic _ _ _ _ _ h) (.inl ⟨rfl, fun wq hq => (by kernel_rfl)⟩) ?_
    refine r_take 4 (.string ((lget z1 z6).path)) (RB.pre _ _) rfl (by kernel_rfl) (fun _ _ _ h => hQ.panic _ _ _ _ _ h) (.inl ⟨rfl, fun wq hq => (x_load1 (by kernel_rfl) Tryz.isAgg9 ((CellsAt.rb M3 (RB.trans j1 hq) (Nat.lt_of_lt_of_eq M1 m4) (fun h => by cases h)) 0 _ rfl))⟩) ?_
    refine r_take 5 (.slice z5 z1.length z3) (RB.pre _ _) rfl (by kernel_rfl) (fun _ _ _ h => hQ.panic _ _ _ _ _ h) (.inl ⟨rfl, fun wq hq => (by kernel_rfl)⟩) ?_
    refine r_take 6 (.int .i64 z4) (RB.pre _ _) rfl (by kernel_rfl) (fun _ _ _ h => hQ.panic _ _ _ _ _ h) (.inl ⟨rfl, fun wq hq => (by kernel_rfl)⟩) ?_
    obtain ⟨f9, hp⟩ := hp
    obtain ⟨p0, p1, S7, M4, S8, M5, M6, M7⟩ := Sl.atI k3 z4 f9
    obtain ⟨rfl, q0, m7, m8⟩ := r_rectolaw6_file_open M6
    replace hp := hp q0
    replace hp := hp m7
    replace hp := hp m8
    refine r_take 7 (.pointer (some ⟨p0, p1 + z4.toNat * 3, none⟩)) (RB.pre _ _) rfl (by kernel_rfl) (fun _ _ _ h => hQ.panic _ _ _ _ _ h) (.inl ⟨rfl, fun wq hq => (x_ixA (m := z1.length) (c := z3) (k := .i64) (i := z4) Tryz.underlying27 Tryz.sizeOf41 (by rw [← M4]; kernel_rfl) (by kernel_rfl) f9)⟩) ?_
    refine r_take 8 (.pointer (some ⟨p0, p1 + z4.toNat * 3, none⟩)) (RB.pre _ _) rfl (by kernel_rfl) (fun _ _ _ h => hQ.panic _ _ _ _ _ h) (.inl ⟨rfl, fun wq hq => (by kernel_rfl)⟩) ?_
    refine r_take 9 (.string ((lget z1 z4).path)) (RB.pre _ _) rfl (by kernel_rfl) (fun _ _ _ h => hQ.panic _ _ _ _ _ h) (.inl ⟨rfl, fun wq hq => (x_load1 (by kernel_rfl) Tryz.isAgg9 ((CellsAt.rb M7 (RB.trans j1 hq) (Nat.lt_of_lt_of_eq M5 m4) (fun h => by cases h)) 0 _ rfl))⟩) ?_
    refine r_ready [10] (by kernel_rfl) rfl (all_cons ⟨_, _, _, _, _, _, rfl, ?_⟩ all_nil)
    refine o_call 26 #[(.string ((lget z1 z6).path)), (.string ((lget z1 z4).path))] rfl (x_call Tryz.call26 (by kernel_rfl)) (rectoref1_Clash_w (X := []) (a := (lget z1 z6).path) (b := (lget z1 z4).path) (Old.nil _) r9 q0 hp) ?_
    rintro _ v00 ⟨B5, hp, k4, rfl⟩
    have rm := RB.mono (F' := []) k4 (Nat.le_trans (Nat.le_of_eq m4.symm) (RB.size j1)) (fun _ h => by cases h)
    refine ⟨fun _ => rm, ?_⟩
    have q1 := Step.of0 v7 k4
    refine r_done (by kernel_rfl) ?_
    refine then_normal (B3 _ _ _ _ ?_)
    refine cond_b B5 (by kernel_rfl) (fun m9 => ?_) (fun m9 => ?_)
    ·
     replace hp := hp.1 m9
     refine seq_ (fun _ B6 => ?_)
     refine reg_ ?_
     refine sq (o_pv (.slice z5 z1.length z3) rfl (by kernel_rfl) ?_)
     refine sq (o_pv (.slice z5 z1.length z3) rfl (by kernel_rfl) ?_)
     refine sq (o_pv (.bool false) rfl (by kernel_rfl) ?_)
     refine nil_ ?_
     refine then_normal (B6 _ _ _ _ ?_)
     refine wp_ret ?_
     refine blk_ret ?_
     refine then_ret ?_
     refine then_ret ?_
     refine blk_ret ?_
     refine blk_ret ?_
     refine then_ret ?_
     refine then_ret ?_
     refine blk_ret ?_
     refine then_ret ?_
     have B7 := (Sl.step k3 q1)
     have M8 := (Sub.trans c1 (Step.up q1))
     have B8 := (Evo.then0 f5 k4)
     refine end_ret hQ (.tuple #[(.slice z5 z1.length z3), (.bool false)]) (by kernel_rfl) ?_
     exact ⟨z1, false, hp, B8, z5, z3, rfl, (Sl.less B7 M8)⟩
    ·
     replace hp := hp.2 m9
     refine wp_skip ?_
     refine blk_normal ?_
     refine then_normal (B2 _ _ _ _ ?_)
     refine reg_ ?_
     refine sq (o_pv (.int .i64 z6) rfl (by kernel_rfl) ?_)
     obtain ⟨p2, hp⟩ := hp
     refine sq (o_pv (.int .i64 (z6 + (1 : Int))) rfl (x_add2 (k := .i64) (a := z6) (b := (1 : Int)) (z6 + (1 : Int)) (by kernel_rfl) (by kernel_rfl) (wrap_inR p2)) ?_)
     refine sq (o_pv (.int .i64 (z6 + (1 : Int))) rfl (by kernel_rfl) ?_)
     refine nil_ ?_
     have B9 := (Evo.then0 f5 k4)
     have Z5 := (Old.step Z4 q1)
     have M9 := (Sub.trans c1 (Step.up q1))
     have E1 := (Sl.step k3 q1)
     refine then_normal (N9 _ _ _ ⟨_, [(12, (.int .i64 (z6 + (1 : Int))))], hp.2, fit_mk (AgB.mix _ _ _) (by kernel_rfl) (vs_cons (by kernel_rfl) vs_nil), ?_⟩)
     exact ⟨v7, (z6 + (1 : Int)), rfl, rfl, B9, Z5, M9, E1, p2, hp.1⟩
   ·
    replace hp := hp.2 m3
    refine wp_exit ?_
    refine then_exit ?_
    refine then_exit ?_
    refine blk_exit ?_
    refine blk_normal ?_
    refine then_normal (C7 _ _ _ _ ?_)
    refine reg_ ?_
    refine sq (o_pv (.int .i64 z4) rfl (by kernel_rfl) ?_)
    obtain ⟨p3, hp⟩ := hp
    refine sq (o_pv (.int .i64 (z4 + (1 : Int))) rfl (x_add2 (k := .i64) (a := z4) (b := (1 : Int)) (z4 + (1 : Int)) (by kernel_rfl) (by kernel_rfl) (wrap_inR p3)) ?_)
    refine sq (o_pv (.int .i64 (z4 + (1 : Int))) rfl (by kernel_rfl) ?_)
    refine nil_ ?_
    refine then_normal (N5 _ _ _ ⟨_, [(11, (.int .i64 (z4 + (1 : Int))))], hp.2, fit_mk (AgB.nest (AgB.mix _ _ _) (by kernel_rfl) (by kernel_rfl)) (by kernel_rfl) (vs_cons (by kernel_rfl) vs_nil), ?_⟩)
    exact ⟨v7, (z4 + (1 : Int)), rfl, rfl, f2, j6, c0, f3, p3, hp.1⟩
  ·
   replace hp := hp.2 m2
   refine wp_exit ?_
   refine then_exit ?_
   refine then_exit ?_
   refine blk_exit ?_
   refine then_normal (C2 _ _ _ _ ?_)
   refine seq_ (fun _ E2 => ?_)
   refine reg_ ?_
   refine sq (o_pv (.slice z5 z1.length z3) rfl (by kernel_rfl) ?_)
   refine sq (o_pv (.slice z5 z1.length z3) rfl (by kernel_rfl) ?_)
   refine sq (o_pv (.bool true) rfl (by kernel_rfl) ?_)
   refine nil_ ?_
   refine then_normal (E2 _ _ _ _ ?_)
   refine wp_ret ?_
   refine end_ret hQ (.tuple #[(.slice z5 z1.length z3), (.bool true)]) (by kernel_rfl) ?_
   exact ⟨z1, true, hp, b9, z5, z3, rfl, (Sl.less f0 o9)⟩
def rectolaw6_same_p (a : (List S_rectolaw6_file)) (b : (List S_rectolaw6_file)) (Q : Bool → Prop) : Prop :=
 ((a.length ≤ 9223372036854775807) → ((b.length ≤ 9223372036854775807) → (((¬ ((a.length : Int) = (b.length : Int))) → Q false) ∧ (((a.length : Int) = (b.length : Int)) → (∃ (z1 : Int → Prop) (z2 : Int → Nat), (z1 (0 : Int)) ∧ (∀ (z0 : Int), (z1 z0) → (inR .i64 z0) → (((z0 < (a.length : Int)) → ((inL a z0) ∧ ((((lget a z0).path).size ≤ maxLen) → ((inR .i64 ((lget a z0).mode)) → ((((lget a z0).data).size ≤ maxLen) → ((inL b z0) ∧ ((((lget b z0).path).size ≤ maxLen) → ((inR .i64 ((lget b z0).mode)) → ((((lget b z0).data).size ≤ maxLen) → (((¬ ((((lget a z0).path : ByteArray) = (lget b z0).path) ∧ (((lget a z0).mode = (lget b z0).mode) ∧ ((((lget a z0).data : ByteArray) = (lget b z0).data) ∧ True)))) → Q false) ∧ (((((lget a z0).path : ByteArray) = (lget b z0).path) ∧ (((lget a z0).mode = (lget b z0).mode) ∧ ((((lget a z0).data : ByteArray) = (lget b z0).data) ∧ True))) → ((inR .i64 (z0 + (1 : Int))) ∧ ((z1 (z0 + (1 : Int))) ∧ z2 (z0 + (1 : Int)) < z2 z0))))))))))))) ∧ ((¬ (z0 < (a.length : Int))) → Q true))))))))
set_option maxRecDepth 20000 in
set_option maxHeartbeats 4000000 in
theorem rectolaw6_same_w {X : List Nat} {w : World} {a : (List S_rectolaw6_file)} {b : (List S_rectolaw6_file)} {z3 : Option Addr} {z1 : Nat} {z6 : Option Addr} {z4 : Nat} {Q : Bool → Prop} (s5 : Old X w) (u1 : Sl r_rectolaw6_file X w z3 z1 a) (u2 : Sl r_rectolaw6_file X w z6 z4 b) (hp : rectolaw6_same_p a b Q) :
  Calls Tryz.prog 14 #[(.slice z3 a.length z1), (.slice z6 b.length z4)] w (Ret fun v w' => ∃ (s6 : Bool), Q s6 ∧ Evo [] w w' ∧ v = (.bool s6)) := by
 have hXo := s5
 have E0 : Evo [] w w := RB.refl _ _ _
 have hS : Sub X X := Sub.refl _
 unfold rectolaw6_same_p at hp
 refine enter_ Tryz.func14 rfl 26 [(0, (.slice z3 a.length z1)), (1, (.slice z6 b.length z4))] (by kernel_rfl) (fun Qe hQ => ?_)
 replace hp := hp (Sl.len u1)
 replace hp := hp (Sl.len u2)
 refine seq_ (fun _ q0 => ?_)
 refine reg_ ?_
 refine sq (o_pv (.bool false) rfl (by kernel_rfl) ?_)
 refine nil_ ?_
 refine then_normal (q0 _ _ _ _ ?_)
 refine seq_ (fun _ q1 => ?_)
 refine seq_ (fun _ q2 => ?_)
 refine reg_ ?_
 refine sq (o_pv (.slice z3 a.length z1) rfl (by kernel_rfl) ?_)
 refine sq (o_pv (.int .i64 (a.length : Int)) rfl (by kernel_rfl) ?_)
 refine sq (o_pv (.slice z6 b.length z4) rfl (by kernel_rfl) ?_)
 refine sq (o_pv (.int .i64 (b.length : Int)) rfl (by kernel_rfl) ?_)
 refine sq (o_pv (.bool (!decide ((a.length : Int) = (b.length : Int)))) rfl (by kernel_rfl) ?_)
 refine nil_ ?_
 refine then_normal (q2 _ _ _ _ ?_)
 refine cond_nd ((a.length : Int) = (b.length : Int)) (by kernel_rfl) (fun y6 => ?_) (fun y6 => ?_)
 ·
  replace hp := hp.1 y6
  refine seq_ (fun _ s7 => ?_)
  refine reg_ ?_
  refine sq (o_pv (.bool false) rfl (by kernel_rfl) ?_)
  refine nil_ ?_
  refine then_normal (s7 _ _ _ _ ?_)
  refine wp_ret ?_
  refine then_ret ?_
  refine end_ret hQ (.bool false) (by kernel_rfl) ?_
  exact ⟨false, hp, E0, rfl⟩
 ·
  replace hp := hp.2 y6
  refine wp_skip ?_
  refine then_normal (q1 _ _ _ _ ?_)
  refine seq_ (fun _ s8 => ?_)
  refine seq_ (fun _ s9 => ?_)
  refine reg_ ?_
  refine sq (o_pv (.int .i64 (0 : Int)) rfl (by kernel_rfl) ?_)
  refine nil_ ?_
  refine then_normal (s9 _ _ _ _ ?_)
  refine wp_block ?_
  obtain ⟨r0, u3, t0, hp⟩ := hp
  refine loop_ 67106864 (fun kq lq z2 => ∃ (z5 : List Nat) (z0 : Int), (lq = [(5, (.int .i64 z0))]) ∧ (kq = u3 z0) ∧ (Evo [] w z2) ∧ (Old z5 z2) ∧ (Sub X z5) ∧ (Sl r_rectolaw6_file z5 z2 z3 z1 a) ∧ (Sl r_rectolaw6_file z5 z2 z6 z4 b) ∧ (inR .i64 z0) ∧ (r0 z0)) (u3 (0 : Int)) [(5, (.int .i64 (0 : Int)))] (vs_cons (by kernel_rfl) vs_nil) ⟨X, (0 : Int), rfl, rfl, E0, hXo, hS, u1, u2, (by decide : inR .i64 (0 : Int)), t0⟩ ?_
  rintro _ _ z2 q6 ⟨z5, z0, rfl, rfl, u4, v3, t1, t2, t3, t4, t5⟩ q3 t6
  replace hp := hp z0 t5 t4
  refine seq_ (fun _ r1 => ?_)
  refine seq_ (fun _ r2 => ?_)
  refine reg_ ?_
  refine sq (o_pv (.int .i64 z0) rfl (by kernel_rfl) ?_)
  refine sq (o_pv (.slice z3 a.length z1) rfl (by kernel_rfl) ?_)
  refine sq (o_pv (.int .i64 (a.length : Int)) rfl (by kernel_rfl) ?_)
  refine sq (o_pv (.bool (decide (z0 < (a.length : Int)))) rfl (by kernel_rfl) ?_)
  refine nil_ ?_
  refine then_normal (r2 _ _ _ _ ?_)
  refine cond_d (z0 < (a.length : Int)) (by kernel_rfl) (fun y7 => ?_) (fun y7 => ?_)
  ·
   replace hp := hp.1 y7
   refine wp_skip ?_
   refine then_normal (r1 _ _ _ _ ?_)
   refine seq_ (fun _ r3 => ?_)
   refine wp_block ?_
   refine seq_ (fun _ r4 => ?_)
   refine reg_drawn (RB z2.heap.size []) 9 (by kernel_rfl) (fun u5 y4 => ?_)
   have r5 := Evo.of_drew y4
   have u6 : u5.heap.size = z2.heap.size := by rw [y4]
   clear y4
   have z7 := Step.of0 z5 r5
   have y8 := RB.refl z2.heap.size [] u5
   have u7 := (Evo.then0 u4 (Step.evo z7))
   have v4 := (Old.step v3 z7)
   have t7 := (Sub.trans t1 (Step.up z7))
   have y9 := (Sl.step t2 z7)
   have v0 := (Sl.step t3 z7)
   refine r_take 0 (.slice z3 a.length z1) (RB.pre _ _) rfl (by kernel_rfl) (fun _ _ _ h => hQ.panic _ _ _ _ _ h) (.inl ⟨rfl, fun wq hq => (by kernel_rfl)⟩) ?_
   refine r_take 1 (.int .i64 z0) (RB.pre _ _) rfl (by kernel_rfl) (fun _ _ _ h => hQ.panic _ _ _ _ _ h) (.inl ⟨rfl, fun wq hq => (by kernel_rfl)⟩) ?_
   obtain ⟨u9, hp⟩ := hp
   obtain ⟨r6, r7, q4, t8, q5, t9, s0, v5⟩ := Sl.atI y9 z0 u9
   obtain ⟨rfl, z8, z9, y0⟩ := r_rectolaw6_file_open s0
   replace hp := hp z8
   replace hp := hp z9
   replace hp := hp y0
   refine r_take 2 (.pointer (some ⟨r6, r7 + z0.toNat * 3, none⟩)) (RB.pre _ _) rfl (by kernel_rfl) (fun _ _ _ h => hQ.panic _ _ _ _ _ h) (.inl ⟨rfl, fun wq hq => (x_ixA (m := a.length) (c := z1) (k := .i64) (i := z0) Tryz.underlying27 Tryz.sizeOf41 (by rw [← t8]; kernel_rfl) (by kernel_rfl) u9)⟩) ?_
   refine r_take 3 (.agg #[(.string ((lget a z0).path)), (.int .i64 ((lget a z0).mode)), (.string ((lget a z0).data))]) (RB.pre _ _) rfl (by kernel_rfl) (fun _ _ _ h => hQ.panic _ _ _ _ _ h) (.inl ⟨rfl, fun wq hq => (x_loadN [(.string ((lget a z0).path)), (.int .i64 ((lget a z0).mode)), (.string ((lget a z0).data))] (by kernel_rfl) Tryz.isAgg41 Tryz.sizeOf41 (CellsAt.rb v5 (RB.trans y8 hq) (Nat.lt_of_lt_of_eq t9 u6) (fun h => by cases h)))⟩) ?_
   refine r_take 4 (.slice z6 b.length z4) (RB.pre _ _) rfl (by kernel_rfl) (fun _ _ _ h => hQ.panic _ _ _ _ _ h) (.inl ⟨rfl, fun wq hq => (by kernel_rfl)⟩) ?_
   refine r_take 5 (.int .i64 z0) (RB.pre _ _) rfl (by kernel_rfl) (fun _ _ _ h => hQ.panic _ _ _ _ _ h) (.inl ⟨rfl, fun wq hq => (by kernel_rfl)⟩) ?_
   obtain ⟨v1, hp⟩ := hp
   obtain ⟨s1, s2, r8, v6, r9, v7, v8, v9⟩ := Sl.atI v0 z0 v1
   obtain ⟨rfl, y1, y2, y3⟩ := r_rectolaw6_file_open v8
   replace hp := hp y1
   replace hp := hp y2
   replace hp := hp y3
   refine r_take 6 (.pointer (some ⟨s1, s2 + z0.toNat * 3, none⟩)) (RB.pre _ _) rfl (by kernel_rfl) (fun _ _ _ h => hQ.panic _ _ _ _ _ h) (.inl ⟨rfl, fun wq hq => (x_ixA (m := b.length) (c := z4) (k := .i64) (i := z0) Tryz.underlying27 Tryz.sizeOf41 (by rw [← v6]; kernel_rfl) (by kernel_rfl) v1)⟩) ?_
   refine r_take 7 (.agg #[(.string ((lget b z0).path)), (.int .i64 ((lget b z0).mode)), (.string ((lget b z0).data))]) (RB.pre _ _) rfl (by kernel_rfl) (fun _ _ _ h => hQ.panic _ _ _ _ _ h) (.inl ⟨rfl, fun wq hq => (x_loadN [(.string ((lget b z0).path)), (.int .i64 ((lget b z0).mode)), (.string ((lget b z0).data))] (by kernel_rfl) Tryz.isAgg41 Tryz.sizeOf41 (CellsAt.rb v9 (RB.trans y8 hq) (Nat.lt_of_lt_of_eq v7 u6) (fun h => by cases h)))⟩) ?_
   refine r_take 8 (.bool (!decide ((((lget a z0).path : ByteArray) = (lget b z0).path) ∧ (((lget a z0).mode = (lget b z0).mode) ∧ ((((lget a z0).data : ByteArray) = (lget b z0).data) ∧ True))))) (RB.pre _ _) rfl (by kernel_rfl) (fun _ _ _ h => hQ.panic _ _ _ _ _ h) (.inl ⟨rfl, fun wq hq => (x_stne (q := (((lget a z0).path : ByteArray) = (lget b z0).path) ∧ (((lget a z0).mode = (lget b z0).mode) ∧ ((((lget a z0).data : ByteArray) = (lget b z0).data) ∧ True))) (xs := #[(.string ((lget a z0).path)), (.int .i64 ((lget a z0).mode)), (.string ((lget a z0).data))]) (ys := #[(.string ((lget b z0).path)), (.int .i64 ((lget b z0).mode)), (.string ((lget b z0).data))]) [({ name := "path", type := 9, offset := 0, embedded := false, tag := "", pkgPath := "recto/rectolaw6", byteOffset := 0 } : Field), ({ name := "mode", type := 3, offset := 1, embedded := false, tag := "", pkgPath := "recto/rectolaw6", byteOffset := 16 } : Field), ({ name := "data", type := 9, offset := 2, embedded := false, tag := "", pkgPath := "recto/rectolaw6", byteOffset := 24 } : Field)] (by kernel_rfl) (by kernel_rfl) (by kernel_rfl) (by kernel_rfl) (by kernel_rfl) (by kernel_rfl) (eqF_str (a := (lget a z0).path) (b := (lget b z0).path) (by kernel_rfl) (by kernel_rfl) (by kernel_rfl) Tryz.underlying9 (eqF_int (k := .i64) (a := (lget a z0).mode) (b := (lget b z0).mode) (by kernel_rfl) (by kernel_rfl) (by kernel_rfl) Tryz.underlying3 (eqF_str (a := (lget a z0).data) (b := (lget b z0).data) (by kernel_rfl) (by kernel_rfl) (by kernel_rfl) Tryz.underlying9 eqF_nil))))⟩) ?_
   refine r_done (by kernel_rfl) ?_
   refine then_normal (r4 _ _ _ _ ?_)
   refine cond_nd ((((lget a z0).path : ByteArray) = (lget b z0).path) ∧ (((lget a z0).mode = (lget b z0).mode) ∧ ((((lget a z0).data : ByteArray) = (lget b z0).data) ∧ True))) (by kernel_rfl) (fun y5 => ?_) (fun y5 => ?_)
   ·
    replace hp := hp.1 y5
    refine seq_ (fun _ s3 => ?_)
    refine reg_ ?_
    refine sq (o_pv (.bool false) rfl (by kernel_rfl) ?_)
    refine nil_ ?_
    refine then_normal (s3 _ _ _ _ ?_)
    refine wp_ret ?_
    refine blk_ret ?_
    refine then_ret ?_
    refine then_ret ?_
    refine blk_ret ?_
    refine then_ret ?_
    refine end_ret hQ (.bool false) (by kernel_rfl) ?_
    exact ⟨false, hp, u7, rfl⟩
   ·
    replace hp := hp.2 y5
    refine wp_skip ?_
    refine blk_normal ?_
    refine then_normal (r3 _ _ _ _ ?_)
    refine reg_ ?_
    refine sq (o_pv (.int .i64 z0) rfl (by kernel_rfl) ?_)
    obtain ⟨v2, hp⟩ := hp
    refine sq (o_pv (.int .i64 (z0 + (1 : Int))) rfl (x_add2 (k := .i64) (a := z0) (b := (1 : Int)) (z0 + (1 : Int)) (by kernel_rfl) (by kernel_rfl) (wrap_inR v2)) ?_)
    refine sq (o_pv (.int .i64 (z0 + (1 : Int))) rfl (by kernel_rfl) ?_)
    refine nil_ ?_
    refine then_normal (t6 _ _ _ ⟨_, [(5, (.int .i64 (z0 + (1 : Int))))], hp.2, fit_mk (AgB.mix _ _ _) (by kernel_rfl) (vs_cons (by kernel_rfl) vs_nil), ?_⟩)
    exact ⟨z5, (z0 + (1 : Int)), rfl, rfl, u7, v4, t7, y9, v0, v2, hp.1⟩
  ·
   replace hp := hp.2 y7
   refine wp_exit ?_
   refine then_exit ?_
   refine then_exit ?_
   refine blk_exit ?_
   refine then_normal (s8 _ _ _ _ ?_)
   refine seq_ (fun _ s4 => ?_)
   refine reg_ ?_
   refine sq (o_pv (.bool true) rfl (by kernel_rfl) ?_)
   refine nil_ ?_
   refine then_normal (s4 _ _ _ _ ?_)
   refine wp_ret ?_
   refine end_ret hQ (.bool true) (by kernel_rfl) ?_
   exact ⟨true, hp, u4, rfl⟩
def rectolaw6_JournalRoom_p (l : (List S_journal_Change)) (quota : Int) (Q : Bool → Prop) : Prop :=
 ((l.length ≤ 9223372036854775807) → ((inR .u16 quota) → (rectolaw6_known_p  (fun (y6 : Bool) => ((((!y6) = true) → Q false) ∧ (((!y6) = false) → (∃ z6 : Bool → Prop, (∀ (z7 : Bool), z6 z7 → (((z7 = true) → Q true) ∧ ((z7 = false) → (rectolaw6_after_p ([] : List S_rectolaw6_file) l (fun (y1 : (List S_rectolaw6_file)) (y2 : Bool) => ((y1.length ≤ 9223372036854775807) → ((((!y2) = true) → Q true) ∧ (((!y2) = false) → ((inR .i64 ((1 : Int) + quota)) ∧ (simfs_New_p ((1 : Int) + quota) (fun (y7 : S_simfs_FS) => (∃ (z3 : Int → Int → Prop) (z8 : Int → Int → Nat), (z3 (4096 : Int) (0 : Int)) ∧ (∀ (z2 : Int) (z0 : Int), (z3 z2 z0) → (inR .i64 z2) → (inR .i64 z0) → (((z0 < (l.length : Int)) → ((inL l z0) ∧ ((((lget l z0).Path).size ≤ maxLen) → ((inR .i64 ((lget l z0).Mode)) → ((((lget l z0).Data).length ≤ 9223372036854775807) → ((inR .i64 ((2 : Int) * (((lget l z0).Data).length : Int))) ∧ ((inR .i64 (z2 + ((2 : Int) * (((lget l z0).Data).length : Int)))) ∧ ((inR .i64 ((z2 + ((2 : Int) * (((lget l z0).Data).length : Int))) + (128 : Int))) ∧ (∀ z4 : Int, z4 = ((z2 + ((2 : Int) * (((lget l z0).Data).length : Int))) + (128 : Int)) → ((inR .i64 (z0 + (1 : Int))) ∧ ((z3 z4 (z0 + (1 : Int))) ∧ z8 z4 (z0 + (1 : Int)) < z8 z2 z0))))))))))) ∧ ((¬ (z0 < (l.length : Int))) → (journal_Do_p y7 (ByteArray.mk #[46, 106]) l (fun (y0 : S_simfs_FS) (z1 : Int) => ((inR .i64 z1) → (rectolaw6_all_p y0 (ByteArray.mk #[46, 106]) (fun (y8 : S_simfs_FS) (z5 : (List S_rectolaw6_file)) (z9 : Bool) => ((z5.length ≤ 9223372036854775807) → ((((¬ (z9 = true)) ∨ (((z1 = (0 : Int)) ∧ ((z2 ≤ ((1 : Int) + quota)) ∧ (¬ (z1 = (0 : Int))))) ∨ ((¬ (z1 = (0 : Int))) ∧ ((¬ (z1 = (14 : Int))) ∨ ((z2 ≤ ((1 : Int) + quota)) ∧ (¬ (z1 = (0 : Int)))))))) → Q false) ∧ ((¬ ((¬ (z9 = true)) ∨ (((z1 = (0 : Int)) ∧ ((z2 ≤ ((1 : Int) + quota)) ∧ (¬ (z1 = (0 : Int))))) ∨ ((¬ (z1 = (0 : Int))) ∧ ((¬ (z1 = (14 : Int))) ∨ ((z2 ≤ ((1 : Int) + quota)) ∧ (¬ (z1 = (0 : Int))))))))) → (((z1 = (0 : Int)) → (rectolaw6_same_p z5 y1 (fun (y5 : Bool) => Q y5))) ∧ ((¬ (z1 = (0 : Int))) → Q (decide ((z5.length : Int) = (0 : Int)))))))))))))))))))))))))))) ∧ (rectolaw6_few_p l (fun (y3 : Bool) => (((y3 = true) → (rectolaw6_wrong_p (ByteArray.mk #[46, 106]) l (fun (y4 : Int) => ((inR .i64 y4) → (z6 (!decide (y4 = (0 : Int)))))))) ∧ ((y3 = false) → (z6 true))))))))))))
set_option maxRecDepth 20000 in
set_option maxHeartbeats 4000000 in
theorem rectolaw6_JournalRoom_w {X : List Nat} {w : World} {l : (List S_journal_Change)} {quota : Int} {z7 : Option Addr} {z6 : Nat} {Q : Bool → Prop} (n1 : Old X w) (g1 : Sl r_journal_Change X w z7 z6 l) (v2 : inR .u16 quota) (hp : rectolaw6_JournalRoom_p l quota Q) :
  Calls Tryz.prog 3 #[(.slice z7 l.length z6), (.int .u16 quota)] w (Ret fun v w' => ∃ (n2 : Bool), Q n2 ∧ Evo [] w w' ∧ v = (.bool n2)) := by
 have hXo := n1
 have E0 : Evo [] w w := RB.refl _ _ _
 have hS : Sub X X := Sub.refl _
 unfold rectolaw6_JournalRoom_p at hp
 refine enter_ Tryz.func3 rfl 87 [(0, (.slice z7 l.length z6)), (1, (.int .u16 quota))] (by kernel_rfl) (fun Qe hQ => ?_)
 replace hp := hp (Sl.len g1)
 replace hp := hp v2
 refine seq_ (fun _ a2 => ?_)
 refine reg_ ?_
 refine sq (o_pv (.bool false) rfl (by kernel_rfl) ?_)
 refine nil_ ?_
 refine then_normal (a2 _ _ _ _ ?_)
 refine seq_ (fun _ a3 => ?_)
 refine seq_ (fun _ a4 => ?_)
 refine reg_ ?_
 refine sq (o_call 7 #[] rfl (x_call Tryz.call7 (by kernel_rfl)) (rectolaw6_known_w (X := [])  (Old.nil _) hp) ?_)
 rintro _ e9 ⟨n3, hp, s7, rfl⟩
 have s8 := Step.of0 X s7
 refine sq (o_pv (.bool (!n3)) rfl (by kernel_rfl) ?_)
 refine nil_ ?_
 refine then_normal (a4 _ _ _ _ ?_)
 refine cond_b (!n3) (by kernel_rfl) (fun s9 => ?_) (fun s9 => ?_)
 ·
  replace hp := hp.1 s9
  refine seq_ (fun _ n4 => ?_)
  refine reg_ ?_
  refine sq (o_pv (.bool false) rfl (by kernel_rfl) ?_)
  refine nil_ ?_
  refine then_normal (n4 _ _ _ _ ?_)
  refine wp_ret ?_
  refine then_ret ?_
  have n5 := (Evo.then0 E0 s7)
  refine end_ret hQ (.bool false) (by kernel_rfl) ?_
  exact ⟨false, hp, n5, rfl⟩
 ·
  replace hp := hp.2 s9
  refine wp_skip ?_
  refine then_normal (a3 _ _ _ _ ?_)
  refine seq_ (fun _ n6 => ?_)
  refine seq_ (fun _ n7 => ?_)
  have t2 := (Sl.step g1 s8)
  have s0 := (Old.step hXo s8)
  have g2 := (Evo.then0 E0 s7)
  have r0 := (Sub.trans hS (Step.up s8))
  obtain ⟨n8, g7, hp⟩ := hp
  refine ground_ ?_
  refine join_ 16711680 (fun lq s1 => ∃ (y8 : List Nat) (u4 : Bool), (lq = [(23, (.bool u4))]) ∧ (Evo [] w s1) ∧ (Old y8 s1) ∧ (Sub X y8) ∧ (Sl r_journal_Change y8 s1 z7 z6 l) ∧ (n8 u4)) (fun a5 r1 => ?_) ?_
  ·
   refine reg_ ?_
   refine sq (o_pv (.slice z7 l.length z6) rfl (by kernel_rfl) ?_)
   refine sq (o_call 8 #[(.slice z7 l.length z6)] rfl (x_call Tryz.call8 (by kernel_rfl)) (rectolaw6_few_w (X := []) (l := l) (Old.nil _) (Sl.less t2 (Sub.nil _)) hp) ?_)
   rintro _ e4 ⟨n9, hp, r2, rfl⟩
   have v3 := Step.of0 X r2
   cases n9
   ·
    replace hp := hp.2 rfl
    refine sq (o_pv (.bool true) rfl (by kernel_rfl) ?_)
    refine sq (o_pv (.bool true) rfl (by kernel_rfl) ?_)
    refine sq (o_not (by kernel_rfl) ?_)
    refine sq (o_not (by kernel_rfl) ?_)
    refine sq (o_not (by kernel_rfl) ?_)
    refine sq (o_pv (.bool true) rfl (by kernel_rfl) ?_)
    refine nil_ ?_
    have o0 := (Evo.then0 g2 r2)
    have k3 := (Old.step s0 v3)
    have g8 := (Sub.trans r0 (Step.up v3))
    have g9 := (Sl.step t2 v3)
    refine then_normal (r1 _ _ _ ⟨[(23, (.bool true))], fit_mk (fun _ _ => rfl) (by kernel_rfl) (vs_cons (by kernel_rfl) vs_nil), ?_⟩)
    exact ⟨X, true, rfl, o0, k3, g8, g9, hp⟩
   ·
    replace hp := hp.1 rfl
    refine sq (o_pv (.bool false) rfl (by kernel_rfl) ?_)
    refine sq (o_pv (.bool false) rfl (by kernel_rfl) ?_)
    refine sq (o_pv (.slice z7 l.length z6) (by kernel_rfl) (by kernel_rfl) ?_)
    have r3 := (Sl.step t2 v3)
    refine sq (o_call 9 #[(.string (ByteArray.mk #[46, 106])), (.slice z7 l.length z6)] (by kernel_rfl) (x_call Tryz.call9 (by kernel_rfl)) (rectolaw6_wrong_w (X := []) (dir := (ByteArray.mk #[46, 106])) (l := l) (Old.nil _) (by decide : (ByteArray.mk #[46, 106]).size ≤ maxLen) (Sl.less r3 (Sub.nil _)) hp) ?_)
    rintro _ e5 ⟨s2, hp, g3, rfl, d0⟩
    have r4 := Step.of0 X g3
    replace hp := hp d0
    refine sq (o_pv (.bool (!decide (s2 = (0 : Int)))) (by kernel_rfl) (by kernel_rfl) ?_)
    refine sq (o_pv (.bool (!decide (s2 = (0 : Int)))) rfl (by kernel_rfl) ?_)
    refine nil_ ?_
    have o1 := (Evo.then0 (Evo.then0 g2 r2) g3)
    have k4 := (Old.step (Old.step s0 v3) r4)
    have d1 := (Sub.trans (Sub.trans r0 (Step.up v3)) (Step.up r4))
    have d2 := (Sl.step r3 r4)
    refine then_normal (r1 _ _ _ ⟨[(23, (.bool (!decide (s2 = (0 : Int)))))], fit_mk (fun _ _ => rfl) (by kernel_rfl) (vs_cons (by kernel_rfl) vs_nil), ?_⟩)
    exact ⟨X, (!decide (s2 = (0 : Int))), rfl, o1, k4, d1, d2, hp⟩
  ·
   rintro _ s1 e6 ⟨y8, u4, rfl, r5, s3, d3, r6, d4⟩
   replace hp := g7 u4 d4
   refine then_normal (n7 _ _ _ _ ?_)
   refine cond_b u4 (by kernel_rfl) (fun r7 => ?_) (fun r7 => ?_)
   ·
    replace hp := hp.1 r7
    refine seq_ (fun _ o2 => ?_)
    refine reg_ ?_
    refine sq (o_pv (.bool true) rfl (by kernel_rfl) ?_)
    refine nil_ ?_
    refine then_normal (o2 _ _ _ _ ?_)
    refine wp_ret ?_
    refine then_ret ?_
    refine end_ret hQ (.bool true) (by kernel_rfl) ?_
    exact ⟨true, hp, r5, rfl⟩
   ·
    replace hp := hp.2 r7
    refine wp_skip ?_
    refine then_normal (n6 _ _ _ _ ?_)
    refine seq_ (fun _ o3 => ?_)
    refine reg_ ?_
    refine sq (o_pv (.slice z7 l.length z6) rfl (by kernel_rfl) ?_)
    refine sq (o_call 10 #[(.slice none (([] : List S_rectolaw6_file)).length 0), (.slice z7 l.length z6)] rfl (x_call Tryz.call10 (by rw []; kernel_rfl)) (rectolaw6_after_w (X := y8) (a := ([] : List S_rectolaw6_file)) (l := l) s3 Sl.nil r6 hp) ?_)
    rintro _ e7 ⟨y9, v4, hp, r8, y3, y4, rfl, r9⟩
    have q0 := Step.of0 y8 r8
    replace hp := hp (Sl.len r9)
    refine sq (o_pv (.tuple #[(.slice y3 y9.length y4), (.bool v4)]) rfl (by kernel_rfl) ?_)
    refine sq (o_pv (.slice y3 y9.length y4) rfl (by kernel_rfl) ?_)
    refine sq (o_pv (.bool v4) rfl (by kernel_rfl) ?_)
    refine sq (o_pv (.slice y3 y9.length y4) rfl (by kernel_rfl) ?_)
    refine sq (o_pv (.bool v4) rfl (by kernel_rfl) ?_)
    refine nil_ ?_
    refine then_normal (o3 _ _ _ _ ?_)
    refine seq_ (fun _ o4 => ?_)
    refine seq_ (fun _ o5 => ?_)
    refine reg_ ?_
    refine sq (o_pv (.bool v4) rfl (by kernel_rfl) ?_)
    refine sq (o_pv (.bool (!v4)) rfl (by kernel_rfl) ?_)
    refine nil_ ?_
    refine then_normal (o5 _ _ _ _ ?_)
    refine cond_b (!v4) (by kernel_rfl) (fun q1 => ?_) (fun q1 => ?_)
    ·
     replace hp := hp.1 q1
     refine seq_ (fun _ o6 => ?_)
     refine reg_ ?_
     refine sq (o_pv (.bool true) rfl (by kernel_rfl) ?_)
     refine nil_ ?_
     refine then_normal (o6 _ _ _ _ ?_)
     refine wp_ret ?_
     refine then_ret ?_
     have o7 := (Evo.then0 r5 r8)
     refine end_ret hQ (.bool true) (by kernel_rfl) ?_
     exact ⟨true, hp, o7, rfl⟩
    ·
     replace hp := hp.2 q1
     refine wp_skip ?_
     refine then_normal (o4 _ _ _ _ ?_)
     refine seq_ (fun _ o8 => ?_)
     refine reg_ ?_
     refine sq (o_pv (.int .u16 quota) rfl (by kernel_rfl) ?_)
     have o9 : inR .i64 quota := inR_up (by decide) (by decide) v2
     refine sq (o_pv (.int .i64 quota) rfl (x_conv (k := .u16) Tryz.underlying23 Tryz.underlying3 (by kernel_rfl) (wrap_inR o9)) ?_)
     obtain ⟨g4, hp⟩ := hp
     refine sq (o_pv (.int .i64 ((1 : Int) + quota)) rfl (x_add2 (k := .i64) (a := (1 : Int)) (b := quota) ((1 : Int) + quota) (by kernel_rfl) (by kernel_rfl) (wrap_inR g4)) ?_)
     refine sq (o_pv (.int .i64 ((1 : Int) + quota)) rfl (by kernel_rfl) ?_)
     refine nil_ ?_
     refine then_normal (o8 _ _ _ _ ?_)
     refine seq_ (fun _ c0 => ?_)
     refine reg_ ?_
     refine sq (o_pv (.int .i64 ((1 : Int) + quota)) rfl (by kernel_rfl) ?_)
     have g5 := (Evo.then0 r5 r8)
     have s4 := (Old.step s3 q0)
     have d5 := (Sub.trans d3 (Step.up q0))
     have d6 := (Sl.step r6 q0)
     refine sq (o_call 11 #[(.int .i64 ((1 : Int) + quota))] rfl (x_call Tryz.call11 (by kernel_rfl)) (simfs_New_w (X := y8) (quota := (1 : Int) + quota) s4 g4 hp) ?_)
     rintro _ e8 ⟨g6, hp, c1, y5, d7, u5, rfl, q2⟩
     have c2 := MO.re q2 (Wr.trans q2.wr (Wr.nil [] _) g5.size)
     refine sq (o_pv (.pointer (some ⟨y5, 0, none⟩)) rfl (by kernel_rfl) ?_)
     refine nil_ ?_
     refine then_normal (c0 _ _ _ _ ?_)
     refine seq_ (fun _ c3 => ?_)
     refine reg_ ?_
     refine sq (o_pv (.int .i64 (4096 : Int)) rfl (by kernel_rfl) ?_)
     refine nil_ ?_
     refine then_normal (c3 _ _ _ _ ?_)
     refine seq_ (fun _ c4 => ?_)
     refine seq_ (fun _ c5 => ?_)
     refine reg_ ?_
     refine sq (o_pv (.int .i64 (0 : Int)) rfl (by kernel_rfl) ?_)
     refine nil_ ?_
     refine then_normal (c5 _ _ _ _ ?_)
     refine wp_block ?_
     have d8 := (Evo.then0 g5 (Step.evo u5))
     have q3 := (Old.step s4 u5)
     have k5 := (Sub.trans d5 (Step.up u5))
     have k6 := (Sl.step d6 u5)
     have k7 := (Sl.step r9 u5)
     obtain ⟨d9, q4, k8, hp⟩ := hp
     refine loop_ 4503530907895296 (fun kq lq y6 => ∃ (z8 : List Nat) (z1 : Int) (z2 : Int), (lq = [(9, (.int .i64 z1)), (10, (.int .i64 z2))]) ∧ (kq = q4 z1 z2) ∧ (Evo [] w y6) ∧ (Old z8 y6) ∧ (Sub X z8) ∧ (Sl r_journal_Change z8 y6 z7 z6 l) ∧ (Sl r_rectolaw6_file z8 y6 y3 y4 y9) ∧ (MO o_simfs_FS 62 ([]) w.heap.size z8 y6 d7 y5 g6) ∧ (inR .i64 z1) ∧ (inR .i64 z2) ∧ (d9 z1 z2)) (q4 (4096 : Int) (0 : Int)) [(9, (.int .i64 (4096 : Int))), (10, (.int .i64 (0 : Int)))] (vs_cons (by kernel_rfl) (vs_cons (by kernel_rfl) vs_nil)) ⟨c1, (4096 : Int), (0 : Int), rfl, rfl, d8, q3, k5, k6, k7, c2, (by decide : inR .i64 (4096 : Int)), (by decide : inR .i64 (0 : Int)), k8⟩ ?_
     rintro _ _ y6 a6 ⟨z8, z1, z2, rfl, rfl, t3, v0, k9, v5, s5, v6, j0, j1, j2⟩ c6 j3
     replace hp := hp z1 z2 j2 j0 j1
     refine seq_ (fun _ l0 => ?_)
     refine seq_ (fun _ l1 => ?_)
     refine reg_ ?_
     refine sq (o_pv (.int .i64 z2) rfl (by kernel_rfl) ?_)
     refine sq (o_pv (.slice z7 l.length z6) rfl (by kernel_rfl) ?_)
     refine sq (o_pv (.int .i64 (l.length : Int)) rfl (by kernel_rfl) ?_)
     refine sq (o_pv (.bool (decide (z2 < (l.length : Int)))) rfl (by kernel_rfl) ?_)
     refine nil_ ?_
     refine then_normal (l1 _ _ _ _ ?_)
     refine cond_d (z2 < (l.length : Int)) (by kernel_rfl) (fun t4 => ?_) (fun t4 => ?_)
     ·
      replace hp := hp.1 t4
      refine wp_skip ?_
      refine then_normal (l0 _ _ _ _ ?_)
      refine seq_ (fun _ l2 => ?_)
      refine wp_block ?_
      refine reg_ ?_
      refine sq (o_pv (.int .i64 z1) rfl (by kernel_rfl) ?_)
      refine sq (o_pv (.slice z7 l.length z6) rfl (by kernel_rfl) ?_)
      refine sq (o_pv (.int .i64 z2) rfl (by kernel_rfl) ?_)
      obtain ⟨q5, hp⟩ := hp
      obtain ⟨q6, q7, c7, j4, c8, c9, j5, j6⟩ := Sl.atI v5 z2 q5
      obtain ⟨u6, u7, rfl, u9, t0, t1⟩ := r_journal_Change_open j5
      replace hp := hp u9
      replace hp := hp t0
      replace hp := hp (Sl.len t1)
      refine sq (o_pv (.pointer (some ⟨q6, q7 + z2.toNat * 4, none⟩)) rfl (x_ixA (m := l.length) (c := z6) (k := .i64) (i := z2) Tryz.underlying22 Tryz.sizeOf34 (by rw [← j4]; kernel_rfl) (by kernel_rfl) q5) ?_)
      refine sq (o_pv (.pointer (some ⟨q6, q7 + z2.toNat * 4 + 3, none⟩)) rfl (by kernel_rfl) ?_)
      refine sq (o_pv (.slice u6 (((lget l z2).Data).length) u7) rfl (x_load1 (by kernel_rfl) Tryz.isAgg32 (j6 3 _ rfl)) ?_)
      refine sq (o_pv (.int .i64 (((lget l z2).Data).length : Int)) rfl (by kernel_rfl) ?_)
      obtain ⟨l3, hp⟩ := hp
      refine sq (o_pv (.int .i64 ((2 : Int) * (((lget l z2).Data).length : Int))) rfl (x_mul2 (k := .i64) (a := (2 : Int)) (b := (((lget l z2).Data).length : Int)) ((2 : Int) * (((lget l z2).Data).length : Int)) (by kernel_rfl) (by kernel_rfl) (wrap_inR l3)) ?_)
      obtain ⟨l4, hp⟩ := hp
      refine sq (o_pv (.int .i64 (z1 + ((2 : Int) * (((lget l z2).Data).length : Int)))) rfl (x_add2 (k := .i64) (a := z1) (b := (2 : Int) * (((lget l z2).Data).length : Int)) (z1 + ((2 : Int) * (((lget l z2).Data).length : Int))) (by kernel_rfl) (by kernel_rfl) (wrap_inR l4)) ?_)
      obtain ⟨q8, hp⟩ := hp
      obtain ⟨y7, v7⟩ : ∃ y, y = ((z1 + ((2 : Int) * (((lget l z2).Data).length : Int))) + (128 : Int)) := ⟨_, rfl⟩
      replace hp := hp y7 v7
      have l5 : inR .i64 y7 := by rw [v7]; exact q8
      refine sq (o_pv (.int .i64 y7) rfl (by rw [v7]; exact (x_add2 (k := .i64) (a := z1 + ((2 : Int) * (((lget l z2).Data).length : Int))) (b := (128 : Int)) ((z1 + ((2 : Int) * (((lget l z2).Data).length : Int))) + (128 : Int)) (by kernel_rfl) (by kernel_rfl) (wrap_inR q8))) ?_)
      refine sq (o_pv (.int .i64 y7) rfl (by kernel_rfl) ?_)
      refine nil_ ?_
      refine blk_normal ?_
      refine then_normal (l2 _ _ _ _ ?_)
      refine reg_ ?_
      refine sq (o_pv (.int .i64 z2) rfl (by kernel_rfl) ?_)
      obtain ⟨q9, hp⟩ := hp
      refine sq (o_pv (.int .i64 (z2 + (1 : Int))) rfl (x_add2 (k := .i64) (a := z2) (b := (1 : Int)) (z2 + (1 : Int)) (by kernel_rfl) (by kernel_rfl) (wrap_inR q9)) ?_)
      refine sq (o_pv (.int .i64 (z2 + (1 : Int))) rfl (by kernel_rfl) ?_)
      refine nil_ ?_
      refine then_normal (j3 _ _ _ ⟨_, [(9, (.int .i64 y7)), (10, (.int .i64 (z2 + (1 : Int))))], hp.2, fit_mk (AgB.mix _ _ _) (by kernel_rfl) (vs_cons (by kernel_rfl) (vs_cons (by kernel_rfl) vs_nil)), ?_⟩)
      exact ⟨z8, y7, (z2 + (1 : Int)), rfl, rfl, t3, v0, k9, v5, s5, v6, l5, q9, hp.1⟩
     ·
      replace hp := hp.2 t4
      refine wp_exit ?_
      refine then_exit ?_
      refine then_exit ?_
      refine blk_exit ?_
      refine then_normal (c4 _ _ _ _ ?_)
      refine seq_ (fun _ l6 => ?_)
      refine reg_ ?_
      refine sq (o_pv (.pointer (some ⟨y5, 0, none⟩)) rfl (by kernel_rfl) ?_)
      refine sq (o_pv (.slice z7 l.length z6) rfl (by kernel_rfl) ?_)
      refine sq (o_call 12 #[(.pointer (some ⟨y5, 0, none⟩)), (.string (ByteArray.mk #[46, 106])), (.slice z7 l.length z6)] rfl (x_call Tryz.call12 (by kernel_rfl)) (journal_Do_w (X := z8) (f_ := g6) (dir := (ByteArray.mk #[46, 106])) (l := l) v0 (MO.re v6 (Wr.self _ _ (Sub.refl _))) (by decide : (ByteArray.mk #[46, 106]).size ≤ maxLen) v5 hp) ?_)
      rintro _ a7 ⟨j7, z0, hp, l7, a8, t5, rfl, k0, j8⟩
      have v8 := MO.re k0 (Wr.trans k0.wr v6.wr t3.size)
      replace hp := hp j8
      refine sq (o_pv (.int .i64 z0) rfl (by kernel_rfl) ?_)
      refine nil_ ?_
      refine then_normal (l6 _ _ _ _ ?_)
      refine seq_ (fun _ l8 => ?_)
      refine reg_ ?_
      refine sq (o_pv (.pointer (some ⟨y5, 0, none⟩)) rfl (by kernel_rfl) ?_)
      have t6 := (Evo.thenW t3 (Step.evo t5) v6.wr)
      have k1 := (Old.step v0 t5)
      have j9 := (Sl.step s5 t5)
      refine sq (o_call 13 #[(.pointer (some ⟨y5, 0, none⟩)), (.string (ByteArray.mk #[46, 106]))] rfl (x_call Tryz.call13 (by kernel_rfl)) (rectolaw6_all_w (X := l7) (f_ := j7) (dir := (ByteArray.mk #[46, 106])) k1 (MO.re v8 (Wr.self _ _ (Sub.refl _))) (by decide : (ByteArray.mk #[46, 106]).size ≤ maxLen) hp) ?_)
      rintro _ l9 ⟨a0, z4, z5, hp, a9, e0, z9, y0, v9, rfl, e1, s6⟩
      replace hp := hp (Sl.len s6)
      refine sq (o_pv (.tuple #[(.slice z9 z4.length y0), (.bool z5)]) rfl (by kernel_rfl) ?_)
      refine sq (o_pv (.slice z9 z4.length y0) rfl (by kernel_rfl) ?_)
      refine sq (o_pv (.bool z5) rfl (by kernel_rfl) ?_)
      refine sq (o_pv (.slice z9 z4.length y0) rfl (by kernel_rfl) ?_)
      refine sq (o_pv (.bool z5) rfl (by kernel_rfl) ?_)
      refine nil_ ?_
      refine then_normal (l8 _ _ _ _ ?_)
      refine seq_ (fun _ m0 => ?_)
      refine seq_ (fun _ m1 => ?_)
      refine ground_ ?_
      refine join_ 604461756885809980506112 (fun lq k2 => lq = [(78, (.bool (decide ((¬ (z5 = true)) ∨ (((z0 = (0 : Int)) ∧ ((z1 ≤ ((1 : Int) + quota)) ∧ (¬ (z0 = (0 : Int))))) ∨ ((¬ (z0 = (0 : Int))) ∧ ((¬ (z0 = (14 : Int))) ∨ ((z1 ≤ ((1 : Int) + quota)) ∧ (¬ (z0 = (0 : Int)))))))))))] ∧ l9 = k2) (fun a1 y1 => ?_) ?_
      ·
       refine reg_ ?_
       by_cases z3 : z5 = true
       ·
        refine sq (o_pv (.bool true) rfl (x_bt (by kernel_rfl) z3) ?_)
        refine sq (o_pv (.bool false) rfl (by kernel_rfl) ?_)
        refine sq (o_pv (.bool false) rfl (by kernel_rfl) ?_)
        refine sq (o_pv (.int .i64 z0) (by kernel_rfl) (by kernel_rfl) ?_)
        by_cases y2 : z0 = (0 : Int)
        ·
         refine sq (o_pv (.bool false) (by kernel_rfl) (x_ndf (p := z0 = (0 : Int)) (by kernel_rfl) y2) ?_)
         refine sq (o_pv (.bool false) (by kernel_rfl) (by kernel_rfl) ?_)
         refine sq (o_not (by kernel_rfl) ?_)
         refine sq (o_not (by kernel_rfl) ?_)
         refine sq (o_pv (.bool false) (by kernel_rfl) (by kernel_rfl) ?_)
         refine sq (o_pv (.bool false) rfl (by kernel_rfl) ?_)
         refine sq (o_pv (.bool false) rfl (by kernel_rfl) ?_)
         refine sq (o_pv (.int .i64 z1) (by kernel_rfl) (by kernel_rfl) ?_)
         refine sq (o_pv (.int .i64 ((1 : Int) + quota)) (by kernel_rfl) (by kernel_rfl) ?_)
         by_cases u1 : z1 ≤ ((1 : Int) + quota)
         ·
          refine sq (o_pv (.bool true) (by kernel_rfl) (x_dt (p := z1 ≤ ((1 : Int) + quota)) (by kernel_rfl) u1) ?_)
          refine sq (o_pv (.bool true) (by kernel_rfl) (by kernel_rfl) ?_)
          refine sq (o_pv (.int .i64 z0) (by kernel_rfl) (by kernel_rfl) ?_)
          refine sq (o_pv (.bool (!decide (z0 = (0 : Int)))) (by kernel_rfl) (by kernel_rfl) ?_)
          refine sq (o_pv (.bool (!decide (z0 = (0 : Int)))) (by kernel_rfl) (by kernel_rfl) ?_)
          refine sq (o_pv (.bool (!decide (z0 = (0 : Int)))) rfl (by kernel_rfl) ?_)
          refine nil_ ?_
          refine then_normal (y1 _ _ _ ⟨[(78, (.bool (decide ((¬ (z5 = true)) ∨ (((z0 = (0 : Int)) ∧ ((z1 ≤ ((1 : Int) + quota)) ∧ (¬ (z0 = (0 : Int))))) ∨ ((¬ (z0 = (0 : Int))) ∧ ((¬ (z0 = (14 : Int))) ∨ ((z1 ≤ ((1 : Int) + quota)) ∧ (¬ (z0 = (0 : Int)))))))))))], fit_mk (fun _ _ => rfl) (by kernel_rfl) (vs_cons (Eq.trans (b := (.bool (!decide (z0 = (0 : Int))))) (by kernel_rfl) (dec_n ((or_iff_right (fun u2 => u2 z3)).trans (by simp [z3, y2, u1]))).symm) vs_nil), rfl, rfl⟩)
         ·
          refine sq (o_pv (.bool false) (by kernel_rfl) (x_df (p := z1 ≤ ((1 : Int) + quota)) (by kernel_rfl) u1) ?_)
          refine sq (o_pv (.bool false) (by kernel_rfl) (by kernel_rfl) ?_)
          refine sq (o_not (by kernel_rfl) ?_)
          refine sq (o_not (by kernel_rfl) ?_)
          refine sq (o_pv (.bool false) (by kernel_rfl) (by kernel_rfl) ?_)
          refine sq (o_pv (.bool false) rfl (by kernel_rfl) ?_)
          refine nil_ ?_
          refine then_normal (y1 _ _ _ ⟨[(78, (.bool (decide ((¬ (z5 = true)) ∨ (((z0 = (0 : Int)) ∧ ((z1 ≤ ((1 : Int) + quota)) ∧ (¬ (z0 = (0 : Int))))) ∨ ((¬ (z0 = (0 : Int))) ∧ ((¬ (z0 = (14 : Int))) ∨ ((z1 ≤ ((1 : Int) + quota)) ∧ (¬ (z0 = (0 : Int)))))))))))], fit_mk (fun _ _ => rfl) (by kernel_rfl) (vs_cons (Eq.trans (b := (.bool false)) (by kernel_rfl) (dec_f ((or_iff_right (fun u2 => u2 z3)).trans (by simp [z3, y2, u1]))).symm) vs_nil), rfl, rfl⟩)
        ·
         refine sq (o_pv (.bool true) (by kernel_rfl) (x_ndt (p := z0 = (0 : Int)) (by kernel_rfl) y2) ?_)
         refine sq (o_pv (.bool true) (by kernel_rfl) (by kernel_rfl) ?_)
         refine sq (o_pv (.int .i64 z0) (by kernel_rfl) (by kernel_rfl) ?_)
         by_cases v1 : z0 = (14 : Int)
         ·
          refine sq (o_pv (.bool false) (by kernel_rfl) (x_ndf (p := z0 = (14 : Int)) (by kernel_rfl) v1) ?_)
          refine sq (o_pv (.bool false) (by kernel_rfl) (by kernel_rfl) ?_)
          refine sq (o_pv (.bool false) rfl (by kernel_rfl) ?_)
          refine sq (o_pv (.bool false) rfl (by kernel_rfl) ?_)
          refine sq (o_pv (.int .i64 z1) (by kernel_rfl) (by kernel_rfl) ?_)
          refine sq (o_pv (.int .i64 ((1 : Int) + quota)) (by kernel_rfl) (by kernel_rfl) ?_)
          by_cases u3 : z1 ≤ ((1 : Int) + quota)
          ·
           refine sq (o_pv (.bool true) (by kernel_rfl) (x_dt (p := z1 ≤ ((1 : Int) + quota)) (by kernel_rfl) u3) ?_)
           refine sq (o_pv (.bool true) (by kernel_rfl) (by kernel_rfl) ?_)
           refine sq (o_pv (.int .i64 z0) (by kernel_rfl) (by kernel_rfl) ?_)
           refine sq (o_pv (.bool (!decide (z0 = (0 : Int)))) (by kernel_rfl) (by kernel_rfl) ?_)
           refine sq (o_pv (.bool (!decide (z0 = (0 : Int)))) (by kernel_rfl) (by kernel_rfl) ?_)
           refine sq (o_pv (.bool (!decide (z0 = (0 : Int)))) rfl (by kernel_rfl) ?_)
           refine nil_ ?_
           refine then_normal (y1 _ _ _ ⟨[(78, (.bool (decide ((¬ (z5 = true)) ∨ (((z0 = (0 : Int)) ∧ ((z1 ≤ ((1 : Int) + quota)) ∧ (¬ (z0 = (0 : Int))))) ∨ ((¬ (z0 = (0 : Int))) ∧ ((¬ (z0 = (14 : Int))) ∨ ((z1 ≤ ((1 : Int) + quota)) ∧ (¬ (z0 = (0 : Int)))))))))))], fit_mk (fun _ _ => rfl) (by kernel_rfl) (vs_cons (Eq.trans (b := (.bool (!decide (z0 = (0 : Int))))) (by kernel_rfl) (dec_n ((or_iff_right (fun u2 => u2 z3)).trans (by simp [z3, y2, v1, u3]))).symm) vs_nil), rfl, rfl⟩)
          ·
           refine sq (o_pv (.bool false) (by kernel_rfl) (x_df (p := z1 ≤ ((1 : Int) + quota)) (by kernel_rfl) u3) ?_)
           refine sq (o_pv (.bool false) (by kernel_rfl) (by kernel_rfl) ?_)
           refine sq (o_not (by kernel_rfl) ?_)
           refine sq (o_not (by kernel_rfl) ?_)
           refine sq (o_pv (.bool false) (by kernel_rfl) (by kernel_rfl) ?_)
           refine sq (o_pv (.bool false) rfl (by kernel_rfl) ?_)
           refine nil_ ?_
           refine then_normal (y1 _ _ _ ⟨[(78, (.bool (decide ((¬ (z5 = true)) ∨ (((z0 = (0 : Int)) ∧ ((z1 ≤ ((1 : Int) + quota)) ∧ (¬ (z0 = (0 : Int))))) ∨ ((¬ (z0 = (0 : Int))) ∧ ((¬ (z0 = (14 : Int))) ∨ ((z1 ≤ ((1 : Int) + quota)) ∧ (¬ (z0 = (0 : Int)))))))))))], fit_mk (fun _ _ => rfl) (by kernel_rfl) (vs_cons (Eq.trans (b := (.bool false)) (by kernel_rfl) (dec_f ((or_iff_right (fun u2 => u2 z3)).trans (by simp [z3, y2, v1, u3]))).symm) vs_nil), rfl, rfl⟩)
         ·
          refine sq (o_pv (.bool true) (by kernel_rfl) (x_ndt (p := z0 = (14 : Int)) (by kernel_rfl) v1) ?_)
          refine sq (o_pv (.bool true) (by kernel_rfl) (by kernel_rfl) ?_)
          refine sq (o_pv (.bool true) rfl (by kernel_rfl) ?_)
          refine sq (o_pv (.bool true) rfl (by kernel_rfl) ?_)
          refine sq (o_not (by kernel_rfl) ?_)
          refine sq (o_not (by kernel_rfl) ?_)
          refine sq (o_not (by kernel_rfl) ?_)
          refine sq (o_not (by kernel_rfl) ?_)
          refine sq (o_not (by kernel_rfl) ?_)
          refine sq (o_not (by kernel_rfl) ?_)
          refine sq (o_not (by kernel_rfl) ?_)
          refine sq (o_pv (.bool true) rfl (by kernel_rfl) ?_)
          refine nil_ ?_
          refine then_normal (y1 _ _ _ ⟨[(78, (.bool (decide ((¬ (z5 = true)) ∨ (((z0 = (0 : Int)) ∧ ((z1 ≤ ((1 : Int) + quota)) ∧ (¬ (z0 = (0 : Int))))) ∨ ((¬ (z0 = (0 : Int))) ∧ ((¬ (z0 = (14 : Int))) ∨ ((z1 ≤ ((1 : Int) + quota)) ∧ (¬ (z0 = (0 : Int)))))))))))], fit_mk (fun _ _ => rfl) (by kernel_rfl) (vs_cons (Eq.trans (b := (.bool true)) (by kernel_rfl) (dec_t ((or_iff_right (fun u2 => u2 z3)).trans (by simp [z3, y2, v1]))).symm) vs_nil), rfl, rfl⟩)
       ·
        refine sq (o_pv (.bool false) rfl (x_bf (by kernel_rfl) z3) ?_)
        refine sq (o_pv (.bool true) rfl (by kernel_rfl) ?_)
        refine sq (o_pv (.bool true) rfl (by kernel_rfl) ?_)
        refine sq (o_not (by kernel_rfl) ?_)
        refine sq (o_not (by kernel_rfl) ?_)
        refine sq (o_not (by kernel_rfl) ?_)
        refine sq (o_not (by kernel_rfl) ?_)
        refine sq (o_not (by kernel_rfl) ?_)
        refine sq (o_not (by kernel_rfl) ?_)
        refine sq (o_pv (.bool true) rfl (by kernel_rfl) ?_)
        refine sq (o_pv (.bool true) rfl (by kernel_rfl) ?_)
        refine sq (o_not (by kernel_rfl) ?_)
        refine sq (o_not (by kernel_rfl) ?_)
        refine sq (o_not (by kernel_rfl) ?_)
        refine sq (o_not (by kernel_rfl) ?_)
        refine sq (o_not (by kernel_rfl) ?_)
        refine sq (o_not (by kernel_rfl) ?_)
        refine sq (o_not (by kernel_rfl) ?_)
        refine sq (o_pv (.bool true) rfl (by kernel_rfl) ?_)
        refine nil_ ?_
        refine then_normal (y1 _ _ _ ⟨[(78, (.bool (decide ((¬ (z5 = true)) ∨ (((z0 = (0 : Int)) ∧ ((z1 ≤ ((1 : Int) + quota)) ∧ (¬ (z0 = (0 : Int))))) ∨ ((¬ (z0 = (0 : Int))) ∧ ((¬ (z0 = (14 : Int))) ∨ ((z1 ≤ ((1 : Int) + quota)) ∧ (¬ (z0 = (0 : Int)))))))))))], fit_mk (fun _ _ => rfl) (by kernel_rfl) (vs_cons (Eq.trans (b := (.bool true)) (by kernel_rfl) (dec_t (iff_true_intro (Or.inl z3))).symm) vs_nil), rfl, rfl⟩)
      ·
       rintro _ k2 e2 ⟨rfl, hw⟩
       subst hw
       refine then_normal (m1 _ _ _ _ ?_)
       refine cond_d ((¬ (z5 = true)) ∨ (((z0 = (0 : Int)) ∧ ((z1 ≤ ((1 : Int) + quota)) ∧ (¬ (z0 = (0 : Int))))) ∨ ((¬ (z0 = (0 : Int))) ∧ ((¬ (z0 = (14 : Int))) ∨ ((z1 ≤ ((1 : Int) + quota)) ∧ (¬ (z0 = (0 : Int)))))))) (by kernel_rfl) (fun t7 => ?_) (fun t7 => ?_)
       ·
        replace hp := hp.1 t7
        refine seq_ (fun _ m2 => ?_)
        refine reg_ ?_
        refine sq (o_pv (.bool false) rfl (by kernel_rfl) ?_)
        refine nil_ ?_
        refine then_normal (m2 _ _ _ _ ?_)
        refine wp_ret ?_
        refine then_ret ?_
        have m3 := (Evo.thenW t6 (Step.evo v9) v8.wr)
        refine end_ret hQ (.bool false) (by kernel_rfl) ?_
        exact ⟨false, hp, m3, rfl⟩
       ·
        replace hp := hp.2 t7
        refine wp_skip ?_
        refine then_normal (m0 _ _ _ _ ?_)
        refine seq_ (fun _ m4 => ?_)
        refine seq_ (fun _ m5 => ?_)
        refine reg_ ?_
        refine sq (o_pv (.int .i64 z0) rfl (by kernel_rfl) ?_)
        refine sq (o_pv (.bool (decide (z0 = (0 : Int)))) rfl (by kernel_rfl) ?_)
        refine nil_ ?_
        refine then_normal (m5 _ _ _ _ ?_)
        refine cond_d (z0 = (0 : Int)) (by kernel_rfl) (fun t8 => ?_) (fun t8 => ?_)
        ·
         replace hp := hp.1 t8
         refine seq_ (fun _ m6 => ?_)
         refine reg_ ?_
         refine sq (o_pv (.slice z9 z4.length y0) rfl (by kernel_rfl) ?_)
         refine sq (o_pv (.slice y3 y9.length y4) rfl (by kernel_rfl) ?_)
         have g0 := (Sl.step j9 v9)
         refine sq (o_call 14 #[(.slice z9 z4.length y0), (.slice y3 y9.length y4)] rfl (x_call Tryz.call14 (by kernel_rfl)) (rectolaw6_same_w (X := []) (a := z4) (b := y9) (Old.nil _) (Sl.less s6 (Sub.nil _)) (Sl.less g0 (Sub.nil _)) hp) ?_)
         rintro _ e3 ⟨t9, hp, m7, rfl⟩
         refine sq (o_pv (.bool t9) rfl (by kernel_rfl) ?_)
         refine nil_ ?_
         refine then_normal (m6 _ _ _ _ ?_)
         refine wp_ret ?_
         refine then_ret ?_
         have m8 := (Evo.then0 (Evo.thenW t6 (Step.evo v9) v8.wr) m7)
         refine end_ret hQ (.bool t9) (by kernel_rfl) ?_
         exact ⟨t9, hp, m8, rfl⟩
        ·
         replace hp := hp.2 t8
         refine wp_skip ?_
         refine then_normal (m4 _ _ _ _ ?_)
         refine seq_ (fun _ m9 => ?_)
         refine reg_ ?_
         refine sq (o_pv (.slice z9 z4.length y0) rfl (by kernel_rfl) ?_)
         refine sq (o_pv (.int .i64 (z4.length : Int)) rfl (by kernel_rfl) ?_)
         refine sq (o_pv (.bool (decide ((z4.length : Int) = (0 : Int)))) rfl (by kernel_rfl) ?_)
         refine sq (o_pv (.bool (decide ((z4.length : Int) = (0 : Int)))) rfl (by kernel_rfl) ?_)
         refine nil_ ?_
         refine then_normal (m9 _ _ _ _ ?_)
         refine wp_ret ?_
         have n0 := (Evo.thenW t6 (Step.evo v9) v8.wr)
         refine end_ret hQ (.bool (decide ((z4.length : Int) = (0 : Int)))) (by kernel_rfl) ?_
         exact ⟨(decide ((z4.length : Int) = (0 : Int))), hp, n0, rfl⟩
end Go.Proofs.YtlkfoebophjhfaaGreatDoor
