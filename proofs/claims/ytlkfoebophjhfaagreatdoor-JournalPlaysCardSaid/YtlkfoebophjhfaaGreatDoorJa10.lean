/- Walks of functions: what each asks and computes, as a plain predicate, and the contract from it. -/
import Derived.Test.YtlkfoebophjhfaaGreatDoorChecked
import Derived.Test.YtlkfoebophjhfaaGreatDoorPk
import Derived.Test.YtlkfoebophjhfaaGreatDoorJa9
namespace Go.Proofs.YtlkfoebophjhfaaGreatDoor
open Go
def rectolaw6_after_p (a : (List S_rectolaw6_file)) (l : (List S_journal_Change)) (Q : (List S_rectolaw6_file) → Bool → Prop) : Prop :=
 ((a.length ≤ 9223372036854775807) → ((l.length ≤ 9223372036854775807) → (∃ (y2 : (List S_rectolaw6_file) → Int → Prop) (v1 : (List S_rectolaw6_file) → Int → Nat), (y2 a (0 : Int)) ∧ (∀ (z1 : (List S_rectolaw6_file)) (z0 : Int), (y2 z1 z0) → (z1.length ≤ 9223372036854775807) → (inR .i64 z0) → (((z0 < (l.length : Int)) → ((inL l z0) ∧ ((((lget l z0).Path).size ≤ maxLen) → ((inR .i64 ((lget l z0).Mode)) → ((((lget l z0).Data).length ≤ 9223372036854775807) → ((inL l z0) ∧ ((((lget l z0).Path).size ≤ maxLen) → ((inR .i64 ((lget l z0).Mode)) → ((((lget l z0).Data).length ≤ 9223372036854775807) → ((inL l z0) ∧ ((((lget l z0).Path).size ≤ maxLen) → ((inR .i64 ((lget l z0).Mode)) → ((((lget l z0).Data).length ≤ 9223372036854775807) → ((inL l z0) ∧ ((((lget l z0).Path).size ≤ maxLen) → ((inR .i64 ((lget l z0).Mode)) → ((((lget l z0).Data).length ≤ 9223372036854775807) → (∃ (y3 : (List S_rectolaw6_file) → Bool → Int → Prop) (v2 : (List S_rectolaw6_file) → Bool → Int → Nat), (y3 ([] : List S_rectolaw6_file) ((lget l z0).Gone) (0 : Int)) ∧ (∀ (z4 : (List S_rectolaw6_file)) (z6 : Bool) (z2 : Int), (y3 z4 z6 z2) → (z4.length ≤ 9223372036854775807) → (inR .i64 z2) → (((z2 < (z1.length : Int)) → (∃ y4 : (List S_rectolaw6_file) → Bool → Prop, (∀ (z8 : (List S_rectolaw6_file)) (y0 : Bool), y4 z8 y0 → (z8.length ≤ 9223372036854775807) → ((inR .i64 (z2 + (1 : Int))) ∧ ((y3 z8 y0 (z2 + (1 : Int))) ∧ v2 z8 y0 (z2 + (1 : Int)) < v2 z4 z6 z2))) ∧ (∃ y5 : Bool → Prop, (∀ (y6 : Bool), y5 y6 → (∃ y7 : (List S_rectolaw6_file) → Bool → Prop, (∀ (z7 : (List S_rectolaw6_file)) (y1 : Bool), y7 z7 y1 → (z7.length ≤ 9223372036854775807) → ((inL z1 z2) ∧ ((((lget z1 z2).path).size ≤ maxLen) → ((inR .i64 ((lget z1 z2).mode)) → ((((lget z1 z2).data).size ≤ maxLen) → (((¬ (((lget z1 z2).path : ByteArray) = (lget l z0).Path)) → ((inL z1 z2) ∧ ((((lget z1 z2).path).size ≤ maxLen) → ((inR .i64 ((lget z1 z2).mode)) → ((((lget z1 z2).data).size ≤ maxLen) → (((z7.length + ([(lget z1 z2)]).length) * 40 ≤ 140737488355328) ∧ (y4 (z7 ++ ([(lget z1 z2)])) y1))))))) ∧ ((((lget z1 z2).path : ByteArray) = (lget l z0).Path) → (y4 z7 y1)))))))) ∧ (((y6 = true) → (((z4.length + ([(S_rectolaw6_file.mk ((lget l z0).Path) ((lget l z0).Mode) (strOfNums ((lget l z0).Data)))]).length) * 40 ≤ 140737488355328) ∧ (∀ v3 : List S_rectolaw6_file, v3 = (z4 ++ ([(S_rectolaw6_file.mk ((lget l z0).Path) ((lget l z0).Mode) (strOfNums ((lget l z0).Data)))])) → (y7 v3 true)))) ∧ ((y6 = false) → (y7 z4 z6))))) ∧ (((z6 = true) → (y5 false)) ∧ ((¬ (z6 = true)) → ((inL z1 z2) ∧ ((((lget z1 z2).path).size ≤ maxLen) → ((inR .i64 ((lget z1 z2).mode)) → ((((lget z1 z2).data).size ≤ maxLen) → (y5 (!(sless ((lget z1 z2).path) ((lget l z0).Path) || decide (((lget z1 z2).path) = ((lget l z0).Path)))))))))))))) ∧ ((¬ (z2 < (z1.length : Int))) → (∃ y8 : (List S_rectolaw6_file) → Prop, (∀ (z9 : (List S_rectolaw6_file)), y8 z9 → (z9.length ≤ 9223372036854775807) → ((inR .i64 (z0 + (1 : Int))) ∧ ((y2 z9 (z0 + (1 : Int))) ∧ v1 z9 (z0 + (1 : Int)) < v1 z1 z0))) ∧ ((((!z6) = true) → (((z4.length + ([(S_rectolaw6_file.mk ((lget l z0).Path) ((lget l z0).Mode) (strOfNums ((lget l z0).Data)))]).length) * 40 ≤ 140737488355328) ∧ (∀ v4 : List S_rectolaw6_file, v4 = (z4 ++ ([(S_rectolaw6_file.mk ((lget l z0).Path) ((lget l z0).Mode) (strOfNums ((lget l z0).Data)))])) → (y8 v4)))) ∧ (((!z6) = false) → (y8 z4))))))))))))))))))))))))) ∧ ((¬ (z0 < (l.length : Int))) → (∃ (y9 : Int → Prop) (v5 : Int → Nat), (y9 (0 : Int)) ∧ (∀ (z3 : Int), (y9 z3) → (inR .i64 z3) → (((z3 < (z1.length : Int)) → (∃ (v0 : Int → Prop) (v6 : Int → Nat), (v0 (0 : Int)) ∧ (∀ (z5 : Int), (v0 z5) → (inR .i64 z5) → (((z5 < z3) → ((inL z1 z5) ∧ ((((lget z1 z5).path).size ≤ maxLen) → ((inR .i64 ((lget z1 z5).mode)) → ((((lget z1 z5).data).size ≤ maxLen) → ((inL z1 z3) ∧ ((((lget z1 z3).path).size ≤ maxLen) → ((inR .i64 ((lget z1 z3).mode)) → ((((lget z1 z3).data).size ≤ maxLen) → (rectoref1_Clash_p ((lget z1 z5).path) ((lget z1 z3).path) (fun (v7 : Bool) => (((v7 = true) → Q z1 false) ∧ ((v7 = false) → ((inR .i64 (z5 + (1 : Int))) ∧ ((v0 (z5 + (1 : Int))) ∧ v6 (z5 + (1 : Int)) < v6 z5))))))))))))))) ∧ ((¬ (z5 < z3)) → ((inR .i64 (z3 + (1 : Int))) ∧ ((y9 (z3 + (1 : Int))) ∧ v5 (z3 + (1 : Int)) < v5 z3))))))) ∧ ((¬ (z3 < (z1.length : Int))) → Q z1 true))))))))))
set_option maxRecDepth 20000 in
set_option maxHeartbeats 4000000 in
theorem rectolaw6_after_w {X : List Nat} {w : World} {a : (List S_rectolaw6_file)} {l : (List S_journal_Change)} {n0 : Option Addr} {n1 : Nat} {v3 : Option Addr} {y2 : Nat} {Q : (List S_rectolaw6_file) → Bool → Prop} (E3 : Old X w) (E4 : Sl r_rectolaw6_file X w n0 n1 a) (E5 : Sl r_journal_Change X w v3 y2 l) (hp : rectolaw6_after_p a l Q) :
  Calls Tryz.prog 10 #[(.slice n0 a.length n1), (.slice v3 l.length y2)] w (Ret fun v w' => ∃ (E6 : (List S_rectolaw6_file)) (E7 : Bool), Q E6 E7 ∧ Evo [] w w' ∧ ∃ (Z6 : Option Addr) (Z7 : Nat), v = .tuple #[(.slice Z6 E6.length Z7), (.bool E7)] ∧ Sl r_rectolaw6_file X w' Z6 Z7 E6) := by
 have hXo := E3
 have E0 : Evo [] w w := RB.refl _ _ _
 have hS : Sub X X := Sub.refl _
 unfold rectolaw6_after_p at hp
 refine enter_ Tryz.func10 rfl 109 [(0, (.slice n0 a.length n1)), (1, (.slice v3 l.length y2))] (by kernel_rfl) (fun Qe hQ => ?_)
 replace hp := hp (Sl.len E4) (Sl.len E5)
 refine sr (fun _ u00 => pv (.slice none 0 0) ?_)
 refine pv (.bool false) ?_
 refine nt u00 (seq_ (fun _ t00 => sr (fun _ s00 => pv (.int .i64 (0 : Int)) ?_)))
 refine nt s00 (wp_block ?_)
 obtain ⟨L0, c2, Z8, hp⟩ := hp
 refine loop_ 38685626227668133590591425 (fun kq lq v4 => ∃ (v5 : List Nat) (z1 : (List S_rectolaw6_file)) (z0 : Int) (z5 : Option Addr) (z3 : Nat), (lq = [(0, (.slice z5 z1.length z3)), (6, (.int .i64 z0))]) ∧ (kq = c2 z1 z0) ∧ (Evo [] w v4) ∧ (Old v5 v4) ∧ (Sub X v5) ∧ (Sl r_journal_Change v5 v4 v3 y2 l) ∧ (Sl r_rectolaw6_file v5 v4 z5 z3 z1) ∧ (inR .i64 z0) ∧ (L0 z1 z0)) (c2 a (0 : Int)) [(0, (.slice n0 a.length n1)), (6, (.int .i64 (0 : Int)))] (vs_cons (by kernel_rfl) (vs_cons (by kernel_rfl) vs_nil)) ⟨X, a, (0 : Int), n0, n1, rfl, rfl, E0, hXo, hS, E5, E4, (by decide : inR .i64 (0 : Int)), Z8⟩ ?_
 rintro _ _ v4 S9 ⟨v5, z1, z0, z5, z3, rfl, rfl, c3, j2, n2, n3, j7, Z9, Y0⟩ E8 Y1
 replace hp := hp z1 z0 Y0 (Sl.len j7) Z9
 refine seq_ (fun _ L1 => sr (fun _ L2 => pv (.int .i64 z0) ?_))
 refine pv (.slice v3 l.length y2) ?_
 refine pv (.int .i64 (l.length : Int)) ?_
 refine pv (.bool (decide (z0 < (l.length : Int)))) ?_
 refine nt L2 ?_
 refine cond_d (z0 < (l.length : Int)) (by kernel_rfl) (fun j8 => ?_) (fun j8 => ?_)
 ·
  replace hp := hp.1 j8
  refine wp_skip (then_normal (L1 _ _ _ _ (seq_ (fun _ L3 => wp_block (sr (fun _ L4 => pv (.slice none 0 0) ?_))))))
  refine nt L4 (sr (fun _ L5 => pv (.slice v3 l.length y2) ?_))
  refine pv (.int .i64 z0) ?_
  obtain ⟨c4, hp⟩ := hp
  obtain ⟨c5, c6, E9, Y2, F0, F1, Y3, Y4⟩ := Sl.atI n3 z0 c4
  obtain ⟨L6, L7, rfl, j9, g0, g1⟩ := r_journal_Change_open Y3
  replace hp := hp j9 g0 (Sl.len g1)
  refine pw (.pointer (some ⟨c5, c6 + z0.toNat * 4, none⟩)) (x_ixA (m := l.length) (c := y2) (k := .i64) (i := z0) Tryz.underlying22 Tryz.sizeOf34 (by rw [← Y2]; kernel_rfl) (by kernel_rfl) c4) ?_
  refine pv (.pointer (some ⟨c5, c6 + z0.toNat * 4 + 1, none⟩)) ?_
  refine pw (.bool ((lget l z0).Gone)) (x_load1 (by kernel_rfl) Tryz.isAgg4 (Y4 1 _ rfl)) ?_
  refine pv (.bool ((lget l z0).Gone)) ?_
  refine nt L5 (seq_ (fun _ L8 => ?_))
  refine reg_drawn (RB v4.heap.size []) 18 (by kernel_rfl) (fun c7 k5 => ?_)
  have L9 := Evo.of_drew k5
  have t5 : c7.heap.size = v4.heap.size := by rw [k5]
  clear k5
  have s3 := Step.of0 v5 L9
  have v8 := RB.refl v4.heap.size [] c7
  have c8 := Evo.then0 c3 (Step.evo s3)
  have p4 := Old.step j2 s3
  have Y5 := Sub.trans n2 (Step.up s3)
  have s4 := Sl.step n3 s3
  have K0 := Sl.step j7 s3
  refine r_take 0 (.slice v3 l.length y2) (RB.pre _ _) rfl (by kernel_rfl) (fun _ _ _ h => hQ.panic _ _ _ _ _ h) (.inl ⟨rfl, fun wq hq => (by kernel_rfl)⟩) ?_
  refine r_take 1 (.int .i64 z0) (RB.pre _ _) rfl (by kernel_rfl) (fun _ _ _ h => hQ.panic _ _ _ _ _ h) (.inl ⟨rfl, fun wq hq => (by kernel_rfl)⟩) ?_
  obtain ⟨c9, hp⟩ := hp
  obtain ⟨a0, a1, F2, Y6, F3, Y7, Y8, Y9⟩ := Sl.atI s4 z0 c9
  obtain ⟨K1, K2, rfl, u1, g2, g3⟩ := r_journal_Change_open Y8
  replace hp := hp u1 g2 (Sl.len g3)
  refine r_take 2 (.pointer (some ⟨a0, a1 + z0.toNat * 4, none⟩)) (RB.pre _ _) rfl (by kernel_rfl) (fun _ _ _ h => hQ.panic _ _ _ _ _ h) (.inl ⟨rfl, fun wq hq => (x_ixA (m := l.length) (c := y2) (k := .i64) (i := z0) Tryz.underlying22 Tryz.sizeOf34 (by rw [← Y6]; kernel_rfl) (by kernel_rfl) c9)⟩) ?_
  refine r_take 3 (.pointer (some ⟨a0, a1 + z0.toNat * 4, none⟩)) (RB.pre _ _) rfl (by kernel_rfl) (fun _ _ _ h => hQ.panic _ _ _ _ _ h) (.inl ⟨rfl, fun wq hq => (by kernel_rfl)⟩) ?_
  refine r_take 4 (.string ((lget l z0).Path)) (RB.pre _ _) rfl (by kernel_rfl) (fun _ _ _ h => hQ.panic _ _ _ _ _ h) (.inl ⟨rfl, fun wq hq => (x_load1 (by kernel_rfl) Tryz.isAgg9 ((CellsAt.rb Y9 (RB.trans v8 hq) (Nat.lt_of_lt_of_eq Y7 t5) (fun h => by cases h)) 0 _ rfl))⟩) ?_
  refine r_take 5 (.slice v3 l.length y2) (RB.pre _ _) rfl (by kernel_rfl) (fun _ _ _ h => hQ.panic _ _ _ _ _ h) (.inl ⟨rfl, fun wq hq => (by kernel_rfl)⟩) ?_
  refine r_take 6 (.int .i64 z0) (RB.pre _ _) rfl (by kernel_rfl) (fun _ _ _ h => hQ.panic _ _ _ _ _ h) (.inl ⟨rfl, fun wq hq => (by kernel_rfl)⟩) ?_
  obtain ⟨a2, hp⟩ := hp
  obtain ⟨a3, a4, F4, V0, F5, V1, V2, V3⟩ := Sl.atI s4 z0 a2
  obtain ⟨K3, K4, rfl, g4, u2, g5⟩ := r_journal_Change_open V2
  replace hp := hp g4 u2 (Sl.len g5)
  refine r_take 7 (.pointer (some ⟨a3, a4 + z0.toNat * 4, none⟩)) (RB.pre _ _) rfl (by kernel_rfl) (fun _ _ _ h => hQ.panic _ _ _ _ _ h) (.inl ⟨rfl, fun wq hq => (x_ixA (m := l.length) (c := y2) (k := .i64) (i := z0) Tryz.underlying22 Tryz.sizeOf34 (by rw [← V0]; kernel_rfl) (by kernel_rfl) a2)⟩) ?_
  refine r_take 8 (.pointer (some ⟨a3, a4 + z0.toNat * 4 + 2, none⟩)) (RB.pre _ _) rfl (by kernel_rfl) (fun _ _ _ h => hQ.panic _ _ _ _ _ h) (.inl ⟨rfl, fun wq hq => (by kernel_rfl)⟩) ?_
  refine r_take 9 (.int .i64 ((lget l z0).Mode)) (RB.pre _ _) rfl (by kernel_rfl) (fun _ _ _ h => hQ.panic _ _ _ _ _ h) (.inl ⟨rfl, fun wq hq => (x_load1 (by kernel_rfl) Tryz.isAgg3 ((CellsAt.rb V3 (RB.trans v8 hq) (Nat.lt_of_lt_of_eq V1 t5) (fun h => by cases h)) 2 _ rfl))⟩) ?_
  refine r_take 10 (.slice v3 l.length y2) (RB.pre _ _) rfl (by kernel_rfl) (fun _ _ _ h => hQ.panic _ _ _ _ _ h) (.inl ⟨rfl, fun wq hq => (by kernel_rfl)⟩) ?_
  refine r_take 11 (.int .i64 z0) (RB.pre _ _) rfl (by kernel_rfl) (fun _ _ _ h => hQ.panic _ _ _ _ _ h) (.inl ⟨rfl, fun wq hq => (by kernel_rfl)⟩) ?_
  obtain ⟨a5, hp⟩ := hp
  obtain ⟨a6, a7, F6, V4, F7, V5, V6, V7⟩ := Sl.atI s4 z0 a5
  obtain ⟨s5, s6, rfl, g6, g7, u3⟩ := r_journal_Change_open V6
  replace hp := hp g6 g7 (Sl.len u3)
  refine r_take 12 (.pointer (some ⟨a6, a7 + z0.toNat * 4, none⟩)) (RB.pre _ _) rfl (by kernel_rfl) (fun _ _ _ h => hQ.panic _ _ _ _ _ h) (.inl ⟨rfl, fun wq hq => (x_ixA (m := l.length) (c := y2) (k := .i64) (i := z0) Tryz.underlying22 Tryz.sizeOf34 (by rw [← V4]; kernel_rfl) (by kernel_rfl) a5)⟩) ?_
  refine r_take 13 (.pointer (some ⟨a6, a7 + z0.toNat * 4 + 3, none⟩)) (RB.pre _ _) rfl (by kernel_rfl) (fun _ _ _ h => hQ.panic _ _ _ _ _ h) (.inl ⟨rfl, fun wq hq => (by kernel_rfl)⟩) ?_
  refine r_take 14 (.slice s5 (((lget l z0).Data).length) s6) (RB.pre _ _) rfl (by kernel_rfl) (fun _ _ _ h => hQ.panic _ _ _ _ _ h) (.inl ⟨rfl, fun wq hq => (x_load1 (by kernel_rfl) Tryz.isAgg32 ((CellsAt.rb V7 (RB.trans v8 hq) (Nat.lt_of_lt_of_eq V5 t5) (fun h => by cases h)) 3 _ rfl))⟩) ?_
  have n4 := Sl.len u3
  refine r_take 15 (.string (strOfNums ((lget l z0).Data))) (RB.pre _ _) rfl (by kernel_rfl) (fun _ _ _ h => hQ.panic _ _ _ _ _ h) (.inl ⟨rfl, fun wq hq => (x_b2s_sl (a := s5) (len := ((lget l z0).Data).length) (c := s6) ((lget l z0).Data) Tryz.underlying32 Tryz.underlying5 Tryz.underlying9 (by kernel_rfl) rfl (Sl.step u3 (stepR (RB.trans v8 hq) t5 (Sub.nil _))))⟩) ?_
  refine r_take 16 (.agg #[(.string ((lget l z0).Path)), (.int .i64 ((lget l z0).Mode)), (.string (strOfNums ((lget l z0).Data)))]) (RB.pre _ _) rfl (by kernel_rfl) (fun _ _ _ h => hQ.panic _ _ _ _ _ h) (.inl ⟨rfl, fun wq hq => (by kernel_rfl)⟩) ?_
  refine r_ready [17] (by kernel_rfl) rfl (all_cons ⟨_, _, _, _, _, _, rfl, ?_⟩ all_nil)
  refine o_newX [(.string (ByteArray.mk #[])), (.int .i64 (0 : Int)), (.string (ByteArray.mk #[]))] 41 (X := v5) (B := w.heap.size) c8.size rfl (by kernel_rfl) ?_
  intro y5 A0 K5 t6 a8 K6
  have rm := RB.mono (F' := []) (Step.evo t6) (Nat.le_trans (Nat.le_of_eq t5.symm) (RB.size v8)) (fun _ h => by cases h)
  refine ⟨fun _ => rm, ?_⟩
  have F8 := apge K6 (Nat.le_trans (Nat.le_of_eq t5.symm) (RB.size v8))
  refine r_ready [18] (by kernel_rfl) rfl (all_cons ⟨_, _, _, _, _, _, rfl, ?_⟩ all_nil)
  have K7 := Evo.then0 c8 (Step.evo t6)
  refine o_stB (o := 0) (v := (.agg #[(.string ((lget l z0).Path)), (.int .i64 ((lget l z0).Mode)), (.string (strOfNums ((lget l z0).Data)))])) [(.string ((lget l z0).Path)), (.int .i64 ((lget l z0).Mode)), (.string (strOfNums ((lget l z0).Data)))] rfl a8 (by kernel_rfl) (by kernel_rfl) Tryz.sizeOf41 rfl rfl rfl ?_
  intro A1 s7 K8
  refine ⟨fun h => absurd h (by decide), ?_⟩
  refine r_done (by kernel_rfl) ?_
  refine then_normal (L8 _ _ _ _ (seq_ (fun _ K9 => sr (fun _ J0 => pv (.int .i64 (0 : Int)) ?_))))
  refine nt J0 (wp_block ?_)
  have J1 := Evo.thenW K7 (Step.evo s7) a8.2.2
  have p5 := Old.step (Old.step p4 t6) s7
  have V8 := Sub.trans (Sub.trans Y5 (Step.up t6)) (Step.up s7)
  have V9 := Sl.step (Sl.step s4 t6) s7
  have J2 := Sl.step (Sl.step K0 t6) s7
  obtain ⟨J3, a9, U0, hp⟩ := hp
  refine loop_ 302231454901458270422400 (fun kq lq y6 => ∃ (z9 : List Nat) (z7 : (List S_rectolaw6_file)) (z8 : Bool) (z2 : Int) (y0 : Option Addr) (y7 : Nat) (y8 : Nat), (lq = [(7, (.slice y0 y7 y8)), (8, (.bool z8)), (10, (.int .i64 z2))]) ∧ (kq = a9 z7 z8 z2) ∧ (Evo [] w y6) ∧ (Old z9 y6) ∧ (Sub X z9) ∧ (Sl r_rectolaw6_file z9 y6 z5 z3 z1) ∧ (Sl r_journal_Change z9 y6 v3 y2 l) ∧ (OB ([]) w.heap.size z9 y6 y5 [(.string ((lget l z0).Path)), (.int .i64 ((lget l z0).Mode)), (.string (strOfNums ((lget l z0).Data)))] 41) ∧ (OS r_rectolaw6_file ([]) w.heap.size z9 y6 41 y0 y7 y8 z7) ∧ (Ap ([y5]) (blkL y0)) ∧ (inR .i64 z2) ∧ (J3 z7 z8 z2)) (a9 ([] : List S_rectolaw6_file) ((lget l z0).Gone) (0 : Int)) [(7, (.slice none 0 0)), (8, (.bool ((lget l z0).Gone))), (10, (.int .i64 (0 : Int)))] (vs_cons (by kernel_rfl) (vs_cons (by kernel_rfl) (vs_cons (by kernel_rfl) vs_nil))) ⟨K5, ([] : List S_rectolaw6_file), ((lget l z0).Gone), (0 : Int), none, 0, 0, rfl, rfl, J1, p5, V8, J2, V9, K8, (OS.nil _ _ _ _), (Ap.nil_r _), (by decide : inR .i64 (0 : Int)), U0⟩ ?_
  rintro _ _ y6 A2 ⟨z9, z7, z8, z2, y0, y7, y8, rfl, rfl, q3, q2, k6, J4, k7, e0, q4, s8, U1, U2⟩ F9 U3
  replace hp := hp z7 z8 z2 U2 (OS.len q4) U1
  refine seq_ (fun _ J5 => sr (fun _ J6 => pv (.int .i64 z2) ?_))
  refine pv (.slice z5 z1.length z3) ?_
  refine pv (.int .i64 (z1.length : Int)) ?_
  refine pv (.bool (decide (z2 < (z1.length : Int)))) ?_
  refine nt J6 ?_
  refine cond_d (z2 < (z1.length : Int)) (by kernel_rfl) (fun g8 => ?_) (fun g8 => ?_)
  ·
   replace hp := hp.1 g8
   refine wp_skip (then_normal (J5 _ _ _ _ (seq_ (fun _ J7 => ?_))))
   obtain ⟨J8, U4, hp⟩ := hp
   refine ground_ ?_
   refine join_ 302231454762919805321600 (fun lq u4 => ∃ (v6 : List Nat) (v9 : (List S_rectolaw6_file)) (v2 : Bool) (t7 : Option Addr) (s9 : Nat) (r0 : Nat), (lq = [(7, (.slice t7 s9 r0)), (8, (.bool v2))]) ∧ (Evo [] w u4) ∧ (Old v6 u4) ∧ (Sub X v6) ∧ (Sl r_rectolaw6_file v6 u4 z5 z3 z1) ∧ (Sl r_journal_Change v6 u4 v3 y2 l) ∧ (OB ([]) w.heap.size v6 u4 y5 [(.string ((lget l z0).Path)), (.int .i64 ((lget l z0).Mode)), (.string (strOfNums ((lget l z0).Data)))] 41) ∧ (OS r_rectolaw6_file ([]) w.heap.size v6 u4 41 t7 s9 r0 v9) ∧ (Ap ([y5]) (blkL t7)) ∧ (J8 v9 v2)) (fun O0 n5 => ?_) ?_
   ·
    refine wp_block (seq_ (fun _ J9 => seq_ (fun _ I0 => ?_)))
    obtain ⟨I1, U5, hp⟩ := hp
    refine ground_ ?_
    refine join_ 576320014815068160 (fun lq u5 => ∃ (v1 : List Nat) (r1 : Bool), (lq = [(58, (.bool r1))]) ∧ (Evo [] w u5) ∧ (Old v1 u5) ∧ (Sub X v1) ∧ (Sl r_rectolaw6_file v1 u5 z5 z3 z1) ∧ (Sl r_journal_Change v1 u5 v3 y2 l) ∧ (OS r_rectolaw6_file ([]) w.heap.size v1 u5 41 y0 y7 y8 z7) ∧ (OB ([]) w.heap.size v1 u5 y5 [(.string ((lget l z0).Path)), (.int .i64 ((lget l z0).Mode)), (.string (strOfNums ((lget l z0).Data)))] 41) ∧ (Ap (blkL y0) ([y5])) ∧ (I1 r1)) (fun O1 n6 => ?_) ?_
    ·
     refine reg_drawn (RB y6.heap.size []) 12 (by kernel_rfl) (fun e1 k8 => ?_)
     have I2 := Evo.of_drew k8
     have e2 : e1.heap.size = y6.heap.size := by rw [k8]
     clear k8
     have u6 := Step.of0 z9 I2
     have n7 := RB.refl y6.heap.size [] e1
     have e3 := Evo.then0 q3 (Step.evo u6)
     have j3 := Old.step q2 u6
     have n8 := Sub.trans k6 (Step.up u6)
     have g9 := Sl.step J4 u6
     have n9 := Sl.step k7 u6
     have q5 := OB.step0 e0 u6
     have e4 := OS.step0 q4 u6
     by_cases q6 : z8 = true
     ·
      replace hp := hp.1 q6
      refine r_take 0 (.bool true) (RB.pre _ _) rfl (by kernel_rfl) (fun _ _ _ h => hQ.panic _ _ _ _ _ h) (.inl ⟨rfl, fun wq hq => (x_bt (by kernel_rfl) q6)⟩) ?_
      refine r_take 1 (.bool false) (RB.pre _ _) rfl (by kernel_rfl) (fun _ _ _ h => hQ.panic _ _ _ _ _ h) (.inl ⟨rfl, fun wq hq => (by kernel_rfl)⟩) ?_
      refine r_take 2 (.bool false) (RB.pre _ _) rfl (by kernel_rfl) (fun _ _ _ h => hQ.panic _ _ _ _ _ h) (.inl ⟨rfl, fun wq hq => (by kernel_rfl)⟩) ?_
      refine r_take 3 undef (RB.pre _ _) rfl (by kernel_rfl) (fun _ _ _ h => hQ.panic _ _ _ _ _ h) (.inr ⟨by kernel_rfl, rfl⟩) ?_
      refine r_take 4 undef (RB.pre _ _) rfl (by kernel_rfl) (fun _ _ _ h => hQ.panic _ _ _ _ _ h) (.inr ⟨by kernel_rfl, rfl⟩) ?_
      refine r_take 5 undef (RB.pre _ _) rfl (by kernel_rfl) (fun _ _ _ h => hQ.panic _ _ _ _ _ h) (.inr ⟨by kernel_rfl, rfl⟩) ?_
      refine r_take 6 undef (RB.pre _ _) rfl (by kernel_rfl) (fun _ _ _ h => hQ.panic _ _ _ _ _ h) (.inr ⟨by kernel_rfl, rfl⟩) ?_
      refine r_take 7 undef (RB.pre _ _) rfl (by kernel_rfl) (fun _ _ _ h => hQ.panic _ _ _ _ _ h) (.inr ⟨by kernel_rfl, rfl⟩) ?_
      refine r_take 8 undef (RB.pre _ _) rfl (by kernel_rfl) (fun _ _ _ h => hQ.panic _ _ _ _ _ h) (.inr ⟨by kernel_rfl, rfl⟩) ?_
      refine r_take 9 undef (RB.pre _ _) rfl (by kernel_rfl) (fun _ _ _ h => hQ.panic _ _ _ _ _ h) (.inr ⟨by kernel_rfl, rfl⟩) ?_
      refine r_take 10 undef (RB.pre _ _) rfl (by kernel_rfl) (fun _ _ _ h => hQ.panic _ _ _ _ _ h) (.inr ⟨by kernel_rfl, rfl⟩) ?_
      refine r_take 11 (.bool false) (RB.pre _ _) rfl (by kernel_rfl) (fun _ _ _ h => hQ.panic _ _ _ _ _ h) (.inl ⟨rfl, fun wq hq => (by kernel_rfl)⟩) ?_
      refine r_done (by kernel_rfl) ?_
      refine then_normal (n6 _ _ _ ⟨[(58, (.bool false))], fit_mk (fun _ _ => rfl) (by kernel_rfl) (vs_cons (by kernel_rfl) vs_nil), ?_⟩)
      exact ⟨z9, false, rfl, e3, j3, n8, g9, n9, e4, q5, (Ap.symm s8), hp⟩
     ·
      replace hp := hp.2 q6
      refine r_take 0 (.bool false) (RB.pre _ _) rfl (by kernel_rfl) (fun _ _ _ h => hQ.panic _ _ _ _ _ h) (.inl ⟨rfl, fun wq hq => (x_bf (by kernel_rfl) q6)⟩) ?_
      refine r_take 1 (.bool true) (RB.pre _ _) rfl (by kernel_rfl) (fun _ _ _ h => hQ.panic _ _ _ _ _ h) (.inl ⟨rfl, fun wq hq => (by kernel_rfl)⟩) ?_
      refine r_take 2 (.bool true) (RB.pre _ _) rfl (by kernel_rfl) (fun _ _ _ h => hQ.panic _ _ _ _ _ h) (.inl ⟨rfl, fun wq hq => (by kernel_rfl)⟩) ?_
      refine r_take 3 (.slice z5 z1.length z3) (RB.pre _ _) rfl (by kernel_rfl) (fun _ _ _ h => hQ.panic _ _ _ _ _ h) (.inl ⟨(by kernel_rfl), fun wq hq => (by kernel_rfl)⟩) ?_
      refine r_take 4 (.int .i64 z2) (RB.pre _ _) rfl (by kernel_rfl) (fun _ _ _ h => hQ.panic _ _ _ _ _ h) (.inl ⟨(by kernel_rfl), fun wq hq => (by kernel_rfl)⟩) ?_
      obtain ⟨e5, hp⟩ := hp
      obtain ⟨e6, e7, O2, U6, O3, U7, U8, U9⟩ := Sl.atI g9 z2 e5
      obtain ⟨rfl, d0, d1, d2⟩ := r_rectolaw6_file_open U8
      replace hp := hp d0 d1 d2
      refine r_take 5 (.pointer (some ⟨e6, e7 + z2.toNat * 3, none⟩)) (RB.pre _ _) rfl (by kernel_rfl) (fun _ _ _ h => hQ.panic _ _ _ _ _ h) (.inl ⟨(by kernel_rfl), fun wq hq => (x_ixA (m := z1.length) (c := z3) (k := .i64) (i := z2) Tryz.underlying27 Tryz.sizeOf41 (by rw [← U6]; kernel_rfl) (by kernel_rfl) e5)⟩) ?_
      refine r_take 6 (.pointer (some ⟨e6, e7 + z2.toNat * 3, none⟩)) (RB.pre _ _) rfl (by kernel_rfl) (fun _ _ _ h => hQ.panic _ _ _ _ _ h) (.inl ⟨(by kernel_rfl), fun wq hq => (by kernel_rfl)⟩) ?_
      refine r_take 7 (.string ((lget z1 z2).path)) (RB.pre _ _) rfl (by kernel_rfl) (fun _ _ _ h => hQ.panic _ _ _ _ _ h) (.inl ⟨(by kernel_rfl), fun wq hq => (x_load1 (by kernel_rfl) Tryz.isAgg9 ((CellsAt.rb U9 (RB.trans n7 hq) (Nat.lt_of_lt_of_eq U7 e2) (fun h => by cases h)) 0 _ rfl))⟩) ?_
      refine r_take 8 (.pointer (some ⟨y5, 0, none⟩)) (RB.pre _ _) rfl (by kernel_rfl) (fun _ _ _ h => hQ.panic _ _ _ _ _ h) (.inl ⟨(by kernel_rfl), fun wq hq => (by kernel_rfl)⟩) ?_
      refine r_take 9 (.string ((lget l z0).Path)) (RB.pre _ _) rfl (by kernel_rfl) (fun _ _ _ h => hQ.panic _ _ _ _ _ h) (.inl ⟨(by kernel_rfl), fun wq hq => (x_load1 (by kernel_rfl) Tryz.isAgg9 ((Blk.rb q5.2.1 (RB.trans n7 hq) (Nat.lt_of_lt_of_eq (Blk.lt q5.2.1) e2) (fun h => by cases h)).cell' 0 rfl))⟩) ?_
      refine r_take 10 (.bool (!(sless ((lget z1 z2).path) ((lget l z0).Path) || decide (((lget z1 z2).path) = ((lget l z0).Path))))) (RB.pre _ _) rfl (by kernel_rfl) (fun _ _ _ h => hQ.panic _ _ _ _ _ h) (.inl ⟨(by kernel_rfl), fun wq hq => (x_strgtr (by kernel_rfl) (by kernel_rfl))⟩) ?_
      refine r_take 11 (.bool (!(sless ((lget z1 z2).path) ((lget l z0).Path) || decide (((lget z1 z2).path) = ((lget l z0).Path))))) (RB.pre _ _) rfl (by kernel_rfl) (fun _ _ _ h => hQ.panic _ _ _ _ _ h) (.inl ⟨rfl, fun wq hq => (by kernel_rfl)⟩) ?_
      refine r_done (by kernel_rfl) ?_
      refine then_normal (n6 _ _ _ ⟨[(58, (.bool (!(sless ((lget z1 z2).path) ((lget l z0).Path) || decide (((lget z1 z2).path) = ((lget l z0).Path))))))], fit_mk (fun _ _ => rfl) (by kernel_rfl) (vs_cons (by kernel_rfl) vs_nil), ?_⟩)
      exact ⟨z9, (!(sless ((lget z1 z2).path) ((lget l z0).Path) || decide (((lget z1 z2).path) = ((lget l z0).Path)))), rfl, e3, j3, n8, g9, n9, e4, q5, (Ap.symm s8), hp⟩
    ·
     rintro _ u5 A3 ⟨v1, r1, rfl, d3, j4, o0, e8, o1, e9, d4, A4, T0⟩
     replace hp := U5 r1 T0
     refine then_normal (I0 _ _ _ _ ?_)
     obtain ⟨I3, T1, hp⟩ := hp
     refine ground_ ?_
     refine join_ 8646911284551352704 (fun lq y9 => ∃ (v0 : List Nat) (y3 : (List S_rectolaw6_file)) (y1 : Bool) (u7 : Option Addr) (t8 : Nat) (t9 : Nat), (lq = [(7, (.slice u7 t8 t9)), (8, (.bool y1))]) ∧ (Evo [] w y9) ∧ (Old v0 y9) ∧ (Sub X v0) ∧ (Sl r_rectolaw6_file v0 y9 z5 z3 z1) ∧ (Sl r_journal_Change v0 y9 v3 y2 l) ∧ (OB ([]) w.heap.size v0 y9 y5 [(.string ((lget l z0).Path)), (.int .i64 ((lget l z0).Mode)), (.string (strOfNums ((lget l z0).Data)))] 41) ∧ (OS r_rectolaw6_file ([]) w.heap.size v0 y9 41 u7 t8 t9 y3) ∧ (Ap ([y5]) (blkL u7)) ∧ (I3 y3 y1)) (fun O4 o2 => ?_) ?_
     ·
      refine cond_b r1 (by kernel_rfl) (fun d5 => ?_) (fun d5 => ?_)
      ·
       replace hp := hp.1 d5
       refine sr (fun _ I4 => pv (.slice y0 y7 y8) ?_)
       refine pw (.agg #[(.string ((lget l z0).Path)), (.int .i64 ((lget l z0).Mode)), (.string (strOfNums ((lget l z0).Data)))]) (x_loadN [(.string ((lget l z0).Path)), (.int .i64 ((lget l z0).Mode)), (.string (strOfNums ((lget l z0).Data)))] (by kernel_rfl) Tryz.isAgg41 Tryz.sizeOf41 (d4.2.1.cells' 0 rfl)) ?_
       refine sq (o_rowX (R := r_rectolaw6_file) [(.string ((lget l z0).Path)), (.int .i64 ((lget l z0).Mode)), (.string (strOfNums ((lget l z0).Data)))] [(S_rectolaw6_file.mk ((lget l z0).Path) ((lget l z0).Mode) (strOfNums ((lget l z0).Data)))] 41 1 (X := v1) (B := w.heap.size) d3.size rfl (by kernel_rfl) (Flat.cons (cs := [(.string ((lget l z0).Path)), (.int .i64 ((lget l z0).Mode)), (.string (strOfNums ((lget l z0).Data)))]) (r_rectolaw6_file_mk u1 u2 (strOfNums_le n4)) Flat.nil) rfl (by decide) ?_)
       intro A5 A6 I5 u9 i0 A7
       obtain ⟨I6, hp⟩ := hp
       have i1 := OS.step0 e9 u9
       have i2 := OB.step0 d4 u9
       have i3 := Evo.then0 d3 (Step.evo u9)
       refine sq (o_appX (R := r_rectolaw6_file) (X := I5) (B := w.heap.size) (L := z7) (M := [(S_rectolaw6_file.mk ((lget l z0).Path) ((lget l z0).Mode) (strOfNums ((lget l z0).Data)))]) rfl elT27 rfl i3.size i1 (OS.src i0) i0.1 (by kernel_rfl) (by kernel_rfl) I6 ?_)
       intro d6 d7 d8 A8 I7 s0 i4 T2
       obtain ⟨i5, o3⟩ : ∃ y, y = (z7 ++ ([(S_rectolaw6_file.mk ((lget l z0).Path) ((lget l z0).Mode) (strOfNums ((lget l z0).Data)))])) := ⟨_, rfl⟩
       replace hp := hp i5 o3
       rw [← o3] at i4
       have I8 := T2 _ s8 (OB.old i2)
       refine pv (.slice d6 d7 d8) ?_
       refine nt I4 (reg_ (pv (.bool true) ?_))
       refine nil_ ?_
       have I9 := Evo.thenW i3 (Step.evo s0) i1.2.2
       have p6 := Old.step (Old.step j4 u9) s0
       have T3 := Sub.trans (Sub.trans o0 (Step.up u9)) (Step.up s0)
       have H0 := Sl.step (Sl.step e8 u9) s0
       have T4 := Sl.step (Sl.step o1 u9) s0
       have H1 := OB.step i2 s0 s8
       refine then_normal (o2 _ _ _ ⟨[(7, (.slice d6 d7 d8)), (8, (.bool true))], fit_mk (fun _ _ => rfl) (by kernel_rfl) (vs_cons (by kernel_rfl) (vs_cons (by kernel_rfl) vs_nil)), ?_⟩)
       exact ⟨I7, i5, true, d6, d7, d8, rfl, I9, p6, T3, H0, T4, H1, i4, I8, hp⟩
      ·
       replace hp := hp.2 d5
       refine wp_skip (then_normal (o2 _ _ _ ⟨[(7, (.slice y0 y7 y8)), (8, (.bool z8))], fit_mk (fun _ _ => rfl) (by kernel_rfl) (vs_cons (by kernel_rfl) (vs_cons (by kernel_rfl) vs_nil)), ?_⟩))
       exact ⟨v1, z7, z8, y0, y7, y8, rfl, d3, j4, o0, e8, o1, d4, e9, s8, hp⟩
     ·
      rintro _ y9 A9 ⟨v0, y3, y1, u7, t8, t9, rfl, H2, p7, T5, H3, T6, H4, i6, d9, T7⟩
      replace hp := T1 y3 y1 T7 (OS.len i6)
      refine then_normal (J9 _ _ _ _ (seq_ (fun _ H5 => ?_)))
      refine reg_drawn (RB y9.heap.size []) 8 (by kernel_rfl) (fun i7 k9 => ?_)
      have H6 := Evo.of_drew k9
      have i9 : i7.heap.size = y9.heap.size := by rw [k9]
      clear k9
      have t0 := Step.of0 v0 H6
      have o4 := RB.refl y9.heap.size [] i7
      have l0 := Evo.then0 H2 (Step.evo t0)
      have j5 := Old.step p7 t0
      have o5 := Sub.trans T5 (Step.up t0)
      have q7 := Sl.step H3 t0
      have o6 := Sl.step T6 t0
      have q8 := OB.step0 H4 t0
      have h0 := OS.step0 i6 t0
      refine r_take 0 (.slice z5 z1.length z3) (RB.pre _ _) rfl (by kernel_rfl) (fun _ _ _ h => hQ.panic _ _ _ _ _ h) (.inl ⟨rfl, fun wq hq => (by kernel_rfl)⟩) ?_
      refine r_take 1 (.int .i64 z2) (RB.pre _ _) rfl (by kernel_rfl) (fun _ _ _ h => hQ.panic _ _ _ _ _ h) (.inl ⟨rfl, fun wq hq => (by kernel_rfl)⟩) ?_
      obtain ⟨h1, hp⟩ := hp
      obtain ⟨h2, h3, O5, T8, O6, T9, R1, R2⟩ := Sl.atI q7 z2 h1
      obtain ⟨rfl, l1, l2, l3⟩ := r_rectolaw6_file_open R1
      replace hp := hp l1 l2 l3
      refine r_take 2 (.pointer (some ⟨h2, h3 + z2.toNat * 3, none⟩)) (RB.pre _ _) rfl (by kernel_rfl) (fun _ _ _ h => hQ.panic _ _ _ _ _ h) (.inl ⟨rfl, fun wq hq => (x_ixA (m := z1.length) (c := z3) (k := .i64) (i := z2) Tryz.underlying27 Tryz.sizeOf41 (by rw [← T8]; kernel_rfl) (by kernel_rfl) h1)⟩) ?_
      refine r_take 3 (.pointer (some ⟨h2, h3 + z2.toNat * 3, none⟩)) (RB.pre _ _) rfl (by kernel_rfl) (fun _ _ _ h => hQ.panic _ _ _ _ _ h) (.inl ⟨rfl, fun wq hq => (by kernel_rfl)⟩) ?_
      refine r_take 4 (.string ((lget z1 z2).path)) (RB.pre _ _) rfl (by kernel_rfl) (fun _ _ _ h => hQ.panic _ _ _ _ _ h) (.inl ⟨rfl, fun wq hq => (x_load1 (by kernel_rfl) Tryz.isAgg9 ((CellsAt.rb R2 (RB.trans o4 hq) (Nat.lt_of_lt_of_eq T9 i9) (fun h => by cases h)) 0 _ rfl))⟩) ?_
      refine r_take 5 (.pointer (some ⟨y5, 0, none⟩)) (RB.pre _ _) rfl (by kernel_rfl) (fun _ _ _ h => hQ.panic _ _ _ _ _ h) (.inl ⟨rfl, fun wq hq => (by kernel_rfl)⟩) ?_
      refine r_take 6 (.string ((lget l z0).Path)) (RB.pre _ _) rfl (by kernel_rfl) (fun _ _ _ h => hQ.panic _ _ _ _ _ h) (.inl ⟨rfl, fun wq hq => (x_load1 (by kernel_rfl) Tryz.isAgg9 ((Blk.rb q8.2.1 (RB.trans o4 hq) (Nat.lt_of_lt_of_eq (Blk.lt q8.2.1) i9) (fun h => by cases h)).cell' 0 rfl))⟩) ?_
      refine r_take 7 (.bool (!decide (((lget z1 z2).path : ByteArray) = (lget l z0).Path))) (RB.pre _ _) rfl (by kernel_rfl) (fun _ _ _ h => hQ.panic _ _ _ _ _ h) (.inl ⟨rfl, fun wq hq => (x_strne (by kernel_rfl) (by kernel_rfl))⟩) ?_
      refine r_done (by kernel_rfl) ?_
      refine then_normal (H5 _ _ _ _ ?_)
      refine cond_nd (((lget z1 z2).path : ByteArray) = (lget l z0).Path) (by kernel_rfl) (fun l4 => ?_) (fun l4 => ?_)
      ·
       replace hp := hp.1 l4
       refine reg_ (pv (.slice u7 t8 t9) ?_)
       refine pv (.slice z5 z1.length z3) ?_
       refine pv (.int .i64 z2) ?_
       obtain ⟨h4, hp⟩ := hp
       obtain ⟨H7, H8, O7, R3, O8, O9, R4, R5⟩ := Sl.atI q7 z2 h4
       obtain ⟨rfl, r2, r3, r4⟩ := r_rectolaw6_file_open R4
       replace hp := hp r2 r3 r4
       refine pw (.pointer (some ⟨H7, H8 + z2.toNat * 3, none⟩)) (x_ixA (m := z1.length) (c := z3) (k := .i64) (i := z2) Tryz.underlying27 Tryz.sizeOf41 (by rw [← R3]; kernel_rfl) (by kernel_rfl) h4) ?_
       refine pw (.agg #[(.string ((lget z1 z2).path)), (.int .i64 ((lget z1 z2).mode)), (.string ((lget z1 z2).data))]) (x_loadN [(.string ((lget z1 z2).path)), (.int .i64 ((lget z1 z2).mode)), (.string ((lget z1 z2).data))] (by kernel_rfl) Tryz.isAgg41 Tryz.sizeOf41 R5) ?_
       refine sq (o_rowX (R := r_rectolaw6_file) [(.string ((lget z1 z2).path)), (.int .i64 ((lget z1 z2).mode)), (.string ((lget z1 z2).data))] [(lget z1 z2)] 41 1 (X := v0) (B := w.heap.size) l0.size rfl (by kernel_rfl) (Flat.cons (cs := [(.string ((lget z1 z2).path)), (.int .i64 ((lget z1 z2).mode)), (.string ((lget z1 z2).data))]) (r_rectolaw6_file_mk r2 r3 r4) Flat.nil) rfl (by decide) ?_)
       intro W0 W1 H9 t1 h5 W2
       obtain ⟨G0, hp⟩ := hp
       have h6 := OS.step0 h0 t1
       have h7 := OB.step0 q8 t1
       have h8 := Evo.then0 l0 (Step.evo t1)
       refine sq (o_appX (R := r_rectolaw6_file) (X := H9) (B := w.heap.size) (L := y3) (M := [(lget z1 z2)]) rfl elT27 rfl h8.size h6 (OS.src h5) h5.1 (by kernel_rfl) (by kernel_rfl) G0 ?_)
       intro l5 l6 l7 W3 G1 s1 G2 R6
       have G3 := R6 _ d9 (OB.old h7)
       refine pv (.slice l5 l6 l7) ?_
       refine nil_ (blk_normal ?_)
       have G4 := Evo.thenW h8 (Step.evo s1) h6.2.2
       have p8 := Old.step (Old.step j5 t1) s1
       have R7 := Sub.trans (Sub.trans o5 (Step.up t1)) (Step.up s1)
       have G5 := Sl.step (Sl.step q7 t1) s1
       have R8 := Sl.step (Sl.step o6 t1) s1
       have G6 := OB.step h7 s1 d9
       refine then_normal (n5 _ _ _ ⟨[(7, (.slice l5 l6 l7)), (8, (.bool y1))], fit_mk (AgB.nest (AgB.look (AgB.nest (AgB.look (fun _ _ => rfl) (by kernel_rfl)) (by kernel_rfl) (by kernel_rfl)) (by kernel_rfl)) (by kernel_rfl) (by kernel_rfl)) (by kernel_rfl) (vs_cons (by kernel_rfl) (vs_cons (by kernel_rfl) vs_nil)), ?_⟩)
       exact ⟨G1, (y3 ++ ([(lget z1 z2)])), y1, l5, l6, l7, rfl, G4, p8, R7, G5, R8, G6, G2, G3, hp⟩
      ·
       replace hp := hp.2 l4
       refine wp_skip (blk_normal (then_normal (n5 _ _ _ ⟨[(7, (.slice u7 t8 t9)), (8, (.bool y1))], fit_mk (AgB.nest (AgB.look (AgB.nest (AgB.look (fun _ _ => rfl) (by kernel_rfl)) (by kernel_rfl) (by kernel_rfl)) (by kernel_rfl)) (by kernel_rfl) (by kernel_rfl)) (by kernel_rfl) (vs_cons (by kernel_rfl) (vs_cons (by kernel_rfl) vs_nil)), ?_⟩)))
       exact ⟨v0, y3, y1, u7, t8, t9, rfl, l0, j5, o5, q7, o6, q8, h0, d9, hp⟩
   ·
    rintro _ u4 W4 ⟨v6, v9, v2, t7, s9, r0, rfl, G7, p9, R9, G8, P0, G9, h9, D0, P1⟩
    replace hp := U4 v9 v2 P1 (OS.len h9)
    refine then_normal (J7 _ _ _ _ (reg_ (pv (.int .i64 z2) ?_)))
    obtain ⟨b0, hp⟩ := hp
    refine pw (.int .i64 (z2 + (1 : Int))) (x_add2 (k := .i64) (a := z2) (b := (1 : Int)) (z2 + (1 : Int)) (by kernel_rfl) (by kernel_rfl) (wrap_inR b0)) ?_
    refine pv (.int .i64 (z2 + (1 : Int))) ?_
    refine nil_ (then_normal (U3 _ _ _ ⟨_, [(7, (.slice t7 s9 r0)), (8, (.bool v2)), (10, (.int .i64 (z2 + (1 : Int))))], hp.2, fit_mk (AgB.nest (AgB.look (AgB.mix _ _ _) (by kernel_rfl)) (by kernel_rfl) (by kernel_rfl)) (by kernel_rfl) (vs_cons (by kernel_rfl) (vs_cons (by kernel_rfl) (vs_cons (by kernel_rfl) vs_nil))), ?_⟩))
    exact ⟨v6, v9, v2, (z2 + (1 : Int)), t7, s9, r0, rfl, rfl, G7, p9, R9, G8, P0, G9, h9, D0, b0, hp.1⟩
  ·
   replace hp := hp.2 g8
   refine wp_exit ?_
   refine then_exit (then_exit (blk_exit (then_normal (K9 _ _ _ _ (seq_ (fun _ D1 => sr (fun _ D2 => pv (.bool z8) ?_)))))))
   refine pv (.bool (!z8)) ?_
   refine nt D2 ?_
   obtain ⟨D3, P2, hp⟩ := hp
   refine ground_ ?_
   refine join_ 18133887294219437620592768 (fun lq r5 => ∃ (r6 : List Nat) (y4 : (List S_rectolaw6_file)) (t2 : Option Addr) (s2 : Nat) (t3 : Nat), (lq = [(7, (.slice t2 s2 t3))]) ∧ (Evo [] w r5) ∧ (Old r6 r5) ∧ (Sub X r6) ∧ (Sl r_journal_Change r6 r5 v3 y2 l) ∧ (OS r_rectolaw6_file ([]) w.heap.size r6 r5 41 t2 s2 t3 y4) ∧ (D3 y4)) (fun S0 o7 => ?_) ?_
   ·
    refine cond_b (!z8) (by kernel_rfl) (fun l8 => ?_) (fun l8 => ?_)
    ·
     replace hp := hp.1 l8
     refine reg_ (pv (.slice y0 y7 y8) ?_)
     refine pw (.agg #[(.string ((lget l z0).Path)), (.int .i64 ((lget l z0).Mode)), (.string (strOfNums ((lget l z0).Data)))]) (x_loadN [(.string ((lget l z0).Path)), (.int .i64 ((lget l z0).Mode)), (.string (strOfNums ((lget l z0).Data)))] (by kernel_rfl) Tryz.isAgg41 Tryz.sizeOf41 (e0.2.1.cells' 0 rfl)) ?_
     refine sq (o_rowX (R := r_rectolaw6_file) [(.string ((lget l z0).Path)), (.int .i64 ((lget l z0).Mode)), (.string (strOfNums ((lget l z0).Data)))] [(S_rectolaw6_file.mk ((lget l z0).Path) ((lget l z0).Mode) (strOfNums ((lget l z0).Data)))] 41 1 (X := z9) (B := w.heap.size) q3.size rfl (by kernel_rfl) (Flat.cons (cs := [(.string ((lget l z0).Path)), (.int .i64 ((lget l z0).Mode)), (.string (strOfNums ((lget l z0).Data)))]) (r_rectolaw6_file_mk u1 u2 (strOfNums_le n4)) Flat.nil) rfl (by decide) ?_)
     intro W5 W6 D4 r7 b1 W7
     obtain ⟨D5, hp⟩ := hp
     have b2 := OS.step0 q4 r7
     have b3 := Evo.then0 q3 (Step.evo r7)
     refine sq (o_appX (R := r_rectolaw6_file) (X := D4) (B := w.heap.size) (L := z7) (M := [(S_rectolaw6_file.mk ((lget l z0).Path) ((lget l z0).Mode) (strOfNums ((lget l z0).Data)))]) rfl elT27 rfl b3.size b2 (OS.src b1) b1.1 (by kernel_rfl) (by kernel_rfl) D5 ?_)
     intro l9 m0 m1 W8 D6 q9 b4 S2
     obtain ⟨b5, o8⟩ : ∃ y, y = (z7 ++ ([(S_rectolaw6_file.mk ((lget l z0).Path) ((lget l z0).Mode) (strOfNums ((lget l z0).Data)))])) := ⟨_, rfl⟩
     replace hp := hp b5 o8
     rw [← o8] at b4
     refine pv (.slice l9 m0 m1) ?_
     refine nil_ ?_
     have D7 := Evo.thenW b3 (Step.evo q9) b2.2.2
     have Z0 := Old.step (Old.step q2 r7) q9
     have P3 := Sub.trans (Sub.trans k6 (Step.up r7)) (Step.up q9)
     have P4 := Sl.step (Sl.step k7 r7) q9
     refine then_normal (o7 _ _ _ ⟨[(7, (.slice l9 m0 m1))], fit_mk (fun _ _ => rfl) (by kernel_rfl) (vs_cons (by kernel_rfl) vs_nil), ?_⟩)
     exact ⟨D6, b5, l9, m0, m1, rfl, D7, Z0, P3, P4, b4, hp⟩
    ·
     replace hp := hp.2 l8
     refine wp_skip (then_normal (o7 _ _ _ ⟨[(7, (.slice y0 y7 y8))], fit_mk (fun _ _ => rfl) (by kernel_rfl) (vs_cons (by kernel_rfl) vs_nil), ?_⟩))
     exact ⟨z9, z7, y0, y7, y8, rfl, q3, q2, k6, k7, q4, hp⟩
   ·
    rintro _ r5 W9 ⟨r6, y4, t2, s2, t3, rfl, D8, Z1, P5, P6, k0, P7⟩
    replace hp := P2 y4 P7 (OS.len k0)
    refine then_normal (D1 _ _ _ _ (reg_ (pv (.slice t2 s2 t3) ?_)))
    refine pv (.slice t2 s2 t3) ?_
    refine nil_ (blk_normal (then_normal (L3 _ _ _ _ (reg_ (pv (.int .i64 z0) ?_)))))
    obtain ⟨b6, hp⟩ := hp
    refine pw (.int .i64 (z0 + (1 : Int))) (x_add2 (k := .i64) (a := z0) (b := (1 : Int)) (z0 + (1 : Int)) (by kernel_rfl) (by kernel_rfl) (wrap_inR b6)) ?_
    refine pv (.int .i64 (z0 + (1 : Int))) ?_
    refine nil_ ?_
    have P8 := OS.apold k0 E3
    obtain ⟨D9, b7, C0, P9⟩ := OS.release k0
    obtain rfl : s2 = y4.length := k0.1
    have C1 := D8
    have Z2 := Old.less Z1 b7
    have N0 := P9 _ P8 P5
    have N1 := Sl.less P6 b7
    refine then_normal (Y1 _ _ _ ⟨_, [(0, (.slice t2 y4.length t3)), (6, (.int .i64 (z0 + (1 : Int))))], hp.2, fit_mk (AgB.nest (AgB.look (AgB.nest (AgB.mix _ _ _) (by kernel_rfl) (by kernel_rfl)) (by kernel_rfl)) (by kernel_rfl) (by kernel_rfl)) (by kernel_rfl) (vs_cons (by kernel_rfl) (vs_cons (by kernel_rfl) vs_nil)), ?_⟩)
    exact ⟨D9, y4, (z0 + (1 : Int)), t2, t3, rfl, rfl, C1, Z2, N0, N1, C0, b6, hp.1⟩
 ·
  replace hp := hp.2 j8
  refine wp_exit ?_
  refine then_exit (then_exit (blk_exit (then_normal (t00 _ _ _ _ (seq_ (fun _ C2 => sr (fun _ C3 => pv (.int .i64 (0 : Int)) ?_)))))))
  refine nt C3 (wp_block ?_)
  obtain ⟨C4, b8, N2, hp⟩ := hp
  refine loop_ 324518514972800499115022429984816 (fun kq lq k1 => ∃ (r8 : List Nat) (z4 : Int), (lq = [(11, (.int .i64 z4))]) ∧ (kq = b8 z4) ∧ (Evo [] w k1) ∧ (Old r8 k1) ∧ (Sub X r8) ∧ (Sl r_rectolaw6_file r8 k1 z5 z3 z1) ∧ (inR .i64 z4) ∧ (C4 z4)) (b8 (0 : Int)) [(11, (.int .i64 (0 : Int)))] (vs_cons (by kernel_rfl) vs_nil) ⟨v5, (0 : Int), rfl, rfl, c3, j2, n2, j7, (by decide : inR .i64 (0 : Int)), N2⟩ ?_
  rintro _ _ k1 z00 ⟨r8, z4, rfl, rfl, b9, Z3, o9, f0, N3, N4⟩ S3 N5
  replace hp := hp z4 N4 N3
  refine seq_ (fun _ C5 => sr (fun _ C6 => pv (.int .i64 z4) ?_))
  refine pv (.slice z5 z1.length z3) ?_
  refine pv (.int .i64 (z1.length : Int)) ?_
  refine pv (.bool (decide (z4 < (z1.length : Int)))) ?_
  refine nt C6 ?_
  refine cond_d (z4 < (z1.length : Int)) (by kernel_rfl) (fun m2 => ?_) (fun m2 => ?_)
  ·
   replace hp := hp.1 m2
   refine wp_skip (then_normal (C5 _ _ _ _ (seq_ (fun _ C7 => wp_block (sr (fun _ C8 => pv (.int .i64 (0 : Int)) ?_))))))
   refine nt C8 (wp_block ?_)
   obtain ⟨C9, f1, N6, hp⟩ := hp
   refine loop_ 324516077778348156022606222331952 (fun kq lq t4 => ∃ (v7 : List Nat) (z6 : Int), (lq = [(12, (.int .i64 z6))]) ∧ (kq = f1 z6) ∧ (Evo [] w t4) ∧ (Old v7 t4) ∧ (Sub X v7) ∧ (Sl r_rectolaw6_file v7 t4 z5 z3 z1) ∧ (inR .i64 z6) ∧ (C9 z6)) (f1 (0 : Int)) [(12, (.int .i64 (0 : Int)))] (vs_cons (by kernel_rfl) vs_nil) ⟨r8, (0 : Int), rfl, rfl, b9, Z3, o9, f0, (by decide : inR .i64 (0 : Int)), N6⟩ ?_
   rintro _ _ t4 y00 ⟨v7, z6, rfl, rfl, f2, j6, c0, f3, N7, N8⟩ S4 N9
   replace hp := hp z6 N8 N7
   refine seq_ (fun _ B0 => sr (fun _ B1 => pv (.int .i64 z6) ?_))
   refine pv (.int .i64 z4) ?_
   refine pv (.bool (decide (z6 < z4))) ?_
   refine nt B1 ?_
   refine cond_d (z6 < z4) (by kernel_rfl) (fun m3 => ?_) (fun m3 => ?_)
   ·
    replace hp := hp.1 m3
    refine wp_skip (then_normal (B0 _ _ _ _ (seq_ (fun _ B2 => wp_block (seq_ (fun _ B3 => ?_))))))
    refine reg_drawn (RB t4.heap.size []) 11 (by kernel_rfl) (fun f4 j0 => ?_)
    have B4 := Evo.of_drew j0
    have m4 : f4.heap.size = t4.heap.size := by rw [j0]
    clear j0
    have k2 := Step.of0 v7 B4
    have j1 := RB.refl t4.heap.size [] f4
    have f5 := Evo.then0 f2 (Step.evo k2)
    have Z4 := Old.step j6 k2
    have c1 := Sub.trans c0 (Step.up k2)
    have k3 := Sl.step f3 k2
    refine r_take 0 (.slice z5 z1.length z3) (RB.pre _ _) rfl (by kernel_rfl) (fun _ _ _ h => hQ.panic _ _ _ _ _ h) (.inl ⟨rfl, fun wq hq => (by kernel_rfl)⟩) ?_
    refine r_take 1 (.int .i64 z6) (RB.pre _ _) rfl (by kernel_rfl) (fun _ _ _ h => hQ.panic _ _ _ _ _ h) (.inl ⟨rfl, fun wq hq => (by kernel_rfl)⟩) ?_
    obtain ⟨f6, hp⟩ := hp
    obtain ⟨f7, f8, S5, M0, S6, M1, M2, M3⟩ := Sl.atI k3 z6 f6
    obtain ⟨rfl, r9, m5, m6⟩ := r_rectolaw6_file_open M2
    replace hp := hp r9 m5 m6
    refine r_take 2 (.pointer (some ⟨f7, f8 + z6.toNat * 3, none⟩)) (RB.pre _ _) rfl (by kernel_rfl) (fun _ _ _ h => hQ.panic _ _ _ _ _ h) (.inl ⟨rfl, fun wq hq => (x_ixA (m := z1.length) (c := z3) (k := .i64) (i := z6) Tryz.underlying27 Tryz.sizeOf41 (by rw [← M0]; kernel_rfl) (by kernel_rfl) f6)⟩) ?_
    refine r_take 3 (.pointer (some ⟨f7, f8 + z6.toNat * 3, none⟩)) (RB.pre _ _) rfl (by kernel_rfl) (fun _ _ _ h => hQ.panic _ _ _ _ _ h) (.inl ⟨rfl, fun wq hq => (by kernel_rfl)⟩) ?_
    refine r_take 4 (.string ((lget z1 z6).path)) (RB.pre _ _) rfl (by kernel_rfl) (fun _ _ _ h => hQ.panic _ _ _ _ _ h) (.inl ⟨rfl, fun wq hq => (x_load1 (by kernel_rfl) Tryz.isAgg9 ((CellsAt.rb M3 (RB.trans j1 hq) (Nat.lt_of_lt_of_eq M1 m4) (fun h => by cases h)) 0 _ rfl))⟩) ?_
    refine r_take 5 (.slice z5 z1.length z3) (RB.pre _ _) rfl (by kernel_rfl) (fun _ _ _ h => hQ.panic _ _ _ _ _ h) (.inl ⟨rfl, fun wq hq => (by kernel_rfl)⟩) ?_
    refine r_take 6 (.int .i64 z4) (RB.pre _ _) rfl (by kernel_rfl) (fun _ _ _ h => hQ.panic _ _ _ _ _ h) (.inl ⟨rfl, fun wq hq => (by kernel_rfl)⟩) ?_
    obtain ⟨f9, hp⟩ := hp
    obtain ⟨p0, p1, S7, M4, S8, M5, M6, M7⟩ := Sl.atI k3 z4 f9
    obtain ⟨rfl, q0, m7, m8⟩ := r_rectolaw6_file_open M6
    replace hp := hp q0 m7 m8
    refine r_take 7 (.pointer (some ⟨p0, p1 + z4.toNat * 3, none⟩)) (RB.pre _ _) rfl (by kernel_rfl) (fun _ _ _ h => hQ.panic _ _ _ _ _ h) (.inl ⟨rfl, fun wq hq => (x_ixA (m := z1.length) (c := z3) (k := .i64) (i := z4) Tryz.underlying27 Tryz.sizeOf41 (by rw [← M4]; kernel_rfl) (by kernel_rfl) f9)⟩) ?_
    refine r_take 8 (.pointer (some ⟨p0, p1 + z4.toNat * 3, none⟩)) (RB.pre _ _) rfl (by kernel_rfl) (fun _ _ _ h => hQ.panic _ _ _ _ _ h) (.inl ⟨rfl, fun wq hq => (by kernel_rfl)⟩) ?_
    refine r_take 9 (.string ((lget z1 z4).path)) (RB.pre _ _) rfl (by kernel_rfl) (fun _ _ _ h => hQ.panic _ _ _ _ _ h) (.inl ⟨rfl, fun wq hq => (x_load1 (by kernel_rfl) Tryz.isAgg9 ((CellsAt.rb M7 (RB.trans j1 hq) (Nat.lt_of_lt_of_eq M5 m4) (fun h => by cases h)) 0 _ rfl))⟩) ?_
    refine r_ready [10] (by kernel_rfl) rfl (all_cons ⟨_, _, _, _, _, _, rfl, ?_⟩ all_nil)
    refine o_call 26 #[(.string ((lget z1 z6).path)), (.string ((lget z1 z4).path))] rfl (x_call Tryz.call26 (by kernel_rfl)) (rectoref1_Clash_w (X := []) (a := (lget z1 z6).path) (b := (lget z1 z4).path) (Old.nil _) r9 q0 hp) ?_
    rintro _ v00 ⟨B5, hp, k4, rfl⟩
    have rm := RB.mono (F' := []) k4 (Nat.le_trans (Nat.le_of_eq m4.symm) (RB.size j1)) (fun _ h => by cases h)
    refine ⟨fun _ => rm, ?_⟩
    have q1 := Step.of0 v7 k4
    refine r_done (by kernel_rfl) ?_
    refine then_normal (B3 _ _ _ _ ?_)
    refine cond_b B5 (by kernel_rfl) (fun m9 => ?_) (fun m9 => ?_)
    ·
     replace hp := hp.1 m9
     refine sr (fun _ B6 => pv (.slice z5 z1.length z3) ?_)
     refine pv (.slice z5 z1.length z3) ?_
     refine pv (.bool false) ?_
     refine nt B6 (wp_ret (blk_ret (then_ret (then_ret (blk_ret (blk_ret (then_ret (then_ret (blk_ret (then_ret ?_))))))))))
     have B7 := Sl.step k3 q1
     have M8 := Sub.trans c1 (Step.up q1)
     have B8 := Evo.then0 f5 k4
     refine end_ret hQ (.tuple #[(.slice z5 z1.length z3), (.bool false)]) (by kernel_rfl) ?_
     exact ⟨z1, false, hp, B8, z5, z3, rfl, (Sl.less B7 M8)⟩
    ·
     replace hp := hp.2 m9
     refine wp_skip (blk_normal (then_normal (B2 _ _ _ _ (reg_ (pv (.int .i64 z6) ?_)))))
     obtain ⟨p2, hp⟩ := hp
     refine pw (.int .i64 (z6 + (1 : Int))) (x_add2 (k := .i64) (a := z6) (b := (1 : Int)) (z6 + (1 : Int)) (by kernel_rfl) (by kernel_rfl) (wrap_inR p2)) ?_
     refine pv (.int .i64 (z6 + (1 : Int))) ?_
     refine nil_ ?_
     have B9 := Evo.then0 f5 k4
     have Z5 := Old.step Z4 q1
     have M9 := Sub.trans c1 (Step.up q1)
     have E1 := Sl.step k3 q1
     refine then_normal (N9 _ _ _ ⟨_, [(12, (.int .i64 (z6 + (1 : Int))))], hp.2, fit_mk (AgB.mix _ _ _) (by kernel_rfl) (vs_cons (by kernel_rfl) vs_nil), ?_⟩)
     exact ⟨v7, (z6 + (1 : Int)), rfl, rfl, B9, Z5, M9, E1, p2, hp.1⟩
   ·
    replace hp := hp.2 m3
    refine wp_exit ?_
    refine then_exit (then_exit (blk_exit (blk_normal (then_normal (C7 _ _ _ _ (reg_ (pv (.int .i64 z4) ?_)))))))
    obtain ⟨p3, hp⟩ := hp
    refine pw (.int .i64 (z4 + (1 : Int))) (x_add2 (k := .i64) (a := z4) (b := (1 : Int)) (z4 + (1 : Int)) (by kernel_rfl) (by kernel_rfl) (wrap_inR p3)) ?_
    refine pv (.int .i64 (z4 + (1 : Int))) ?_
    refine nil_ (then_normal (N5 _ _ _ ⟨_, [(11, (.int .i64 (z4 + (1 : Int))))], hp.2, fit_mk (AgB.nest (AgB.mix _ _ _) (by kernel_rfl) (by kernel_rfl)) (by kernel_rfl) (vs_cons (by kernel_rfl) vs_nil), ?_⟩))
    exact ⟨v7, (z4 + (1 : Int)), rfl, rfl, f2, j6, c0, f3, p3, hp.1⟩
  ·
   replace hp := hp.2 m2
   refine wp_exit ?_
   refine then_exit (then_exit (blk_exit (then_normal (C2 _ _ _ _ (sr (fun _ E2 => pv (.slice z5 z1.length z3) ?_))))))
   refine pv (.slice z5 z1.length z3) ?_
   refine pv (.bool true) ?_
   refine nt E2 (wp_ret ?_)
   refine end_ret hQ (.tuple #[(.slice z5 z1.length z3), (.bool true)]) (by kernel_rfl) ?_
   exact ⟨z1, true, hp, b9, z5, z3, rfl, (Sl.less f0 o9)⟩
def rectolaw6_same_p (a : (List S_rectolaw6_file)) (b : (List S_rectolaw6_file)) (Q : Bool → Prop) : Prop :=
 ((a.length ≤ 9223372036854775807) → ((b.length ≤ 9223372036854775807) → (((¬ ((a.length : Int) = (b.length : Int))) → Q false) ∧ (((a.length : Int) = (b.length : Int)) → (∃ (z1 : Int → Prop) (z2 : Int → Nat), (z1 (0 : Int)) ∧ (∀ (z0 : Int), (z1 z0) → (inR .i64 z0) → (((z0 < (a.length : Int)) → ((inL a z0) ∧ ((((lget a z0).path).size ≤ maxLen) → ((inR .i64 ((lget a z0).mode)) → ((((lget a z0).data).size ≤ maxLen) → ((inL b z0) ∧ ((((lget b z0).path).size ≤ maxLen) → ((inR .i64 ((lget b z0).mode)) → ((((lget b z0).data).size ≤ maxLen) → (((¬ ((((lget a z0).path : ByteArray) = (lget b z0).path) ∧ (((lget a z0).mode = (lget b z0).mode) ∧ ((((lget a z0).data : ByteArray) = (lget b z0).data) ∧ True)))) → Q false) ∧ (((((lget a z0).path : ByteArray) = (lget b z0).path) ∧ (((lget a z0).mode = (lget b z0).mode) ∧ ((((lget a z0).data : ByteArray) = (lget b z0).data) ∧ True))) → ((inR .i64 (z0 + (1 : Int))) ∧ ((z1 (z0 + (1 : Int))) ∧ z2 (z0 + (1 : Int)) < z2 z0))))))))))))) ∧ ((¬ (z0 < (a.length : Int))) → Q true))))))))
set_option maxRecDepth 20000 in
set_option maxHeartbeats 4000000 in
theorem rectolaw6_same_w {X : List Nat} {w : World} {a : (List S_rectolaw6_file)} {b : (List S_rectolaw6_file)} {z3 : Option Addr} {z1 : Nat} {z6 : Option Addr} {z4 : Nat} {Q : Bool → Prop} (s5 : Old X w) (u1 : Sl r_rectolaw6_file X w z3 z1 a) (u2 : Sl r_rectolaw6_file X w z6 z4 b) (hp : rectolaw6_same_p a b Q) :
  Calls Tryz.prog 14 #[(.slice z3 a.length z1), (.slice z6 b.length z4)] w (Ret fun v w' => ∃ (s6 : Bool), Q s6 ∧ Evo [] w w' ∧ v = (.bool s6)) := by
 have hXo := s5
 have E0 : Evo [] w w := RB.refl _ _ _
 have hS : Sub X X := Sub.refl _
 unfold rectolaw6_same_p at hp
 refine enter_ Tryz.func14 rfl 26 [(0, (.slice z3 a.length z1)), (1, (.slice z6 b.length z4))] (by kernel_rfl) (fun Qe hQ => ?_)
 replace hp := hp (Sl.len u1) (Sl.len u2)
 refine sr (fun _ q0 => pv (.bool false) ?_)
 refine nt q0 (seq_ (fun _ q1 => sr (fun _ q2 => pv (.slice z3 a.length z1) ?_)))
 refine pv (.int .i64 (a.length : Int)) ?_
 refine pv (.slice z6 b.length z4) ?_
 refine pv (.int .i64 (b.length : Int)) ?_
 refine pv (.bool (!decide ((a.length : Int) = (b.length : Int)))) ?_
 refine nt q2 ?_
 refine cond_nd ((a.length : Int) = (b.length : Int)) (by kernel_rfl) (fun y6 => ?_) (fun y6 => ?_)
 ·
  replace hp := hp.1 y6
  refine sr (fun _ s7 => pv (.bool false) ?_)
  refine nt s7 (wp_ret (then_ret ?_))
  refine end_ret hQ (.bool false) (by kernel_rfl) ?_
  exact ⟨false, hp, E0, rfl⟩
 ·
  replace hp := hp.2 y6
  refine wp_skip (then_normal (q1 _ _ _ _ (seq_ (fun _ s8 => sr (fun _ s9 => pv (.int .i64 (0 : Int)) ?_)))))
  refine nt s9 (wp_block ?_)
  obtain ⟨r0, u3, t0, hp⟩ := hp
  refine loop_ 67106864 (fun kq lq z2 => ∃ (z5 : List Nat) (z0 : Int), (lq = [(5, (.int .i64 z0))]) ∧ (kq = u3 z0) ∧ (Evo [] w z2) ∧ (Old z5 z2) ∧ (Sub X z5) ∧ (Sl r_rectolaw6_file z5 z2 z3 z1 a) ∧ (Sl r_rectolaw6_file z5 z2 z6 z4 b) ∧ (inR .i64 z0) ∧ (r0 z0)) (u3 (0 : Int)) [(5, (.int .i64 (0 : Int)))] (vs_cons (by kernel_rfl) vs_nil) ⟨X, (0 : Int), rfl, rfl, E0, hXo, hS, u1, u2, (by decide : inR .i64 (0 : Int)), t0⟩ ?_
  rintro _ _ z2 q6 ⟨z5, z0, rfl, rfl, u4, v3, t1, t2, t3, t4, t5⟩ q3 t6
  replace hp := hp z0 t5 t4
  refine seq_ (fun _ r1 => sr (fun _ r2 => pv (.int .i64 z0) ?_))
  refine pv (.slice z3 a.length z1) ?_
  refine pv (.int .i64 (a.length : Int)) ?_
  refine pv (.bool (decide (z0 < (a.length : Int)))) ?_
  refine nt r2 ?_
  refine cond_d (z0 < (a.length : Int)) (by kernel_rfl) (fun y7 => ?_) (fun y7 => ?_)
  ·
   replace hp := hp.1 y7
   refine wp_skip (then_normal (r1 _ _ _ _ (seq_ (fun _ r3 => wp_block (seq_ (fun _ r4 => ?_))))))
   refine reg_drawn (RB z2.heap.size []) 9 (by kernel_rfl) (fun u5 y4 => ?_)
   have r5 := Evo.of_drew y4
   have u6 : u5.heap.size = z2.heap.size := by rw [y4]
   clear y4
   have z7 := Step.of0 z5 r5
   have y8 := RB.refl z2.heap.size [] u5
   have u7 := Evo.then0 u4 (Step.evo z7)
   have v4 := Old.step v3 z7
   have t7 := Sub.trans t1 (Step.up z7)
   have y9 := Sl.step t2 z7
   have v0 := Sl.step t3 z7
   refine r_take 0 (.slice z3 a.length z1) (RB.pre _ _) rfl (by kernel_rfl) (fun _ _ _ h => hQ.panic _ _ _ _ _ h) (.inl ⟨rfl, fun wq hq => (by kernel_rfl)⟩) ?_
   refine r_take 1 (.int .i64 z0) (RB.pre _ _) rfl (by kernel_rfl) (fun _ _ _ h => hQ.panic _ _ _ _ _ h) (.inl ⟨rfl, fun wq hq => (by kernel_rfl)⟩) ?_
   obtain ⟨u9, hp⟩ := hp
   obtain ⟨r6, r7, q4, t8, q5, t9, s0, v5⟩ := Sl.atI y9 z0 u9
   obtain ⟨rfl, z8, z9, y0⟩ := r_rectolaw6_file_open s0
   replace hp := hp z8 z9 y0
   refine r_take 2 (.pointer (some ⟨r6, r7 + z0.toNat * 3, none⟩)) (RB.pre _ _) rfl (by kernel_rfl) (fun _ _ _ h => hQ.panic _ _ _ _ _ h) (.inl ⟨rfl, fun wq hq => (x_ixA (m := a.length) (c := z1) (k := .i64) (i := z0) Tryz.underlying27 Tryz.sizeOf41 (by rw [← t8]; kernel_rfl) (by kernel_rfl) u9)⟩) ?_
   refine r_take 3 (.agg #[(.string ((lget a z0).path)), (.int .i64 ((lget a z0).mode)), (.string ((lget a z0).data))]) (RB.pre _ _) rfl (by kernel_rfl) (fun _ _ _ h => hQ.panic _ _ _ _ _ h) (.inl ⟨rfl, fun wq hq => (x_loadN [(.string ((lget a z0).path)), (.int .i64 ((lget a z0).mode)), (.string ((lget a z0).data))] (by kernel_rfl) Tryz.isAgg41 Tryz.sizeOf41 (CellsAt.rb v5 (RB.trans y8 hq) (Nat.lt_of_lt_of_eq t9 u6) (fun h => by cases h)))⟩) ?_
   refine r_take 4 (.slice z6 b.length z4) (RB.pre _ _) rfl (by kernel_rfl) (fun _ _ _ h => hQ.panic _ _ _ _ _ h) (.inl ⟨rfl, fun wq hq => (by kernel_rfl)⟩) ?_
   refine r_take 5 (.int .i64 z0) (RB.pre _ _) rfl (by kernel_rfl) (fun _ _ _ h => hQ.panic _ _ _ _ _ h) (.inl ⟨rfl, fun wq hq => (by kernel_rfl)⟩) ?_
   obtain ⟨v1, hp⟩ := hp
   obtain ⟨s1, s2, r8, v6, r9, v7, v8, v9⟩ := Sl.atI v0 z0 v1
   obtain ⟨rfl, y1, y2, y3⟩ := r_rectolaw6_file_open v8
   replace hp := hp y1 y2 y3
   refine r_take 6 (.pointer (some ⟨s1, s2 + z0.toNat * 3, none⟩)) (RB.pre _ _) rfl (by kernel_rfl) (fun _ _ _ h => hQ.panic _ _ _ _ _ h) (.inl ⟨rfl, fun wq hq => (x_ixA (m := b.length) (c := z4) (k := .i64) (i := z0) Tryz.underlying27 Tryz.sizeOf41 (by rw [← v6]; kernel_rfl) (by kernel_rfl) v1)⟩) ?_
   refine r_take 7 (.agg #[(.string ((lget b z0).path)), (.int .i64 ((lget b z0).mode)), (.string ((lget b z0).data))]) (RB.pre _ _) rfl (by kernel_rfl) (fun _ _ _ h => hQ.panic _ _ _ _ _ h) (.inl ⟨rfl, fun wq hq => (x_loadN [(.string ((lget b z0).path)), (.int .i64 ((lget b z0).mode)), (.string ((lget b z0).data))] (by kernel_rfl) Tryz.isAgg41 Tryz.sizeOf41 (CellsAt.rb v9 (RB.trans y8 hq) (Nat.lt_of_lt_of_eq v7 u6) (fun h => by cases h)))⟩) ?_
   refine r_take 8 (.bool (!decide ((((lget a z0).path : ByteArray) = (lget b z0).path) ∧ (((lget a z0).mode = (lget b z0).mode) ∧ ((((lget a z0).data : ByteArray) = (lget b z0).data) ∧ True))))) (RB.pre _ _) rfl (by kernel_rfl) (fun _ _ _ h => hQ.panic _ _ _ _ _ h) (.inl ⟨rfl, fun wq hq => (x_stne (q := (((lget a z0).path : ByteArray) = (lget b z0).path) ∧ (((lget a z0).mode = (lget b z0).mode) ∧ ((((lget a z0).data : ByteArray) = (lget b z0).data) ∧ True))) (xs := #[(.string ((lget a z0).path)), (.int .i64 ((lget a z0).mode)), (.string ((lget a z0).data))]) (ys := #[(.string ((lget b z0).path)), (.int .i64 ((lget b z0).mode)), (.string ((lget b z0).data))]) [({ name := "path", type := 9, offset := 0, embedded := false, tag := "", pkgPath := "recto/rectolaw6", byteOffset := 0 } : Field), ({ name := "mode", type := 3, offset := 1, embedded := false, tag := "", pkgPath := "recto/rectolaw6", byteOffset := 16 } : Field), ({ name := "data", type := 9, offset := 2, embedded := false, tag := "", pkgPath := "recto/rectolaw6", byteOffset := 24 } : Field)] (by kernel_rfl) (by kernel_rfl) (by kernel_rfl) (by kernel_rfl) (by kernel_rfl) (by kernel_rfl) (eqF_str (a := (lget a z0).path) (b := (lget b z0).path) (by kernel_rfl) (by kernel_rfl) (by kernel_rfl) Tryz.underlying9 (eqF_int (k := .i64) (a := (lget a z0).mode) (b := (lget b z0).mode) (by kernel_rfl) (by kernel_rfl) (by kernel_rfl) Tryz.underlying3 (eqF_str (a := (lget a z0).data) (b := (lget b z0).data) (by kernel_rfl) (by kernel_rfl) (by kernel_rfl) Tryz.underlying9 eqF_nil))))⟩) ?_
   refine r_done (by kernel_rfl) ?_
   refine then_normal (r4 _ _ _ _ ?_)
   refine cond_nd ((((lget a z0).path : ByteArray) = (lget b z0).path) ∧ (((lget a z0).mode = (lget b z0).mode) ∧ ((((lget a z0).data : ByteArray) = (lget b z0).data) ∧ True))) (by kernel_rfl) (fun y5 => ?_) (fun y5 => ?_)
   ·
    replace hp := hp.1 y5
    refine sr (fun _ s3 => pv (.bool false) ?_)
    refine nt s3 (wp_ret (blk_ret (then_ret (then_ret (blk_ret (then_ret ?_))))))
    refine end_ret hQ (.bool false) (by kernel_rfl) ?_
    exact ⟨false, hp, u7, rfl⟩
   ·
    replace hp := hp.2 y5
    refine wp_skip (blk_normal (then_normal (r3 _ _ _ _ (reg_ (pv (.int .i64 z0) ?_)))))
    obtain ⟨v2, hp⟩ := hp
    refine pw (.int .i64 (z0 + (1 : Int))) (x_add2 (k := .i64) (a := z0) (b := (1 : Int)) (z0 + (1 : Int)) (by kernel_rfl) (by kernel_rfl) (wrap_inR v2)) ?_
    refine pv (.int .i64 (z0 + (1 : Int))) ?_
    refine nil_ (then_normal (t6 _ _ _ ⟨_, [(5, (.int .i64 (z0 + (1 : Int))))], hp.2, fit_mk (AgB.mix _ _ _) (by kernel_rfl) (vs_cons (by kernel_rfl) vs_nil), ?_⟩))
    exact ⟨z5, (z0 + (1 : Int)), rfl, rfl, u7, v4, t7, y9, v0, v2, hp.1⟩
  ·
   replace hp := hp.2 y7
   refine wp_exit ?_
   refine then_exit (then_exit (blk_exit (then_normal (s8 _ _ _ _ (sr (fun _ s4 => pv (.bool true) ?_))))))
   refine nt s4 (wp_ret ?_)
   refine end_ret hQ (.bool true) (by kernel_rfl) ?_
   exact ⟨true, hp, u4, rfl⟩
def simfs_FS_Arm_p (f_ : S_simfs_FS) (n_ : Int) (keep : (List Bool)) (Q : S_simfs_FS → Prop) : Prop :=
 ((inR .i64 n_) → ((keep.length ≤ 9223372036854775807) → (slices_Clone_bool_bool_p keep (fun (z0 : (List Bool)) => ((z0.length ≤ 9223372036854775807) → ((f_.pending.length ≤ 9223372036854775807) → ((inR .i64 f_.quota) → ((inR .i64 f_.now) → ((inR .i64 f_.inodes) → ((inR .i64 f_.ops_) → ((inR .i64 f_.left) → ((f_.keep.length ≤ 9223372036854775807) → Q (S_simfs_FS.mk f_.kept f_.files f_.pending f_.quota f_.now f_.inodes f_.ops_ f_.off true (max n_ (1 : Int)) z0)))))))))))))
set_option maxRecDepth 20000 in
set_option maxHeartbeats 4000000 in
theorem simfs_FS_Arm_w {X : List Nat} {w : World} {f_ : S_simfs_FS} {n_ : Int} {keep : (List Bool)} {z0 : Nat} {z6 : List Nat} {z1 : Option Addr} {z2 : Nat} {Q : S_simfs_FS → Prop} (t6 : Old X w) (v3 : MO o_simfs_FS 62 z6 w.heap.size X w z6 z0 f_) (t2 : inR .i64 n_) (y8 : Sl rBool X w z1 z2 keep) (hp : simfs_FS_Arm_p f_ n_ keep Q) :
  Calls Tryz.prog 15 #[(.pointer (some ⟨z0, 0, none⟩)), (.int .i64 n_), (.slice z1 keep.length z2)] w (Ret fun v w' => ∃ (r8 : S_simfs_FS), Q r8 ∧ ∃ (X' : List Nat) (r9 : List Nat), Step X w z6 X' w' ∧ v = .tuple #[] ∧ MO o_simfs_FS 62 z6 w.heap.size X' w' r9 z0 r8) := by
 have hXo := t6
 have E0 : Evo z6 w w := RB.refl _ _ _
 have hS : Sub X X := Sub.refl _
 have hN : News X w X w := News.refl _ _
 have q0 : Sub z6 X := MO.mem v3
 unfold simfs_FS_Arm_p at hp
 refine enter_ Tryz.func15 rfl 19 [(0, (.pointer (some ⟨z0, 0, none⟩))), (1, (.int .i64 n_)), (2, (.slice z1 keep.length z2))] (by kernel_rfl) (fun Qe hQ => ?_)
 replace hp := hp t2 (Sl.len y8)
 refine reg_ (pv (.pointer (some ⟨z0, 0, none⟩)) ?_)
 refine pv (.pointer (some ⟨z0, 0, none⟩)) ?_
 refine pv (.pointer (some ⟨z0, 0, none⟩)) ?_
 refine pv (.int .i64 n_) ?_
 refine pw (.int .i64 (max n_ (1 : Int))) (x_max (k := .i64) (a := n_) (b := (1 : Int)) (max n_ (1 : Int)) (by kernel_rfl) (by kernel_rfl) rfl) ?_
 refine pv (.slice z1 keep.length z2) ?_
 refine sq (o_call 34 #[(.slice z1 keep.length z2)] rfl (x_call Tryz.call34 (by kernel_rfl)) (slices_Clone_bool_bool_w (X := X) (s := keep) hXo (Sl.sq y8) hp) ?_)
 rintro _ j7 ⟨s5, hp, q1, t7, t8, rfl, q2⟩
 obtain ⟨j3, u4, t9, q3⟩ := OS.own_in q2 q1 E0.size
 have u5 := q3 _ (MO.old v3)
 replace hp := hp (OS.len t9)
 refine pv (.pointer (some ⟨z0, 0, none⟩)) ?_
 have t5 := MO.step0 v3 u4
 obtain ⟨z4, z3, v4, v5, v6, z9, y0, s0, v7, y9, t3, z7, y7, z5, y1, v8, v9, s6, s7, s8, s9, u6, u7, u9, q4, q5, q6⟩ := o_simfs_FS_open t5
 have t0 := Ap.subr (Ap.symm u5) s6
 have q7 := Ap.subr (Ap.symm u5) s7
 have q8 := Ap.subr (Ap.symm u5) s8
 have q9 := Ap.subr (Ap.symm u5) s9
 replace hp := hp (OS.len t3) z7 y7 z5 y1 v8 (Sl.len v9)
 refine pv (.pointer (some ⟨z0, 8, none⟩)) ?_
 have k0 := Evo.then0 E0 (Step.evo u4)
 refine sq (o_stB (o := 8) (v := (.bool true)) [(.map (some z4)), (.map (some z3)), (.slice v4 v5 v6), (.int .i64 f_.quota), (.int .i64 f_.now), (.int .i64 f_.inodes), (.int .i64 f_.ops_), (.bool f_.off), (.bool true), (.int .i64 f_.left), (.slice z9 f_.keep.length y0)] rfl s0 (by kernel_rfl) (by kernel_rfl) Tryz.sizeOf4 rfl rfl rfl ?_)
 intro j4 y2 s1
 refine pv (.pointer (some ⟨z0, 0, none⟩)) ?_
 refine pv (.pointer (some ⟨z0, 9, none⟩)) ?_
 have k1 := OS.step t9 y2 t0
 have u1 := OM.step v7 y2 (Ap.symm u6)
 have v0 := OM.step y9 y2 (Ap.symm u7)
 have r0 := OS.step t3 y2 (Ap.symm u9)
 have k2 := Evo.thenW k0 (Step.evo y2) s0.2.2
 refine sq (o_stB (o := 9) (v := (.int .i64 (max n_ (1 : Int)))) [(.map (some z4)), (.map (some z3)), (.slice v4 v5 v6), (.int .i64 f_.quota), (.int .i64 f_.now), (.int .i64 f_.inodes), (.int .i64 f_.ops_), (.bool f_.off), (.bool true), (.int .i64 (max n_ (1 : Int))), (.slice z9 f_.keep.length y0)] rfl s1 (by kernel_rfl) (by kernel_rfl) Tryz.sizeOf3 rfl rfl rfl ?_)
 intro j5 y3 s2
 refine pv (.pointer (some ⟨z0, 0, none⟩)) ?_
 refine pv (.pointer (some ⟨z0, 10, none⟩)) ?_
 have k3 := OS.step k1 y3 t0
 have u2 := OM.step u1 y3 (Ap.symm u6)
 have v1 := OM.step v0 y3 (Ap.symm u7)
 have r1 := OS.step r0 y3 (Ap.symm u9)
 have k4 := Evo.thenW k2 (Step.evo y3) s1.2.2
 refine sq (o_stB (o := 10) (v := (.slice t7 s5.length t8)) [(.map (some z4)), (.map (some z3)), (.slice v4 v5 v6), (.int .i64 f_.quota), (.int .i64 f_.now), (.int .i64 f_.inodes), (.int .i64 f_.ops_), (.bool f_.off), (.bool true), (.int .i64 (max n_ (1 : Int))), (.slice t7 s5.length t8)] rfl s2 (by kernel_rfl) (by kernel_rfl) Tryz.sizeOf43 rfl rfl rfl ?_)
 intro j6 y4 s3
 refine nil_ ?_
 have s4 := OS.step k3 y4 t0
 have r2 := Sub.trans (Sub.trans (Sub.trans (Sub.trans hS (Step.up u4)) (Step.up y2)) (Step.up y3)) (Step.up y4)
 have k5 := Evo.thenW k4 (Step.evo y4) s2.2.2
 have r3 := News.step (News.step (News.step (News.step hN u4) y2) y3) y4
 have y5 := OM.step u2 y4 (Ap.symm u6)
 have z8 := OM.step v1 y4 (Ap.symm u7)
 have t4 := OS.step r1 y4 (Ap.symm u9)
 have r4 := OS.apold s4 t6
 obtain ⟨k6, t1, k7, y6⟩ := OS.release s4
 have k8 := k5
 have r5 := y6 _ r4 r2
 have r6 := News.less r3 t1
 have k9 := OB.less s3 (y6 _ (Ap.symm t0) (OB.mem s3))
 have u3 := OM.less y5 t1 (y6 _ (Ap.symm q7) (OM.mem y5))
 have v2 := OM.less z8 t1 (y6 _ (Ap.symm q8) (OM.mem z8))
 have r7 := OS.less t4 t1 (y6 _ (Ap.symm q9) (OS.mem t4))
 obtain ⟨j0, j1, j2⟩ := MO.pack (o_simfs_FS_mk k9 u3 v2 r7 z7 y7 z5 y1 (inR_max t2 (by decide : inR .i64 (1 : Int))) k7 rfl u6 u7 u9 q4 q5 q6)
 refine end_normal hQ (.tuple #[]) (by kernel_rfl) ?_
 exact ⟨(S_simfs_FS.mk f_.kept f_.files f_.pending f_.quota f_.now f_.inodes f_.ops_ f_.off true (max n_ (1 : Int)) s5), hp, k6, j0, step_of k8 q0 r5 r6, rfl, j1⟩
def simfs_FS_On_p (f_ : S_simfs_FS) (Q : S_simfs_FS → Prop) : Prop :=
 ((f_.pending.length ≤ 9223372036854775807) → ((inR .i64 f_.quota) → ((inR .i64 f_.now) → ((inR .i64 f_.inodes) → ((inR .i64 f_.ops_) → ((inR .i64 f_.left) → ((f_.keep.length ≤ 9223372036854775807) → Q (S_simfs_FS.mk f_.kept f_.files f_.pending f_.quota f_.now f_.inodes f_.ops_ false f_.armed f_.left f_.keep))))))))
set_option maxRecDepth 20000 in
set_option maxHeartbeats 4000000 in
theorem simfs_FS_On_w {X : List Nat} {w : World} {f_ : S_simfs_FS} {z0 : Nat} {z2 : List Nat} {Q : S_simfs_FS → Prop} (v8 : Old X w) (y8 : MO o_simfs_FS 62 z2 w.heap.size X w z2 z0 f_) (hp : simfs_FS_On_p f_ Q) :
  Calls Tryz.prog 17 #[(.pointer (some ⟨z0, 0, none⟩))] w (Ret fun v w' => ∃ (v9 : S_simfs_FS), Q v9 ∧ ∃ (X' : List Nat) (u1 : List Nat), Step X w z2 X' w' ∧ v = .tuple #[] ∧ MO o_simfs_FS 62 z2 w.heap.size X' w' u1 z0 v9) := by
 have hXo := v8
 have E0 : Evo z2 w w := RB.refl _ _ _
 have hS : Sub X X := Sub.refl _
 have hN : News X w X w := News.refl _ _
 have u2 : Sub z2 X := MO.mem y8
 unfold simfs_FS_On_p at hp
 refine enter_ Tryz.func17 rfl 5 [(0, (.pointer (some ⟨z0, 0, none⟩)))] (by kernel_rfl) (fun Qe hQ => ?_)
 refine reg_ (pv (.pointer (some ⟨z0, 0, none⟩)) ?_)
 refine pv (.pointer (some ⟨z0, 0, none⟩)) ?_
 obtain ⟨y6, y0, u3, u4, v4, y1, y2, v0, y7, y3, y9, z3, z8, z1, z4, z5, z6, t3, t4, t5, t6, v1, v2, v3, u5, u6, u7⟩ := o_simfs_FS_open y8
 replace hp := hp (OS.len y9) z3 z8 z1 z4 z5 (Sl.len z6)
 refine pv (.pointer (some ⟨z0, 7, none⟩)) ?_
 refine sq (o_stB (o := 7) (v := (.bool false)) [(.map (some y6)), (.map (some y0)), (.slice u3 u4 v4), (.int .i64 f_.quota), (.int .i64 f_.now), (.int .i64 f_.inodes), (.int .i64 f_.ops_), (.bool false), (.bool f_.armed), (.int .i64 f_.left), (.slice y1 f_.keep.length y2)] rfl v0 (by kernel_rfl) (by kernel_rfl) Tryz.sizeOf4 rfl rfl rfl ?_)
 intro t8 z7 u9
 refine nil_ ?_
 have t0 := Evo.thenW E0 (Step.evo z7) v0.2.2
 have v5 := Sub.trans hS (Step.up z7)
 have v6 := News.step hN z7
 have y4 := OM.step y7 z7 (Ap.symm v1)
 have z9 := OM.step y3 z7 (Ap.symm v2)
 have v7 := OS.step y9 z7 (Ap.symm v3)
 have y5 := Sl.step z6 z7
 obtain ⟨t1, t2, t7⟩ := MO.pack (o_simfs_FS_mk u9 y4 z9 v7 z3 z8 z1 z4 z5 y5 rfl v1 v2 v3 u5 u6 u7)
 refine end_normal hQ (.tuple #[]) (by kernel_rfl) ?_
 exact ⟨(S_simfs_FS.mk f_.kept f_.files f_.pending f_.quota f_.now f_.inodes f_.ops_ false f_.armed f_.left f_.keep), hp, X, t1, step_of t0 u2 v5 v6, rfl, t2⟩
end Go.Proofs.YtlkfoebophjhfaaGreatDoor
