/- Walks of functions: what each asks and computes, as a plain predicate, and the contract from it. -/
import Derived.Test.YtjejeipdndddpaaChecked
import Derived.Test.YtjejeipdndddpaaSh4
namespace Go.Proofs.Ytjejeipdndddpaa
open Go

theorem elT37 : ElemT Try.prog 37 32 32 32 := elemT_mk (i := Try.t32) (z := (.agg #[(.int .u8 0), (.int .u8 0), (.int .u8 0), (.int .u8 0), (.int .u8 0), (.int .u8 0), (.int .u8 0), (.int .u8 0), (.int .u8 0), (.int .u8 0), (.int .u8 0), (.int .u8 0), (.int .u8 0), (.int .u8 0), (.int .u8 0), (.int .u8 0), (.int .u8 0), (.int .u8 0), (.int .u8 0), (.int .u8 0), (.int .u8 0), (.int .u8 0), (.int .u8 0), (.int .u8 0), (.int .u8 0), (.int .u8 0), (.int .u8 0), (.int .u8 0), (.int .u8 0), (.int .u8 0), (.int .u8 0), (.int .u8 0)])) (by kernel_rfl) (by kernel_rfl) (by kernel_rfl) (by kernel_rfl) Try.underlying37 Try.sizeOf32 (by decide) (by decide)
def rectoref2_String_p (id : (List Int)) (Q : ByteArray → Prop) : Prop :=
  ((okArr .u8 32 id) → (∃ (I50 : ByteArray → Int → Prop) (m51 : ByteArray → Int → Nat), (I50 (ByteArray.mk #[]) (0 : Int)) ∧ ∀ (s13 : ByteArray) (i15 : Int), (I50 s13 i15) → (s13.size ≤ maxLen) → (inR .i64 i15) → (((i15 < (32 : Int)) → ((0 ≤ i15 ∧ i15 < 32) ∧ ((0 ≤ (ishr .u8 (lget id i15) (4 : Int)) ∧ (ishr .u8 (lget id i15) (4 : Int)) < ((ByteArray.mk #[48, 49, 50, 51, 52, 53, 54, 55, 56, 57, 97, 98, 99, 100, 101, 102]).size : Int)) ∧ ((0 ≤ i15 ∧ i15 < 32) ∧ ((0 ≤ (iand .u8 (lget id i15) (15 : Int)) ∧ (iand .u8 (lget id i15) (15 : Int)) < ((ByteArray.mk #[48, 49, 50, 51, 52, 53, 54, 55, 56, 57, 97, 98, 99, 100, 101, 102]).size : Int)) ∧ (((s13 ++ (strOfNums ([bget (ByteArray.mk #[48, 49, 50, 51, 52, 53, 54, 55, 56, 57, 97, 98, 99, 100, 101, 102]) (ishr .u8 (lget id i15) (4 : Int)), bget (ByteArray.mk #[48, 49, 50, 51, 52, 53, 54, 55, 56, 57, 97, 98, 99, 100, 101, 102]) (iand .u8 (lget id i15) (15 : Int))]))).size ≤ maxLen) ∧ ((inR .i64 (i15 + (1 : Int))) ∧ ((I50 (s13 ++ (strOfNums ([bget (ByteArray.mk #[48, 49, 50, 51, 52, 53, 54, 55, 56, 57, 97, 98, 99, 100, 101, 102]) (ishr .u8 (lget id i15) (4 : Int)), bget (ByteArray.mk #[48, 49, 50, 51, 52, 53, 54, 55, 56, 57, 97, 98, 99, 100, 101, 102]) (iand .u8 (lget id i15) (15 : Int))]))) (i15 + (1 : Int))) ∧ m51 (s13 ++ (strOfNums ([bget (ByteArray.mk #[48, 49, 50, 51, 52, 53, 54, 55, 56, 57, 97, 98, 99, 100, 101, 102]) (ishr .u8 (lget id i15) (4 : Int)), bget (ByteArray.mk #[48, 49, 50, 51, 52, 53, 54, 55, 56, 57, 97, 98, 99, 100, 101, 102]) (iand .u8 (lget id i15) (15 : Int))]))) (i15 + (1 : Int)) < m51 s13 i15)))))))) ∧ ((¬ (i15 < (32 : Int))) → Q s13))))
set_option maxRecDepth 20000 in
set_option maxHeartbeats 4000000 in
theorem rectoref2_String_w {X : List Nat} {w : World} {id : (List Int)} {Q : ByteArray → Prop} (hX0 : Old X w) (kid1 : okArr .u8 32 id) (hp : rectoref2_String_p id Q) :
    Calls Try.prog 12 #[(.agg (id.map (Value.int .u8)).toArray)] w (Ret fun v w' => ∃ (r0 : ByteArray), Q r0 ∧ Evo [] w w' ∧ v = (.string r0) ∧ r0.size ≤ maxLen) := by
  have hXo := hX0
  have E0 : Evo [] w w := RB.refl _ _ _
  have hS : Sub X X := Sub.refl _
  unfold rectoref2_String_p at hp
  refine enter_ Try.func12 rfl 27 [(0, (.agg (id.map (Value.int .u8)).toArray))] (by kernel_rfl) (fun Qe hQ => ?_)
  replace hp := hp kid1
  refine seq_ (fun _ K2 => ?_)
  refine reg_ ?_
  refine sq (o_newX (id.map (Value.int .u8)) 32 (X := X) (B := w.heap.size) E0.size rfl (by kernel_rfl) ?_)
  intro b3 w4 X5 s6 k7 n8
  refine sq (o_pv (.string (ByteArray.mk #[])) rfl (by kernel_rfl) ?_)
  refine nil_ ?_
  refine then_normal (K2 _ _ _ _ ?_)
  refine seq_ (fun _ K9 => ?_)
  refine reg_ ?_
  refine sq (o_pv (.string (ByteArray.mk #[48, 49, 50, 51, 52, 53, 54, 55, 56, 57, 97, 98, 99, 100, 101, 102])) rfl (by kernel_rfl) ?_)
  refine nil_ ?_
  refine then_normal (K9 _ _ _ _ ?_)
  refine seq_ (fun _ K10 => ?_)
  refine reg_ ?_
  refine sq (o_pv (.string (ByteArray.mk #[])) rfl (by kernel_rfl) ?_)
  refine nil_ ?_
  refine then_normal (K10 _ _ _ _ ?_)
  refine seq_ (fun _ K11 => ?_)
  refine seq_ (fun _ K12 => ?_)
  refine reg_ ?_
  refine sq (o_pv (.int .i64 (0 : Int)) rfl (by kernel_rfl) ?_)
  refine nil_ ?_
  refine then_normal (K12 _ _ _ _ ?_)
  refine wp_block ?_
  have hXo60 := (Old.step hXo s6)
  have E61 := (Evo.then0 E0 (Step.evo s6))
  have hS62 := (Sub.trans hS (Step.up s6))
  obtain ⟨I50, m51, hI52, hp⟩ := hp
  refine loop_ 67108848 (fun kq lq w54 => ∃ (X55 : List Nat) (s13 : ByteArray) (i15 : Int), (lq = [(4, (.string s13)), (5, (.int .i64 i15))]) ∧ (kq = m51 s13 i15) ∧ (Evo [] w w54) ∧ (Old X55 w54) ∧ (Sub X X55) ∧ (OB ([]) w.heap.size X55 w54 b3 (id.map (Value.int .u8)) 32) ∧ (s13.size ≤ maxLen) ∧ (inR .i64 i15) ∧ (I50 s13 i15)) (m51 (ByteArray.mk #[]) (0 : Int)) [(4, (.string (ByteArray.mk #[]))), (5, (.int .i64 (0 : Int)))] (vs_cons (by kernel_rfl) (vs_cons (by kernel_rfl) vs_nil)) ⟨X5, (ByteArray.mk #[]), (0 : Int), rfl, rfl, E61, hXo60, hS62, k7, (by decide), (by decide), hI52⟩ ?_
  rintro _ _ w54 g57 ⟨X55, s13, i15, rfl, rfl, E63, hXo64, hS65, k66, zs14, ri16, hI53⟩ Kl58 hA59
  replace hp := hp s13 i15 hI53 zs14 ri16
  refine seq_ (fun _ K67 => ?_)
  refine seq_ (fun _ K68 => ?_)
  refine reg_ ?_
  refine sq (o_pv (.int .i64 i15) rfl (by kernel_rfl) ?_)
  refine sq (o_pv (.bool (decide (i15 < (32 : Int)))) rfl (by kernel_rfl) ?_)
  refine nil_ ?_
  refine then_normal (K68 _ _ _ _ ?_)
  refine cond_d (i15 < (32 : Int)) (by kernel_rfl) (fun h69 => ?_) (fun h69 => ?_)
  ·
    replace hp := hp.1 h69
    refine wp_skip ?_
    refine then_normal (K67 _ _ _ _ ?_)
    refine seq_ (fun _ K70 => ?_)
    refine wp_block ?_
    refine reg_drawn (RB w54.heap.size []) 16 (by kernel_rfl) (fun w71 hd72 => ?_)
    have e73 := Evo.of_drew hd72
    have z74 : w71.heap.size = w54.heap.size := by rw [hd72]
    clear hd72
    have s76 := Step.of0 X55 e73
    have er75 := RB.refl w54.heap.size [] w71
    have E77 := (Evo.then0 E63 (Step.evo s76))
    have hXo78 := (Old.step hXo64 s76)
    have hS79 := (Sub.trans hS65 (Step.up s76))
    have k80 := (OB.step0 k66 s76)
    refine r_take 0 (.string s13) (RB.pre _ _) rfl (by kernel_rfl) (fun _ _ _ h => hQ.panic _ _ _ _ _ h) (.inl ⟨rfl, fun wq hq => (by kernel_rfl)⟩) ?_
    refine r_take 1 (.string (ByteArray.mk #[48, 49, 50, 51, 52, 53, 54, 55, 56, 57, 97, 98, 99, 100, 101, 102])) (RB.pre _ _) rfl (by kernel_rfl) (fun _ _ _ h => hQ.panic _ _ _ _ _ h) (.inl ⟨rfl, fun wq hq => (by kernel_rfl)⟩) ?_
    refine r_take 2 (.int .i64 i15) (RB.pre _ _) rfl (by kernel_rfl) (fun _ _ _ h => hQ.panic _ _ _ _ _ h) (.inl ⟨rfl, fun wq hq => (by kernel_rfl)⟩) ?_
    obtain ⟨h81, hp⟩ := hp
    refine r_take 3 (.pointer (some ⟨b3, i15.toNat, none⟩)) (RB.pre _ _) rfl (by kernel_rfl) (fun _ _ _ h => hQ.panic _ _ _ _ _ h) (.inl ⟨rfl, fun wq hq => (x_ixR (k := .i64) (i := i15) Try.underlying32 Try.sizeOf5 (by kernel_rfl) (by kernel_rfl) h81)⟩) ?_
    refine r_take 4 (.int .u8 (lget id i15)) (RB.pre _ _) rfl (by kernel_rfl) (fun _ _ _ h => hQ.panic _ _ _ _ _ h) (.inl ⟨rfl, fun wq hq => (x_load1 (by kernel_rfl) Try.isAgg5 (Blk.acell (Blk.rb k80.2.1 (RB.trans er75 hq) (Nat.lt_of_lt_of_eq (Blk.lt k80.2.1) z74) (fun h => by cases h)) kid1 h81))⟩) ?_
    refine r_take 5 (.int .u8 (ishr .u8 (lget id i15) (4 : Int))) (RB.pre _ _) rfl (by kernel_rfl) (fun _ _ _ h => hQ.panic _ _ _ _ _ h) (.inl ⟨rfl, fun wq hq => (x_shr (k := .u8) (k' := .u64) (a := lget id i15) (b := (4 : Int)) (by kernel_rfl) (by kernel_rfl) (by decide))⟩) ?_
    obtain ⟨h82, hp⟩ := hp
    refine r_take 6 (.int .u8 (bget (ByteArray.mk #[48, 49, 50, 51, 52, 53, 54, 55, 56, 57, 97, 98, 99, 100, 101, 102]) (ishr .u8 (lget id i15) (4 : Int)))) (RB.pre _ _) rfl (by kernel_rfl) (fun _ _ _ h => hQ.panic _ _ _ _ _ h) (.inl ⟨rfl, fun wq hq => (x_bget (k := .u8) (by kernel_rfl) (by kernel_rfl) Try.underlying9 h82)⟩) ?_
    refine r_take 7 (.string (ByteArray.mk #[48, 49, 50, 51, 52, 53, 54, 55, 56, 57, 97, 98, 99, 100, 101, 102])) (RB.pre _ _) rfl (by kernel_rfl) (fun _ _ _ h => hQ.panic _ _ _ _ _ h) (.inl ⟨rfl, fun wq hq => (by kernel_rfl)⟩) ?_
    refine r_take 8 (.int .i64 i15) (RB.pre _ _) rfl (by kernel_rfl) (fun _ _ _ h => hQ.panic _ _ _ _ _ h) (.inl ⟨rfl, fun wq hq => (by kernel_rfl)⟩) ?_
    obtain ⟨h83, hp⟩ := hp
    refine r_take 9 (.pointer (some ⟨b3, i15.toNat, none⟩)) (RB.pre _ _) rfl (by kernel_rfl) (fun _ _ _ h => hQ.panic _ _ _ _ _ h) (.inl ⟨rfl, fun wq hq => (x_ixR (k := .i64) (i := i15) Try.underlying32 Try.sizeOf5 (by kernel_rfl) (by kernel_rfl) h83)⟩) ?_
    refine r_take 10 (.int .u8 (lget id i15)) (RB.pre _ _) rfl (by kernel_rfl) (fun _ _ _ h => hQ.panic _ _ _ _ _ h) (.inl ⟨rfl, fun wq hq => (x_load1 (by kernel_rfl) Try.isAgg5 (Blk.acell (Blk.rb k80.2.1 (RB.trans er75 hq) (Nat.lt_of_lt_of_eq (Blk.lt k80.2.1) z74) (fun h => by cases h)) kid1 h83))⟩) ?_
    refine r_take 11 (.int .u8 (iand .u8 (lget id i15) (15 : Int))) (RB.pre _ _) rfl (by kernel_rfl) (fun _ _ _ h => hQ.panic _ _ _ _ _ h) (.inl ⟨rfl, fun wq hq => (x_and (k := .u8) (a := lget id i15) (b := (15 : Int)) (by kernel_rfl) (by kernel_rfl))⟩) ?_
    obtain ⟨h84, hp⟩ := hp
    refine r_take 12 (.int .u8 (bget (ByteArray.mk #[48, 49, 50, 51, 52, 53, 54, 55, 56, 57, 97, 98, 99, 100, 101, 102]) (iand .u8 (lget id i15) (15 : Int)))) (RB.pre _ _) rfl (by kernel_rfl) (fun _ _ _ h => hQ.panic _ _ _ _ _ h) (.inl ⟨rfl, fun wq hq => (x_bget (k := .u8) (by kernel_rfl) (by kernel_rfl) Try.underlying9 h84)⟩) ?_
    refine r_ready [13] (by kernel_rfl) rfl (all_cons ⟨_, _, _, _, _, _, rfl, ?_⟩ all_nil)
    refine o_rowX (R := (rInt .u8)) [(.int .u8 (bget (ByteArray.mk #[48, 49, 50, 51, 52, 53, 54, 55, 56, 57, 97, 98, 99, 100, 101, 102]) (ishr .u8 (lget id i15) (4 : Int)))), (.int .u8 (bget (ByteArray.mk #[48, 49, 50, 51, 52, 53, 54, 55, 56, 57, 97, 98, 99, 100, 101, 102]) (iand .u8 (lget id i15) (15 : Int))))] [bget (ByteArray.mk #[48, 49, 50, 51, 52, 53, 54, 55, 56, 57, 97, 98, 99, 100, 101, 102]) (ishr .u8 (lget id i15) (4 : Int)), bget (ByteArray.mk #[48, 49, 50, 51, 52, 53, 54, 55, 56, 57, 97, 98, 99, 100, 101, 102]) (iand .u8 (lget id i15) (15 : Int))] 5 2 (X := X55) (B := w.heap.size) E77.size rfl (by kernel_rfl) (Flat.cons (cs := [(.int .u8 (bget (ByteArray.mk #[48, 49, 50, 51, 52, 53, 54, 55, 56, 57, 97, 98, 99, 100, 101, 102]) (ishr .u8 (lget id i15) (4 : Int))))]) (rInt_mk (bget_u8 _ _)) (Flat.cons (cs := [(.int .u8 (bget (ByteArray.mk #[48, 49, 50, 51, 52, 53, 54, 55, 56, 57, 97, 98, 99, 100, 101, 102]) (iand .u8 (lget id i15) (15 : Int))))]) (rInt_mk (bget_u8 _ _)) Flat.nil)) rfl (by decide) ?_
    intro b85 w86 X87 s88 O89 n90
    have rm := RB.mono (F' := []) (Step.evo s88) (Nat.le_trans (Nat.le_of_eq z74.symm) (RB.size er75)) (fun _ h => by cases h)
    have er91 := RB.trans er75 rm
    refine ⟨fun _ => rm, ?_⟩
    have p92 := n90 _ (OB.old k80)
    refine r_ready [14] (by kernel_rfl) rfl (all_cons ⟨_, _, _, _, _, _, rfl, ?_⟩ all_nil)
    have hl93 := OS.len O89
    refine o_pv (.string (strOfNums ([bget (ByteArray.mk #[48, 49, 50, 51, 52, 53, 54, 55, 56, 57, 97, 98, 99, 100, 101, 102]) (ishr .u8 (lget id i15) (4 : Int)), bget (ByteArray.mk #[48, 49, 50, 51, 52, 53, 54, 55, 56, 57, 97, 98, 99, 100, 101, 102]) (iand .u8 (lget id i15) (15 : Int))]))) rfl (x_b2s_sl (a := (some ⟨b85, 0, none⟩)) (len := 2) (c := 2) ([bget (ByteArray.mk #[48, 49, 50, 51, 52, 53, 54, 55, 56, 57, 97, 98, 99, 100, 101, 102]) (ishr .u8 (lget id i15) (4 : Int)), bget (ByteArray.mk #[48, 49, 50, 51, 52, 53, 54, 55, 56, 57, 97, 98, 99, 100, 101, 102]) (iand .u8 (lget id i15) (15 : Int))]) Try.underlying22 Try.underlying5 Try.underlying9 (by kernel_rfl) O89.1 (OS.rd O89)) ?_
    refine ⟨fun _ => RB.refl _ _ _, ?_⟩
    obtain ⟨h94, hp⟩ := hp
    refine r_take 15 (.string (s13 ++ (strOfNums ([bget (ByteArray.mk #[48, 49, 50, 51, 52, 53, 54, 55, 56, 57, 97, 98, 99, 100, 101, 102]) (ishr .u8 (lget id i15) (4 : Int)), bget (ByteArray.mk #[48, 49, 50, 51, 52, 53, 54, 55, 56, 57, 97, 98, 99, 100, 101, 102]) (iand .u8 (lget id i15) (15 : Int))])))) (RB.pre _ _) rfl (by kernel_rfl) (fun _ _ _ h => hQ.panic _ _ _ _ _ h) (.inl ⟨rfl, fun wq hq => (x_cat (by kernel_rfl) (by kernel_rfl) h94)⟩) ?_
    refine r_ready [16] (by kernel_rfl) rfl (all_cons ⟨_, _, _, _, _, _, rfl, ?_⟩ all_nil)
    refine o_pv (.string (s13 ++ (strOfNums ([bget (ByteArray.mk #[48, 49, 50, 51, 52, 53, 54, 55, 56, 57, 97, 98, 99, 100, 101, 102]) (ishr .u8 (lget id i15) (4 : Int)), bget (ByteArray.mk #[48, 49, 50, 51, 52, 53, 54, 55, 56, 57, 97, 98, 99, 100, 101, 102]) (iand .u8 (lget id i15) (15 : Int))])))) rfl (by kernel_rfl) ?_
    refine ⟨fun h => absurd h (by decide), ?_⟩
    refine r_done (by kernel_rfl) ?_
    refine blk_normal ?_
    refine then_normal (K70 _ _ _ _ ?_)
    refine reg_ ?_
    refine sq (o_pv (.int .i64 i15) rfl (by kernel_rfl) ?_)
    obtain ⟨h95, hp⟩ := hp
    refine sq (o_pv (.int .i64 (i15 + (1 : Int))) rfl (x_add2 (k := .i64) (a := i15) (b := (1 : Int)) (i15 + (1 : Int)) (by kernel_rfl) (by kernel_rfl) (wrap_inR h95)) ?_)
    refine sq (o_pv (.int .i64 (i15 + (1 : Int))) rfl (by kernel_rfl) ?_)
    refine nil_ ?_
    have E96 := (Evo.then0 E77 (Step.evo s88))
    have hXo97 := (Old.step hXo78 s88)
    have hS98 := (Sub.trans hS79 (Step.up s88))
    have k99 := (OB.step0 k80 s88)
    refine then_normal (hA59 _ _ _ ⟨_, [(4, (.string (s13 ++ (strOfNums ([bget (ByteArray.mk #[48, 49, 50, 51, 52, 53, 54, 55, 56, 57, 97, 98, 99, 100, 101, 102]) (ishr .u8 (lget id i15) (4 : Int)), bget (ByteArray.mk #[48, 49, 50, 51, 52, 53, 54, 55, 56, 57, 97, 98, 99, 100, 101, 102]) (iand .u8 (lget id i15) (15 : Int))]))))), (5, (.int .i64 (i15 + (1 : Int))))], hp.2, fit_mk (AgB.mix _ _ _) (by kernel_rfl) (vs_cons (by kernel_rfl) (vs_cons (by kernel_rfl) vs_nil)), ?_⟩)
    exact ⟨X87, (s13 ++ (strOfNums ([bget (ByteArray.mk #[48, 49, 50, 51, 52, 53, 54, 55, 56, 57, 97, 98, 99, 100, 101, 102]) (ishr .u8 (lget id i15) (4 : Int)), bget (ByteArray.mk #[48, 49, 50, 51, 52, 53, 54, 55, 56, 57, 97, 98, 99, 100, 101, 102]) (iand .u8 (lget id i15) (15 : Int))]))), (i15 + (1 : Int)), rfl, rfl, E96, hXo97, hS98, k99, h94, h95, hp.1⟩
  ·
    replace hp := hp.2 h69
    refine wp_exit ?_
    refine then_exit ?_
    refine then_exit ?_
    refine blk_exit ?_
    refine then_normal (K11 _ _ _ _ ?_)
    refine seq_ (fun _ K100 => ?_)
    refine reg_ ?_
    refine sq (o_pv (.string s13) rfl (by kernel_rfl) ?_)
    refine sq (o_pv (.string s13) rfl (by kernel_rfl) ?_)
    refine nil_ ?_
    refine then_normal (K100 _ _ _ _ ?_)
    refine wp_ret ?_
    refine end_ret hQ (.string s13) (by kernel_rfl) ?_
    exact ⟨s13, hp, E63, rfl, zs14⟩

def rectolaw2_ShaAny_p (b : (List Int)) (Q : Bool → Prop) : Prop :=
  ((b.length ≤ 9223372036854775807) → (rectolaw2_known_p  (fun (r7 : Bool) => ((((!r7) = true) → Q false) ∧ (((!r7) = false) → ((((b.length : Int) > (500 : Int)) → Q true) ∧ ((¬ ((b.length : Int) > (500 : Int))) → (sha_Sum_p b (fun (r21 : (List Int)) => ((okArr .u8 32 r21) → (sha_ID_String_p r21 (fun (r38 : ByteArray) => ((r38.size ≤ maxLen) → (sha_Parse_p r38 (fun (r44 : (List Int)) (r45 : PErr) => ((okArr .u8 32 r44) → (∃ k108 : Bool → Prop, (∀ (s107 : Bool), k108 s107 → Q s107) ∧ (rectoref2_Sum_p b (fun (r137 : (List Int)) => ((okArr .u8 32 r137) → ((((r21 : List Int) = r137) → (sha_ID_String_p r21 (fun (r144 : ByteArray) => ((r144.size ≤ maxLen) → (rectoref2_String_p r21 (fun (r150 : ByteArray) => ((r150.size ≤ maxLen) → ((((r144 : ByteArray) = r150) → (((r45.isNil = true) → (k108 (decide ((r44 : List Int) = r21)))) ∧ ((¬ (r45.isNil = true)) → (k108 false)))) ∧ ((¬ ((r144 : ByteArray) = r150)) → (k108 false)))))))))) ∧ ((¬ ((r21 : List Int) = r137)) → (k108 false)))))))))))))))))))))))
set_option maxRecDepth 20000 in
set_option maxHeartbeats 4000000 in
theorem rectolaw2_ShaAny_w {X : List Nat} {w : World} {b : (List Int)} {ab1 : Option Addr} {cb2 : Nat} {Q : Bool → Prop} (hX0 : Old X w) (hb3 : Sl (rInt .u8) X w ab1 cb2 b) (hp : rectolaw2_ShaAny_p b Q) :
    Calls Try.prog 3 #[(.slice ab1 b.length cb2)] w (Ret fun v w' => ∃ (r0 : Bool), Q r0 ∧ Evo [] w w' ∧ v = (.bool r0)) := by
  have hXo := hX0
  have E0 : Evo [] w w := RB.refl _ _ _
  have hS : Sub X X := Sub.refl _
  unfold rectolaw2_ShaAny_p at hp
  refine enter_ Try.func3 rfl 39 [(0, (.slice ab1 b.length cb2))] (by kernel_rfl) (fun Qe hQ => ?_)
  replace hp := hp (Sl.len hb3)
  refine seq_ (fun _ K4 => ?_)
  refine reg_ ?_
  refine sq (o_pv (.bool false) rfl (by kernel_rfl) ?_)
  refine nil_ ?_
  refine then_normal (K4 _ _ _ _ ?_)
  refine seq_ (fun _ K5 => ?_)
  refine seq_ (fun _ K6 => ?_)
  refine reg_ ?_
  refine sq (o_call 7 #[] rfl (x_call Try.call7 (by kernel_rfl)) (rectolaw2_known_w (X := [])  (Old.nil _) hp) ?_)
  rintro _ w8 ⟨r7, hp, e9, rfl⟩
  have s10 := Step.of0 X e9
  refine sq (o_pv (.bool (!r7)) rfl (by kernel_rfl) ?_)
  refine nil_ ?_
  refine then_normal (K6 _ _ _ _ ?_)
  refine cond_b (!r7) (by kernel_rfl) (fun h11 => ?_) (fun h11 => ?_)
  ·
    replace hp := hp.1 h11
    refine seq_ (fun _ K12 => ?_)
    refine reg_ ?_
    refine sq (o_pv (.bool false) rfl (by kernel_rfl) ?_)
    refine nil_ ?_
    refine then_normal (K12 _ _ _ _ ?_)
    refine wp_ret ?_
    refine then_ret ?_
    have E13 := (Evo.then0 E0 e9)
    refine end_ret hQ (.bool false) (by kernel_rfl) ?_
    exact ⟨false, hp, E13, rfl⟩
  ·
    replace hp := hp.2 h11
    refine wp_skip ?_
    refine then_normal (K5 _ _ _ _ ?_)
    refine seq_ (fun _ K14 => ?_)
    refine seq_ (fun _ K15 => ?_)
    refine reg_ ?_
    refine sq (o_pv (.slice ab1 b.length cb2) rfl (by kernel_rfl) ?_)
    refine sq (o_pv (.int .i64 (b.length : Int)) rfl (by kernel_rfl) ?_)
    refine sq (o_pv (.bool (decide ((b.length : Int) > (500 : Int)))) rfl (by kernel_rfl) ?_)
    refine nil_ ?_
    refine then_normal (K15 _ _ _ _ ?_)
    refine cond_d ((b.length : Int) > (500 : Int)) (by kernel_rfl) (fun h16 => ?_) (fun h16 => ?_)
    ·
      replace hp := hp.1 h16
      refine seq_ (fun _ K17 => ?_)
      refine reg_ ?_
      refine sq (o_pv (.bool true) rfl (by kernel_rfl) ?_)
      refine nil_ ?_
      refine then_normal (K17 _ _ _ _ ?_)
      refine wp_ret ?_
      refine then_ret ?_
      have E18 := (Evo.then0 E0 e9)
      refine end_ret hQ (.bool true) (by kernel_rfl) ?_
      exact ⟨true, hp, E18, rfl⟩
    ·
      replace hp := hp.2 h16
      refine wp_skip ?_
      refine then_normal (K14 _ _ _ _ ?_)
      refine seq_ (fun _ K19 => ?_)
      refine reg_ ?_
      refine sq (o_pv (.slice ab1 b.length cb2) rfl (by kernel_rfl) ?_)
      have hb20 := (Sl.step hb3 s10)
      refine sq (o_call 8 #[(.slice ab1 b.length cb2)] rfl (x_call Try.call8 (by kernel_rfl)) (sha_Sum_w (X := []) (b := b) (Old.nil _) (Sl.less hb20 (Sub.nil _)) hp) ?_)
      rintro _ w22 ⟨r21, hp, e23, rfl, kr25⟩
      have s24 := Step.of0 X e23
      replace hp := hp kr25
      have E32 := (Evo.then0 (Evo.then0 E0 e9) e23)
      refine sq (o_newX ((List.replicate 32 (0 : Int)).map (Value.int .u8)) 25 (X := X) (B := w.heap.size) E32.size rfl (by kernel_rfl) ?_)
      intro b26 w27 X28 s29 k30 n31
      have E33 := (Evo.then0 E32 (Step.evo s29))
      refine sq (o_stW (k := .u8) (e := (List.replicate 32 (0 : Int))) (e' := r21) rfl k30 (by kernel_rfl) (by kernel_rfl) Try.sizeOf25 (okArr_rep _ _) kr25 ?_)
      intro w34 s35 k36
      refine nil_ ?_
      refine then_normal (K19 _ _ _ _ ?_)
      refine seq_ (fun _ K37 => ?_)
      refine reg_ ?_
      refine sq (o_pv (.agg (r21.map (Value.int .u8)).toArray) rfl (x_loadA r21 (by kernel_rfl) Try.isAgg25 Try.sizeOf25 kr25 (Blk.awhole k36.2.1)) ?_)
      refine sq (o_call 10 #[(.agg (r21.map (Value.int .u8)).toArray)] rfl (x_call Try.call10 (by kernel_rfl)) (sha_ID_String_w (X := []) (id := r21) (Old.nil _) kr25 hp) ?_)
      rintro _ w39 ⟨r38, hp, e40, rfl, zr42⟩
      have s41 := Step.of0 X28 e40
      replace hp := hp zr42
      have hXo43 := (Old.step (Old.step (Old.step (Old.step (Old.step hXo s10) s24) s29) s35) s41)
      refine sq (o_call 9 #[(.string r38)] rfl (x_call Try.call9 (by kernel_rfl)) (sha_Parse_w (X := X28) (s := r38) hXo43 zr42 hp) ?_)
      rintro _ w46 ⟨r44, r45, hp, e47, vr50, rfl, kr49, hr51⟩
      have s48 := Step.of0 X28 e47
      replace hp := hp kr49
      refine sq (o_pv (.tuple #[(.agg (r44.map (Value.int .u8)).toArray), vr50]) rfl (by kernel_rfl) ?_)
      refine sq (o_pv (.agg (r44.map (Value.int .u8)).toArray) rfl (by kernel_rfl) ?_)
      refine sq (o_pv vr50 rfl (by kernel_rfl) ?_)
      have k58 := (OB.step0 (OB.step0 k36 s41) s48)
      have E59 := (Evo.then0 (Evo.then0 (Evo.thenW E33 (Step.evo s35) k30.2.2) e40) e47)
      refine sq (o_newX ((List.replicate 32 (0 : Int)).map (Value.int .u8)) 25 (X := X28) (B := w.heap.size) E59.size rfl (by kernel_rfl) ?_)
      intro b52 w53 X54 s55 k56 n57
      have p60 := n57 _ (OB.old k58)
      have k61 := (OB.step0 k58 s55)
      have E62 := (Evo.then0 E59 (Step.evo s55))
      refine sq (o_stW (k := .u8) (e := (List.replicate 32 (0 : Int))) (e' := r44) rfl k56 (by kernel_rfl) (by kernel_rfl) Try.sizeOf25 (okArr_rep _ _) kr49 ?_)
      intro w63 s64 k65
      refine sq (o_pv vr50 rfl (by kernel_rfl) ?_)
      refine nil_ ?_
      refine then_normal (K37 _ _ _ _ ?_)
      refine seq_ (fun _ K66 => ?_)
      have hb115 := (Sl.step (Sl.step (Sl.step (Sl.step (Sl.step (Sl.step (Sl.step hb20 s24) s29) s35) s41) s48) s55) s64)
      have hXo116 := (Old.step (Old.step (Old.step hXo43 s48) s55) s64)
      have E117 := (Evo.thenW E62 (Step.evo s64) k56.2.2)
      have hS118 := (Sub.trans (Sub.trans (Sub.trans (Sub.trans (Sub.trans (Sub.trans (Sub.trans (Sub.trans hS (Step.up s10)) (Step.up s24)) (Step.up s29)) (Step.up s35)) (Step.up s41)) (Step.up s48)) (Step.up s55)) (Step.up s64))
      have k119 := (OB.step k61 s64 p60)
      have hr120 := (Rep.step (rErr 58 68 70) (Rep.step (rErr 58 68 70) hr51 s55) s64)
      obtain ⟨k108, hk109, hp⟩ := hp
      refine ground_ ?_
      refine join_ 549755289604 (fun lq w110 => ∃ (X111 : List Nat) (s107 : Bool), (lq = [(2, (.bool s107))]) ∧ (Evo [] w w110) ∧ (Old X111 w110) ∧ (Sub X X111) ∧ (k108 s107)) (fun Kj112 hJ113 => ?_) ?_
      ·
        refine reg_drawn (RB w63.heap.size []) 20 (by kernel_rfl) (fun w124 hd125 => ?_)
        have e126 := Evo.of_drew hd125
        have z127 : w124.heap.size = w63.heap.size := by rw [hd125]
        clear hd125
        have s129 := Step.of0 X54 e126
        have er128 := RB.refl w63.heap.size [] w124
        have hb130 := (Sl.step hb115 s129)
        have hXo131 := (Old.step hXo116 s129)
        have E132 := (Evo.then0 E117 (Step.evo s129))
        have hS133 := (Sub.trans hS118 (Step.up s129))
        have k134 := (OB.step0 k119 s129)
        have hr135 := (Rep.step (rErr 58 68 70) hr120 s129)
        have k136 := (OB.step0 k65 s129)
        refine r_take 0 (.agg (r21.map (Value.int .u8)).toArray) (RB.pre _ _) rfl (by kernel_rfl) (fun _ _ _ h => hQ.panic _ _ _ _ _ h) (.inl ⟨rfl, fun wq hq => (x_loadA r21 (by kernel_rfl) Try.isAgg25 Try.sizeOf25 kr25 (Blk.awhole (Blk.rb k134.2.1 (RB.trans er128 hq) (Nat.lt_of_lt_of_eq (Blk.lt k134.2.1) z127) (fun h => by cases h))))⟩) ?_
        refine r_take 1 (.slice ab1 b.length cb2) (RB.pre _ _) rfl (by kernel_rfl) (fun _ _ _ h => hQ.panic _ _ _ _ _ h) (.inl ⟨rfl, fun wq hq => (by kernel_rfl)⟩) ?_
        refine r_ready [2] (by kernel_rfl) rfl (all_cons ⟨_, _, _, _, _, _, rfl, ?_⟩ all_nil)
        refine o_call 11 #[(.slice ab1 b.length cb2)] rfl (x_call Try.call11 (by kernel_rfl)) (rectoref2_Sum_w (X := []) (b := b) (Old.nil _) (Sl.less hb130 (Sub.nil _)) hp) ?_
        rintro _ w138 ⟨r137, hp, e139, rfl, kr141⟩
        have rm := RB.mono (F' := []) e139 (Nat.le_trans (Nat.le_of_eq z127.symm) (RB.size er128)) (fun _ h => by cases h)
        have er142 := RB.trans er128 rm
        refine ⟨fun _ => rm, ?_⟩
        have s140 := Step.of0 X54 e139
        replace hp := hp kr141
        by_cases h143 : (r21 : List Int) = r137
        ·
          replace hp := hp.1 h143
          refine r_take 3 (.bool true) (RB.pre _ _) rfl (by kernel_rfl) (fun _ _ _ h => hQ.panic _ _ _ _ _ h) (.inl ⟨rfl, fun wq hq => (x_dt (p := (r21 : List Int) = r137) (x_arreq (i := Try.t5) (k := .u8) (xs := r21) (ys := r137) Try.underlying32 Try.underlying5 (by kernel_rfl) (by kernel_rfl) (by kernel_rfl) Try.isAgg5 kr25 kr141 (by kernel_rfl) (by kernel_rfl)) h143)⟩) ?_
          refine r_take 4 (.bool true) (RB.pre _ _) rfl (by kernel_rfl) (fun _ _ _ h => hQ.panic _ _ _ _ _ h) (.inl ⟨rfl, fun wq hq => (by kernel_rfl)⟩) ?_
          refine r_take 5 (.agg (r21.map (Value.int .u8)).toArray) (RB.pre _ _) rfl (by kernel_rfl) (fun _ _ _ h => hQ.panic _ _ _ _ _ h) (.inl ⟨(by kernel_rfl), fun wq hq => (x_loadA r21 (by kernel_rfl) Try.isAgg25 Try.sizeOf25 kr25 (Blk.awhole (Blk.rb k134.2.1 (RB.trans er142 hq) (Nat.lt_of_lt_of_eq (Blk.lt k134.2.1) z127) (fun h => by cases h))))⟩) ?_
          refine r_take 7 (.agg (r21.map (Value.int .u8)).toArray) (RB.pre _ _) rfl (by kernel_rfl) (fun _ _ _ h => hQ.panic _ _ _ _ _ h) (.inl ⟨(by kernel_rfl), fun wq hq => (x_loadA r21 (by kernel_rfl) Try.isAgg25 Try.sizeOf25 kr25 (Blk.awhole (Blk.rb k134.2.1 (RB.trans er142 hq) (Nat.lt_of_lt_of_eq (Blk.lt k134.2.1) z127) (fun h => by cases h))))⟩) ?_
          refine r_ready [6] (by kernel_rfl) rfl (all_cons ⟨_, _, _, _, _, _, rfl, ?_⟩ all_nil)
          refine o_call 10 #[(.agg (r21.map (Value.int .u8)).toArray)] (by kernel_rfl) (x_call Try.call10 (by kernel_rfl)) (sha_ID_String_w (X := []) (id := r21) (Old.nil _) kr25 hp) ?_
          rintro _ w145 ⟨r144, hp, e146, rfl, zr148⟩
          have rm := RB.mono (F' := []) e146 (Nat.le_trans (Nat.le_of_eq z127.symm) (RB.size er142)) (fun _ h => by cases h)
          have er149 := RB.trans er142 rm
          refine ⟨fun _ => rm, ?_⟩
          have s147 := Step.of0 X54 e146
          replace hp := hp zr148
          refine r_ready [8] (by kernel_rfl) rfl (all_cons ⟨_, _, _, _, _, _, rfl, ?_⟩ all_nil)
          refine o_call 12 #[(.agg (r21.map (Value.int .u8)).toArray)] (by kernel_rfl) (x_call Try.call12 (by kernel_rfl)) (rectoref2_String_w (X := []) (id := r21) (Old.nil _) kr25 hp) ?_
          rintro _ w151 ⟨r150, hp, e152, rfl, zr154⟩
          have rm := RB.mono (F' := []) e152 (Nat.le_trans (Nat.le_of_eq z127.symm) (RB.size er149)) (fun _ h => by cases h)
          have er155 := RB.trans er149 rm
          refine ⟨fun _ => rm, ?_⟩
          have s153 := Step.of0 X54 e152
          replace hp := hp zr154
          by_cases h156 : (r144 : ByteArray) = r150
          ·
            replace hp := hp.1 h156
            refine r_take 9 (.bool true) (RB.pre _ _) rfl (by kernel_rfl) (fun _ _ _ h => hQ.panic _ _ _ _ _ h) (.inl ⟨(by kernel_rfl), fun wq hq => (x_dt (p := (r144 : ByteArray) = r150) (x_streq (by kernel_rfl) (by kernel_rfl)) h156)⟩) ?_
            refine r_take 10 (.bool true) (RB.pre _ _) rfl (by kernel_rfl) (fun _ _ _ h => hQ.panic _ _ _ _ _ h) (.inl ⟨rfl, fun wq hq => (by kernel_rfl)⟩) ?_
            refine r_take 11 (.bool true) (RB.pre _ _) rfl (by kernel_rfl) (fun _ _ _ h => hQ.panic _ _ _ _ _ h) (.inl ⟨rfl, fun wq hq => (by kernel_rfl)⟩) ?_
            refine r_take 12 vr50 (RB.pre _ _) rfl (by kernel_rfl) (fun _ _ _ h => hQ.panic _ _ _ _ _ h) (.inl ⟨(by kernel_rfl), fun wq hq => (by kernel_rfl)⟩) ?_
            by_cases h157 : r45.isNil = true
            ·
              replace hp := hp.1 h157
              refine r_take 13 (.bool true) (RB.pre _ _) rfl (by kernel_rfl) (fun _ _ _ h => hQ.panic _ _ _ _ _ h) (.inl ⟨(by kernel_rfl), fun wq hq => (x_bt (x_err_eq r45 hr135 Try.underlying28 (by kernel_rfl)) h157)⟩) ?_
              refine r_take 14 (.bool true) (RB.pre _ _) rfl (by kernel_rfl) (fun _ _ _ h => hQ.panic _ _ _ _ _ h) (.inl ⟨rfl, fun wq hq => (by kernel_rfl)⟩) ?_
              refine r_take 15 (.bool true) (RB.pre _ _) rfl (by kernel_rfl) (fun _ _ _ h => hQ.panic _ _ _ _ _ h) (.inl ⟨rfl, fun wq hq => (by kernel_rfl)⟩) ?_
              refine r_take 16 (.agg (r44.map (Value.int .u8)).toArray) (RB.pre _ _) rfl (by kernel_rfl) (fun _ _ _ h => hQ.panic _ _ _ _ _ h) (.inl ⟨(by kernel_rfl), fun wq hq => (x_loadA r44 (by kernel_rfl) Try.isAgg25 Try.sizeOf25 kr49 (Blk.awhole (Blk.rb k136.2.1 (RB.trans er155 hq) (Nat.lt_of_lt_of_eq (Blk.lt k136.2.1) z127) (fun h => by cases h))))⟩) ?_
              refine r_take 17 (.agg (r21.map (Value.int .u8)).toArray) (RB.pre _ _) rfl (by kernel_rfl) (fun _ _ _ h => hQ.panic _ _ _ _ _ h) (.inl ⟨(by kernel_rfl), fun wq hq => (x_loadA r21 (by kernel_rfl) Try.isAgg25 Try.sizeOf25 kr25 (Blk.awhole (Blk.rb k134.2.1 (RB.trans er155 hq) (Nat.lt_of_lt_of_eq (Blk.lt k134.2.1) z127) (fun h => by cases h))))⟩) ?_
              refine r_take 18 (.bool (decide ((r44 : List Int) = r21))) (RB.pre _ _) rfl (by kernel_rfl) (fun _ _ _ h => hQ.panic _ _ _ _ _ h) (.inl ⟨(by kernel_rfl), fun wq hq => (x_arreq (i := Try.t5) (k := .u8) (xs := r44) (ys := r21) Try.underlying25 Try.underlying5 (by kernel_rfl) (by kernel_rfl) (by kernel_rfl) Try.isAgg5 kr49 kr25 (by kernel_rfl) (by kernel_rfl))⟩) ?_
              refine r_take 19 (.bool (decide ((r44 : List Int) = r21))) (RB.pre _ _) rfl (by kernel_rfl) (fun _ _ _ h => hQ.panic _ _ _ _ _ h) (.inl ⟨rfl, fun wq hq => (by kernel_rfl)⟩) ?_
              refine r_ready [20] (by kernel_rfl) rfl (all_cons ⟨_, _, _, _, _, _, rfl, ?_⟩ all_nil)
              refine o_pv (.bool (decide ((r44 : List Int) = r21))) rfl (by kernel_rfl) ?_
              refine ⟨fun h => absurd h (by decide), ?_⟩
              refine r_done (by kernel_rfl) ?_
              have E158 := (Evo.then0 (Evo.then0 (Evo.then0 E132 e139) e146) e152)
              have hXo159 := (Old.step (Old.step (Old.step hXo131 s140) s147) s153)
              have hS160 := (Sub.trans (Sub.trans (Sub.trans hS133 (Step.up s140)) (Step.up s147)) (Step.up s153))
              refine then_normal (hJ113 _ _ _ ⟨[(2, (.bool (decide ((r44 : List Int) = r21))))], fit_mk (fun _ _ => rfl) (by kernel_rfl) (vs_cons (by kernel_rfl) vs_nil), ?_⟩)
              exact ⟨X54, (decide ((r44 : List Int) = r21)), rfl, E158, hXo159, hS160, hp⟩
            ·
              replace hp := hp.2 h157
              refine r_take 13 (.bool false) (RB.pre _ _) rfl (by kernel_rfl) (fun _ _ _ h => hQ.panic _ _ _ _ _ h) (.inl ⟨(by kernel_rfl), fun wq hq => (x_bf (x_err_eq r45 hr135 Try.underlying28 (by kernel_rfl)) h157)⟩) ?_
              refine r_take 14 (.bool false) (RB.pre _ _) rfl (by kernel_rfl) (fun _ _ _ h => hQ.panic _ _ _ _ _ h) (.inl ⟨rfl, fun wq hq => (by kernel_rfl)⟩) ?_
              refine r_take 15 (.bool false) (RB.pre _ _) rfl (by kernel_rfl) (fun _ _ _ h => hQ.panic _ _ _ _ _ h) (.inl ⟨rfl, fun wq hq => (by kernel_rfl)⟩) ?_
              refine r_take 16 undef (RB.pre _ _) rfl (by kernel_rfl) (fun _ _ _ h => hQ.panic _ _ _ _ _ h) (.inr ⟨by kernel_rfl, rfl⟩) ?_
              refine r_take 17 undef (RB.pre _ _) rfl (by kernel_rfl) (fun _ _ _ h => hQ.panic _ _ _ _ _ h) (.inr ⟨by kernel_rfl, rfl⟩) ?_
              refine r_take 18 undef (RB.pre _ _) rfl (by kernel_rfl) (fun _ _ _ h => hQ.panic _ _ _ _ _ h) (.inr ⟨by kernel_rfl, rfl⟩) ?_
              refine r_take 19 (.bool false) (RB.pre _ _) rfl (by kernel_rfl) (fun _ _ _ h => hQ.panic _ _ _ _ _ h) (.inl ⟨rfl, fun wq hq => (by kernel_rfl)⟩) ?_
              refine r_ready [20] (by kernel_rfl) rfl (all_cons ⟨_, _, _, _, _, _, rfl, ?_⟩ all_nil)
              refine o_pv (.bool false) rfl (by kernel_rfl) ?_
              refine ⟨fun h => absurd h (by decide), ?_⟩
              refine r_done (by kernel_rfl) ?_
              have E161 := (Evo.then0 (Evo.then0 (Evo.then0 E132 e139) e146) e152)
              have hXo162 := (Old.step (Old.step (Old.step hXo131 s140) s147) s153)
              have hS163 := (Sub.trans (Sub.trans (Sub.trans hS133 (Step.up s140)) (Step.up s147)) (Step.up s153))
              refine then_normal (hJ113 _ _ _ ⟨[(2, (.bool false))], fit_mk (fun _ _ => rfl) (by kernel_rfl) (vs_cons (by kernel_rfl) vs_nil), ?_⟩)
              exact ⟨X54, false, rfl, E161, hXo162, hS163, hp⟩
          ·
            replace hp := hp.2 h156
            refine r_take 9 (.bool false) (RB.pre _ _) rfl (by kernel_rfl) (fun _ _ _ h => hQ.panic _ _ _ _ _ h) (.inl ⟨(by kernel_rfl), fun wq hq => (x_df (p := (r144 : ByteArray) = r150) (x_streq (by kernel_rfl) (by kernel_rfl)) h156)⟩) ?_
            refine r_take 10 (.bool false) (RB.pre _ _) rfl (by kernel_rfl) (fun _ _ _ h => hQ.panic _ _ _ _ _ h) (.inl ⟨rfl, fun wq hq => (by kernel_rfl)⟩) ?_
            refine r_take 11 (.bool false) (RB.pre _ _) rfl (by kernel_rfl) (fun _ _ _ h => hQ.panic _ _ _ _ _ h) (.inl ⟨rfl, fun wq hq => (by kernel_rfl)⟩) ?_
            refine r_take 12 undef (RB.pre _ _) rfl (by kernel_rfl) (fun _ _ _ h => hQ.panic _ _ _ _ _ h) (.inr ⟨by kernel_rfl, rfl⟩) ?_
            refine r_take 13 undef (RB.pre _ _) rfl (by kernel_rfl) (fun _ _ _ h => hQ.panic _ _ _ _ _ h) (.inr ⟨by kernel_rfl, rfl⟩) ?_
            refine r_take 14 (.bool false) (RB.pre _ _) rfl (by kernel_rfl) (fun _ _ _ h => hQ.panic _ _ _ _ _ h) (.inl ⟨rfl, fun wq hq => (by kernel_rfl)⟩) ?_
            refine r_take 15 (.bool false) (RB.pre _ _) rfl (by kernel_rfl) (fun _ _ _ h => hQ.panic _ _ _ _ _ h) (.inl ⟨rfl, fun wq hq => (by kernel_rfl)⟩) ?_
            refine r_take 16 undef (RB.pre _ _) rfl (by kernel_rfl) (fun _ _ _ h => hQ.panic _ _ _ _ _ h) (.inr ⟨by kernel_rfl, rfl⟩) ?_
            refine r_take 17 undef (RB.pre _ _) rfl (by kernel_rfl) (fun _ _ _ h => hQ.panic _ _ _ _ _ h) (.inr ⟨by kernel_rfl, rfl⟩) ?_
            refine r_take 18 undef (RB.pre _ _) rfl (by kernel_rfl) (fun _ _ _ h => hQ.panic _ _ _ _ _ h) (.inr ⟨by kernel_rfl, rfl⟩) ?_
            refine r_take 19 (.bool false) (RB.pre _ _) rfl (by kernel_rfl) (fun _ _ _ h => hQ.panic _ _ _ _ _ h) (.inl ⟨rfl, fun wq hq => (by kernel_rfl)⟩) ?_
            refine r_ready [20] (by kernel_rfl) rfl (all_cons ⟨_, _, _, _, _, _, rfl, ?_⟩ all_nil)
            refine o_pv (.bool false) rfl (by kernel_rfl) ?_
            refine ⟨fun h => absurd h (by decide), ?_⟩
            refine r_done (by kernel_rfl) ?_
            have E164 := (Evo.then0 (Evo.then0 (Evo.then0 E132 e139) e146) e152)
            have hXo165 := (Old.step (Old.step (Old.step hXo131 s140) s147) s153)
            have hS166 := (Sub.trans (Sub.trans (Sub.trans hS133 (Step.up s140)) (Step.up s147)) (Step.up s153))
            refine then_normal (hJ113 _ _ _ ⟨[(2, (.bool false))], fit_mk (fun _ _ => rfl) (by kernel_rfl) (vs_cons (by kernel_rfl) vs_nil), ?_⟩)
            exact ⟨X54, false, rfl, E164, hXo165, hS166, hp⟩
        ·
          replace hp := hp.2 h143
          refine r_take 3 (.bool false) (RB.pre _ _) rfl (by kernel_rfl) (fun _ _ _ h => hQ.panic _ _ _ _ _ h) (.inl ⟨rfl, fun wq hq => (x_df (p := (r21 : List Int) = r137) (x_arreq (i := Try.t5) (k := .u8) (xs := r21) (ys := r137) Try.underlying32 Try.underlying5 (by kernel_rfl) (by kernel_rfl) (by kernel_rfl) Try.isAgg5 kr25 kr141 (by kernel_rfl) (by kernel_rfl)) h143)⟩) ?_
          refine r_take 4 (.bool false) (RB.pre _ _) rfl (by kernel_rfl) (fun _ _ _ h => hQ.panic _ _ _ _ _ h) (.inl ⟨rfl, fun wq hq => (by kernel_rfl)⟩) ?_
          refine r_take 5 undef (RB.pre _ _) rfl (by kernel_rfl) (fun _ _ _ h => hQ.panic _ _ _ _ _ h) (.inr ⟨by kernel_rfl, rfl⟩) ?_
          refine r_take 6 undef (RB.pre _ _) rfl (by kernel_rfl) (fun _ _ _ h => hQ.panic _ _ _ _ _ h) (.inr ⟨by kernel_rfl, rfl⟩) ?_
          refine r_take 7 undef (RB.pre _ _) rfl (by kernel_rfl) (fun _ _ _ h => hQ.panic _ _ _ _ _ h) (.inr ⟨by kernel_rfl, rfl⟩) ?_
          refine r_take 8 undef (RB.pre _ _) rfl (by kernel_rfl) (fun _ _ _ h => hQ.panic _ _ _ _ _ h) (.inr ⟨by kernel_rfl, rfl⟩) ?_
          refine r_take 9 undef (RB.pre _ _) rfl (by kernel_rfl) (fun _ _ _ h => hQ.panic _ _ _ _ _ h) (.inr ⟨by kernel_rfl, rfl⟩) ?_
          refine r_take 10 (.bool false) (RB.pre _ _) rfl (by kernel_rfl) (fun _ _ _ h => hQ.panic _ _ _ _ _ h) (.inl ⟨rfl, fun wq hq => (by kernel_rfl)⟩) ?_
          refine r_take 11 (.bool false) (RB.pre _ _) rfl (by kernel_rfl) (fun _ _ _ h => hQ.panic _ _ _ _ _ h) (.inl ⟨rfl, fun wq hq => (by kernel_rfl)⟩) ?_
          refine r_take 12 undef (RB.pre _ _) rfl (by kernel_rfl) (fun _ _ _ h => hQ.panic _ _ _ _ _ h) (.inr ⟨by kernel_rfl, rfl⟩) ?_
          refine r_take 13 undef (RB.pre _ _) rfl (by kernel_rfl) (fun _ _ _ h => hQ.panic _ _ _ _ _ h) (.inr ⟨by kernel_rfl, rfl⟩) ?_
          refine r_take 14 (.bool false) (RB.pre _ _) rfl (by kernel_rfl) (fun _ _ _ h => hQ.panic _ _ _ _ _ h) (.inl ⟨rfl, fun wq hq => (by kernel_rfl)⟩) ?_
          refine r_take 15 (.bool false) (RB.pre _ _) rfl (by kernel_rfl) (fun _ _ _ h => hQ.panic _ _ _ _ _ h) (.inl ⟨rfl, fun wq hq => (by kernel_rfl)⟩) ?_
          refine r_take 16 undef (RB.pre _ _) rfl (by kernel_rfl) (fun _ _ _ h => hQ.panic _ _ _ _ _ h) (.inr ⟨by kernel_rfl, rfl⟩) ?_
          refine r_take 17 undef (RB.pre _ _) rfl (by kernel_rfl) (fun _ _ _ h => hQ.panic _ _ _ _ _ h) (.inr ⟨by kernel_rfl, rfl⟩) ?_
          refine r_take 18 undef (RB.pre _ _) rfl (by kernel_rfl) (fun _ _ _ h => hQ.panic _ _ _ _ _ h) (.inr ⟨by kernel_rfl, rfl⟩) ?_
          refine r_take 19 (.bool false) (RB.pre _ _) rfl (by kernel_rfl) (fun _ _ _ h => hQ.panic _ _ _ _ _ h) (.inl ⟨rfl, fun wq hq => (by kernel_rfl)⟩) ?_
          refine r_ready [20] (by kernel_rfl) rfl (all_cons ⟨_, _, _, _, _, _, rfl, ?_⟩ all_nil)
          refine o_pv (.bool false) rfl (by kernel_rfl) ?_
          refine ⟨fun h => absurd h (by decide), ?_⟩
          refine r_done (by kernel_rfl) ?_
          have E167 := (Evo.then0 E132 e139)
          have hXo168 := (Old.step hXo131 s140)
          have hS169 := (Sub.trans hS133 (Step.up s140))
          refine then_normal (hJ113 _ _ _ ⟨[(2, (.bool false))], fit_mk (fun _ _ => rfl) (by kernel_rfl) (vs_cons (by kernel_rfl) vs_nil), ?_⟩)
          exact ⟨X54, false, rfl, E167, hXo168, hS169, hp⟩
      ·
        rintro _ w110 g170 ⟨X111, s107, rfl, E121, hXo122, hS123, hv114⟩
        replace hp := hk109 s107 hv114
        refine then_normal (K66 _ _ _ _ ?_)
        refine wp_ret ?_
        refine end_ret hQ (.bool s107) (by kernel_rfl) ?_
        exact ⟨s107, hp, E121, rfl⟩

def rectoref2_Shared_p (a : (List Int)) (b : (List Int)) (Q : Int → Prop) : Prop :=
  ((okArr .u8 32 a) → ((okArr .u8 32 b) → (rectoref2_String_p a (fun (r20 : ByteArray) => ((r20.size ≤ maxLen) → (rectoref2_String_p b (fun (r27 : ByteArray) => ((r27.size ≤ maxLen) → (∃ (I78 : Int → Prop) (m79 : Int → Nat), (I78 (0 : Int)) ∧ ∀ (n_34 : Int), (I78 n_34) → (inR .i64 n_34) → (∃ k111 : Bool → Prop, (∀ (s110 : Bool), k111 s110 → (((s110 = true) → ((inR .i64 (n_34 + (1 : Int))) ∧ ((I78 (n_34 + (1 : Int))) ∧ m79 (n_34 + (1 : Int)) < m79 n_34))) ∧ ((s110 = false) → Q n_34))) ∧ (((n_34 < (64 : Int)) → ((0 ≤ n_34 ∧ n_34 < (r20.size : Int)) ∧ ((0 ≤ n_34 ∧ n_34 < (r27.size : Int)) ∧ (k111 (decide ((bget r20 n_34) = (bget r27 n_34))))))) ∧ ((¬ (n_34 < (64 : Int))) → (k111 false)))))))))))))
set_option maxRecDepth 20000 in
set_option maxHeartbeats 4000000 in
theorem rectoref2_Shared_w {X : List Nat} {w : World} {a : (List Int)} {b : (List Int)} {Q : Int → Prop} (hX0 : Old X w) (ka1 : okArr .u8 32 a) (kb2 : okArr .u8 32 b) (hp : rectoref2_Shared_p a b Q) :
    Calls Try.prog 14 #[(.agg (a.map (Value.int .u8)).toArray), (.agg (b.map (Value.int .u8)).toArray)] w (Ret fun v w' => ∃ (r0 : Int), Q r0 ∧ Evo [] w w' ∧ v = (.int .i64 r0) ∧ inR .i64 r0) := by
  have hXo := hX0
  have E0 : Evo [] w w := RB.refl _ _ _
  have hS : Sub X X := Sub.refl _
  unfold rectoref2_Shared_p at hp
  refine enter_ Try.func14 rfl 26 [(0, (.agg (a.map (Value.int .u8)).toArray)), (1, (.agg (b.map (Value.int .u8)).toArray))] (by kernel_rfl) (fun Qe hQ => ?_)
  replace hp := hp ka1
  replace hp := hp kb2
  refine seq_ (fun _ K3 => ?_)
  refine reg_ ?_
  refine sq (o_newX (a.map (Value.int .u8)) 32 (X := X) (B := w.heap.size) E0.size rfl (by kernel_rfl) ?_)
  intro b4 w5 X6 s7 k8 n9
  have E16 := (Evo.then0 E0 (Step.evo s7))
  refine sq (o_newX (b.map (Value.int .u8)) 32 (X := X6) (B := w.heap.size) E16.size rfl (by kernel_rfl) ?_)
  intro b10 w11 X12 s13 k14 n15
  have p17 := n15 _ (OB.old k8)
  refine sq (o_pv (.int .i64 (0 : Int)) rfl (by kernel_rfl) ?_)
  refine nil_ ?_
  refine then_normal (K3 _ _ _ _ ?_)
  refine seq_ (fun _ K18 => ?_)
  refine reg_ ?_
  have k19 := (OB.step0 k8 s13)
  refine sq (o_pv (.agg (a.map (Value.int .u8)).toArray) rfl (x_loadA a (by kernel_rfl) Try.isAgg32 Try.sizeOf32 ka1 (Blk.awhole k19.2.1)) ?_)
  refine sq (o_call 12 #[(.agg (a.map (Value.int .u8)).toArray)] rfl (x_call Try.call12 (by kernel_rfl)) (rectoref2_String_w (X := []) (id := a) (Old.nil _) ka1 hp) ?_)
  rintro _ w21 ⟨r20, hp, e22, rfl, zr24⟩
  have s23 := Step.of0 X12 e22
  replace hp := hp zr24
  refine sq (o_pv (.string r20) rfl (by kernel_rfl) ?_)
  refine nil_ ?_
  refine then_normal (K18 _ _ _ _ ?_)
  refine seq_ (fun _ K25 => ?_)
  refine reg_ ?_
  have k26 := (OB.step0 k14 s23)
  refine sq (o_pv (.agg (b.map (Value.int .u8)).toArray) rfl (x_loadA b (by kernel_rfl) Try.isAgg32 Try.sizeOf32 kb2 (Blk.awhole k26.2.1)) ?_)
  refine sq (o_call 12 #[(.agg (b.map (Value.int .u8)).toArray)] rfl (x_call Try.call12 (by kernel_rfl)) (rectoref2_String_w (X := []) (id := b) (Old.nil _) kb2 hp) ?_)
  rintro _ w28 ⟨r27, hp, e29, rfl, zr31⟩
  have s30 := Step.of0 X12 e29
  replace hp := hp zr31
  refine sq (o_pv (.string r27) rfl (by kernel_rfl) ?_)
  refine nil_ ?_
  refine then_normal (K25 _ _ _ _ ?_)
  refine seq_ (fun _ K32 => ?_)
  refine reg_ ?_
  refine sq (o_pv (.int .i64 (0 : Int)) rfl (by kernel_rfl) ?_)
  refine nil_ ?_
  refine then_normal (K32 _ _ _ _ ?_)
  refine seq_ (fun _ K33 => ?_)
  refine wp_block ?_
  have hXo88 := (Old.step (Old.step (Old.step (Old.step hXo s7) s13) s23) s30)
  have E89 := (Evo.then0 (Evo.then0 (Evo.then0 E16 (Step.evo s13)) e22) e29)
  have hS90 := (Sub.trans (Sub.trans (Sub.trans (Sub.trans hS (Step.up s7)) (Step.up s13)) (Step.up s23)) (Step.up s30))
  have k91 := (OB.step0 (OB.step0 k19 s23) s30)
  have k92 := (OB.step0 k26 s30)
  obtain ⟨I78, m79, hI80, hp⟩ := hp
  refine loop_ 33550464 (fun kq lq w82 => ∃ (X83 : List Nat) (n_34 : Int), (lq = [(7, (.int .i64 n_34))]) ∧ (kq = m79 n_34) ∧ (Evo [] w w82) ∧ (Old X83 w82) ∧ (Sub X X83) ∧ (inR .i64 n_34) ∧ (I78 n_34)) (m79 (0 : Int)) [(7, (.int .i64 (0 : Int)))] (vs_cons (by kernel_rfl) vs_nil) ⟨X12, (0 : Int), rfl, rfl, E89, hXo88, hS90, (by decide), hI80⟩ ?_
  rintro _ _ w82 g85 ⟨X83, n_34, rfl, rfl, E93, hXo94, hS95, rn_35, hI81⟩ Kl86 hA87
  replace hp := hp n_34 hI81 rn_35
  refine seq_ (fun _ K96 => ?_)
  refine seq_ (fun _ K97 => ?_)
  obtain ⟨k111, hk112, hp⟩ := hp
  refine ground_ ?_
  refine join_ 8384512 (fun lq w113 => ∃ (X114 : List Nat) (s110 : Bool), (lq = [(22, (.bool s110))]) ∧ (Evo [] w w113) ∧ (Old X114 w113) ∧ (Sub X X114) ∧ (k111 s110)) (fun Kj115 hJ116 => ?_) ?_
  ·
    refine reg_drawn (RB w82.heap.size []) 11 (by kernel_rfl) (fun w121 hd122 => ?_)
    have e123 := Evo.of_drew hd122
    have z124 : w121.heap.size = w82.heap.size := by rw [hd122]
    clear hd122
    have s126 := Step.of0 X83 e123
    have er125 := RB.refl w82.heap.size [] w121
    have E127 := (Evo.then0 E93 (Step.evo s126))
    have hXo128 := (Old.step hXo94 s126)
    have hS129 := (Sub.trans hS95 (Step.up s126))
    refine r_take 0 (.int .i64 n_34) (RB.pre _ _) rfl (by kernel_rfl) (fun _ _ _ h => hQ.panic _ _ _ _ _ h) (.inl ⟨rfl, fun wq hq => (by kernel_rfl)⟩) ?_
    by_cases h130 : n_34 < (64 : Int)
    ·
      replace hp := hp.1 h130
      refine r_take 1 (.bool true) (RB.pre _ _) rfl (by kernel_rfl) (fun _ _ _ h => hQ.panic _ _ _ _ _ h) (.inl ⟨rfl, fun wq hq => (x_dt (p := n_34 < (64 : Int)) (by kernel_rfl) h130)⟩) ?_
      refine r_take 2 (.bool true) (RB.pre _ _) rfl (by kernel_rfl) (fun _ _ _ h => hQ.panic _ _ _ _ _ h) (.inl ⟨rfl, fun wq hq => (by kernel_rfl)⟩) ?_
      refine r_take 3 (.string r20) (RB.pre _ _) rfl (by kernel_rfl) (fun _ _ _ h => hQ.panic _ _ _ _ _ h) (.inl ⟨(by kernel_rfl), fun wq hq => (by kernel_rfl)⟩) ?_
      refine r_take 4 (.int .i64 n_34) (RB.pre _ _) rfl (by kernel_rfl) (fun _ _ _ h => hQ.panic _ _ _ _ _ h) (.inl ⟨(by kernel_rfl), fun wq hq => (by kernel_rfl)⟩) ?_
      obtain ⟨h131, hp⟩ := hp
      refine r_take 5 (.int .u8 (bget r20 n_34)) (RB.pre _ _) rfl (by kernel_rfl) (fun _ _ _ h => hQ.panic _ _ _ _ _ h) (.inl ⟨(by kernel_rfl), fun wq hq => (x_bget (k := .i64) (by kernel_rfl) (by kernel_rfl) Try.underlying9 h131)⟩) ?_
      refine r_take 6 (.string r27) (RB.pre _ _) rfl (by kernel_rfl) (fun _ _ _ h => hQ.panic _ _ _ _ _ h) (.inl ⟨(by kernel_rfl), fun wq hq => (by kernel_rfl)⟩) ?_
      refine r_take 7 (.int .i64 n_34) (RB.pre _ _) rfl (by kernel_rfl) (fun _ _ _ h => hQ.panic _ _ _ _ _ h) (.inl ⟨(by kernel_rfl), fun wq hq => (by kernel_rfl)⟩) ?_
      obtain ⟨h132, hp⟩ := hp
      refine r_take 8 (.int .u8 (bget r27 n_34)) (RB.pre _ _) rfl (by kernel_rfl) (fun _ _ _ h => hQ.panic _ _ _ _ _ h) (.inl ⟨(by kernel_rfl), fun wq hq => (x_bget (k := .i64) (by kernel_rfl) (by kernel_rfl) Try.underlying9 h132)⟩) ?_
      refine r_take 9 (.bool (decide ((bget r20 n_34) = (bget r27 n_34)))) (RB.pre _ _) rfl (by kernel_rfl) (fun _ _ _ h => hQ.panic _ _ _ _ _ h) (.inl ⟨(by kernel_rfl), fun wq hq => (by kernel_rfl)⟩) ?_
      refine r_take 10 (.bool (decide ((bget r20 n_34) = (bget r27 n_34)))) (RB.pre _ _) rfl (by kernel_rfl) (fun _ _ _ h => hQ.panic _ _ _ _ _ h) (.inl ⟨rfl, fun wq hq => (by kernel_rfl)⟩) ?_
      refine r_done (by kernel_rfl) ?_
      refine then_normal (hJ116 _ _ _ ⟨[(22, (.bool (decide ((bget r20 n_34) = (bget r27 n_34)))))], fit_mk (fun _ _ => rfl) (by kernel_rfl) (vs_cons (by kernel_rfl) vs_nil), ?_⟩)
      exact ⟨X83, (decide ((bget r20 n_34) = (bget r27 n_34))), rfl, E127, hXo128, hS129, hp⟩
    ·
      replace hp := hp.2 h130
      refine r_take 1 (.bool false) (RB.pre _ _) rfl (by kernel_rfl) (fun _ _ _ h => hQ.panic _ _ _ _ _ h) (.inl ⟨rfl, fun wq hq => (x_df (p := n_34 < (64 : Int)) (by kernel_rfl) h130)⟩) ?_
      refine r_take 2 (.bool false) (RB.pre _ _) rfl (by kernel_rfl) (fun _ _ _ h => hQ.panic _ _ _ _ _ h) (.inl ⟨rfl, fun wq hq => (by kernel_rfl)⟩) ?_
      refine r_take 3 undef (RB.pre _ _) rfl (by kernel_rfl) (fun _ _ _ h => hQ.panic _ _ _ _ _ h) (.inr ⟨by kernel_rfl, rfl⟩) ?_
      refine r_take 4 undef (RB.pre _ _) rfl (by kernel_rfl) (fun _ _ _ h => hQ.panic _ _ _ _ _ h) (.inr ⟨by kernel_rfl, rfl⟩) ?_
      refine r_take 5 undef (RB.pre _ _) rfl (by kernel_rfl) (fun _ _ _ h => hQ.panic _ _ _ _ _ h) (.inr ⟨by kernel_rfl, rfl⟩) ?_
      refine r_take 6 undef (RB.pre _ _) rfl (by kernel_rfl) (fun _ _ _ h => hQ.panic _ _ _ _ _ h) (.inr ⟨by kernel_rfl, rfl⟩) ?_
      refine r_take 7 undef (RB.pre _ _) rfl (by kernel_rfl) (fun _ _ _ h => hQ.panic _ _ _ _ _ h) (.inr ⟨by kernel_rfl, rfl⟩) ?_
      refine r_take 8 undef (RB.pre _ _) rfl (by kernel_rfl) (fun _ _ _ h => hQ.panic _ _ _ _ _ h) (.inr ⟨by kernel_rfl, rfl⟩) ?_
      refine r_take 9 undef (RB.pre _ _) rfl (by kernel_rfl) (fun _ _ _ h => hQ.panic _ _ _ _ _ h) (.inr ⟨by kernel_rfl, rfl⟩) ?_
      refine r_take 10 (.bool false) (RB.pre _ _) rfl (by kernel_rfl) (fun _ _ _ h => hQ.panic _ _ _ _ _ h) (.inl ⟨rfl, fun wq hq => (by kernel_rfl)⟩) ?_
      refine r_done (by kernel_rfl) ?_
      refine then_normal (hJ116 _ _ _ ⟨[(22, (.bool false))], fit_mk (fun _ _ => rfl) (by kernel_rfl) (vs_cons (by kernel_rfl) vs_nil), ?_⟩)
      exact ⟨X83, false, rfl, E127, hXo128, hS129, hp⟩
  ·
    rintro _ w113 g133 ⟨X114, s110, rfl, E118, hXo119, hS120, hv117⟩
    replace hp := hk112 s110 hv117
    refine then_normal (K97 _ _ _ _ ?_)
    refine cond_b s110 (by kernel_rfl) (fun h134 => ?_) (fun h134 => ?_)
    ·
      replace hp := hp.1 h134
      refine wp_skip ?_
      refine then_normal (K96 _ _ _ _ ?_)
      refine wp_block ?_
      refine reg_ ?_
      refine sq (o_pv (.int .i64 n_34) rfl (by kernel_rfl) ?_)
      obtain ⟨h135, hp⟩ := hp
      refine sq (o_pv (.int .i64 (n_34 + (1 : Int))) rfl (x_add2 (k := .i64) (a := n_34) (b := (1 : Int)) (n_34 + (1 : Int)) (by kernel_rfl) (by kernel_rfl) (wrap_inR h135)) ?_)
      refine sq (o_pv (.int .i64 (n_34 + (1 : Int))) rfl (by kernel_rfl) ?_)
      refine nil_ ?_
      refine blk_normal ?_
      refine then_normal (hA87 _ _ _ ⟨_, [(7, (.int .i64 (n_34 + (1 : Int))))], hp.2, fit_mk (AgB.nest (AgB.look (AgB.mix _ _ _) (by kernel_rfl)) (by kernel_rfl) (by kernel_rfl)) (by kernel_rfl) (vs_cons (by kernel_rfl) vs_nil), ?_⟩)
      exact ⟨X114, (n_34 + (1 : Int)), rfl, rfl, E118, hXo119, hS120, h135, hp.1⟩
    ·
      replace hp := hp.2 h134
      refine wp_exit ?_
      refine then_exit ?_
      refine then_exit ?_
      refine blk_exit ?_
      refine then_normal (K33 _ _ _ _ ?_)
      refine seq_ (fun _ K136 => ?_)
      refine reg_ ?_
      refine sq (o_pv (.int .i64 n_34) rfl (by kernel_rfl) ?_)
      refine sq (o_pv (.int .i64 n_34) rfl (by kernel_rfl) ?_)
      refine nil_ ?_
      refine then_normal (K136 _ _ _ _ ?_)
      refine wp_ret ?_
      refine end_ret hQ (.int .i64 n_34) (by kernel_rfl) ?_
      exact ⟨n_34, hp, E118, rfl, rn_35⟩

def rectoref2_Short_p (all : (List (List Int))) (id : (List Int)) (least : Int) (Q : Int → Prop) : Prop :=
  ((all.length ≤ 9223372036854775807) → ((okArr .u8 32 id) → ((inR .i64 least) → (∃ k19 : Int → Prop, (∀ (n_17 : Int), k19 n_17 → (inR .i64 n_17) → (∃ (I326 : Int → Int → Prop) (m327 : Int → Int → Nat), (I326 n_17 (0 : Int)) ∧ ∀ (n_39 : Int) (i41 : Int), (I326 n_39 i41) → (inR .i64 n_39) → (inR .i64 i41) → (((i41 < (all.length : Int)) → (∃ k474 : Int → Prop, (∀ (n_472 : Int), k474 n_472 → (inR .i64 n_472) → ((inR .i64 (i41 + (1 : Int))) ∧ ((I326 n_472 (i41 + (1 : Int))) ∧ m327 n_472 (i41 + (1 : Int)) < m327 n_39 i41))) ∧ (∃ k527 : Bool → Prop, (∀ (s526 : Bool), k527 s526 → (((s526 = true) → ((inL all i41) ∧ ((okArr .u8 32 (lget all i41)) → (rectoref2_Shared_p (lget all i41) id (fun (r606 : Int) => ((inR .i64 r606) → ((inR .i64 (r606 + (1 : Int))) ∧ (k474 (r606 + (1 : Int)))))))))) ∧ ((s526 = false) → (k474 n_39)))) ∧ ((inL all i41) ∧ ((okArr .u8 32 (lget all i41)) → ((((lget all i41 : List Int) = id) → (k527 false)) ∧ ((¬ ((lget all i41 : List Int) = id)) → ((inL all i41) ∧ ((okArr .u8 32 (lget all i41)) → (rectoref2_Shared_p (lget all i41) id (fun (r571 : Int) => ((inR .i64 r571) → ((inR .i64 (r571 + (1 : Int))) ∧ (k527 (decide ((r571 + (1 : Int)) > n_39)))))))))))))))) ∧ ((¬ (i41 < (all.length : Int))) → (((n_39 > (64 : Int)) → Q (64 : Int)) ∧ ((¬ (n_39 > (64 : Int))) → Q n_39)))))) ∧ (((least < (0 : Int)) → (k19 (0 : Int))) ∧ ((¬ (least < (0 : Int))) → (k19 least)))))))
set_option maxRecDepth 20000 in
set_option maxHeartbeats 4000000 in
theorem rectoref2_Short_w {X : List Nat} {w : World} {all : (List (List Int))} {id : (List Int)} {least : Int} {aall1 : Option Addr} {call2 : Nat} {Q : Int → Prop} (hX0 : Old X w) (hall3 : Sl (rArr .u8 32) X w aall1 call2 all) (kid4 : okArr .u8 32 id) (rleast5 : inR .i64 least) (hp : rectoref2_Short_p all id least Q) :
    Calls Try.prog 16 #[(.slice aall1 all.length call2), (.agg (id.map (Value.int .u8)).toArray), (.int .i64 least)] w (Ret fun v w' => ∃ (r0 : Int), Q r0 ∧ Evo [] w w' ∧ v = (.int .i64 r0) ∧ inR .i64 r0) := by
  have hXo := hX0
  have E0 : Evo [] w w := RB.refl _ _ _
  have hS : Sub X X := Sub.refl _
  unfold rectoref2_Short_p at hp
  refine enter_ Try.func16 rfl 45 [(0, (.slice aall1 all.length call2)), (1, (.agg (id.map (Value.int .u8)).toArray)), (2, (.int .i64 least))] (by kernel_rfl) (fun Qe hQ => ?_)
  replace hp := hp (Sl.len hall3)
  replace hp := hp kid4
  replace hp := hp rleast5
  refine seq_ (fun _ K6 => ?_)
  refine reg_ ?_
  refine sq (o_newX (id.map (Value.int .u8)) 32 (X := X) (B := w.heap.size) E0.size rfl (by kernel_rfl) ?_)
  intro b7 w8 X9 s10 k11 n12
  refine sq (o_pv (.int .i64 (0 : Int)) rfl (by kernel_rfl) ?_)
  refine nil_ ?_
  refine then_normal (K6 _ _ _ _ ?_)
  refine seq_ (fun _ K13 => ?_)
  refine reg_ ?_
  refine sq (o_pv (.int .i64 least) rfl (by kernel_rfl) ?_)
  refine sq (o_pv (.int .i64 least) rfl (by kernel_rfl) ?_)
  refine nil_ ?_
  refine then_normal (K13 _ _ _ _ ?_)
  refine seq_ (fun _ K14 => ?_)
  refine seq_ (fun _ K15 => ?_)
  refine reg_ ?_
  refine sq (o_pv (.int .i64 least) rfl (by kernel_rfl) ?_)
  refine sq (o_pv (.bool (decide (least < (0 : Int)))) rfl (by kernel_rfl) ?_)
  refine nil_ ?_
  refine then_normal (K15 _ _ _ _ ?_)
  have hall26 := (Sl.step hall3 s10)
  have hXo27 := (Old.step hXo s10)
  have E28 := (Evo.then0 E0 (Step.evo s10))
  have hS29 := (Sub.trans hS (Step.up s10))
  obtain ⟨k19, hk20, hp⟩ := hp
  refine ground_ ?_
  refine join_ 128 (fun lq w21 => ∃ (X22 : List Nat) (n_17 : Int), (lq = [(7, (.int .i64 n_17))]) ∧ (Evo [] w w21) ∧ (Old X22 w21) ∧ (Sub X X22) ∧ (Sl (rArr .u8 32) X22 w21 aall1 call2 all) ∧ (OB ([]) w.heap.size X22 w21 b7 (id.map (Value.int .u8)) 32) ∧ (inR .i64 n_17) ∧ (k19 n_17)) (fun Kj23 hJ24 => ?_) ?_
  ·
    refine cond_d (least < (0 : Int)) (by kernel_rfl) (fun h35 => ?_) (fun h35 => ?_)
    ·
      replace hp := hp.1 h35
      refine reg_ ?_
      refine sq (o_pv (.int .i64 (0 : Int)) rfl (by kernel_rfl) ?_)
      refine nil_ ?_
      refine then_normal (hJ24 _ _ _ ⟨[(7, (.int .i64 (0 : Int)))], fit_mk (fun _ _ => rfl) (by kernel_rfl) (vs_cons (by kernel_rfl) vs_nil), ?_⟩)
      exact ⟨X9, (0 : Int), rfl, E28, hXo27, hS29, hall26, k11, (by decide), hp⟩
    ·
      replace hp := hp.2 h35
      refine wp_skip ?_
      refine then_normal (hJ24 _ _ _ ⟨[(7, (.int .i64 least))], fit_mk (fun _ _ => rfl) (by kernel_rfl) (vs_cons (by kernel_rfl) vs_nil), ?_⟩)
      exact ⟨X9, least, rfl, E28, hXo27, hS29, hall26, k11, rleast5, hp⟩
  ·
    rintro _ w21 g36 ⟨X22, n_17, rfl, E30, hXo31, hS32, hall33, k34, rn_18, hv25⟩
    replace hp := hk20 n_17 hv25 rn_18
    refine then_normal (K14 _ _ _ _ ?_)
    refine seq_ (fun _ K37 => ?_)
    refine seq_ (fun _ K38 => ?_)
    refine reg_ ?_
    refine sq (o_pv (.int .i64 (0 : Int)) rfl (by kernel_rfl) ?_)
    refine nil_ ?_
    refine then_normal (K38 _ _ _ _ ?_)
    refine wp_block ?_
    obtain ⟨I326, m327, hI328, hp⟩ := hp
    refine loop_ 4398046507392 (fun kq lq w330 => ∃ (X331 : List Nat) (n_39 : Int) (i41 : Int), (lq = [(7, (.int .i64 n_39)), (8, (.int .i64 i41))]) ∧ (kq = m327 n_39 i41) ∧ (Evo [] w w330) ∧ (Old X331 w330) ∧ (Sub X X331) ∧ (Sl (rArr .u8 32) X331 w330 aall1 call2 all) ∧ (OB ([]) w.heap.size X331 w330 b7 (id.map (Value.int .u8)) 32) ∧ (inR .i64 n_39) ∧ (inR .i64 i41) ∧ (I326 n_39 i41)) (m327 n_17 (0 : Int)) [(7, (.int .i64 n_17)), (8, (.int .i64 (0 : Int)))] (vs_cons (by kernel_rfl) (vs_cons (by kernel_rfl) vs_nil)) ⟨X22, n_17, (0 : Int), rfl, rfl, E30, hXo31, hS32, hall33, k34, rn_18, (by decide), hI328⟩ ?_
    rintro _ _ w330 g333 ⟨X331, n_39, i41, rfl, rfl, E336, hXo337, hS338, hall339, k340, rn_40, ri42, hI329⟩ Kl334 hA335
    replace hp := hp n_39 i41 hI329 rn_40 ri42
    refine seq_ (fun _ K341 => ?_)
    refine seq_ (fun _ K342 => ?_)
    refine reg_ ?_
    refine sq (o_pv (.int .i64 i41) rfl (by kernel_rfl) ?_)
    refine sq (o_pv (.slice aall1 all.length call2) rfl (by kernel_rfl) ?_)
    refine sq (o_pv (.int .i64 (all.length : Int)) rfl (by kernel_rfl) ?_)
    refine sq (o_pv (.bool (decide (i41 < (all.length : Int)))) rfl (by kernel_rfl) ?_)
    refine nil_ ?_
    refine then_normal (K342 _ _ _ _ ?_)
    refine cond_d (i41 < (all.length : Int)) (by kernel_rfl) (fun h343 => ?_) (fun h343 => ?_)
    ·
      replace hp := hp.1 h343
      refine wp_skip ?_
      refine then_normal (K341 _ _ _ _ ?_)
      refine seq_ (fun _ K344 => ?_)
      obtain ⟨k474, hk475, hp⟩ := hp
      refine ground_ ?_
      refine join_ 4398046249088 (fun lq w476 => ∃ (X477 : List Nat) (n_472 : Int), (lq = [(7, (.int .i64 n_472))]) ∧ (Evo [] w w476) ∧ (Old X477 w476) ∧ (Sub X X477) ∧ (Sl (rArr .u8 32) X477 w476 aall1 call2 all) ∧ (OB ([]) w.heap.size X477 w476 b7 (id.map (Value.int .u8)) 32) ∧ (inR .i64 n_472) ∧ (k474 n_472)) (fun Kj478 hJ479 => ?_) ?_
      ·
        refine wp_block ?_
        refine seq_ (fun _ K486 => ?_)
        obtain ⟨k527, hk528, hp⟩ := hp
        refine ground_ ?_
        refine join_ 34359476224 (fun lq w529 => ∃ (X530 : List Nat) (s526 : Bool), (lq = [(34, (.bool s526))]) ∧ (Evo [] w w529) ∧ (Old X530 w529) ∧ (Sub X X530) ∧ (Sl (rArr .u8 32) X530 w529 aall1 call2 all) ∧ (OB ([]) w.heap.size X530 w529 b7 (id.map (Value.int .u8)) 32) ∧ (k527 s526)) (fun Kj531 hJ532 => ?_) ?_
        ·
          refine reg_drawn (RB w330.heap.size []) 17 (by kernel_rfl) (fun w539 hd540 => ?_)
          have e541 := Evo.of_drew hd540
          have z542 : w539.heap.size = w330.heap.size := by rw [hd540]
          clear hd540
          have s544 := Step.of0 X331 e541
          have er543 := RB.refl w330.heap.size [] w539
          have E545 := (Evo.then0 E336 (Step.evo s544))
          have hXo546 := (Old.step hXo337 s544)
          have hS547 := (Sub.trans hS338 (Step.up s544))
          have hall548 := (Sl.step hall339 s544)
          have k549 := (OB.step0 k340 s544)
          refine r_take 0 (.slice aall1 all.length call2) (RB.pre _ _) rfl (by kernel_rfl) (fun _ _ _ h => hQ.panic _ _ _ _ _ h) (.inl ⟨rfl, fun wq hq => (by kernel_rfl)⟩) ?_
          refine r_take 1 (.int .i64 i41) (RB.pre _ _) rfl (by kernel_rfl) (fun _ _ _ h => hQ.panic _ _ _ _ _ h) (.inl ⟨rfl, fun wq hq => (by kernel_rfl)⟩) ?_
          obtain ⟨h550, hp⟩ := hp
          obtain ⟨b551, o552, cs553, ha554, nx555, lt556, ok557, hc558⟩ := Sl.atI hall548 i41 h550
          obtain ⟨rfl, ke559⟩ := ok557
          replace hp := hp ke559
          refine r_take 2 (.pointer (some ⟨b551, o552 + i41.toNat * 32, none⟩)) (RB.pre _ _) rfl (by kernel_rfl) (fun _ _ _ h => hQ.panic _ _ _ _ _ h) (.inl ⟨rfl, fun wq hq => (x_ixA (m := all.length) (c := call2) (k := .i64) (i := i41) Try.underlying37 Try.sizeOf32 (by rw [← ha554]; kernel_rfl) (by kernel_rfl) h550)⟩) ?_
          refine r_take 3 (.agg ((lget all i41).map (Value.int .u8)).toArray) (RB.pre _ _) rfl (by kernel_rfl) (fun _ _ _ h => hQ.panic _ _ _ _ _ h) (.inl ⟨rfl, fun wq hq => (x_loadA (lget all i41) (by kernel_rfl) Try.isAgg32 Try.sizeOf32 ke559 (CellsAt.rb hc558 (RB.trans er543 hq) (Nat.lt_of_lt_of_eq lt556 z542) (fun h => by cases h)))⟩) ?_
          refine r_take 4 (.agg (id.map (Value.int .u8)).toArray) (RB.pre _ _) rfl (by kernel_rfl) (fun _ _ _ h => hQ.panic _ _ _ _ _ h) (.inl ⟨rfl, fun wq hq => (x_loadA id (by kernel_rfl) Try.isAgg32 Try.sizeOf32 kid4 (Blk.awhole (Blk.rb k549.2.1 (RB.trans er543 hq) (Nat.lt_of_lt_of_eq (Blk.lt k549.2.1) z542) (fun h => by cases h))))⟩) ?_
          by_cases h560 : (lget all i41 : List Int) = id
          ·
            replace hp := hp.1 h560
            refine r_take 5 (.bool false) (RB.pre _ _) rfl (by kernel_rfl) (fun _ _ _ h => hQ.panic _ _ _ _ _ h) (.inl ⟨rfl, fun wq hq => (x_ndf (p := (lget all i41 : List Int) = id) (x_arrne (i := Try.t5) (k := .u8) (xs := lget all i41) (ys := id) Try.underlying32 Try.underlying5 (by kernel_rfl) (by kernel_rfl) (by kernel_rfl) Try.isAgg5 ke559 kid4 (by kernel_rfl) (by kernel_rfl)) h560)⟩) ?_
            refine r_take 6 (.bool false) (RB.pre _ _) rfl (by kernel_rfl) (fun _ _ _ h => hQ.panic _ _ _ _ _ h) (.inl ⟨rfl, fun wq hq => (by kernel_rfl)⟩) ?_
            refine r_take 7 undef (RB.pre _ _) rfl (by kernel_rfl) (fun _ _ _ h => hQ.panic _ _ _ _ _ h) (.inr ⟨by kernel_rfl, rfl⟩) ?_
            refine r_take 8 undef (RB.pre _ _) rfl (by kernel_rfl) (fun _ _ _ h => hQ.panic _ _ _ _ _ h) (.inr ⟨by kernel_rfl, rfl⟩) ?_
            refine r_take 9 undef (RB.pre _ _) rfl (by kernel_rfl) (fun _ _ _ h => hQ.panic _ _ _ _ _ h) (.inr ⟨by kernel_rfl, rfl⟩) ?_
            refine r_take 10 undef (RB.pre _ _) rfl (by kernel_rfl) (fun _ _ _ h => hQ.panic _ _ _ _ _ h) (.inr ⟨by kernel_rfl, rfl⟩) ?_
            refine r_take 11 undef (RB.pre _ _) rfl (by kernel_rfl) (fun _ _ _ h => hQ.panic _ _ _ _ _ h) (.inr ⟨by kernel_rfl, rfl⟩) ?_
            refine r_take 12 undef (RB.pre _ _) rfl (by kernel_rfl) (fun _ _ _ h => hQ.panic _ _ _ _ _ h) (.inr ⟨by kernel_rfl, rfl⟩) ?_
            refine r_take 13 undef (RB.pre _ _) rfl (by kernel_rfl) (fun _ _ _ h => hQ.panic _ _ _ _ _ h) (.inr ⟨by kernel_rfl, rfl⟩) ?_
            refine r_take 14 undef (RB.pre _ _) rfl (by kernel_rfl) (fun _ _ _ h => hQ.panic _ _ _ _ _ h) (.inr ⟨by kernel_rfl, rfl⟩) ?_
            refine r_take 15 undef (RB.pre _ _) rfl (by kernel_rfl) (fun _ _ _ h => hQ.panic _ _ _ _ _ h) (.inr ⟨by kernel_rfl, rfl⟩) ?_
            refine r_take 16 (.bool false) (RB.pre _ _) rfl (by kernel_rfl) (fun _ _ _ h => hQ.panic _ _ _ _ _ h) (.inl ⟨rfl, fun wq hq => (by kernel_rfl)⟩) ?_
            refine r_done (by kernel_rfl) ?_
            refine then_normal (hJ532 _ _ _ ⟨[(34, (.bool false))], fit_mk (fun _ _ => rfl) (by kernel_rfl) (vs_cons (by kernel_rfl) vs_nil), ?_⟩)
            exact ⟨X331, false, rfl, E545, hXo546, hS547, hall548, k549, hp⟩
          ·
            replace hp := hp.2 h560
            refine r_take 5 (.bool true) (RB.pre _ _) rfl (by kernel_rfl) (fun _ _ _ h => hQ.panic _ _ _ _ _ h) (.inl ⟨rfl, fun wq hq => (x_ndt (p := (lget all i41 : List Int) = id) (x_arrne (i := Try.t5) (k := .u8) (xs := lget all i41) (ys := id) Try.underlying32 Try.underlying5 (by kernel_rfl) (by kernel_rfl) (by kernel_rfl) Try.isAgg5 ke559 kid4 (by kernel_rfl) (by kernel_rfl)) h560)⟩) ?_
            refine r_take 6 (.bool true) (RB.pre _ _) rfl (by kernel_rfl) (fun _ _ _ h => hQ.panic _ _ _ _ _ h) (.inl ⟨rfl, fun wq hq => (by kernel_rfl)⟩) ?_
            refine r_take 7 (.slice aall1 all.length call2) (RB.pre _ _) rfl (by kernel_rfl) (fun _ _ _ h => hQ.panic _ _ _ _ _ h) (.inl ⟨(by kernel_rfl), fun wq hq => (by kernel_rfl)⟩) ?_
            refine r_take 8 (.int .i64 i41) (RB.pre _ _) rfl (by kernel_rfl) (fun _ _ _ h => hQ.panic _ _ _ _ _ h) (.inl ⟨(by kernel_rfl), fun wq hq => (by kernel_rfl)⟩) ?_
            obtain ⟨h561, hp⟩ := hp
            obtain ⟨b562, o563, cs564, ha565, nx566, lt567, ok568, hc569⟩ := Sl.atI hall548 i41 h561
            obtain ⟨rfl, ke570⟩ := ok568
            replace hp := hp ke570
            refine r_take 9 (.pointer (some ⟨b562, o563 + i41.toNat * 32, none⟩)) (RB.pre _ _) rfl (by kernel_rfl) (fun _ _ _ h => hQ.panic _ _ _ _ _ h) (.inl ⟨(by kernel_rfl), fun wq hq => (x_ixA (m := all.length) (c := call2) (k := .i64) (i := i41) Try.underlying37 Try.sizeOf32 (by rw [← ha565]; kernel_rfl) (by kernel_rfl) h561)⟩) ?_
            refine r_take 10 (.agg ((lget all i41).map (Value.int .u8)).toArray) (RB.pre _ _) rfl (by kernel_rfl) (fun _ _ _ h => hQ.panic _ _ _ _ _ h) (.inl ⟨(by kernel_rfl), fun wq hq => (x_loadA (lget all i41) (by kernel_rfl) Try.isAgg32 Try.sizeOf32 ke570 (CellsAt.rb hc569 (RB.trans er543 hq) (Nat.lt_of_lt_of_eq lt567 z542) (fun h => by cases h)))⟩) ?_
            refine r_take 11 (.agg (id.map (Value.int .u8)).toArray) (RB.pre _ _) rfl (by kernel_rfl) (fun _ _ _ h => hQ.panic _ _ _ _ _ h) (.inl ⟨(by kernel_rfl), fun wq hq => (x_loadA id (by kernel_rfl) Try.isAgg32 Try.sizeOf32 kid4 (Blk.awhole (Blk.rb k549.2.1 (RB.trans er543 hq) (Nat.lt_of_lt_of_eq (Blk.lt k549.2.1) z542) (fun h => by cases h))))⟩) ?_
            refine r_take 14 (.int .i64 n_39) (RB.pre _ _) rfl (by kernel_rfl) (fun _ _ _ h => hQ.panic _ _ _ _ _ h) (.inl ⟨(by kernel_rfl), fun wq hq => (by kernel_rfl)⟩) ?_
            refine r_ready [12] (by kernel_rfl) rfl (all_cons ⟨_, _, _, _, _, _, rfl, ?_⟩ all_nil)
            refine o_call 14 #[(.agg ((lget all i41).map (Value.int .u8)).toArray), (.agg (id.map (Value.int .u8)).toArray)] (by kernel_rfl) (x_call Try.call14 (by kernel_rfl)) (rectoref2_Shared_w (X := []) (a := lget all i41) (b := id) (Old.nil _) ke570 kid4 hp) ?_
            rintro _ w572 ⟨r571, hp, e573, rfl, rr575⟩
            have rm := RB.mono (F' := []) e573 (Nat.le_trans (Nat.le_of_eq z542.symm) (RB.size er543)) (fun _ h => by cases h)
            have er576 := RB.trans er543 rm
            refine ⟨fun _ => rm, ?_⟩
            have s574 := Step.of0 X331 e573
            replace hp := hp rr575
            obtain ⟨h577, hp⟩ := hp
            refine r_take 13 (.int .i64 (r571 + (1 : Int))) (RB.pre _ _) rfl (by kernel_rfl) (fun _ _ _ h => hQ.panic _ _ _ _ _ h) (.inl ⟨(by kernel_rfl), fun wq hq => (x_add2 (k := .i64) (a := r571) (b := (1 : Int)) (r571 + (1 : Int)) (by kernel_rfl) (by kernel_rfl) (wrap_inR h577))⟩) ?_
            refine r_take 15 (.bool (decide ((r571 + (1 : Int)) > n_39))) (RB.pre _ _) rfl (by kernel_rfl) (fun _ _ _ h => hQ.panic _ _ _ _ _ h) (.inl ⟨(by kernel_rfl), fun wq hq => (by kernel_rfl)⟩) ?_
            refine r_take 16 (.bool (decide ((r571 + (1 : Int)) > n_39))) (RB.pre _ _) rfl (by kernel_rfl) (fun _ _ _ h => hQ.panic _ _ _ _ _ h) (.inl ⟨rfl, fun wq hq => (by kernel_rfl)⟩) ?_
            refine r_done (by kernel_rfl) ?_
            have E578 := (Evo.then0 E545 e573)
            have hXo579 := (Old.step hXo546 s574)
            have hS580 := (Sub.trans hS547 (Step.up s574))
            have hall581 := (Sl.step hall548 s574)
            have k582 := (OB.step0 k549 s574)
            refine then_normal (hJ532 _ _ _ ⟨[(34, (.bool (decide ((r571 + (1 : Int)) > n_39))))], fit_mk (fun _ _ => rfl) (by kernel_rfl) (vs_cons (by kernel_rfl) vs_nil), ?_⟩)
            exact ⟨X331, (decide ((r571 + (1 : Int)) > n_39)), rfl, E578, hXo579, hS580, hall581, k582, hp⟩
        ·
          rintro _ w529 g583 ⟨X530, s526, rfl, E534, hXo535, hS536, hall537, k538, hv533⟩
          replace hp := hk528 s526 hv533
          refine then_normal (K486 _ _ _ _ ?_)
          refine cond_b s526 (by kernel_rfl) (fun h584 => ?_) (fun h584 => ?_)
          ·
            replace hp := hp.1 h584
            refine reg_drawn (RB w529.heap.size []) 7 (by kernel_rfl) (fun w585 hd586 => ?_)
            have e587 := Evo.of_drew hd586
            have z588 : w585.heap.size = w529.heap.size := by rw [hd586]
            clear hd586
            have s590 := Step.of0 X530 e587
            have er589 := RB.refl w529.heap.size [] w585
            have E591 := (Evo.then0 E534 (Step.evo s590))
            have hXo592 := (Old.step hXo535 s590)
            have hS593 := (Sub.trans hS536 (Step.up s590))
            have hall594 := (Sl.step hall537 s590)
            have k595 := (OB.step0 k538 s590)
            refine r_take 0 (.slice aall1 all.length call2) (RB.pre _ _) rfl (by kernel_rfl) (fun _ _ _ h => hQ.panic _ _ _ _ _ h) (.inl ⟨rfl, fun wq hq => (by kernel_rfl)⟩) ?_
            refine r_take 1 (.int .i64 i41) (RB.pre _ _) rfl (by kernel_rfl) (fun _ _ _ h => hQ.panic _ _ _ _ _ h) (.inl ⟨rfl, fun wq hq => (by kernel_rfl)⟩) ?_
            obtain ⟨h596, hp⟩ := hp
            obtain ⟨b597, o598, cs599, ha600, nx601, lt602, ok603, hc604⟩ := Sl.atI hall594 i41 h596
            obtain ⟨rfl, ke605⟩ := ok603
            replace hp := hp ke605
            refine r_take 2 (.pointer (some ⟨b597, o598 + i41.toNat * 32, none⟩)) (RB.pre _ _) rfl (by kernel_rfl) (fun _ _ _ h => hQ.panic _ _ _ _ _ h) (.inl ⟨rfl, fun wq hq => (x_ixA (m := all.length) (c := call2) (k := .i64) (i := i41) Try.underlying37 Try.sizeOf32 (by rw [← ha600]; kernel_rfl) (by kernel_rfl) h596)⟩) ?_
            refine r_take 3 (.agg ((lget all i41).map (Value.int .u8)).toArray) (RB.pre _ _) rfl (by kernel_rfl) (fun _ _ _ h => hQ.panic _ _ _ _ _ h) (.inl ⟨rfl, fun wq hq => (x_loadA (lget all i41) (by kernel_rfl) Try.isAgg32 Try.sizeOf32 ke605 (CellsAt.rb hc604 (RB.trans er589 hq) (Nat.lt_of_lt_of_eq lt602 z588) (fun h => by cases h)))⟩) ?_
            refine r_take 4 (.agg (id.map (Value.int .u8)).toArray) (RB.pre _ _) rfl (by kernel_rfl) (fun _ _ _ h => hQ.panic _ _ _ _ _ h) (.inl ⟨rfl, fun wq hq => (x_loadA id (by kernel_rfl) Try.isAgg32 Try.sizeOf32 kid4 (Blk.awhole (Blk.rb k595.2.1 (RB.trans er589 hq) (Nat.lt_of_lt_of_eq (Blk.lt k595.2.1) z588) (fun h => by cases h))))⟩) ?_
            refine r_ready [5] (by kernel_rfl) rfl (all_cons ⟨_, _, _, _, _, _, rfl, ?_⟩ all_nil)
            refine o_call 14 #[(.agg ((lget all i41).map (Value.int .u8)).toArray), (.agg (id.map (Value.int .u8)).toArray)] rfl (x_call Try.call14 (by kernel_rfl)) (rectoref2_Shared_w (X := []) (a := lget all i41) (b := id) (Old.nil _) ke605 kid4 hp) ?_
            rintro _ w607 ⟨r606, hp, e608, rfl, rr610⟩
            have rm := RB.mono (F' := []) e608 (Nat.le_trans (Nat.le_of_eq z588.symm) (RB.size er589)) (fun _ h => by cases h)
            have er611 := RB.trans er589 rm
            refine ⟨fun _ => rm, ?_⟩
            have s609 := Step.of0 X530 e608
            replace hp := hp rr610
            obtain ⟨h612, hp⟩ := hp
            refine r_take 6 (.int .i64 (r606 + (1 : Int))) (RB.pre _ _) rfl (by kernel_rfl) (fun _ _ _ h => hQ.panic _ _ _ _ _ h) (.inl ⟨rfl, fun wq hq => (x_add2 (k := .i64) (a := r606) (b := (1 : Int)) (r606 + (1 : Int)) (by kernel_rfl) (by kernel_rfl) (wrap_inR h612))⟩) ?_
            refine r_ready [7] (by kernel_rfl) rfl (all_cons ⟨_, _, _, _, _, _, rfl, ?_⟩ all_nil)
            refine o_pv (.int .i64 (r606 + (1 : Int))) rfl (by kernel_rfl) ?_
            refine ⟨fun h => absurd h (by decide), ?_⟩
            refine r_done (by kernel_rfl) ?_
            refine blk_normal ?_
            have E613 := (Evo.then0 E591 e608)
            have hXo614 := (Old.step hXo592 s609)
            have hS615 := (Sub.trans hS593 (Step.up s609))
            have hall616 := (Sl.step hall594 s609)
            have k617 := (OB.step0 k595 s609)
            refine then_normal (hJ479 _ _ _ ⟨[(7, (.int .i64 (r606 + (1 : Int))))], fit_mk (AgB.nest (AgB.look (fun _ _ => rfl) (by kernel_rfl)) (by kernel_rfl) (by kernel_rfl)) (by kernel_rfl) (vs_cons (by kernel_rfl) vs_nil), ?_⟩)
            exact ⟨X530, (r606 + (1 : Int)), rfl, E613, hXo614, hS615, hall616, k617, h612, hp⟩
          ·
            replace hp := hp.2 h584
            refine wp_skip ?_
            refine blk_normal ?_
            refine then_normal (hJ479 _ _ _ ⟨[(7, (.int .i64 n_39))], fit_mk (AgB.nest (AgB.look (fun _ _ => rfl) (by kernel_rfl)) (by kernel_rfl) (by kernel_rfl)) (by kernel_rfl) (vs_cons (by kernel_rfl) vs_nil), ?_⟩)
            exact ⟨X530, n_39, rfl, E534, hXo535, hS536, hall537, k538, rn_40, hp⟩
      ·
        rintro _ w476 g618 ⟨X477, n_472, rfl, E481, hXo482, hS483, hall484, k485, rn_473, hv480⟩
        replace hp := hk475 n_472 hv480 rn_473
        refine then_normal (K344 _ _ _ _ ?_)
        refine reg_ ?_
        refine sq (o_pv (.int .i64 i41) rfl (by kernel_rfl) ?_)
        obtain ⟨h619, hp⟩ := hp
        refine sq (o_pv (.int .i64 (i41 + (1 : Int))) rfl (x_add2 (k := .i64) (a := i41) (b := (1 : Int)) (i41 + (1 : Int)) (by kernel_rfl) (by kernel_rfl) (wrap_inR h619)) ?_)
        refine sq (o_pv (.int .i64 (i41 + (1 : Int))) rfl (by kernel_rfl) ?_)
        refine nil_ ?_
        refine then_normal (hA335 _ _ _ ⟨_, [(7, (.int .i64 n_472)), (8, (.int .i64 (i41 + (1 : Int))))], hp.2, fit_mk (AgB.nest (AgB.look (AgB.mix _ _ _) (by kernel_rfl)) (by kernel_rfl) (by kernel_rfl)) (by kernel_rfl) (vs_cons (by kernel_rfl) (vs_cons (by kernel_rfl) vs_nil)), ?_⟩)
        exact ⟨X477, n_472, (i41 + (1 : Int)), rfl, rfl, E481, hXo482, hS483, hall484, k485, rn_473, h619, hp.1⟩
    ·
      replace hp := hp.2 h343
      refine wp_exit ?_
      refine then_exit ?_
      refine then_exit ?_
      refine blk_exit ?_
      refine then_normal (K37 _ _ _ _ ?_)
      refine seq_ (fun _ K620 => ?_)
      refine seq_ (fun _ K621 => ?_)
      refine reg_ ?_
      refine sq (o_pv (.int .i64 n_39) rfl (by kernel_rfl) ?_)
      refine sq (o_pv (.bool (decide (n_39 > (64 : Int)))) rfl (by kernel_rfl) ?_)
      refine nil_ ?_
      refine then_normal (K621 _ _ _ _ ?_)
      refine cond_d (n_39 > (64 : Int)) (by kernel_rfl) (fun h622 => ?_) (fun h622 => ?_)
      ·
        replace hp := hp.1 h622
        refine seq_ (fun _ K623 => ?_)
        refine reg_ ?_
        refine sq (o_pv (.int .i64 (64 : Int)) rfl (by kernel_rfl) ?_)
        refine nil_ ?_
        refine then_normal (K623 _ _ _ _ ?_)
        refine wp_ret ?_
        refine then_ret ?_
        refine end_ret hQ (.int .i64 (64 : Int)) (by kernel_rfl) ?_
        exact ⟨(64 : Int), hp, E336, rfl, (by decide)⟩
      ·
        replace hp := hp.2 h622
        refine wp_skip ?_
        refine then_normal (K620 _ _ _ _ ?_)
        refine seq_ (fun _ K624 => ?_)
        refine reg_ ?_
        refine sq (o_pv (.int .i64 n_39) rfl (by kernel_rfl) ?_)
        refine sq (o_pv (.int .i64 n_39) rfl (by kernel_rfl) ?_)
        refine nil_ ?_
        refine then_normal (K624 _ _ _ _ ?_)
        refine wp_ret ?_
        refine end_ret hQ (.int .i64 n_39) (by kernel_rfl) ?_
        exact ⟨n_39, hp, E336, rfl, rn_40⟩

def rectolaw2_ShaShort_p (all : (List (List Int))) (id : (List Int)) (least : Int) (Q : Bool → Prop) : Prop :=
  ((all.length ≤ 9223372036854775807) → ((okArr .u8 32 id) → ((inR .i64 least) → (rectolaw2_known_p  (fun (r15 : Bool) => ((((!r15) = true) → Q false) ∧ (((!r15) = false) → ((((all.length : Int) > (40 : Int)) → Q true) ∧ ((¬ ((all.length : Int) > (40 : Int))) → (∃ (I229 : (List (List Int)) → Int → Prop) (m230 : (List (List Int)) → Int → Nat), (I229 ([] : List (List Int)) (0 : Int)) ∧ ∀ (l126 : (List (List Int))) (i131 : Int), (I229 l126 i131) → (l126.length ≤ 9223372036854775807) → (inR .i64 i131) → (((i131 < (all.length : Int)) → ((inL all i131) ∧ ((okArr .u8 32 (lget all i131)) → (((l126.length + ([lget all i131]).length) * 32 ≤ 140737488355328) ∧ ((inL all i131) ∧ ((okArr .u8 32 (lget all i131)) → ((inL (l126 ++ ([lget all i131])) i131) ∧ ((okArr .u8 32 (lget (l126 ++ ([lget all i131])) i131)) → (sha_Shared_p (lget all i131) id (fun (r324 : Int) => ((inR .i64 r324) → (rectoref2_Shared_p (lget (l126 ++ ([lget all i131])) i131) id (fun (r330 : Int) => ((inR .i64 r330) → (((¬ (r324 = r330)) → Q false) ∧ ((r324 = r330) → ((inR .i64 (i131 + (1 : Int))) ∧ ((I229 (l126 ++ ([lget all i131])) (i131 + (1 : Int))) ∧ m230 (l126 ++ ([lget all i131])) (i131 + (1 : Int)) < m230 l126 i131)))))))))))))))))) ∧ ((¬ (i131 < (all.length : Int))) → (sha_Short_p all id least (fun (r347 : Int) => ((inR .i64 r347) → (∃ k364 : Bool → Prop, (∀ (s363 : Bool), k364 s363 → (((s363 = true) → Q false) ∧ ((s363 = false) → (∃ (I516 : Int → Prop) (m517 : Int → Nat), (I516 (0 : Int)) ∧ ∀ (i409 : Int), (I516 i409) → (inR .i64 i409) → (((i409 < (all.length : Int)) → (∃ k575 : Bool → Prop, (∀ (s574 : Bool), k575 s574 → (((s574 = true) → Q false) ∧ ((s574 = false) → ((inR .i64 (i409 + (1 : Int))) ∧ ((I516 (i409 + (1 : Int))) ∧ m517 (i409 + (1 : Int)) < m517 i409))))) ∧ ((inL all i409) ∧ ((okArr .u8 32 (lget all i409)) → ((((lget all i409 : List Int) = id) → (k575 false)) ∧ ((¬ ((lget all i409 : List Int) = id)) → ((inL all i409) ∧ ((okArr .u8 32 (lget all i409)) → (sha_Shared_p (lget all i409) id (fun (r619 : Int) => ((inR .i64 r619) → (k575 (decide (r619 ≥ r347)))))))))))))) ∧ ((¬ (i409 < (all.length : Int))) → Q true)))))) ∧ (rectoref2_Short_p l126 id least (fun (r382 : Int) => ((inR .i64 r382) → (((r347 = r382) → (((r347 < (0 : Int)) → (k364 true)) ∧ ((¬ (r347 < (0 : Int))) → (k364 (decide (r347 > (64 : Int))))))) ∧ ((¬ (r347 = r382)) → (k364 true))))))))))))))))))))))
set_option maxRecDepth 20000 in
set_option maxHeartbeats 4000000 in
theorem rectolaw2_ShaShort_w {X : List Nat} {w : World} {all : (List (List Int))} {id : (List Int)} {least : Int} {aall1 : Option Addr} {call2 : Nat} {Q : Bool → Prop} (hX0 : Old X w) (hall3 : Sl (rArr .u8 32) X w aall1 call2 all) (kid4 : okArr .u8 32 id) (rleast5 : inR .i64 least) (hp : rectolaw2_ShaShort_p all id least Q) :
    Calls Try.prog 4 #[(.slice aall1 all.length call2), (.agg (id.map (Value.int .u8)).toArray), (.int .i64 least)] w (Ret fun v w' => ∃ (r0 : Bool), Q r0 ∧ Evo [] w w' ∧ v = (.bool r0)) := by
  have hXo := hX0
  have E0 : Evo [] w w := RB.refl _ _ _
  have hS : Sub X X := Sub.refl _
  unfold rectolaw2_ShaShort_p at hp
  refine enter_ Try.func4 rfl 82 [(0, (.slice aall1 all.length call2)), (1, (.agg (id.map (Value.int .u8)).toArray)), (2, (.int .i64 least))] (by kernel_rfl) (fun Qe hQ => ?_)
  replace hp := hp (Sl.len hall3)
  replace hp := hp kid4
  replace hp := hp rleast5
  refine seq_ (fun _ K6 => ?_)
  refine reg_ ?_
  refine sq (o_newX (id.map (Value.int .u8)) 25 (X := X) (B := w.heap.size) E0.size rfl (by kernel_rfl) ?_)
  intro b7 w8 X9 s10 k11 n12
  refine sq (o_pv (.bool false) rfl (by kernel_rfl) ?_)
  refine nil_ ?_
  refine then_normal (K6 _ _ _ _ ?_)
  refine seq_ (fun _ K13 => ?_)
  refine seq_ (fun _ K14 => ?_)
  refine reg_ ?_
  refine sq (o_call 7 #[] rfl (x_call Try.call7 (by kernel_rfl)) (rectolaw2_known_w (X := [])  (Old.nil _) hp) ?_)
  rintro _ w16 ⟨r15, hp, e17, rfl⟩
  have s18 := Step.of0 X9 e17
  refine sq (o_pv (.bool (!r15)) rfl (by kernel_rfl) ?_)
  refine nil_ ?_
  refine then_normal (K14 _ _ _ _ ?_)
  refine cond_b (!r15) (by kernel_rfl) (fun h19 => ?_) (fun h19 => ?_)
  ·
    replace hp := hp.1 h19
    refine seq_ (fun _ K20 => ?_)
    refine reg_ ?_
    refine sq (o_pv (.bool false) rfl (by kernel_rfl) ?_)
    refine nil_ ?_
    refine then_normal (K20 _ _ _ _ ?_)
    refine wp_ret ?_
    refine then_ret ?_
    have E21 := (Evo.then0 (Evo.then0 E0 (Step.evo s10)) e17)
    refine end_ret hQ (.bool false) (by kernel_rfl) ?_
    exact ⟨false, hp, E21, rfl⟩
  ·
    replace hp := hp.2 h19
    refine wp_skip ?_
    refine then_normal (K13 _ _ _ _ ?_)
    refine seq_ (fun _ K22 => ?_)
    refine seq_ (fun _ K23 => ?_)
    refine reg_ ?_
    refine sq (o_pv (.slice aall1 all.length call2) rfl (by kernel_rfl) ?_)
    refine sq (o_pv (.int .i64 (all.length : Int)) rfl (by kernel_rfl) ?_)
    refine sq (o_pv (.bool (decide ((all.length : Int) > (40 : Int)))) rfl (by kernel_rfl) ?_)
    refine nil_ ?_
    refine then_normal (K23 _ _ _ _ ?_)
    refine cond_d ((all.length : Int) > (40 : Int)) (by kernel_rfl) (fun h24 => ?_) (fun h24 => ?_)
    ·
      replace hp := hp.1 h24
      refine seq_ (fun _ K25 => ?_)
      refine reg_ ?_
      refine sq (o_pv (.bool true) rfl (by kernel_rfl) ?_)
      refine nil_ ?_
      refine then_normal (K25 _ _ _ _ ?_)
      refine wp_ret ?_
      refine then_ret ?_
      have E26 := (Evo.then0 (Evo.then0 E0 (Step.evo s10)) e17)
      refine end_ret hQ (.bool true) (by kernel_rfl) ?_
      exact ⟨true, hp, E26, rfl⟩
    ·
      replace hp := hp.2 h24
      refine wp_skip ?_
      refine then_normal (K22 _ _ _ _ ?_)
      refine seq_ (fun _ K27 => ?_)
      refine reg_ ?_
      refine sq (o_pv (.slice none 0 0) rfl (by kernel_rfl) ?_)
      refine nil_ ?_
      refine then_normal (K27 _ _ _ _ ?_)
      refine seq_ (fun _ K28 => ?_)
      refine seq_ (fun _ K29 => ?_)
      refine reg_ ?_
      refine sq (o_pv (.int .i64 (0 : Int)) rfl (by kernel_rfl) ?_)
      refine nil_ ?_
      refine then_normal (K29 _ _ _ _ ?_)
      refine wp_block ?_
      have hall239 := (Sl.step (Sl.step hall3 s10) s18)
      have hXo240 := (Old.step (Old.step hXo s10) s18)
      have E241 := (Evo.then0 (Evo.then0 E0 (Step.evo s10)) e17)
      have hS242 := (Sub.trans (Sub.trans hS (Step.up s10)) (Step.up s18))
      have k243 := (OB.step0 k11 s18)
      obtain ⟨I229, m230, hI231, hp⟩ := hp
      refine loop_ 4398046446016 (fun kq lq w233 => ∃ (X234 : List Nat) (l126 : (List (List Int))) (i131 : Int) (a127 : Option Addr) (n128 : Nat) (c129 : Nat), (lq = [(7, (.slice a127 n128 c129)), (8, (.int .i64 i131))]) ∧ (kq = m230 l126 i131) ∧ (Evo [] w w233) ∧ (Old X234 w233) ∧ (Sub X X234) ∧ (Sl (rArr .u8 32) X234 w233 aall1 call2 all) ∧ (OB ([]) w.heap.size X234 w233 b7 (id.map (Value.int .u8)) 25) ∧ (OS (rArr .u8 32) ([]) w.heap.size X234 w233 32 a127 n128 c129 l126) ∧ (Ap ([b7]) (blkL a127)) ∧ (inR .i64 i131) ∧ (I229 l126 i131)) (m230 ([] : List (List Int)) (0 : Int)) [(7, (.slice none 0 0)), (8, (.int .i64 (0 : Int)))] (vs_cons (by kernel_rfl) (vs_cons (by kernel_rfl) vs_nil)) ⟨X9, ([] : List (List Int)), (0 : Int), none, 0, 0, rfl, rfl, E241, hXo240, hS242, hall239, k243, (OS.nil _ _ _ _), (Ap.nil_r _), (by decide), hI231⟩ ?_
      rintro _ _ w233 g236 ⟨X234, l126, i131, a127, n128, c129, rfl, rfl, E244, hXo245, hS246, hall247, k248, O130, p249, ri132, hI232⟩ Kl237 hA238
      replace hp := hp l126 i131 hI232 (OS.len O130) ri132
      refine seq_ (fun _ K250 => ?_)
      refine seq_ (fun _ K251 => ?_)
      refine reg_ ?_
      refine sq (o_pv (.int .i64 i131) rfl (by kernel_rfl) ?_)
      refine sq (o_pv (.slice aall1 all.length call2) rfl (by kernel_rfl) ?_)
      refine sq (o_pv (.int .i64 (all.length : Int)) rfl (by kernel_rfl) ?_)
      refine sq (o_pv (.bool (decide (i131 < (all.length : Int)))) rfl (by kernel_rfl) ?_)
      refine nil_ ?_
      refine then_normal (K251 _ _ _ _ ?_)
      refine cond_d (i131 < (all.length : Int)) (by kernel_rfl) (fun h252 => ?_) (fun h252 => ?_)
      ·
        replace hp := hp.1 h252
        refine wp_skip ?_
        refine then_normal (K250 _ _ _ _ ?_)
        refine seq_ (fun _ K253 => ?_)
        refine wp_block ?_
        refine seq_ (fun _ K254 => ?_)
        refine reg_ ?_
        refine sq (o_pv (.slice a127 n128 c129) rfl (by kernel_rfl) ?_)
        refine sq (o_pv (.slice aall1 all.length call2) rfl (by kernel_rfl) ?_)
        refine sq (o_pv (.int .i64 i131) rfl (by kernel_rfl) ?_)
        obtain ⟨h255, hp⟩ := hp
        obtain ⟨b256, o257, cs258, ha259, nx260, lt261, ok262, hc263⟩ := Sl.atI hall247 i131 h255
        obtain ⟨rfl, ke264⟩ := ok262
        replace hp := hp ke264
        refine sq (o_pv (.pointer (some ⟨b256, o257 + i131.toNat * 32, none⟩)) rfl (x_ixA (m := all.length) (c := call2) (k := .i64) (i := i131) Try.underlying36 Try.sizeOf25 (by rw [← ha259]; kernel_rfl) (by kernel_rfl) h255) ?_)
        refine sq (o_pv (.agg ((lget all i131).map (Value.int .u8)).toArray) rfl (x_loadA (lget all i131) (by kernel_rfl) Try.isAgg25 Try.sizeOf25 ke264 hc263) ?_)
        refine sq (o_rowX (R := (rArr .u8 32)) (List.flatten [((lget all i131).map (Value.int .u8))]) [lget all i131] 32 1 (X := X234) (B := w.heap.size) E244.size rfl (x_rowG (bts := 32) (z := .agg (List.replicate 32 (Value.int .u8 0)).toArray) [((lget all i131).map (Value.int .u8))] Try.underlying37 (by kernel_rfl) Try.sizeOf32 (by kernel_rfl) (List.forall_mem_cons.2 ⟨by rw [List.length_map]; exact ke264.1, (fun _ h => by cases h)⟩) rfl rfl) (Flat.cons (cs := ((lget all i131).map (Value.int .u8))) (rArr_mk ke264) Flat.nil) rfl (by decide) ?_)
        intro b265 w266 X267 s268 O269 n270
        have p271 := n270 _ (OB.old k248)
        have p272 := n270 _ (OS.old O130)
        obtain ⟨h273, hp⟩ := hp
        have O274 := (OS.step0 O130 s268)
        have k275 := (OB.step0 k248 s268)
        have E276 := (Evo.then0 E244 (Step.evo s268))
        refine sq (o_appX (R := (rArr .u8 32)) (X := X267) (B := w.heap.size) (L := l126) (M := [lget all i131]) rfl elT37 rfl E276.size O274 (OS.src O269) O269.1 (by kernel_rfl) (by kernel_rfl) h273 ?_)
        intro a277 n278 c279 w280 X281 s282 O283 gr284
        have p285 := gr284 _ p249 (OB.old k275)
        refine sq (o_pv (.slice a277 n278 c279) rfl (by kernel_rfl) ?_)
        refine nil_ ?_
        refine then_normal (K254 _ _ _ _ ?_)
        refine seq_ (fun _ K286 => ?_)
        have E287 := (Evo.thenW E276 (Step.evo s282) O274.2.2)
        have hXo288 := (Old.step (Old.step hXo245 s268) s282)
        have hS289 := (Sub.trans (Sub.trans hS246 (Step.up s268)) (Step.up s282))
        have hall290 := (Sl.step (Sl.step hall247 s268) s282)
        have k291 := (OB.step k275 s282 p249)
        refine reg_drawn (RB w280.heap.size []) 13 (by kernel_rfl) (fun w292 hd293 => ?_)
        have e294 := Evo.of_drew hd293
        have z295 : w292.heap.size = w280.heap.size := by rw [hd293]
        clear hd293
        have s297 := Step.of0 X281 e294
        have er296 := RB.refl w280.heap.size [] w292
        have E298 := (Evo.then0 E287 (Step.evo s297))
        have hXo299 := (Old.step hXo288 s297)
        have hS300 := (Sub.trans hS289 (Step.up s297))
        have hall301 := (Sl.step hall290 s297)
        have k302 := (OB.step0 k291 s297)
        have O303 := (OS.step0 O283 s297)
        refine r_take 0 (.slice aall1 all.length call2) (RB.pre _ _) rfl (by kernel_rfl) (fun _ _ _ h => hQ.panic _ _ _ _ _ h) (.inl ⟨rfl, fun wq hq => (by kernel_rfl)⟩) ?_
        refine r_take 1 (.int .i64 i131) (RB.pre _ _) rfl (by kernel_rfl) (fun _ _ _ h => hQ.panic _ _ _ _ _ h) (.inl ⟨rfl, fun wq hq => (by kernel_rfl)⟩) ?_
        obtain ⟨h304, hp⟩ := hp
        obtain ⟨b305, o306, cs307, ha308, nx309, lt310, ok311, hc312⟩ := Sl.atI hall301 i131 h304
        obtain ⟨rfl, ke313⟩ := ok311
        replace hp := hp ke313
        refine r_take 2 (.pointer (some ⟨b305, o306 + i131.toNat * 32, none⟩)) (RB.pre _ _) rfl (by kernel_rfl) (fun _ _ _ h => hQ.panic _ _ _ _ _ h) (.inl ⟨rfl, fun wq hq => (x_ixA (m := all.length) (c := call2) (k := .i64) (i := i131) Try.underlying36 Try.sizeOf25 (by rw [← ha308]; kernel_rfl) (by kernel_rfl) h304)⟩) ?_
        refine r_take 3 (.agg ((lget all i131).map (Value.int .u8)).toArray) (RB.pre _ _) rfl (by kernel_rfl) (fun _ _ _ h => hQ.panic _ _ _ _ _ h) (.inl ⟨rfl, fun wq hq => (x_loadA (lget all i131) (by kernel_rfl) Try.isAgg25 Try.sizeOf25 ke313 (CellsAt.rb hc312 (RB.trans er296 hq) (Nat.lt_of_lt_of_eq lt310 z295) (fun h => by cases h)))⟩) ?_
        refine r_take 4 (.agg (id.map (Value.int .u8)).toArray) (RB.pre _ _) rfl (by kernel_rfl) (fun _ _ _ h => hQ.panic _ _ _ _ _ h) (.inl ⟨rfl, fun wq hq => (x_loadA id (by kernel_rfl) Try.isAgg25 Try.sizeOf25 kid4 (Blk.awhole (Blk.rb k302.2.1 (RB.trans er296 hq) (Nat.lt_of_lt_of_eq (Blk.lt k302.2.1) z295) (fun h => by cases h))))⟩) ?_
        refine r_take 6 (.slice a277 n278 c279) (RB.pre _ _) rfl (by kernel_rfl) (fun _ _ _ h => hQ.panic _ _ _ _ _ h) (.inl ⟨rfl, fun wq hq => (by kernel_rfl)⟩) ?_
        refine r_take 7 (.int .i64 i131) (RB.pre _ _) rfl (by kernel_rfl) (fun _ _ _ h => hQ.panic _ _ _ _ _ h) (.inl ⟨rfl, fun wq hq => (by kernel_rfl)⟩) ?_
        obtain ⟨h314, hp⟩ := hp
        obtain ⟨b315, o316, cs317, ha318, nx319, lt320, ok321, hc322⟩ := Sl.atI (OS.rd O303) i131 h314
        obtain ⟨rfl, ke323⟩ := ok321
        replace hp := hp ke323
        refine r_take 8 (.pointer (some ⟨b315, o316 + i131.toNat * 32, none⟩)) (RB.pre _ _) rfl (by kernel_rfl) (fun _ _ _ h => hQ.panic _ _ _ _ _ h) (.inl ⟨rfl, fun wq hq => (x_ixA (m := n278) (c := c279) (k := .i64) (i := i131) Try.underlying37 Try.sizeOf32 (by rw [← ha318]; kernel_rfl) (by kernel_rfl) ⟨h314.1, by rw [O303.1]; exact h314.2⟩)⟩) ?_
        refine r_take 9 (.agg ((lget (l126 ++ ([lget all i131])) i131).map (Value.int .u8)).toArray) (RB.pre _ _) rfl (by kernel_rfl) (fun _ _ _ h => hQ.panic _ _ _ _ _ h) (.inl ⟨rfl, fun wq hq => (x_loadA (lget (l126 ++ ([lget all i131])) i131) (by kernel_rfl) Try.isAgg32 Try.sizeOf32 ke323 (CellsAt.rb hc322 (RB.trans er296 hq) (Nat.lt_of_lt_of_eq lt320 z295) (fun h => by cases h)))⟩) ?_
        refine r_take 10 (.agg (id.map (Value.int .u8)).toArray) (RB.pre _ _) rfl (by kernel_rfl) (fun _ _ _ h => hQ.panic _ _ _ _ _ h) (.inl ⟨rfl, fun wq hq => (x_loadA id (by kernel_rfl) Try.isAgg25 Try.sizeOf25 kid4 (Blk.awhole (Blk.rb k302.2.1 (RB.trans er296 hq) (Nat.lt_of_lt_of_eq (Blk.lt k302.2.1) z295) (fun h => by cases h))))⟩) ?_
        refine r_ready [5] (by kernel_rfl) rfl (all_cons ⟨_, _, _, _, _, _, rfl, ?_⟩ all_nil)
        refine o_call 13 #[(.agg ((lget all i131).map (Value.int .u8)).toArray), (.agg (id.map (Value.int .u8)).toArray)] rfl (x_call Try.call13 (by kernel_rfl)) (sha_Shared_w (X := []) (a := lget all i131) (b := id) (Old.nil _) ke313 kid4 hp) ?_
        rintro _ w325 ⟨r324, hp, e326, rfl, rr328⟩
        have rm := RB.mono (F' := []) e326 (Nat.le_trans (Nat.le_of_eq z295.symm) (RB.size er296)) (fun _ h => by cases h)
        have er329 := RB.trans er296 rm
        refine ⟨fun _ => rm, ?_⟩
        have s327 := Step.of0 X281 e326
        replace hp := hp rr328
        refine r_ready [11] (by kernel_rfl) rfl (all_cons ⟨_, _, _, _, _, _, rfl, ?_⟩ all_nil)
        refine o_call 14 #[(.agg ((lget (l126 ++ ([lget all i131])) i131).map (Value.int .u8)).toArray), (.agg (id.map (Value.int .u8)).toArray)] rfl (x_call Try.call14 (by kernel_rfl)) (rectoref2_Shared_w (X := []) (a := lget (l126 ++ ([lget all i131])) i131) (b := id) (Old.nil _) ke323 kid4 hp) ?_
        rintro _ w331 ⟨r330, hp, e332, rfl, rr334⟩
        have rm := RB.mono (F' := []) e332 (Nat.le_trans (Nat.le_of_eq z295.symm) (RB.size er329)) (fun _ h => by cases h)
        have er335 := RB.trans er329 rm
        refine ⟨fun _ => rm, ?_⟩
        have s333 := Step.of0 X281 e332
        replace hp := hp rr334
        refine r_take 12 (.bool (!decide (r324 = r330))) (RB.pre _ _) rfl (by kernel_rfl) (fun _ _ _ h => hQ.panic _ _ _ _ _ h) (.inl ⟨rfl, fun wq hq => (by kernel_rfl)⟩) ?_
        refine r_done (by kernel_rfl) ?_
        refine then_normal (K286 _ _ _ _ ?_)
        refine cond_nd (r324 = r330) (by kernel_rfl) (fun h336 => ?_) (fun h336 => ?_)
        ·
          replace hp := hp.1 h336
          refine seq_ (fun _ K337 => ?_)
          refine reg_ ?_
          refine sq (o_pv (.bool false) rfl (by kernel_rfl) ?_)
          refine nil_ ?_
          refine then_normal (K337 _ _ _ _ ?_)
          refine wp_ret ?_
          refine blk_ret ?_
          refine then_ret ?_
          refine then_ret ?_
          refine blk_ret ?_
          refine then_ret ?_
          have E338 := (Evo.then0 (Evo.then0 E298 e326) e332)
          refine end_ret hQ (.bool false) (by kernel_rfl) ?_
          exact ⟨false, hp, E338, rfl⟩
        ·
          replace hp := hp.2 h336
          refine wp_skip ?_
          refine blk_normal ?_
          refine then_normal (K253 _ _ _ _ ?_)
          refine reg_ ?_
          refine sq (o_pv (.int .i64 i131) rfl (by kernel_rfl) ?_)
          obtain ⟨h339, hp⟩ := hp
          refine sq (o_pv (.int .i64 (i131 + (1 : Int))) rfl (x_add2 (k := .i64) (a := i131) (b := (1 : Int)) (i131 + (1 : Int)) (by kernel_rfl) (by kernel_rfl) (wrap_inR h339)) ?_)
          refine sq (o_pv (.int .i64 (i131 + (1 : Int))) rfl (by kernel_rfl) ?_)
          refine nil_ ?_
          have E340 := (Evo.then0 (Evo.then0 E298 e326) e332)
          have hXo341 := (Old.step (Old.step hXo299 s327) s333)
          have hS342 := (Sub.trans (Sub.trans hS300 (Step.up s327)) (Step.up s333))
          have hall343 := (Sl.step (Sl.step hall301 s327) s333)
          have k344 := (OB.step0 (OB.step0 k302 s327) s333)
          have O345 := (OS.step0 (OS.step0 O303 s327) s333)
          refine then_normal (hA238 _ _ _ ⟨_, [(7, (.slice a277 n278 c279)), (8, (.int .i64 (i131 + (1 : Int))))], hp.2, fit_mk (AgB.mix _ _ _) (by kernel_rfl) (vs_cons (by kernel_rfl) (vs_cons (by kernel_rfl) vs_nil)), ?_⟩)
          exact ⟨X281, (l126 ++ ([lget all i131])), (i131 + (1 : Int)), a277, n278, c279, rfl, rfl, E340, hXo341, hS342, hall343, k344, O345, p285, h339, hp.1⟩
      ·
        replace hp := hp.2 h252
        refine wp_exit ?_
        refine then_exit ?_
        refine then_exit ?_
        refine blk_exit ?_
        refine then_normal (K28 _ _ _ _ ?_)
        refine seq_ (fun _ K346 => ?_)
        refine reg_ ?_
        refine sq (o_pv (.slice aall1 all.length call2) rfl (by kernel_rfl) ?_)
        refine sq (o_pv (.agg (id.map (Value.int .u8)).toArray) rfl (x_loadA id (by kernel_rfl) Try.isAgg25 Try.sizeOf25 kid4 (Blk.awhole k248.2.1)) ?_)
        refine sq (o_pv (.int .i64 least) rfl (by kernel_rfl) ?_)
        refine sq (o_call 15 #[(.slice aall1 all.length call2), (.agg (id.map (Value.int .u8)).toArray), (.int .i64 least)] rfl (x_call Try.call15 (by kernel_rfl)) (sha_Short_w (X := []) (all := all) (id := id) (least := least) (Old.nil _) (Sl.less hall247 (Sub.nil _)) kid4 rleast5 hp) ?_)
        rintro _ w348 ⟨r347, hp, e349, rfl, rr351⟩
        have s350 := Step.of0 X234 e349
        replace hp := hp rr351
        refine sq (o_pv (.int .i64 r347) rfl (by kernel_rfl) ?_)
        refine nil_ ?_
        refine then_normal (K346 _ _ _ _ ?_)
        refine seq_ (fun _ K352 => ?_)
        refine seq_ (fun _ K353 => ?_)
        have E371 := (Evo.then0 E244 e349)
        have hXo372 := (Old.step hXo245 s350)
        have hS373 := (Sub.trans hS246 (Step.up s350))
        have hall374 := (Sl.step hall247 s350)
        have k375 := (OB.step0 k248 s350)
        have O376 := (OS.step0 O130 s350)
        obtain ⟨k364, hk365, hp⟩ := hp
        refine ground_ ?_
        refine join_ 1152851135862669312 (fun lq w366 => ∃ (X367 : List Nat) (s363 : Bool), (lq = [(59, (.bool s363))]) ∧ (Evo [] w w366) ∧ (Old X367 w366) ∧ (Sub X X367) ∧ (Sl (rArr .u8 32) X367 w366 aall1 call2 all) ∧ (OB ([]) w.heap.size X367 w366 b7 (id.map (Value.int .u8)) 25) ∧ (k364 s363)) (fun Kj368 hJ369 => ?_) ?_
        ·
          refine reg_ ?_
          refine sq (o_pv (.int .i64 r347) rfl (by kernel_rfl) ?_)
          refine sq (o_pv (.slice a127 n128 c129) rfl (by kernel_rfl) ?_)
          refine sq (o_pv (.agg (id.map (Value.int .u8)).toArray) rfl (x_loadA id (by kernel_rfl) Try.isAgg25 Try.sizeOf25 kid4 (Blk.awhole k375.2.1)) ?_)
          refine sq (o_pv (.int .i64 least) rfl (by kernel_rfl) ?_)
          refine sq (o_call 16 #[(.slice a127 l126.length c129), (.agg (id.map (Value.int .u8)).toArray), (.int .i64 least)] rfl (x_call Try.call16 (by rw [← show n128 = l126.length from O376.1]; kernel_rfl)) (rectoref2_Short_w (X := []) (all := l126) (id := id) (least := least) (Old.nil _) (OS.rd O376) kid4 rleast5 hp) ?_)
          rintro _ w383 ⟨r382, hp, e384, rfl, rr386⟩
          have s385 := Step.of0 X234 e384
          replace hp := hp rr386
          by_cases h387 : r347 = r382
          ·
            replace hp := hp.1 h387
            refine sq (o_pv (.bool false) rfl (x_ndf (p := r347 = r382) (by kernel_rfl) h387) ?_)
            refine sq (o_pv (.bool false) rfl (by kernel_rfl) ?_)
            refine sq (o_pv (.int .i64 r347) (by kernel_rfl) (by kernel_rfl) ?_)
            by_cases h388 : r347 < (0 : Int)
            ·
              replace hp := hp.1 h388
              refine sq (o_pv (.bool true) (by kernel_rfl) (x_dt (p := r347 < (0 : Int)) (by kernel_rfl) h388) ?_)
              refine sq (o_pv (.bool true) rfl (by kernel_rfl) ?_)
              refine sq (o_pv (.bool true) rfl (by kernel_rfl) ?_)
              refine sq (o_not (by kernel_rfl) ?_)
              refine sq (o_not (by kernel_rfl) ?_)
              refine sq (o_pv (.bool true) rfl (by kernel_rfl) ?_)
              refine nil_ ?_
              have E389 := (Evo.then0 E371 e384)
              have hXo390 := (Old.step hXo372 s385)
              have hS391 := (Sub.trans hS373 (Step.up s385))
              have hall392 := (Sl.step hall374 s385)
              have k393 := (OB.step0 k375 s385)
              refine then_normal (hJ369 _ _ _ ⟨[(59, (.bool true))], fit_mk (fun _ _ => rfl) (by kernel_rfl) (vs_cons (by kernel_rfl) vs_nil), ?_⟩)
              exact ⟨X234, true, rfl, E389, hXo390, hS391, hall392, k393, hp⟩
            ·
              replace hp := hp.2 h388
              refine sq (o_pv (.bool false) (by kernel_rfl) (x_df (p := r347 < (0 : Int)) (by kernel_rfl) h388) ?_)
              refine sq (o_pv (.bool false) rfl (by kernel_rfl) ?_)
              refine sq (o_pv (.bool false) rfl (by kernel_rfl) ?_)
              refine sq (o_pv (.int .i64 r347) (by kernel_rfl) (by kernel_rfl) ?_)
              refine sq (o_pv (.bool (decide (r347 > (64 : Int)))) (by kernel_rfl) (by kernel_rfl) ?_)
              refine sq (o_pv (.bool (decide (r347 > (64 : Int)))) rfl (by kernel_rfl) ?_)
              refine nil_ ?_
              have E394 := (Evo.then0 E371 e384)
              have hXo395 := (Old.step hXo372 s385)
              have hS396 := (Sub.trans hS373 (Step.up s385))
              have hall397 := (Sl.step hall374 s385)
              have k398 := (OB.step0 k375 s385)
              refine then_normal (hJ369 _ _ _ ⟨[(59, (.bool (decide (r347 > (64 : Int)))))], fit_mk (fun _ _ => rfl) (by kernel_rfl) (vs_cons (by kernel_rfl) vs_nil), ?_⟩)
              exact ⟨X234, (decide (r347 > (64 : Int))), rfl, E394, hXo395, hS396, hall397, k398, hp⟩
          ·
            replace hp := hp.2 h387
            refine sq (o_pv (.bool true) rfl (x_ndt (p := r347 = r382) (by kernel_rfl) h387) ?_)
            refine sq (o_pv (.bool true) rfl (by kernel_rfl) ?_)
            refine sq (o_not (by kernel_rfl) ?_)
            refine sq (o_not (by kernel_rfl) ?_)
            refine sq (o_pv (.bool true) rfl (by kernel_rfl) ?_)
            refine sq (o_pv (.bool true) rfl (by kernel_rfl) ?_)
            refine sq (o_not (by kernel_rfl) ?_)
            refine sq (o_not (by kernel_rfl) ?_)
            refine sq (o_pv (.bool true) rfl (by kernel_rfl) ?_)
            refine nil_ ?_
            have E399 := (Evo.then0 E371 e384)
            have hXo400 := (Old.step hXo372 s385)
            have hS401 := (Sub.trans hS373 (Step.up s385))
            have hall402 := (Sl.step hall374 s385)
            have k403 := (OB.step0 k375 s385)
            refine then_normal (hJ369 _ _ _ ⟨[(59, (.bool true))], fit_mk (fun _ _ => rfl) (by kernel_rfl) (vs_cons (by kernel_rfl) vs_nil), ?_⟩)
            exact ⟨X234, true, rfl, E399, hXo400, hS401, hall402, k403, hp⟩
        ·
          rintro _ w366 g404 ⟨X367, s363, rfl, E377, hXo378, hS379, hall380, k381, hv370⟩
          replace hp := hk365 s363 hv370
          refine then_normal (K353 _ _ _ _ ?_)
          refine cond_b s363 (by kernel_rfl) (fun h405 => ?_) (fun h405 => ?_)
          ·
            replace hp := hp.1 h405
            refine seq_ (fun _ K406 => ?_)
            refine reg_ ?_
            refine sq (o_pv (.bool false) rfl (by kernel_rfl) ?_)
            refine nil_ ?_
            refine then_normal (K406 _ _ _ _ ?_)
            refine wp_ret ?_
            refine then_ret ?_
            refine end_ret hQ (.bool false) (by kernel_rfl) ?_
            exact ⟨false, hp, E377, rfl⟩
          ·
            replace hp := hp.2 h405
            refine wp_skip ?_
            refine then_normal (K352 _ _ _ _ ?_)
            refine seq_ (fun _ K407 => ?_)
            refine seq_ (fun _ K408 => ?_)
            refine reg_ ?_
            refine sq (o_pv (.int .i64 (0 : Int)) rfl (by kernel_rfl) ?_)
            refine nil_ ?_
            refine then_normal (K408 _ _ _ _ ?_)
            refine wp_block ?_
            obtain ⟨I516, m517, hI518, hp⟩ := hp
            refine loop_ 4835702125537012091978816 (fun kq lq w520 => ∃ (X521 : List Nat) (i409 : Int), (lq = [(10, (.int .i64 i409))]) ∧ (kq = m517 i409) ∧ (Evo [] w w520) ∧ (Old X521 w520) ∧ (Sub X X521) ∧ (Sl (rArr .u8 32) X521 w520 aall1 call2 all) ∧ (OB ([]) w.heap.size X521 w520 b7 (id.map (Value.int .u8)) 25) ∧ (inR .i64 i409) ∧ (I516 i409)) (m517 (0 : Int)) [(10, (.int .i64 (0 : Int)))] (vs_cons (by kernel_rfl) vs_nil) ⟨X367, (0 : Int), rfl, rfl, E377, hXo378, hS379, hall380, k381, (by decide), hI518⟩ ?_
            rintro _ _ w520 g523 ⟨X521, i409, rfl, rfl, E526, hXo527, hS528, hall529, k530, ri410, hI519⟩ Kl524 hA525
            replace hp := hp i409 hI519 ri410
            refine seq_ (fun _ K531 => ?_)
            refine seq_ (fun _ K532 => ?_)
            refine reg_ ?_
            refine sq (o_pv (.int .i64 i409) rfl (by kernel_rfl) ?_)
            refine sq (o_pv (.slice aall1 all.length call2) rfl (by kernel_rfl) ?_)
            refine sq (o_pv (.int .i64 (all.length : Int)) rfl (by kernel_rfl) ?_)
            refine sq (o_pv (.bool (decide (i409 < (all.length : Int)))) rfl (by kernel_rfl) ?_)
            refine nil_ ?_
            refine then_normal (K532 _ _ _ _ ?_)
            refine cond_d (i409 < (all.length : Int)) (by kernel_rfl) (fun h533 => ?_) (fun h533 => ?_)
            ·
              replace hp := hp.1 h533
              refine wp_skip ?_
              refine then_normal (K531 _ _ _ _ ?_)
              refine seq_ (fun _ K534 => ?_)
              refine wp_block ?_
              refine seq_ (fun _ K535 => ?_)
              obtain ⟨k575, hk576, hp⟩ := hp
              refine ground_ ?_
              refine join_ 4835629491482221860618240 (fun lq w577 => ∃ (X578 : List Nat) (s574 : Bool), (lq = [(81, (.bool s574))]) ∧ (Evo [] w w577) ∧ (Old X578 w577) ∧ (Sub X X578) ∧ (Sl (rArr .u8 32) X578 w577 aall1 call2 all) ∧ (OB ([]) w.heap.size X578 w577 b7 (id.map (Value.int .u8)) 25) ∧ (k575 s574)) (fun Kj579 hJ580 => ?_) ?_
              ·
                refine reg_drawn (RB w520.heap.size []) 16 (by kernel_rfl) (fun w587 hd588 => ?_)
                have e589 := Evo.of_drew hd588
                have z590 : w587.heap.size = w520.heap.size := by rw [hd588]
                clear hd588
                have s592 := Step.of0 X521 e589
                have er591 := RB.refl w520.heap.size [] w587
                have E593 := (Evo.then0 E526 (Step.evo s592))
                have hXo594 := (Old.step hXo527 s592)
                have hS595 := (Sub.trans hS528 (Step.up s592))
                have hall596 := (Sl.step hall529 s592)
                have k597 := (OB.step0 k530 s592)
                refine r_take 0 (.slice aall1 all.length call2) (RB.pre _ _) rfl (by kernel_rfl) (fun _ _ _ h => hQ.panic _ _ _ _ _ h) (.inl ⟨rfl, fun wq hq => (by kernel_rfl)⟩) ?_
                refine r_take 1 (.int .i64 i409) (RB.pre _ _) rfl (by kernel_rfl) (fun _ _ _ h => hQ.panic _ _ _ _ _ h) (.inl ⟨rfl, fun wq hq => (by kernel_rfl)⟩) ?_
                obtain ⟨h598, hp⟩ := hp
                obtain ⟨b599, o600, cs601, ha602, nx603, lt604, ok605, hc606⟩ := Sl.atI hall596 i409 h598
                obtain ⟨rfl, ke607⟩ := ok605
                replace hp := hp ke607
                refine r_take 2 (.pointer (some ⟨b599, o600 + i409.toNat * 32, none⟩)) (RB.pre _ _) rfl (by kernel_rfl) (fun _ _ _ h => hQ.panic _ _ _ _ _ h) (.inl ⟨rfl, fun wq hq => (x_ixA (m := all.length) (c := call2) (k := .i64) (i := i409) Try.underlying36 Try.sizeOf25 (by rw [← ha602]; kernel_rfl) (by kernel_rfl) h598)⟩) ?_
                refine r_take 3 (.agg ((lget all i409).map (Value.int .u8)).toArray) (RB.pre _ _) rfl (by kernel_rfl) (fun _ _ _ h => hQ.panic _ _ _ _ _ h) (.inl ⟨rfl, fun wq hq => (x_loadA (lget all i409) (by kernel_rfl) Try.isAgg25 Try.sizeOf25 ke607 (CellsAt.rb hc606 (RB.trans er591 hq) (Nat.lt_of_lt_of_eq lt604 z590) (fun h => by cases h)))⟩) ?_
                refine r_take 4 (.agg (id.map (Value.int .u8)).toArray) (RB.pre _ _) rfl (by kernel_rfl) (fun _ _ _ h => hQ.panic _ _ _ _ _ h) (.inl ⟨rfl, fun wq hq => (x_loadA id (by kernel_rfl) Try.isAgg25 Try.sizeOf25 kid4 (Blk.awhole (Blk.rb k597.2.1 (RB.trans er591 hq) (Nat.lt_of_lt_of_eq (Blk.lt k597.2.1) z590) (fun h => by cases h))))⟩) ?_
                by_cases h608 : (lget all i409 : List Int) = id
                ·
                  replace hp := hp.1 h608
                  refine r_take 5 (.bool false) (RB.pre _ _) rfl (by kernel_rfl) (fun _ _ _ h => hQ.panic _ _ _ _ _ h) (.inl ⟨rfl, fun wq hq => (x_ndf (p := (lget all i409 : List Int) = id) (x_arrne (i := Try.t5) (k := .u8) (xs := lget all i409) (ys := id) Try.underlying25 Try.underlying5 (by kernel_rfl) (by kernel_rfl) (by kernel_rfl) Try.isAgg5 ke607 kid4 (by kernel_rfl) (by kernel_rfl)) h608)⟩) ?_
                  refine r_take 6 (.bool false) (RB.pre _ _) rfl (by kernel_rfl) (fun _ _ _ h => hQ.panic _ _ _ _ _ h) (.inl ⟨rfl, fun wq hq => (by kernel_rfl)⟩) ?_
                  refine r_take 7 undef (RB.pre _ _) rfl (by kernel_rfl) (fun _ _ _ h => hQ.panic _ _ _ _ _ h) (.inr ⟨by kernel_rfl, rfl⟩) ?_
                  refine r_take 8 undef (RB.pre _ _) rfl (by kernel_rfl) (fun _ _ _ h => hQ.panic _ _ _ _ _ h) (.inr ⟨by kernel_rfl, rfl⟩) ?_
                  refine r_take 9 undef (RB.pre _ _) rfl (by kernel_rfl) (fun _ _ _ h => hQ.panic _ _ _ _ _ h) (.inr ⟨by kernel_rfl, rfl⟩) ?_
                  refine r_take 10 undef (RB.pre _ _) rfl (by kernel_rfl) (fun _ _ _ h => hQ.panic _ _ _ _ _ h) (.inr ⟨by kernel_rfl, rfl⟩) ?_
                  refine r_take 11 undef (RB.pre _ _) rfl (by kernel_rfl) (fun _ _ _ h => hQ.panic _ _ _ _ _ h) (.inr ⟨by kernel_rfl, rfl⟩) ?_
                  refine r_take 12 undef (RB.pre _ _) rfl (by kernel_rfl) (fun _ _ _ h => hQ.panic _ _ _ _ _ h) (.inr ⟨by kernel_rfl, rfl⟩) ?_
                  refine r_take 13 undef (RB.pre _ _) rfl (by kernel_rfl) (fun _ _ _ h => hQ.panic _ _ _ _ _ h) (.inr ⟨by kernel_rfl, rfl⟩) ?_
                  refine r_take 14 undef (RB.pre _ _) rfl (by kernel_rfl) (fun _ _ _ h => hQ.panic _ _ _ _ _ h) (.inr ⟨by kernel_rfl, rfl⟩) ?_
                  refine r_take 15 (.bool false) (RB.pre _ _) rfl (by kernel_rfl) (fun _ _ _ h => hQ.panic _ _ _ _ _ h) (.inl ⟨rfl, fun wq hq => (by kernel_rfl)⟩) ?_
                  refine r_done (by kernel_rfl) ?_
                  refine then_normal (hJ580 _ _ _ ⟨[(81, (.bool false))], fit_mk (fun _ _ => rfl) (by kernel_rfl) (vs_cons (by kernel_rfl) vs_nil), ?_⟩)
                  exact ⟨X521, false, rfl, E593, hXo594, hS595, hall596, k597, hp⟩
                ·
                  replace hp := hp.2 h608
                  refine r_take 5 (.bool true) (RB.pre _ _) rfl (by kernel_rfl) (fun _ _ _ h => hQ.panic _ _ _ _ _ h) (.inl ⟨rfl, fun wq hq => (x_ndt (p := (lget all i409 : List Int) = id) (x_arrne (i := Try.t5) (k := .u8) (xs := lget all i409) (ys := id) Try.underlying25 Try.underlying5 (by kernel_rfl) (by kernel_rfl) (by kernel_rfl) Try.isAgg5 ke607 kid4 (by kernel_rfl) (by kernel_rfl)) h608)⟩) ?_
                  refine r_take 6 (.bool true) (RB.pre _ _) rfl (by kernel_rfl) (fun _ _ _ h => hQ.panic _ _ _ _ _ h) (.inl ⟨rfl, fun wq hq => (by kernel_rfl)⟩) ?_
                  refine r_take 7 (.slice aall1 all.length call2) (RB.pre _ _) rfl (by kernel_rfl) (fun _ _ _ h => hQ.panic _ _ _ _ _ h) (.inl ⟨(by kernel_rfl), fun wq hq => (by kernel_rfl)⟩) ?_
                  refine r_take 8 (.int .i64 i409) (RB.pre _ _) rfl (by kernel_rfl) (fun _ _ _ h => hQ.panic _ _ _ _ _ h) (.inl ⟨(by kernel_rfl), fun wq hq => (by kernel_rfl)⟩) ?_
                  obtain ⟨h609, hp⟩ := hp
                  obtain ⟨b610, o611, cs612, ha613, nx614, lt615, ok616, hc617⟩ := Sl.atI hall596 i409 h609
                  obtain ⟨rfl, ke618⟩ := ok616
                  replace hp := hp ke618
                  refine r_take 9 (.pointer (some ⟨b610, o611 + i409.toNat * 32, none⟩)) (RB.pre _ _) rfl (by kernel_rfl) (fun _ _ _ h => hQ.panic _ _ _ _ _ h) (.inl ⟨(by kernel_rfl), fun wq hq => (x_ixA (m := all.length) (c := call2) (k := .i64) (i := i409) Try.underlying36 Try.sizeOf25 (by rw [← ha613]; kernel_rfl) (by kernel_rfl) h609)⟩) ?_
                  refine r_take 10 (.agg ((lget all i409).map (Value.int .u8)).toArray) (RB.pre _ _) rfl (by kernel_rfl) (fun _ _ _ h => hQ.panic _ _ _ _ _ h) (.inl ⟨(by kernel_rfl), fun wq hq => (x_loadA (lget all i409) (by kernel_rfl) Try.isAgg25 Try.sizeOf25 ke618 (CellsAt.rb hc617 (RB.trans er591 hq) (Nat.lt_of_lt_of_eq lt615 z590) (fun h => by cases h)))⟩) ?_
                  refine r_take 11 (.agg (id.map (Value.int .u8)).toArray) (RB.pre _ _) rfl (by kernel_rfl) (fun _ _ _ h => hQ.panic _ _ _ _ _ h) (.inl ⟨(by kernel_rfl), fun wq hq => (x_loadA id (by kernel_rfl) Try.isAgg25 Try.sizeOf25 kid4 (Blk.awhole (Blk.rb k597.2.1 (RB.trans er591 hq) (Nat.lt_of_lt_of_eq (Blk.lt k597.2.1) z590) (fun h => by cases h))))⟩) ?_
                  refine r_take 13 (.int .i64 r347) (RB.pre _ _) rfl (by kernel_rfl) (fun _ _ _ h => hQ.panic _ _ _ _ _ h) (.inl ⟨(by kernel_rfl), fun wq hq => (by kernel_rfl)⟩) ?_
                  refine r_ready [12] (by kernel_rfl) rfl (all_cons ⟨_, _, _, _, _, _, rfl, ?_⟩ all_nil)
                  refine o_call 13 #[(.agg ((lget all i409).map (Value.int .u8)).toArray), (.agg (id.map (Value.int .u8)).toArray)] (by kernel_rfl) (x_call Try.call13 (by kernel_rfl)) (sha_Shared_w (X := []) (a := lget all i409) (b := id) (Old.nil _) ke618 kid4 hp) ?_
                  rintro _ w620 ⟨r619, hp, e621, rfl, rr623⟩
                  have rm := RB.mono (F' := []) e621 (Nat.le_trans (Nat.le_of_eq z590.symm) (RB.size er591)) (fun _ h => by cases h)
                  have er624 := RB.trans er591 rm
                  refine ⟨fun _ => rm, ?_⟩
                  have s622 := Step.of0 X521 e621
                  replace hp := hp rr623
                  refine r_take 14 (.bool (decide (r619 ≥ r347))) (RB.pre _ _) rfl (by kernel_rfl) (fun _ _ _ h => hQ.panic _ _ _ _ _ h) (.inl ⟨(by kernel_rfl), fun wq hq => (by kernel_rfl)⟩) ?_
                  refine r_take 15 (.bool (decide (r619 ≥ r347))) (RB.pre _ _) rfl (by kernel_rfl) (fun _ _ _ h => hQ.panic _ _ _ _ _ h) (.inl ⟨rfl, fun wq hq => (by kernel_rfl)⟩) ?_
                  refine r_done (by kernel_rfl) ?_
                  have E625 := (Evo.then0 E593 e621)
                  have hXo626 := (Old.step hXo594 s622)
                  have hS627 := (Sub.trans hS595 (Step.up s622))
                  have hall628 := (Sl.step hall596 s622)
                  have k629 := (OB.step0 k597 s622)
                  refine then_normal (hJ580 _ _ _ ⟨[(81, (.bool (decide (r619 ≥ r347))))], fit_mk (fun _ _ => rfl) (by kernel_rfl) (vs_cons (by kernel_rfl) vs_nil), ?_⟩)
                  exact ⟨X521, (decide (r619 ≥ r347)), rfl, E625, hXo626, hS627, hall628, k629, hp⟩
              ·
                rintro _ w577 g630 ⟨X578, s574, rfl, E582, hXo583, hS584, hall585, k586, hv581⟩
                replace hp := hk576 s574 hv581
                refine then_normal (K535 _ _ _ _ ?_)
                refine cond_b s574 (by kernel_rfl) (fun h631 => ?_) (fun h631 => ?_)
                ·
                  replace hp := hp.1 h631
                  refine seq_ (fun _ K632 => ?_)
                  refine reg_ ?_
                  refine sq (o_pv (.bool false) rfl (by kernel_rfl) ?_)
                  refine nil_ ?_
                  refine then_normal (K632 _ _ _ _ ?_)
                  refine wp_ret ?_
                  refine blk_ret ?_
                  refine then_ret ?_
                  refine then_ret ?_
                  refine blk_ret ?_
                  refine then_ret ?_
                  refine end_ret hQ (.bool false) (by kernel_rfl) ?_
                  exact ⟨false, hp, E582, rfl⟩
                ·
                  replace hp := hp.2 h631
                  refine wp_skip ?_
                  refine blk_normal ?_
                  refine then_normal (K534 _ _ _ _ ?_)
                  refine reg_ ?_
                  refine sq (o_pv (.int .i64 i409) rfl (by kernel_rfl) ?_)
                  obtain ⟨h633, hp⟩ := hp
                  refine sq (o_pv (.int .i64 (i409 + (1 : Int))) rfl (x_add2 (k := .i64) (a := i409) (b := (1 : Int)) (i409 + (1 : Int)) (by kernel_rfl) (by kernel_rfl) (wrap_inR h633)) ?_)
                  refine sq (o_pv (.int .i64 (i409 + (1 : Int))) rfl (by kernel_rfl) ?_)
                  refine nil_ ?_
                  refine then_normal (hA525 _ _ _ ⟨_, [(10, (.int .i64 (i409 + (1 : Int))))], hp.2, fit_mk (AgB.nest (AgB.look (AgB.mix _ _ _) (by kernel_rfl)) (by kernel_rfl) (by kernel_rfl)) (by kernel_rfl) (vs_cons (by kernel_rfl) vs_nil), ?_⟩)
                  exact ⟨X578, (i409 + (1 : Int)), rfl, rfl, E582, hXo583, hS584, hall585, k586, h633, hp.1⟩
            ·
              replace hp := hp.2 h533
              refine wp_exit ?_
              refine then_exit ?_
              refine then_exit ?_
              refine blk_exit ?_
              refine then_normal (K407 _ _ _ _ ?_)
              refine seq_ (fun _ K634 => ?_)
              refine reg_ ?_
              refine sq (o_pv (.bool true) rfl (by kernel_rfl) ?_)
              refine nil_ ?_
              refine then_normal (K634 _ _ _ _ ?_)
              refine wp_ret ?_
              refine end_ret hQ (.bool true) (by kernel_rfl) ?_
              exact ⟨true, hp, E526, rfl⟩

end Go.Proofs.Ytjejeipdndddpaa
