/- Walks of functions: what each asks and computes, as a plain predicate, and the contract from it. -/
import Derived.Test.YtjejeipdndddpaaDoorChecked
import Derived.Test.YtjejeipdndddpaaDoorHk3
namespace Go.Proofs.YtjejeipdndddpaaDoor
open Go

theorem elT41 : ElemT Tryd.prog 41 124 2 24 := elemT_mk (i := Tryd.t124) (z := (.agg #[(.int .i64 0), (.string (ByteArray.mk #[]))])) (by kernel_rfl) (by kernel_rfl) (by kernel_rfl) (by kernel_rfl) Tryd.underlying41 Tryd.sizeOf124 (by decide) (by decide)
theorem elT48 : ElemT Tryd.prog 48 130 5 56 := elemT_mk (i := Tryd.t130) (z := (.agg #[(.int .i64 0), (.int .i64 0), (.int .i64 0), (.int .i64 0), (.slice none 0 0)])) (by kernel_rfl) (by kernel_rfl) (by kernel_rfl) (by kernel_rfl) Tryd.underlying48 Tryd.sizeOf130 (by decide) (by decide)
def rectolaw11_Of_p (l : (List S_diff_Edit)) (Q : (List S_rectoref11_Edit) → Prop) : Prop :=
  ((l.length ≤ 9223372036854775807) → (∃ (I142 : (List S_rectoref11_Edit) → Int → Prop) (m143 : (List S_rectoref11_Edit) → Int → Nat), (I142 ([] : List S_rectoref11_Edit) (0 : Int)) ∧ (∀ (out71 : (List S_rectoref11_Edit)) (i76 : Int), (I142 out71 i76) → (out71.length ≤ 9223372036854775807) → (inR .i64 i76) → (((i76 < (l.length : Int)) → ((inL l i76) ∧ ((inR .i64 ((lget l i76).Op)) → ((((lget l i76).Line).size ≤ maxLen) → ((inL l i76) ∧ ((inR .i64 ((lget l i76).Op)) → ((((lget l i76).Line).size ≤ maxLen) → (((out71.length + ([(S_rectoref11_Edit.mk ((lget l i76).Op) ((lget l i76).Line))]).length) * 24 ≤ 140737488355328) ∧ ((inR .i64 (i76 + (1 : Int))) ∧ ((I142 (out71 ++ ([(S_rectoref11_Edit.mk ((lget l i76).Op) ((lget l i76).Line))])) (i76 + (1 : Int))) ∧ m143 (out71 ++ ([(S_rectoref11_Edit.mk ((lget l i76).Op) ((lget l i76).Line))])) (i76 + (1 : Int)) < m143 out71 i76)))))))))) ∧ ((¬ (i76 < (l.length : Int))) → Q out71)))))
set_option maxRecDepth 20000 in
set_option maxHeartbeats 4000000 in
theorem rectolaw11_Of_w {X : List Nat} {w : World} {l : (List S_diff_Edit)} {al1 : Option Addr} {cl2 : Nat} {Q : (List S_rectoref11_Edit) → Prop} (hX0 : Old X w) (hl3 : Sl r_diff_Edit X w al1 cl2 l) (hp : rectolaw11_Of_p l Q) :
    Calls Tryd.prog 77 #[(.slice al1 l.length cl2)] w (Ret fun v w' => ∃ (r0 : (List S_rectoref11_Edit)), Q r0 ∧ Evo [] w w' ∧ ∃ (aq01 : Option Addr) (cq02 : Nat), v = (.slice aq01 r0.length cq02) ∧ Sl r_rectoref11_Edit X w' aq01 cq02 r0) := by
  have hXo := hX0
  have E0 : Evo [] w w := RB.refl _ _ _
  have hS : Sub X X := Sub.refl _
  unfold rectolaw11_Of_p at hp
  refine enter_ Tryd.func77 rfl 26 [(0, (.slice al1 l.length cl2))] (by kernel_rfl) (fun Qe hQ => ?_)
  replace hp := hp (Sl.len hl3)
  refine seq_ (fun _ K4 => ?_)
  refine reg_ ?_
  refine sq (o_pv (.slice none 0 0) rfl (by kernel_rfl) ?_)
  refine nil_ ?_
  refine then_normal (K4 _ _ _ _ ?_)
  refine seq_ (fun _ K5 => ?_)
  refine reg_ ?_
  refine sq (o_pv (.slice none 0 0) rfl (by kernel_rfl) ?_)
  refine nil_ ?_
  refine then_normal (K5 _ _ _ _ ?_)
  refine seq_ (fun _ K6 => ?_)
  refine seq_ (fun _ K7 => ?_)
  refine reg_ ?_
  refine sq (o_pv (.int .i64 (0 : Int)) rfl (by kernel_rfl) ?_)
  refine nil_ ?_
  refine then_normal (K7 _ _ _ _ ?_)
  refine wp_block ?_
  obtain ⟨I142, m143, hI144, hp⟩ := hp
  refine loop_ 33554424 (fun kq lq w146 => ∃ (X147 : List Nat) (out71 : (List S_rectoref11_Edit)) (i76 : Int) (a72 : Option Addr) (n73 : Nat) (c74 : Nat), (lq = [(3, (.slice a72 n73 c74)), (4, (.int .i64 i76))]) ∧ (kq = m143 out71 i76) ∧ (Evo [] w w146) ∧ (Old X147 w146) ∧ (Sub X X147) ∧ (Sl r_diff_Edit X147 w146 al1 cl2 l) ∧ (OS r_rectoref11_Edit ([]) w.heap.size X147 w146 124 a72 n73 c74 out71) ∧ (inR .i64 i76) ∧ (I142 out71 i76)) (m143 ([] : List S_rectoref11_Edit) (0 : Int)) [(3, (.slice none 0 0)), (4, (.int .i64 (0 : Int)))] (vs_cons (by kernel_rfl) (vs_cons (by kernel_rfl) vs_nil)) ⟨X, ([] : List S_rectoref11_Edit), (0 : Int), none, 0, 0, rfl, rfl, E0, hXo, hS, hl3, (OS.nil _ _ _ _), (by decide), hI144⟩ ?_
  rintro _ _ w146 g149 ⟨X147, out71, i76, a72, n73, c74, rfl, rfl, E152, hXo153, hS154, hl155, O75, ri77, hI145⟩ Kl150 hA151
  replace hp := hp out71 i76 hI145 (OS.len O75) ri77
  refine seq_ (fun _ K156 => ?_)
  refine seq_ (fun _ K157 => ?_)
  refine reg_ ?_
  refine sq (o_pv (.int .i64 i76) rfl (by kernel_rfl) ?_)
  refine sq (o_pv (.slice al1 l.length cl2) rfl (by kernel_rfl) ?_)
  refine sq (o_pv (.int .i64 (l.length : Int)) rfl (by kernel_rfl) ?_)
  refine sq (o_pv (.bool (decide (i76 < (l.length : Int)))) rfl (by kernel_rfl) ?_)
  refine nil_ ?_
  refine then_normal (K157 _ _ _ _ ?_)
  refine cond_d (i76 < (l.length : Int)) (by kernel_rfl) (fun h158 => ?_) (fun h158 => ?_)
  ·
    replace hp := hp.1 h158
    refine wp_skip ?_
    refine then_normal (K156 _ _ _ _ ?_)
    refine seq_ (fun _ K159 => ?_)
    refine wp_block ?_
    refine reg_drawn (RB w146.heap.size []) 13 (by kernel_rfl) (fun w160 hd161 => ?_)
    have e162 := Evo.of_drew hd161
    have z163 : w160.heap.size = w146.heap.size := by rw [hd161]
    clear hd161
    have s165 := Step.of0 X147 e162
    have er164 := RB.refl w146.heap.size [] w160
    have E166 := (Evo.then0 E152 (Step.evo s165))
    have hXo167 := (Old.step hXo153 s165)
    have hS168 := (Sub.trans hS154 (Step.up s165))
    have hl169 := (Sl.step hl155 s165)
    have O170 := (OS.step0 O75 s165)
    refine r_take 0 (.slice a72 n73 c74) (RB.pre _ _) rfl (by kernel_rfl) (fun _ _ _ h => hQ.panic _ _ _ _ _ h) (.inl ⟨rfl, fun wq hq => (by kernel_rfl)⟩) ?_
    refine r_take 1 (.slice al1 l.length cl2) (RB.pre _ _) rfl (by kernel_rfl) (fun _ _ _ h => hQ.panic _ _ _ _ _ h) (.inl ⟨rfl, fun wq hq => (by kernel_rfl)⟩) ?_
    refine r_take 2 (.int .i64 i76) (RB.pre _ _) rfl (by kernel_rfl) (fun _ _ _ h => hQ.panic _ _ _ _ _ h) (.inl ⟨rfl, fun wq hq => (by kernel_rfl)⟩) ?_
    obtain ⟨h171, hp⟩ := hp
    obtain ⟨b172, o173, cs174, ha175, nx176, lt177, ok178, hc179⟩ := Sl.atI hl169 i76 h171
    obtain ⟨rfl, reOp180, zeLine181⟩ := r_diff_Edit_open ok178
    replace hp := hp reOp180
    replace hp := hp zeLine181
    refine r_take 3 (.pointer (some ⟨b172, o173 + i76.toNat * 2, none⟩)) (RB.pre _ _) rfl (by kernel_rfl) (fun _ _ _ h => hQ.panic _ _ _ _ _ h) (.inl ⟨rfl, fun wq hq => (x_ixA (m := l.length) (c := cl2) (k := .i64) (i := i76) Tryd.underlying46 Tryd.sizeOf64 (by rw [← ha175]; kernel_rfl) (by kernel_rfl) h171)⟩) ?_
    refine r_take 4 (.pointer (some ⟨b172, o173 + i76.toNat * 2, none⟩)) (RB.pre _ _) rfl (by kernel_rfl) (fun _ _ _ h => hQ.panic _ _ _ _ _ h) (.inl ⟨rfl, fun wq hq => (by kernel_rfl)⟩) ?_
    refine r_take 5 (.int .i64 ((lget l i76).Op)) (RB.pre _ _) rfl (by kernel_rfl) (fun _ _ _ h => hQ.panic _ _ _ _ _ h) (.inl ⟨rfl, fun wq hq => (x_load1 (by kernel_rfl) Tryd.isAgg3 ((CellsAt.rb hc179 (RB.trans er164 hq) (Nat.lt_of_lt_of_eq lt177 z163) (fun h => by cases h)) 0 _ rfl))⟩) ?_
    refine r_take 6 (.slice al1 l.length cl2) (RB.pre _ _) rfl (by kernel_rfl) (fun _ _ _ h => hQ.panic _ _ _ _ _ h) (.inl ⟨rfl, fun wq hq => (by kernel_rfl)⟩) ?_
    refine r_take 7 (.int .i64 i76) (RB.pre _ _) rfl (by kernel_rfl) (fun _ _ _ h => hQ.panic _ _ _ _ _ h) (.inl ⟨rfl, fun wq hq => (by kernel_rfl)⟩) ?_
    obtain ⟨h182, hp⟩ := hp
    obtain ⟨b183, o184, cs185, ha186, nx187, lt188, ok189, hc190⟩ := Sl.atI hl169 i76 h182
    obtain ⟨rfl, reOp191, zeLine192⟩ := r_diff_Edit_open ok189
    replace hp := hp reOp191
    replace hp := hp zeLine192
    refine r_take 8 (.pointer (some ⟨b183, o184 + i76.toNat * 2, none⟩)) (RB.pre _ _) rfl (by kernel_rfl) (fun _ _ _ h => hQ.panic _ _ _ _ _ h) (.inl ⟨rfl, fun wq hq => (x_ixA (m := l.length) (c := cl2) (k := .i64) (i := i76) Tryd.underlying46 Tryd.sizeOf64 (by rw [← ha186]; kernel_rfl) (by kernel_rfl) h182)⟩) ?_
    refine r_take 9 (.pointer (some ⟨b183, o184 + i76.toNat * 2 + 1, none⟩)) (RB.pre _ _) rfl (by kernel_rfl) (fun _ _ _ h => hQ.panic _ _ _ _ _ h) (.inl ⟨rfl, fun wq hq => (by kernel_rfl)⟩) ?_
    refine r_take 10 (.string ((lget l i76).Line)) (RB.pre _ _) rfl (by kernel_rfl) (fun _ _ _ h => hQ.panic _ _ _ _ _ h) (.inl ⟨rfl, fun wq hq => (x_load1 (by kernel_rfl) Tryd.isAgg9 ((CellsAt.rb hc190 (RB.trans er164 hq) (Nat.lt_of_lt_of_eq lt188 z163) (fun h => by cases h)) 1 _ rfl))⟩) ?_
    refine r_take 11 (.agg #[(.int .i64 ((lget l i76).Op)), (.string ((lget l i76).Line))]) (RB.pre _ _) rfl (by kernel_rfl) (fun _ _ _ h => hQ.panic _ _ _ _ _ h) (.inl ⟨rfl, fun wq hq => (by kernel_rfl)⟩) ?_
    refine r_ready [12] (by kernel_rfl) rfl (all_cons ⟨_, _, _, _, _, _, rfl, ?_⟩ all_nil)
    refine o_rowX (R := r_rectoref11_Edit) [(.int .i64 ((lget l i76).Op)), (.string ((lget l i76).Line))] [(S_rectoref11_Edit.mk ((lget l i76).Op) ((lget l i76).Line))] 124 1 (X := X147) (B := w.heap.size) E166.size rfl (by kernel_rfl) (Flat.cons (cs := [(.int .i64 ((lget l i76).Op)), (.string ((lget l i76).Line))]) (r_rectoref11_Edit_mk reOp180 zeLine192) Flat.nil) rfl (by decide) ?_
    intro b193 w194 X195 s196 O197 n198
    have rm := RB.mono (F' := []) (Step.evo s196) (Nat.le_trans (Nat.le_of_eq z163.symm) (RB.size er164)) (fun _ h => by cases h)
    have er199 := RB.trans er164 rm
    refine ⟨fun _ => rm, ?_⟩
    have p200 := n198 _ (OS.old O170)
    refine r_ready [13] (by kernel_rfl) rfl (all_cons ⟨_, _, _, _, _, _, rfl, ?_⟩ all_nil)
    obtain ⟨h201, hp⟩ := hp
    have O202 := (OS.step0 O170 s196)
    have E203 := (Evo.then0 E166 (Step.evo s196))
    refine o_appX (R := r_rectoref11_Edit) (X := X195) (B := w.heap.size) (L := out71) (M := [(S_rectoref11_Edit.mk ((lget l i76).Op) ((lget l i76).Line))]) rfl elT41 rfl E203.size O202 (OS.src O197) O197.1 (by kernel_rfl) (by kernel_rfl) h201 ?_
    intro a204 n205 c206 w207 X208 s209 O210 gr211
    refine ⟨fun h => absurd h (by decide), ?_⟩
    refine r_ready [14] (by kernel_rfl) rfl (all_cons ⟨_, _, _, _, _, _, rfl, ?_⟩ all_nil)
    refine o_pv (.slice a204 n205 c206) rfl (by kernel_rfl) ?_
    refine ⟨fun h => absurd h (by decide), ?_⟩
    refine r_done (by kernel_rfl) ?_
    refine blk_normal ?_
    refine then_normal (K159 _ _ _ _ ?_)
    refine reg_ ?_
    refine sq (o_pv (.int .i64 i76) rfl (by kernel_rfl) ?_)
    obtain ⟨h212, hp⟩ := hp
    refine sq (o_pv (.int .i64 (i76 + (1 : Int))) rfl (x_add2 (k := .i64) (a := i76) (b := (1 : Int)) (i76 + (1 : Int)) (by kernel_rfl) (by kernel_rfl) (wrap_inR h212)) ?_)
    refine sq (o_pv (.int .i64 (i76 + (1 : Int))) rfl (by kernel_rfl) ?_)
    refine nil_ ?_
    have E213 := (Evo.thenW E203 (Step.evo s209) O202.2.2)
    have hXo214 := (Old.step (Old.step hXo167 s196) s209)
    have hS215 := (Sub.trans (Sub.trans hS168 (Step.up s196)) (Step.up s209))
    have hl216 := (Sl.step (Sl.step hl169 s196) s209)
    refine then_normal (hA151 _ _ _ ⟨_, [(3, (.slice a204 n205 c206)), (4, (.int .i64 (i76 + (1 : Int))))], hp.2, fit_mk (AgB.mix _ _ _) (by kernel_rfl) (vs_cons (by kernel_rfl) (vs_cons (by kernel_rfl) vs_nil)), ?_⟩)
    exact ⟨X208, (out71 ++ ([(S_rectoref11_Edit.mk ((lget l i76).Op) ((lget l i76).Line))])), (i76 + (1 : Int)), a204, n205, c206, rfl, rfl, E213, hXo214, hS215, hl216, O210, h212, hp.1⟩
  ·
    replace hp := hp.2 h158
    refine wp_exit ?_
    refine then_exit ?_
    refine then_exit ?_
    refine blk_exit ?_
    refine then_normal (K6 _ _ _ _ ?_)
    refine seq_ (fun _ K217 => ?_)
    refine reg_ ?_
    refine sq (o_pv (.slice a72 n73 c74) rfl (by kernel_rfl) ?_)
    refine sq (o_pv (.slice a72 n73 c74) rfl (by kernel_rfl) ?_)
    refine nil_ ?_
    refine then_normal (K217 _ _ _ _ ?_)
    refine wp_ret ?_
    refine end_ret hQ (.slice a72 n73 c74) (by kernel_rfl) ?_
    exact ⟨out71, hp, E152, a72, c74, (by (rw [show n73 = out71.length from O75.1]); first | done | rfl), (OS.out O75 hS154 hX0)⟩

def rectolaw12_Of_p (h : (List S_patch_Hunk)) (Q : (List S_rectoref11_Hunk) → Prop) : Prop :=
  ((h.length ≤ 9223372036854775807) → (∃ (I279 : (List S_rectoref11_Hunk) → Int → Prop) (m280 : (List S_rectoref11_Hunk) → Int → Nat), (I279 ([] : List S_rectoref11_Hunk) (0 : Int)) ∧ (∀ (out139 : (List S_rectoref11_Hunk)) (i144 : Int), (I279 out139 i144) → (out139.length ≤ 9223372036854775807) → (inR .i64 i144) → (((i144 < (h.length : Int)) → ((inL h i144) ∧ ((inR .i64 ((lget h i144).At)) → ((inR .i64 ((lget h i144).Del)) → ((inR .i64 ((lget h i144).To)) → ((inR .i64 ((lget h i144).Add)) → ((((lget h i144).Lines).length ≤ 9223372036854775807) → ((inL h i144) ∧ ((inR .i64 ((lget h i144).At)) → ((inR .i64 ((lget h i144).Del)) → ((inR .i64 ((lget h i144).To)) → ((inR .i64 ((lget h i144).Add)) → ((((lget h i144).Lines).length ≤ 9223372036854775807) → ((inL h i144) ∧ ((inR .i64 ((lget h i144).At)) → ((inR .i64 ((lget h i144).Del)) → ((inR .i64 ((lget h i144).To)) → ((inR .i64 ((lget h i144).Add)) → ((((lget h i144).Lines).length ≤ 9223372036854775807) → ((inL h i144) ∧ ((inR .i64 ((lget h i144).At)) → ((inR .i64 ((lget h i144).Del)) → ((inR .i64 ((lget h i144).To)) → ((inR .i64 ((lget h i144).Add)) → ((((lget h i144).Lines).length ≤ 9223372036854775807) → ((inL h i144) ∧ ((inR .i64 ((lget h i144).At)) → ((inR .i64 ((lget h i144).Del)) → ((inR .i64 ((lget h i144).To)) → ((inR .i64 ((lget h i144).Add)) → ((((lget h i144).Lines).length ≤ 9223372036854775807) → (rectolaw11_Of_p ((lget h i144).Lines) (fun (r388 : (List S_rectoref11_Edit)) => ((r388.length ≤ 9223372036854775807) → (((out139.length + ([(S_rectoref11_Hunk.mk ((lget h i144).At) ((lget h i144).Del) ((lget h i144).To) ((lget h i144).Add) r388)]).length) * 56 ≤ 140737488355328) ∧ (∀ l417 : List S_rectoref11_Hunk, l417 = (out139 ++ ([(S_rectoref11_Hunk.mk ((lget h i144).At) ((lget h i144).Del) ((lget h i144).To) ((lget h i144).Add) r388)])) → ((inR .i64 (i144 + (1 : Int))) ∧ ((I279 l417 (i144 + (1 : Int))) ∧ m280 l417 (i144 + (1 : Int)) < m280 out139 i144)))))))))))))))))))))))))))))))))))))) ∧ ((¬ (i144 < (h.length : Int))) → Q out139)))))
set_option maxRecDepth 20000 in
set_option maxHeartbeats 4000000 in
theorem rectolaw12_Of_w {X : List Nat} {w : World} {h : (List S_patch_Hunk)} {ah1 : Option Addr} {ch2 : Nat} {Q : (List S_rectoref11_Hunk) → Prop} (hX0 : Old X w) (hh3 : Sl r_patch_Hunk X w ah1 ch2 h) (hp : rectolaw12_Of_p h Q) :
    Calls Tryd.prog 31 #[(.slice ah1 h.length ch2)] w (Ret fun v w' => ∃ (r0 : (List S_rectoref11_Hunk)), Q r0 ∧ Evo [] w w' ∧ ∃ (aq01 : Option Addr) (cq02 : Nat), v = (.slice aq01 r0.length cq02) ∧ Sl r_rectoref11_Hunk X w' aq01 cq02 r0) := by
  have hXo := hX0
  have E0 : Evo [] w w := RB.refl _ _ _
  have hS : Sub X X := Sub.refl _
  unfold rectolaw12_Of_p at hp
  refine enter_ Tryd.func31 rfl 42 [(0, (.slice ah1 h.length ch2))] (by kernel_rfl) (fun Qe hQ => ?_)
  replace hp := hp (Sl.len hh3)
  refine seq_ (fun _ K4 => ?_)
  refine reg_ ?_
  refine sq (o_pv (.slice none 0 0) rfl (by kernel_rfl) ?_)
  refine nil_ ?_
  refine then_normal (K4 _ _ _ _ ?_)
  refine seq_ (fun _ K5 => ?_)
  refine reg_ ?_
  refine sq (o_pv (.slice none 0 0) rfl (by kernel_rfl) ?_)
  refine nil_ ?_
  refine then_normal (K5 _ _ _ _ ?_)
  refine seq_ (fun _ K6 => ?_)
  refine seq_ (fun _ K7 => ?_)
  refine reg_ ?_
  refine sq (o_pv (.int .i64 (0 : Int)) rfl (by kernel_rfl) ?_)
  refine nil_ ?_
  refine then_normal (K7 _ _ _ _ ?_)
  refine wp_block ?_
  obtain ⟨I279, m280, hI281, hp⟩ := hp
  refine loop_ 2199023255544 (fun kq lq w283 => ∃ (X284 : List Nat) (out139 : (List S_rectoref11_Hunk)) (i144 : Int) (a140 : Option Addr) (n141 : Nat) (c142 : Nat), (lq = [(3, (.slice a140 n141 c142)), (4, (.int .i64 i144))]) ∧ (kq = m280 out139 i144) ∧ (Evo [] w w283) ∧ (Old X284 w283) ∧ (Sub X X284) ∧ (Sl r_patch_Hunk X284 w283 ah1 ch2 h) ∧ (OS r_rectoref11_Hunk ([]) w.heap.size X284 w283 130 a140 n141 c142 out139) ∧ (inR .i64 i144) ∧ (I279 out139 i144)) (m280 ([] : List S_rectoref11_Hunk) (0 : Int)) [(3, (.slice none 0 0)), (4, (.int .i64 (0 : Int)))] (vs_cons (by kernel_rfl) (vs_cons (by kernel_rfl) vs_nil)) ⟨X, ([] : List S_rectoref11_Hunk), (0 : Int), none, 0, 0, rfl, rfl, E0, hXo, hS, hh3, (OS.nil _ _ _ _), (by decide), hI281⟩ ?_
  rintro _ _ w283 g286 ⟨X284, out139, i144, a140, n141, c142, rfl, rfl, E289, hXo290, hS291, hh292, O143, ri145, hI282⟩ Kl287 hA288
  replace hp := hp out139 i144 hI282 (OS.len O143) ri145
  refine seq_ (fun _ K293 => ?_)
  refine seq_ (fun _ K294 => ?_)
  refine reg_ ?_
  refine sq (o_pv (.int .i64 i144) rfl (by kernel_rfl) ?_)
  refine sq (o_pv (.slice ah1 h.length ch2) rfl (by kernel_rfl) ?_)
  refine sq (o_pv (.int .i64 (h.length : Int)) rfl (by kernel_rfl) ?_)
  refine sq (o_pv (.bool (decide (i144 < (h.length : Int)))) rfl (by kernel_rfl) ?_)
  refine nil_ ?_
  refine then_normal (K294 _ _ _ _ ?_)
  refine cond_d (i144 < (h.length : Int)) (by kernel_rfl) (fun h295 => ?_) (fun h295 => ?_)
  ·
    replace hp := hp.1 h295
    refine wp_skip ?_
    refine then_normal (K293 _ _ _ _ ?_)
    refine seq_ (fun _ K296 => ?_)
    refine wp_block ?_
    refine reg_drawn (RB w283.heap.size []) 29 (by kernel_rfl) (fun w297 hd298 => ?_)
    have e299 := Evo.of_drew hd298
    have z300 : w297.heap.size = w283.heap.size := by rw [hd298]
    clear hd298
    have s302 := Step.of0 X284 e299
    have er301 := RB.refl w283.heap.size [] w297
    have E303 := (Evo.then0 E289 (Step.evo s302))
    have hXo304 := (Old.step hXo290 s302)
    have hS305 := (Sub.trans hS291 (Step.up s302))
    have hh306 := (Sl.step hh292 s302)
    have O307 := (OS.step0 O143 s302)
    refine r_take 0 (.slice a140 n141 c142) (RB.pre _ _) rfl (by kernel_rfl) (fun _ _ _ h => hQ.panic _ _ _ _ _ h) (.inl ⟨rfl, fun wq hq => (by kernel_rfl)⟩) ?_
    refine r_take 1 (.slice ah1 h.length ch2) (RB.pre _ _) rfl (by kernel_rfl) (fun _ _ _ h => hQ.panic _ _ _ _ _ h) (.inl ⟨rfl, fun wq hq => (by kernel_rfl)⟩) ?_
    refine r_take 2 (.int .i64 i144) (RB.pre _ _) rfl (by kernel_rfl) (fun _ _ _ h => hQ.panic _ _ _ _ _ h) (.inl ⟨rfl, fun wq hq => (by kernel_rfl)⟩) ?_
    obtain ⟨h308, hp⟩ := hp
    obtain ⟨b309, o310, cs311, ha312, nx313, lt314, ok315, hc316⟩ := Sl.atI hh306 i144 h308
    obtain ⟨aeLines321, ceLines322, rfl, reAt317, reDel318, reTo319, reAdd320, heLines323⟩ := r_patch_Hunk_open ok315
    replace hp := hp reAt317
    replace hp := hp reDel318
    replace hp := hp reTo319
    replace hp := hp reAdd320
    replace hp := hp (Sl.len heLines323)
    refine r_take 3 (.pointer (some ⟨b309, o310 + i144.toNat * 5, none⟩)) (RB.pre _ _) rfl (by kernel_rfl) (fun _ _ _ h => hQ.panic _ _ _ _ _ h) (.inl ⟨rfl, fun wq hq => (x_ixA (m := h.length) (c := ch2) (k := .i64) (i := i144) Tryd.underlying44 Tryd.sizeOf62 (by rw [← ha312]; kernel_rfl) (by kernel_rfl) h308)⟩) ?_
    refine r_take 4 (.pointer (some ⟨b309, o310 + i144.toNat * 5, none⟩)) (RB.pre _ _) rfl (by kernel_rfl) (fun _ _ _ h => hQ.panic _ _ _ _ _ h) (.inl ⟨rfl, fun wq hq => (by kernel_rfl)⟩) ?_
    refine r_take 5 (.int .i64 ((lget h i144).At)) (RB.pre _ _) rfl (by kernel_rfl) (fun _ _ _ h => hQ.panic _ _ _ _ _ h) (.inl ⟨rfl, fun wq hq => (x_load1 (by kernel_rfl) Tryd.isAgg3 ((CellsAt.rb hc316 (RB.trans er301 hq) (Nat.lt_of_lt_of_eq lt314 z300) (fun h => by cases h)) 0 _ rfl))⟩) ?_
    refine r_take 6 (.slice ah1 h.length ch2) (RB.pre _ _) rfl (by kernel_rfl) (fun _ _ _ h => hQ.panic _ _ _ _ _ h) (.inl ⟨rfl, fun wq hq => (by kernel_rfl)⟩) ?_
    refine r_take 7 (.int .i64 i144) (RB.pre _ _) rfl (by kernel_rfl) (fun _ _ _ h => hQ.panic _ _ _ _ _ h) (.inl ⟨rfl, fun wq hq => (by kernel_rfl)⟩) ?_
    obtain ⟨h324, hp⟩ := hp
    obtain ⟨b325, o326, cs327, ha328, nx329, lt330, ok331, hc332⟩ := Sl.atI hh306 i144 h324
    obtain ⟨aeLines337, ceLines338, rfl, reAt333, reDel334, reTo335, reAdd336, heLines339⟩ := r_patch_Hunk_open ok331
    replace hp := hp reAt333
    replace hp := hp reDel334
    replace hp := hp reTo335
    replace hp := hp reAdd336
    replace hp := hp (Sl.len heLines339)
    refine r_take 8 (.pointer (some ⟨b325, o326 + i144.toNat * 5, none⟩)) (RB.pre _ _) rfl (by kernel_rfl) (fun _ _ _ h => hQ.panic _ _ _ _ _ h) (.inl ⟨rfl, fun wq hq => (x_ixA (m := h.length) (c := ch2) (k := .i64) (i := i144) Tryd.underlying44 Tryd.sizeOf62 (by rw [← ha328]; kernel_rfl) (by kernel_rfl) h324)⟩) ?_
    refine r_take 9 (.pointer (some ⟨b325, o326 + i144.toNat * 5 + 1, none⟩)) (RB.pre _ _) rfl (by kernel_rfl) (fun _ _ _ h => hQ.panic _ _ _ _ _ h) (.inl ⟨rfl, fun wq hq => (by kernel_rfl)⟩) ?_
    refine r_take 10 (.int .i64 ((lget h i144).Del)) (RB.pre _ _) rfl (by kernel_rfl) (fun _ _ _ h => hQ.panic _ _ _ _ _ h) (.inl ⟨rfl, fun wq hq => (x_load1 (by kernel_rfl) Tryd.isAgg3 ((CellsAt.rb hc332 (RB.trans er301 hq) (Nat.lt_of_lt_of_eq lt330 z300) (fun h => by cases h)) 1 _ rfl))⟩) ?_
    refine r_take 11 (.slice ah1 h.length ch2) (RB.pre _ _) rfl (by kernel_rfl) (fun _ _ _ h => hQ.panic _ _ _ _ _ h) (.inl ⟨rfl, fun wq hq => (by kernel_rfl)⟩) ?_
    refine r_take 12 (.int .i64 i144) (RB.pre _ _) rfl (by kernel_rfl) (fun _ _ _ h => hQ.panic _ _ _ _ _ h) (.inl ⟨rfl, fun wq hq => (by kernel_rfl)⟩) ?_
    obtain ⟨h340, hp⟩ := hp
    obtain ⟨b341, o342, cs343, ha344, nx345, lt346, ok347, hc348⟩ := Sl.atI hh306 i144 h340
    obtain ⟨aeLines353, ceLines354, rfl, reAt349, reDel350, reTo351, reAdd352, heLines355⟩ := r_patch_Hunk_open ok347
    replace hp := hp reAt349
    replace hp := hp reDel350
    replace hp := hp reTo351
    replace hp := hp reAdd352
    replace hp := hp (Sl.len heLines355)
    refine r_take 13 (.pointer (some ⟨b341, o342 + i144.toNat * 5, none⟩)) (RB.pre _ _) rfl (by kernel_rfl) (fun _ _ _ h => hQ.panic _ _ _ _ _ h) (.inl ⟨rfl, fun wq hq => (x_ixA (m := h.length) (c := ch2) (k := .i64) (i := i144) Tryd.underlying44 Tryd.sizeOf62 (by rw [← ha344]; kernel_rfl) (by kernel_rfl) h340)⟩) ?_
    refine r_take 14 (.pointer (some ⟨b341, o342 + i144.toNat * 5 + 2, none⟩)) (RB.pre _ _) rfl (by kernel_rfl) (fun _ _ _ h => hQ.panic _ _ _ _ _ h) (.inl ⟨rfl, fun wq hq => (by kernel_rfl)⟩) ?_
    refine r_take 15 (.int .i64 ((lget h i144).To)) (RB.pre _ _) rfl (by kernel_rfl) (fun _ _ _ h => hQ.panic _ _ _ _ _ h) (.inl ⟨rfl, fun wq hq => (x_load1 (by kernel_rfl) Tryd.isAgg3 ((CellsAt.rb hc348 (RB.trans er301 hq) (Nat.lt_of_lt_of_eq lt346 z300) (fun h => by cases h)) 2 _ rfl))⟩) ?_
    refine r_take 16 (.slice ah1 h.length ch2) (RB.pre _ _) rfl (by kernel_rfl) (fun _ _ _ h => hQ.panic _ _ _ _ _ h) (.inl ⟨rfl, fun wq hq => (by kernel_rfl)⟩) ?_
    refine r_take 17 (.int .i64 i144) (RB.pre _ _) rfl (by kernel_rfl) (fun _ _ _ h => hQ.panic _ _ _ _ _ h) (.inl ⟨rfl, fun wq hq => (by kernel_rfl)⟩) ?_
    obtain ⟨h356, hp⟩ := hp
    obtain ⟨b357, o358, cs359, ha360, nx361, lt362, ok363, hc364⟩ := Sl.atI hh306 i144 h356
    obtain ⟨aeLines369, ceLines370, rfl, reAt365, reDel366, reTo367, reAdd368, heLines371⟩ := r_patch_Hunk_open ok363
    replace hp := hp reAt365
    replace hp := hp reDel366
    replace hp := hp reTo367
    replace hp := hp reAdd368
    replace hp := hp (Sl.len heLines371)
    refine r_take 18 (.pointer (some ⟨b357, o358 + i144.toNat * 5, none⟩)) (RB.pre _ _) rfl (by kernel_rfl) (fun _ _ _ h => hQ.panic _ _ _ _ _ h) (.inl ⟨rfl, fun wq hq => (x_ixA (m := h.length) (c := ch2) (k := .i64) (i := i144) Tryd.underlying44 Tryd.sizeOf62 (by rw [← ha360]; kernel_rfl) (by kernel_rfl) h356)⟩) ?_
    refine r_take 19 (.pointer (some ⟨b357, o358 + i144.toNat * 5 + 3, none⟩)) (RB.pre _ _) rfl (by kernel_rfl) (fun _ _ _ h => hQ.panic _ _ _ _ _ h) (.inl ⟨rfl, fun wq hq => (by kernel_rfl)⟩) ?_
    refine r_take 20 (.int .i64 ((lget h i144).Add)) (RB.pre _ _) rfl (by kernel_rfl) (fun _ _ _ h => hQ.panic _ _ _ _ _ h) (.inl ⟨rfl, fun wq hq => (x_load1 (by kernel_rfl) Tryd.isAgg3 ((CellsAt.rb hc364 (RB.trans er301 hq) (Nat.lt_of_lt_of_eq lt362 z300) (fun h => by cases h)) 3 _ rfl))⟩) ?_
    refine r_take 21 (.slice ah1 h.length ch2) (RB.pre _ _) rfl (by kernel_rfl) (fun _ _ _ h => hQ.panic _ _ _ _ _ h) (.inl ⟨rfl, fun wq hq => (by kernel_rfl)⟩) ?_
    refine r_take 22 (.int .i64 i144) (RB.pre _ _) rfl (by kernel_rfl) (fun _ _ _ h => hQ.panic _ _ _ _ _ h) (.inl ⟨rfl, fun wq hq => (by kernel_rfl)⟩) ?_
    obtain ⟨h372, hp⟩ := hp
    obtain ⟨b373, o374, cs375, ha376, nx377, lt378, ok379, hc380⟩ := Sl.atI hh306 i144 h372
    obtain ⟨aeLines385, ceLines386, rfl, reAt381, reDel382, reTo383, reAdd384, heLines387⟩ := r_patch_Hunk_open ok379
    replace hp := hp reAt381
    replace hp := hp reDel382
    replace hp := hp reTo383
    replace hp := hp reAdd384
    replace hp := hp (Sl.len heLines387)
    refine r_take 23 (.pointer (some ⟨b373, o374 + i144.toNat * 5, none⟩)) (RB.pre _ _) rfl (by kernel_rfl) (fun _ _ _ h => hQ.panic _ _ _ _ _ h) (.inl ⟨rfl, fun wq hq => (x_ixA (m := h.length) (c := ch2) (k := .i64) (i := i144) Tryd.underlying44 Tryd.sizeOf62 (by rw [← ha376]; kernel_rfl) (by kernel_rfl) h372)⟩) ?_
    refine r_take 24 (.pointer (some ⟨b373, o374 + i144.toNat * 5 + 4, none⟩)) (RB.pre _ _) rfl (by kernel_rfl) (fun _ _ _ h => hQ.panic _ _ _ _ _ h) (.inl ⟨rfl, fun wq hq => (by kernel_rfl)⟩) ?_
    refine r_take 25 (.slice aeLines385 (((lget h i144).Lines).length) ceLines386) (RB.pre _ _) rfl (by kernel_rfl) (fun _ _ _ h => hQ.panic _ _ _ _ _ h) (.inl ⟨rfl, fun wq hq => (x_load1 (by kernel_rfl) Tryd.isAgg46 ((CellsAt.rb hc380 (RB.trans er301 hq) (Nat.lt_of_lt_of_eq lt378 z300) (fun h => by cases h)) 4 _ rfl))⟩) ?_
    refine r_ready [26] (by kernel_rfl) rfl (all_cons ⟨_, _, _, _, _, _, rfl, ?_⟩ all_nil)
    refine o_call 77 #[(.slice aeLines385 ((lget h i144).Lines).length ceLines386)] rfl (x_call Tryd.call77 (by rw []; kernel_rfl)) (rectolaw11_Of_w (X := X284) (l := (lget h i144).Lines) hXo304 heLines387 hp) ?_
    rintro _ w389 ⟨r388, hp, e390, ar392, cr393, rfl, hr394⟩
    have rm := RB.mono (F' := []) e390 (Nat.le_trans (Nat.le_of_eq z300.symm) (RB.size er301)) (fun _ h => by cases h)
    have er395 := RB.trans er301 rm
    refine ⟨fun _ => rm, ?_⟩
    have s391 := Step.of0 X284 e390
    replace hp := hp (Sl.len hr394)
    refine r_take 27 (.agg #[(.int .i64 ((lget h i144).At)), (.int .i64 ((lget h i144).Del)), (.int .i64 ((lget h i144).To)), (.int .i64 ((lget h i144).Add)), (.slice ar392 r388.length cr393)]) (RB.pre _ _) rfl (by kernel_rfl) (fun _ _ _ h => hQ.panic _ _ _ _ _ h) (.inl ⟨rfl, fun wq hq => (by kernel_rfl)⟩) ?_
    refine r_ready [28] (by kernel_rfl) rfl (all_cons ⟨_, _, _, _, _, _, rfl, ?_⟩ all_nil)
    have O396 := (OS.step0 O307 s391)
    have E403 := (Evo.then0 E303 e390)
    refine o_rowX (R := r_rectoref11_Hunk) [(.int .i64 ((lget h i144).At)), (.int .i64 ((lget h i144).Del)), (.int .i64 ((lget h i144).To)), (.int .i64 ((lget h i144).Add)), (.slice ar392 r388.length cr393)] [(S_rectoref11_Hunk.mk ((lget h i144).At) ((lget h i144).Del) ((lget h i144).To) ((lget h i144).Add) r388)] 130 1 (X := X284) (B := w.heap.size) E403.size rfl (by kernel_rfl) (Flat.cons (cs := [(.int .i64 ((lget h i144).At)), (.int .i64 ((lget h i144).Del)), (.int .i64 ((lget h i144).To)), (.int .i64 ((lget h i144).Add)), (.slice ar392 r388.length cr393)]) (r_rectoref11_Hunk_mk reAt317 reDel334 reTo351 reAdd368 hr394 rfl) Flat.nil) rfl (by decide) ?_
    intro b397 w398 X399 s400 O401 n402
    have rm := RB.mono (F' := []) (Step.evo s400) (Nat.le_trans (Nat.le_of_eq z300.symm) (RB.size er395)) (fun _ h => by cases h)
    have er404 := RB.trans er395 rm
    refine ⟨fun _ => rm, ?_⟩
    have p405 := n402 _ (OS.old O396)
    refine r_ready [29] (by kernel_rfl) rfl (all_cons ⟨_, _, _, _, _, _, rfl, ?_⟩ all_nil)
    obtain ⟨h406, hp⟩ := hp
    have O407 := (OS.step0 O396 s400)
    have E408 := (Evo.then0 E403 (Step.evo s400))
    refine o_appX (R := r_rectoref11_Hunk) (X := X399) (B := w.heap.size) (L := out139) (M := [(S_rectoref11_Hunk.mk ((lget h i144).At) ((lget h i144).Del) ((lget h i144).To) ((lget h i144).Add) r388)]) rfl elT48 rfl E408.size O407 (OS.src O401) O401.1 (by kernel_rfl) (by kernel_rfl) h406 ?_
    intro a409 n410 c411 w412 X413 s414 O415 gr416
    refine ⟨fun h => absurd h (by decide), ?_⟩
    obtain ⟨l417, ql417⟩ : ∃ y, y = (out139 ++ ([(S_rectoref11_Hunk.mk ((lget h i144).At) ((lget h i144).Del) ((lget h i144).To) ((lget h i144).Add) r388)])) := ⟨_, rfl⟩
    replace hp := hp l417 ql417
    rw [← ql417] at O415
    refine r_ready [30] (by kernel_rfl) rfl (all_cons ⟨_, _, _, _, _, _, rfl, ?_⟩ all_nil)
    refine o_pv (.slice a409 n410 c411) rfl (by kernel_rfl) ?_
    refine ⟨fun h => absurd h (by decide), ?_⟩
    refine r_done (by kernel_rfl) ?_
    refine blk_normal ?_
    refine then_normal (K296 _ _ _ _ ?_)
    refine reg_ ?_
    refine sq (o_pv (.int .i64 i144) rfl (by kernel_rfl) ?_)
    obtain ⟨h418, hp⟩ := hp
    refine sq (o_pv (.int .i64 (i144 + (1 : Int))) rfl (x_add2 (k := .i64) (a := i144) (b := (1 : Int)) (i144 + (1 : Int)) (by kernel_rfl) (by kernel_rfl) (wrap_inR h418)) ?_)
    refine sq (o_pv (.int .i64 (i144 + (1 : Int))) rfl (by kernel_rfl) ?_)
    refine nil_ ?_
    have E419 := (Evo.thenW E408 (Step.evo s414) O407.2.2)
    have hXo420 := (Old.step (Old.step (Old.step hXo304 s391) s400) s414)
    have hS421 := (Sub.trans (Sub.trans (Sub.trans hS305 (Step.up s391)) (Step.up s400)) (Step.up s414))
    have hh422 := (Sl.step (Sl.step (Sl.step hh306 s391) s400) s414)
    refine then_normal (hA288 _ _ _ ⟨_, [(3, (.slice a409 n410 c411)), (4, (.int .i64 (i144 + (1 : Int))))], hp.2, fit_mk (AgB.mix _ _ _) (by kernel_rfl) (vs_cons (by kernel_rfl) (vs_cons (by kernel_rfl) vs_nil)), ?_⟩)
    exact ⟨X413, l417, (i144 + (1 : Int)), a409, n410, c411, rfl, rfl, E419, hXo420, hS421, hh422, O415, h418, hp.1⟩
  ·
    replace hp := hp.2 h295
    refine wp_exit ?_
    refine then_exit ?_
    refine then_exit ?_
    refine blk_exit ?_
    refine then_normal (K6 _ _ _ _ ?_)
    refine seq_ (fun _ K423 => ?_)
    refine reg_ ?_
    refine sq (o_pv (.slice a140 n141 c142) rfl (by kernel_rfl) ?_)
    refine sq (o_pv (.slice a140 n141 c142) rfl (by kernel_rfl) ?_)
    refine nil_ ?_
    refine then_normal (K423 _ _ _ _ ?_)
    refine wp_ret ?_
    refine end_ret hQ (.slice a140 n141 c142) (by kernel_rfl) ?_
    exact ⟨out139, hp, E289, a140, c142, (by (rw [show n141 = out139.length from O143.1]); first | done | rfl), (OS.out O143 hS291 hX0)⟩

def rectoref11_hunk_p (a : (List ByteArray)) (h : S_rectoref11_Hunk) (end_ : Int) (shift : Int) (Q : Int → Prop) : Prop :=
  ((a.length ≤ 9223372036854775807) → ((inR .i64 h.At) → ((inR .i64 h.Del) → ((inR .i64 h.To) → ((inR .i64 h.Add) → ((h.Lines.length ≤ 9223372036854775807) → ((inR .i64 end_) → ((inR .i64 shift) → (∃ (I107 : Int → Int → Int → Prop) (m108 : Int → Int → Int → Nat), (I107 (0 : Int) (0 : Int) (0 : Int)) ∧ (∀ (del24 : Int) (add26 : Int) (i28 : Int), (I107 del24 add26 i28) → (inR .i64 del24) → (inR .i64 add26) → (inR .i64 i28) → (((i28 < (h.Lines.length : Int)) → (∃ k160 : Int → Int → Prop, (∀ (del156 : Int) (add158 : Int), k160 del156 add158 → (inR .i64 del156) → (inR .i64 add158) → ((inR .i64 (i28 + (1 : Int))) ∧ ((I107 del156 add158 (i28 + (1 : Int))) ∧ m108 del156 add158 (i28 + (1 : Int)) < m108 del24 add26 i28))) ∧ ((inL h.Lines i28) ∧ ((inR .i64 ((lget h.Lines i28).Op)) → ((((lget h.Lines i28).Line).size ≤ maxLen) → (((((lget h.Lines i28).Op) = (1 : Int)) → ((inR .i64 (del24 + (1 : Int))) ∧ ((inR .i64 (add26 + (1 : Int))) ∧ (k160 (del24 + (1 : Int)) (add26 + (1 : Int)))))) ∧ ((¬ (((lget h.Lines i28).Op) = (1 : Int))) → (((((lget h.Lines i28).Op) = (2 : Int)) → ((inR .i64 (del24 + (1 : Int))) ∧ (k160 (del24 + (1 : Int)) add26))) ∧ ((¬ (((lget h.Lines i28).Op) = (2 : Int))) → (((((lget h.Lines i28).Op) = (3 : Int)) → ((inR .i64 (add26 + (1 : Int))) ∧ (k160 del24 (add26 + (1 : Int))))) ∧ ((¬ (((lget h.Lines i28).Op) = (3 : Int))) → Q (2 : Int)))))))))))) ∧ ((¬ (i28 < (h.Lines.length : Int))) → ((((h.At < end_) → True) ∧ ((¬ (h.At < end_)) → (((h.Del = del24) → (((h.Add = add26) → ((inR .i64 (h.To - h.At)) ∧ ((((h.To - h.At) = shift) → True) ∧ ((¬ ((h.To - h.At) = shift)) → True)))) ∧ ((¬ (h.Add = add26)) → True))) ∧ ((¬ (h.Del = del24)) → True)))) ∧ ((((h.At < end_) ∨ ((¬ (h.Del = del24)) ∨ ((¬ (h.Add = add26)) ∨ ((¬ ((h.To - h.At) = shift)) ∨ (h.To < (0 : Int)))))) → Q (1 : Int)) ∧ ((¬ ((h.At < end_) ∨ ((¬ (h.Del = del24)) ∨ ((¬ (h.Add = add26)) ∨ ((¬ ((h.To - h.At) = shift)) ∨ (h.To < (0 : Int))))))) → ((((h.At > (a.length : Int)) → True) ∧ ((¬ (h.At > (a.length : Int))) → ((inR .i64 ((a.length : Int) - h.At)) ∧ True))) ∧ ((((h.At > (a.length : Int)) ∨ (h.Del > ((a.length : Int) - h.At))) → Q (4 : Int)) ∧ ((¬ ((h.At > (a.length : Int)) ∨ (h.Del > ((a.length : Int) - h.At)))) → (∃ (I365 : Int → Int → Prop) (m366 : Int → Int → Nat), (I365 h.At (0 : Int)) ∧ (∀ (at_232 : Int) (i234 : Int), (I365 at_232 i234) → (inR .i64 at_232) → (inR .i64 i234) → (((i234 < (h.Lines.length : Int)) → (∃ k439 : Int → Prop, (∀ (at_437 : Int), k439 at_437 → (inR .i64 at_437) → ((inR .i64 (i234 + (1 : Int))) ∧ ((I365 at_437 (i234 + (1 : Int))) ∧ m366 at_437 (i234 + (1 : Int)) < m366 at_232 i234))) ∧ ((inL h.Lines i234) ∧ ((inR .i64 ((lget h.Lines i234).Op)) → ((((lget h.Lines i234).Line).size ≤ maxLen) → (((((lget h.Lines i234).Op) = (3 : Int)) → (k439 at_232)) ∧ ((¬ (((lget h.Lines i234).Op) = (3 : Int))) → ((inL a at_232) ∧ (((lget a at_232).size ≤ maxLen) → ((inL h.Lines i234) ∧ ((inR .i64 ((lget h.Lines i234).Op)) → ((((lget h.Lines i234).Line).size ≤ maxLen) → (((¬ ((lget a at_232 : ByteArray) = (lget h.Lines i234).Line)) → Q (9 : Int)) ∧ (((lget a at_232 : ByteArray) = (lget h.Lines i234).Line) → ((inR .i64 (at_232 + (1 : Int))) ∧ (k439 (at_232 + (1 : Int)))))))))))))))))) ∧ ((¬ (i234 < (h.Lines.length : Int))) → Q (0 : Int)))))))))))))))))))))))
set_option maxRecDepth 20000 in
set_option maxHeartbeats 4000000 in
theorem rectoref11_hunk_w {X : List Nat} {w : World} {a : (List ByteArray)} {h : S_rectoref11_Hunk} {end_ : Int} {shift : Int} {aa1 : Option Addr} {ca2 : Nat} {ahLines8 : Option Addr} {chLines9 : Nat} {Q : Int → Prop} (hX0 : Old X w) (ha3 : Sl rStr X w aa1 ca2 a) (rhAt4 : inR .i64 h.At) (rhDel5 : inR .i64 h.Del) (rhTo6 : inR .i64 h.To) (rhAdd7 : inR .i64 h.Add) (hhLines10 : Sl r_rectoref11_Edit X w ahLines8 chLines9 h.Lines) (rend_11 : inR .i64 end_) (rshift12 : inR .i64 shift) (hp : rectoref11_hunk_p a h end_ shift Q) :
    Calls Tryd.prog 76 #[(.slice aa1 a.length ca2), (.agg #[(.int .i64 h.At), (.int .i64 h.Del), (.int .i64 h.To), (.int .i64 h.Add), (.slice ahLines8 h.Lines.length chLines9)]), (.int .i64 end_), (.int .i64 shift)] w (Ret fun v w' => ∃ (r0 : Int), Q r0 ∧ Evo [] w w' ∧ v = (.int .i64 r0) ∧ inR .i64 r0) := by
  have hXo := hX0
  have E0 : Evo [] w w := RB.refl _ _ _
  have hS : Sub X X := Sub.refl _
  unfold rectoref11_hunk_p at hp
  refine enter_ Tryd.func76 rfl 115 [(0, (.slice aa1 a.length ca2)), (1, (.agg #[(.int .i64 h.At), (.int .i64 h.Del), (.int .i64 h.To), (.int .i64 h.Add), (.slice ahLines8 h.Lines.length chLines9)])), (2, (.int .i64 end_)), (3, (.int .i64 shift))] (by kernel_rfl) (fun Qe hQ => ?_)
  replace hp := hp (Sl.len ha3)
  replace hp := hp rhAt4
  replace hp := hp rhDel5
  replace hp := hp rhTo6
  replace hp := hp rhAdd7
  replace hp := hp (Sl.len hhLines10)
  replace hp := hp rend_11
  replace hp := hp rshift12
  refine seq_ (fun _ K13 => ?_)
  refine reg_ ?_
  refine sq (o_newX [(.int .i64 h.At), (.int .i64 h.Del), (.int .i64 h.To), (.int .i64 h.Add), (.slice ahLines8 h.Lines.length chLines9)] 130 (X := X) (B := w.heap.size) E0.size rfl (by kernel_rfl) ?_)
  intro b14 w15 X16 s17 k18 n19
  refine sq (o_pv (.int .i64 (0 : Int)) rfl (by kernel_rfl) ?_)
  refine nil_ ?_
  refine then_normal (K13 _ _ _ _ ?_)
  refine seq_ (fun _ K20 => ?_)
  refine reg_ ?_
  refine sq (o_pv (.int .i64 (0 : Int)) rfl (by kernel_rfl) ?_)
  refine nil_ ?_
  refine then_normal (K20 _ _ _ _ ?_)
  refine seq_ (fun _ K21 => ?_)
  refine reg_ ?_
  refine sq (o_pv (.int .i64 (0 : Int)) rfl (by kernel_rfl) ?_)
  refine nil_ ?_
  refine then_normal (K21 _ _ _ _ ?_)
  refine seq_ (fun _ K22 => ?_)
  refine seq_ (fun _ K23 => ?_)
  refine reg_ ?_
  refine sq (o_pv (.int .i64 (0 : Int)) rfl (by kernel_rfl) ?_)
  refine nil_ ?_
  refine then_normal (K23 _ _ _ _ ?_)
  refine wp_block ?_
  have ha117 := (Sl.step ha3 s17)
  have hhLines118 := (Sl.step hhLines10 s17)
  have hXo119 := (Old.step hXo s17)
  have E120 := (Evo.then0 E0 (Step.evo s17))
  have hS121 := (Sub.trans hS (Step.up s17))
  obtain ⟨I107, m108, hI109, hp⟩ := hp
  refine loop_ 2199023243008 (fun kq lq w111 => ∃ (X112 : List Nat) (del24 : Int) (add26 : Int) (i28 : Int), (lq = [(9, (.int .i64 del24)), (10, (.int .i64 add26)), (11, (.int .i64 i28))]) ∧ (kq = m108 del24 add26 i28) ∧ (Evo [] w w111) ∧ (Old X112 w111) ∧ (Sub X X112) ∧ (Sl rStr X112 w111 aa1 ca2 a) ∧ (Sl r_rectoref11_Edit X112 w111 ahLines8 chLines9 h.Lines) ∧ (OB ([]) w.heap.size X112 w111 b14 [(.int .i64 h.At), (.int .i64 h.Del), (.int .i64 h.To), (.int .i64 h.Add), (.slice ahLines8 h.Lines.length chLines9)] 130) ∧ (inR .i64 del24) ∧ (inR .i64 add26) ∧ (inR .i64 i28) ∧ (I107 del24 add26 i28)) (m108 (0 : Int) (0 : Int) (0 : Int)) [(9, (.int .i64 (0 : Int))), (10, (.int .i64 (0 : Int))), (11, (.int .i64 (0 : Int)))] (vs_cons (by kernel_rfl) (vs_cons (by kernel_rfl) (vs_cons (by kernel_rfl) vs_nil))) ⟨X16, (0 : Int), (0 : Int), (0 : Int), rfl, rfl, E120, hXo119, hS121, ha117, hhLines118, k18, (by decide), (by decide), (by decide), hI109⟩ ?_
  rintro _ _ w111 g114 ⟨X112, del24, add26, i28, rfl, rfl, E122, hXo123, hS124, ha125, hhLines126, k127, rdel25, radd27, ri29, hI110⟩ Kl115 hA116
  replace hp := hp del24 add26 i28 hI110 rdel25 radd27 ri29
  refine seq_ (fun _ K128 => ?_)
  refine seq_ (fun _ K129 => ?_)
  refine reg_ ?_
  refine sq (o_pv (.int .i64 i28) rfl (by kernel_rfl) ?_)
  refine sq (o_pv (.pointer (some ⟨b14, 4, none⟩)) rfl (by kernel_rfl) ?_)
  refine sq (o_pv (.slice ahLines8 h.Lines.length chLines9) rfl (x_load1 (by kernel_rfl) Tryd.isAgg41 (k127.2.1.cell' 4 rfl)) ?_)
  refine sq (o_pv (.int .i64 (h.Lines.length : Int)) rfl (by kernel_rfl) ?_)
  refine sq (o_pv (.bool (decide (i28 < (h.Lines.length : Int)))) rfl (by kernel_rfl) ?_)
  refine nil_ ?_
  refine then_normal (K129 _ _ _ _ ?_)
  refine cond_d (i28 < (h.Lines.length : Int)) (by kernel_rfl) (fun h130 => ?_) (fun h130 => ?_)
  ·
    replace hp := hp.1 h130
    refine wp_skip ?_
    refine then_normal (K128 _ _ _ _ ?_)
    refine seq_ (fun _ K131 => ?_)
    obtain ⟨k160, hk161, hp⟩ := hp
    refine ground_ ?_
    refine join_ 2199021160192 (fun lq w162 => ∃ (X163 : List Nat) (del156 : Int) (add158 : Int), (lq = [(9, (.int .i64 del156)), (10, (.int .i64 add158))]) ∧ (Evo [] w w162) ∧ (Old X163 w162) ∧ (Sub X X163) ∧ (Sl rStr X163 w162 aa1 ca2 a) ∧ (Sl r_rectoref11_Edit X163 w162 ahLines8 chLines9 h.Lines) ∧ (OB ([]) w.heap.size X163 w162 b14 [(.int .i64 h.At), (.int .i64 h.Del), (.int .i64 h.To), (.int .i64 h.Add), (.slice ahLines8 h.Lines.length chLines9)] 130) ∧ (inR .i64 del156) ∧ (inR .i64 add158) ∧ (k160 del156 add158)) (fun Kj164 hJ165 => ?_) ?_
    ·
      refine wp_block ?_
      refine seq_ (fun _ K173 => ?_)
      refine reg_ ?_
      refine sq (o_pv (.pointer (some ⟨b14, 4, none⟩)) rfl (by kernel_rfl) ?_)
      refine sq (o_pv (.slice ahLines8 h.Lines.length chLines9) rfl (x_load1 (by kernel_rfl) Tryd.isAgg41 (k127.2.1.cell' 4 rfl)) ?_)
      refine sq (o_pv (.int .i64 i28) rfl (by kernel_rfl) ?_)
      obtain ⟨h174, hp⟩ := hp
      obtain ⟨b175, o176, cs177, ha178, nx179, lt180, ok181, hc182⟩ := Sl.atI hhLines126 i28 h174
      obtain ⟨rfl, reOp183, zeLine184⟩ := r_rectoref11_Edit_open ok181
      replace hp := hp reOp183
      replace hp := hp zeLine184
      refine sq (o_pv (.pointer (some ⟨b175, o176 + i28.toNat * 2, none⟩)) rfl (x_ixA (m := h.Lines.length) (c := chLines9) (k := .i64) (i := i28) Tryd.underlying41 Tryd.sizeOf124 (by rw [← ha178]; kernel_rfl) (by kernel_rfl) h174) ?_)
      refine sq (o_pv (.pointer (some ⟨b175, o176 + i28.toNat * 2, none⟩)) rfl (by kernel_rfl) ?_)
      refine sq (o_pv (.int .i64 ((lget h.Lines i28).Op)) rfl (x_load1 (by kernel_rfl) Tryd.isAgg3 (hc182 0 _ rfl)) ?_)
      refine nil_ ?_
      refine then_normal (K173 _ _ _ _ ?_)
      refine wp_block ?_
      refine seq_ (fun _ K185 => ?_)
      refine reg_ ?_
      refine sq (o_pv (.bool (decide (((lget h.Lines i28).Op) = (1 : Int)))) rfl (by kernel_rfl) ?_)
      refine sq (o_pv (.bool (decide (((lget h.Lines i28).Op) = (1 : Int)))) rfl (by kernel_rfl) ?_)
      refine nil_ ?_
      refine then_normal (K185 _ _ _ _ ?_)
      refine cond_d (((lget h.Lines i28).Op) = (1 : Int)) (by kernel_rfl) (fun h186 => ?_) (fun h186 => ?_)
      ·
        replace hp := hp.1 h186
        refine seq_ (fun _ K187 => ?_)
        refine reg_ ?_
        refine sq (o_pv (.int .i64 del24) rfl (by kernel_rfl) ?_)
        obtain ⟨h188, hp⟩ := hp
        refine sq (o_pv (.int .i64 (del24 + (1 : Int))) rfl (x_add2 (k := .i64) (a := del24) (b := (1 : Int)) (del24 + (1 : Int)) (by kernel_rfl) (by kernel_rfl) (wrap_inR h188)) ?_)
        refine sq (o_pv (.int .i64 (del24 + (1 : Int))) rfl (by kernel_rfl) ?_)
        refine nil_ ?_
        refine then_normal (K187 _ _ _ _ ?_)
        refine reg_ ?_
        refine sq (o_pv (.int .i64 add26) rfl (by kernel_rfl) ?_)
        obtain ⟨h189, hp⟩ := hp
        refine sq (o_pv (.int .i64 (add26 + (1 : Int))) rfl (x_add2 (k := .i64) (a := add26) (b := (1 : Int)) (add26 + (1 : Int)) (by kernel_rfl) (by kernel_rfl) (wrap_inR h189)) ?_)
        refine sq (o_pv (.int .i64 (add26 + (1 : Int))) rfl (by kernel_rfl) ?_)
        refine nil_ ?_
        refine blk_normal ?_
        refine blk_normal ?_
        refine then_normal (hJ165 _ _ _ ⟨[(9, (.int .i64 (del24 + (1 : Int)))), (10, (.int .i64 (add26 + (1 : Int))))], fit_mk (fun _ _ => rfl) (by kernel_rfl) (vs_cons (by kernel_rfl) (vs_cons (by kernel_rfl) vs_nil)), ?_⟩)
        exact ⟨X112, (del24 + (1 : Int)), (add26 + (1 : Int)), rfl, E122, hXo123, hS124, ha125, hhLines126, k127, h188, h189, hp⟩
      ·
        replace hp := hp.2 h186
        refine seq_ (fun _ K190 => ?_)
        refine reg_ ?_
        refine sq (o_pv (.bool (decide (((lget h.Lines i28).Op) = (2 : Int)))) rfl (by kernel_rfl) ?_)
        refine sq (o_pv (.bool (decide (((lget h.Lines i28).Op) = (2 : Int)))) rfl (by kernel_rfl) ?_)
        refine nil_ ?_
        refine then_normal (K190 _ _ _ _ ?_)
        refine cond_d (((lget h.Lines i28).Op) = (2 : Int)) (by kernel_rfl) (fun h191 => ?_) (fun h191 => ?_)
        ·
          replace hp := hp.1 h191
          refine reg_ ?_
          refine sq (o_pv (.int .i64 del24) rfl (by kernel_rfl) ?_)
          obtain ⟨h192, hp⟩ := hp
          refine sq (o_pv (.int .i64 (del24 + (1 : Int))) rfl (x_add2 (k := .i64) (a := del24) (b := (1 : Int)) (del24 + (1 : Int)) (by kernel_rfl) (by kernel_rfl) (wrap_inR h192)) ?_)
          refine sq (o_pv (.int .i64 (del24 + (1 : Int))) rfl (by kernel_rfl) ?_)
          refine nil_ ?_
          refine blk_normal ?_
          refine blk_normal ?_
          refine then_normal (hJ165 _ _ _ ⟨[(9, (.int .i64 (del24 + (1 : Int)))), (10, (.int .i64 add26))], fit_mk (fun _ _ => rfl) (by kernel_rfl) (vs_cons (by kernel_rfl) (vs_cons (by kernel_rfl) vs_nil)), ?_⟩)
          exact ⟨X112, (del24 + (1 : Int)), add26, rfl, E122, hXo123, hS124, ha125, hhLines126, k127, h192, radd27, hp⟩
        ·
          replace hp := hp.2 h191
          refine seq_ (fun _ K193 => ?_)
          refine reg_ ?_
          refine sq (o_pv (.bool (decide (((lget h.Lines i28).Op) = (3 : Int)))) rfl (by kernel_rfl) ?_)
          refine sq (o_pv (.bool (decide (((lget h.Lines i28).Op) = (3 : Int)))) rfl (by kernel_rfl) ?_)
          refine nil_ ?_
          refine then_normal (K193 _ _ _ _ ?_)
          refine cond_d (((lget h.Lines i28).Op) = (3 : Int)) (by kernel_rfl) (fun h194 => ?_) (fun h194 => ?_)
          ·
            replace hp := hp.1 h194
            refine reg_ ?_
            refine sq (o_pv (.int .i64 add26) rfl (by kernel_rfl) ?_)
            obtain ⟨h195, hp⟩ := hp
            refine sq (o_pv (.int .i64 (add26 + (1 : Int))) rfl (x_add2 (k := .i64) (a := add26) (b := (1 : Int)) (add26 + (1 : Int)) (by kernel_rfl) (by kernel_rfl) (wrap_inR h195)) ?_)
            refine sq (o_pv (.int .i64 (add26 + (1 : Int))) rfl (by kernel_rfl) ?_)
            refine nil_ ?_
            refine blk_normal ?_
            refine blk_normal ?_
            refine then_normal (hJ165 _ _ _ ⟨[(9, (.int .i64 del24)), (10, (.int .i64 (add26 + (1 : Int))))], fit_mk (fun _ _ => rfl) (by kernel_rfl) (vs_cons (by kernel_rfl) (vs_cons (by kernel_rfl) vs_nil)), ?_⟩)
            exact ⟨X112, del24, (add26 + (1 : Int)), rfl, E122, hXo123, hS124, ha125, hhLines126, k127, rdel25, h195, hp⟩
          ·
            replace hp := hp.2 h194
            refine seq_ (fun _ K196 => ?_)
            refine reg_ ?_
            refine sq (o_pv (.int .i64 (2 : Int)) rfl (by kernel_rfl) ?_)
            refine nil_ ?_
            refine then_normal (K196 _ _ _ _ ?_)
            refine wp_ret ?_
            refine blk_ret ?_
            refine blk_ret ?_
            refine then_ret ?_
            refine then_ret ?_
            refine then_ret ?_
            refine blk_ret ?_
            refine then_ret ?_
            refine end_ret hQ (.int .i64 (2 : Int)) (by kernel_rfl) ?_
            exact ⟨(2 : Int), hp, E122, rfl, (by decide)⟩
    ·
      rintro _ w162 g197 ⟨X163, del156, add158, rfl, E167, hXo168, hS169, ha170, hhLines171, k172, rdel157, radd159, hv166⟩
      replace hp := hk161 del156 add158 hv166 rdel157 radd159
      refine then_normal (K131 _ _ _ _ ?_)
      refine reg_ ?_
      refine sq (o_pv (.int .i64 i28) rfl (by kernel_rfl) ?_)
      obtain ⟨h198, hp⟩ := hp
      refine sq (o_pv (.int .i64 (i28 + (1 : Int))) rfl (x_add2 (k := .i64) (a := i28) (b := (1 : Int)) (i28 + (1 : Int)) (by kernel_rfl) (by kernel_rfl) (wrap_inR h198)) ?_)
      refine sq (o_pv (.int .i64 (i28 + (1 : Int))) rfl (by kernel_rfl) ?_)
      refine nil_ ?_
      refine then_normal (hA116 _ _ _ ⟨_, [(9, (.int .i64 del156)), (10, (.int .i64 add158)), (11, (.int .i64 (i28 + (1 : Int))))], hp.2, fit_mk (AgB.nest (AgB.look (AgB.mix _ _ _) (by kernel_rfl)) (by kernel_rfl) (by kernel_rfl)) (by kernel_rfl) (vs_cons (by kernel_rfl) (vs_cons (by kernel_rfl) (vs_cons (by kernel_rfl) vs_nil))), ?_⟩)
      exact ⟨X163, del156, add158, (i28 + (1 : Int)), rfl, rfl, E167, hXo168, hS169, ha170, hhLines171, k172, rdel157, radd159, h198, hp.1⟩
  ·
    replace hp := hp.2 h130
    refine wp_exit ?_
    refine then_exit ?_
    refine then_exit ?_
    refine blk_exit ?_
    refine then_normal (K22 _ _ _ _ ?_)
    refine seq_ (fun _ K199 => ?_)
    refine seq_ (fun _ K200 => ?_)
    obtain ⟨hp, hq⟩ := hp
    refine ground_ ?_
    refine join_ 2361183239235799351296 (fun lq w208 => lq = [(70, (.bool (decide ((h.At < end_) ∨ ((¬ (h.Del = del24)) ∨ ((¬ (h.Add = add26)) ∨ ((¬ ((h.To - h.At) = shift)) ∨ (h.To < (0 : Int)))))))))] ∧ w111 = w208) (fun Kj206 hJ207 => ?_) ?_
    ·
      refine reg_ ?_
      refine sq (o_pv (.pointer (some ⟨b14, 0, none⟩)) rfl (by kernel_rfl) ?_)
      refine sq (o_pv (.int .i64 h.At) rfl (x_load1 (by kernel_rfl) Tryd.isAgg3 (k127.2.1.cell' 0 rfl)) ?_)
      refine sq (o_pv (.int .i64 end_) rfl (by kernel_rfl) ?_)
      by_cases h210 : h.At < end_
      ·
        replace hp := hp.1 h210
        refine sq (o_pv (.bool true) rfl (x_dt (p := h.At < end_) (by kernel_rfl) h210) ?_)
        refine sq (o_pv (.bool true) rfl (by kernel_rfl) ?_)
        refine sq (o_not (by kernel_rfl) ?_)
        refine sq (o_not (by kernel_rfl) ?_)
        refine sq (o_not (by kernel_rfl) ?_)
        refine sq (o_not (by kernel_rfl) ?_)
        refine sq (o_pv (.bool true) rfl (by kernel_rfl) ?_)
        refine sq (o_pv (.bool true) rfl (by kernel_rfl) ?_)
        refine sq (o_not (by kernel_rfl) ?_)
        refine sq (o_not (by kernel_rfl) ?_)
        refine sq (o_not (by kernel_rfl) ?_)
        refine sq (o_not (by kernel_rfl) ?_)
        refine sq (o_pv (.bool true) rfl (by kernel_rfl) ?_)
        refine sq (o_pv (.bool true) rfl (by kernel_rfl) ?_)
        refine sq (o_not (by kernel_rfl) ?_)
        refine sq (o_not (by kernel_rfl) ?_)
        refine sq (o_not (by kernel_rfl) ?_)
        refine sq (o_not (by kernel_rfl) ?_)
        refine sq (o_not (by kernel_rfl) ?_)
        refine sq (o_not (by kernel_rfl) ?_)
        refine sq (o_not (by kernel_rfl) ?_)
        refine sq (o_pv (.bool true) rfl (by kernel_rfl) ?_)
        refine sq (o_pv (.bool true) rfl (by kernel_rfl) ?_)
        refine sq (o_not (by kernel_rfl) ?_)
        refine sq (o_not (by kernel_rfl) ?_)
        refine sq (o_not (by kernel_rfl) ?_)
        refine sq (o_pv (.bool true) rfl (by kernel_rfl) ?_)
        refine nil_ ?_
        refine then_normal (hJ207 _ _ _ ⟨[(70, (.bool (decide ((h.At < end_) ∨ ((¬ (h.Del = del24)) ∨ ((¬ (h.Add = add26)) ∨ ((¬ ((h.To - h.At) = shift)) ∨ (h.To < (0 : Int)))))))))], fit_mk (fun _ _ => rfl) (by kernel_rfl) (vs_cons (Eq.trans (b := (.bool true)) (by kernel_rfl) (dec_t (iff_true_intro (Or.inl h210))).symm) vs_nil), rfl, rfl⟩)
      ·
        replace hp := hp.2 h210
        refine sq (o_pv (.bool false) rfl (x_df (p := h.At < end_) (by kernel_rfl) h210) ?_)
        refine sq (o_pv (.bool false) rfl (by kernel_rfl) ?_)
        refine sq (o_pv (.pointer (some ⟨b14, 1, none⟩)) (by kernel_rfl) (by kernel_rfl) ?_)
        refine sq (o_pv (.int .i64 h.Del) (by kernel_rfl) (x_load1 (by kernel_rfl) Tryd.isAgg3 (k127.2.1.cell' 1 rfl)) ?_)
        refine sq (o_pv (.int .i64 del24) (by kernel_rfl) (by kernel_rfl) ?_)
        by_cases h211 : h.Del = del24
        ·
          replace hp := hp.1 h211
          refine sq (o_pv (.bool false) (by kernel_rfl) (x_ndf (p := h.Del = del24) (by kernel_rfl) h211) ?_)
          refine sq (o_pv (.bool false) rfl (by kernel_rfl) ?_)
          refine sq (o_pv (.bool false) rfl (by kernel_rfl) ?_)
          refine sq (o_pv (.pointer (some ⟨b14, 3, none⟩)) (by kernel_rfl) (by kernel_rfl) ?_)
          refine sq (o_pv (.int .i64 h.Add) (by kernel_rfl) (x_load1 (by kernel_rfl) Tryd.isAgg3 (k127.2.1.cell' 3 rfl)) ?_)
          refine sq (o_pv (.int .i64 add26) (by kernel_rfl) (by kernel_rfl) ?_)
          by_cases h212 : h.Add = add26
          ·
            replace hp := hp.1 h212
            refine sq (o_pv (.bool false) (by kernel_rfl) (x_ndf (p := h.Add = add26) (by kernel_rfl) h212) ?_)
            refine sq (o_pv (.bool false) rfl (by kernel_rfl) ?_)
            refine sq (o_pv (.bool false) rfl (by kernel_rfl) ?_)
            refine sq (o_pv (.pointer (some ⟨b14, 2, none⟩)) (by kernel_rfl) (by kernel_rfl) ?_)
            refine sq (o_pv (.int .i64 h.To) (by kernel_rfl) (x_load1 (by kernel_rfl) Tryd.isAgg3 (k127.2.1.cell' 2 rfl)) ?_)
            refine sq (o_pv (.pointer (some ⟨b14, 0, none⟩)) (by kernel_rfl) (by kernel_rfl) ?_)
            refine sq (o_pv (.int .i64 h.At) (by kernel_rfl) (x_load1 (by kernel_rfl) Tryd.isAgg3 (k127.2.1.cell' 0 rfl)) ?_)
            obtain ⟨h213, hp⟩ := hp
            refine sq (o_pv (.int .i64 (h.To - h.At)) (by kernel_rfl) (x_sub2 (k := .i64) (a := h.To) (b := h.At) (h.To - h.At) (by kernel_rfl) (by kernel_rfl) (wrap_inR h213)) ?_)
            refine sq (o_pv (.int .i64 shift) (by kernel_rfl) (by kernel_rfl) ?_)
            by_cases h214 : (h.To - h.At) = shift
            ·
              replace hp := hp.1 h214
              refine sq (o_pv (.bool false) (by kernel_rfl) (x_ndf (p := (h.To - h.At) = shift) (by kernel_rfl) h214) ?_)
              refine sq (o_pv (.bool false) rfl (by kernel_rfl) ?_)
              refine sq (o_pv (.bool false) rfl (by kernel_rfl) ?_)
              refine sq (o_pv (.pointer (some ⟨b14, 2, none⟩)) (by kernel_rfl) (by kernel_rfl) ?_)
              refine sq (o_pv (.int .i64 h.To) (by kernel_rfl) (x_load1 (by kernel_rfl) Tryd.isAgg3 (k127.2.1.cell' 2 rfl)) ?_)
              refine sq (o_pv (.bool (decide (h.To < (0 : Int)))) (by kernel_rfl) (by kernel_rfl) ?_)
              refine sq (o_pv (.bool (decide (h.To < (0 : Int)))) rfl (by kernel_rfl) ?_)
              refine nil_ ?_
              refine then_normal (hJ207 _ _ _ ⟨[(70, (.bool (decide ((h.At < end_) ∨ ((¬ (h.Del = del24)) ∨ ((¬ (h.Add = add26)) ∨ ((¬ ((h.To - h.At) = shift)) ∨ (h.To < (0 : Int)))))))))], fit_mk (fun _ _ => rfl) (by kernel_rfl) (vs_cons (Eq.trans (b := (.bool (decide (h.To < (0 : Int))))) (by kernel_rfl) (dec_d ((or_iff_right h210).trans ((or_iff_right (fun h1 => h1 h211)).trans ((or_iff_right (fun h1 => h1 h212)).trans ((or_iff_right (fun h1 => h1 h214)).trans Iff.rfl))))).symm) vs_nil), rfl, rfl⟩)
            ·
              replace hp := hp.2 h214
              refine sq (o_pv (.bool true) (by kernel_rfl) (x_ndt (p := (h.To - h.At) = shift) (by kernel_rfl) h214) ?_)
              refine sq (o_pv (.bool true) rfl (by kernel_rfl) ?_)
              refine sq (o_pv (.bool true) rfl (by kernel_rfl) ?_)
              refine sq (o_not (by kernel_rfl) ?_)
              refine sq (o_not (by kernel_rfl) ?_)
              refine sq (o_not (by kernel_rfl) ?_)
              refine sq (o_pv (.bool true) rfl (by kernel_rfl) ?_)
              refine nil_ ?_
              refine then_normal (hJ207 _ _ _ ⟨[(70, (.bool (decide ((h.At < end_) ∨ ((¬ (h.Del = del24)) ∨ ((¬ (h.Add = add26)) ∨ ((¬ ((h.To - h.At) = shift)) ∨ (h.To < (0 : Int)))))))))], fit_mk (fun _ _ => rfl) (by kernel_rfl) (vs_cons (Eq.trans (b := (.bool true)) (by kernel_rfl) (dec_t ((or_iff_right h210).trans ((or_iff_right (fun h1 => h1 h211)).trans ((or_iff_right (fun h1 => h1 h212)).trans (iff_true_intro (Or.inl h214)))))).symm) vs_nil), rfl, rfl⟩)
          ·
            replace hp := hp.2 h212
            refine sq (o_pv (.bool true) (by kernel_rfl) (x_ndt (p := h.Add = add26) (by kernel_rfl) h212) ?_)
            refine sq (o_pv (.bool true) rfl (by kernel_rfl) ?_)
            refine sq (o_pv (.bool true) rfl (by kernel_rfl) ?_)
            refine sq (o_not (by kernel_rfl) ?_)
            refine sq (o_not (by kernel_rfl) ?_)
            refine sq (o_not (by kernel_rfl) ?_)
            refine sq (o_not (by kernel_rfl) ?_)
            refine sq (o_not (by kernel_rfl) ?_)
            refine sq (o_not (by kernel_rfl) ?_)
            refine sq (o_not (by kernel_rfl) ?_)
            refine sq (o_pv (.bool true) rfl (by kernel_rfl) ?_)
            refine sq (o_pv (.bool true) rfl (by kernel_rfl) ?_)
            refine sq (o_not (by kernel_rfl) ?_)
            refine sq (o_not (by kernel_rfl) ?_)
            refine sq (o_not (by kernel_rfl) ?_)
            refine sq (o_pv (.bool true) rfl (by kernel_rfl) ?_)
            refine nil_ ?_
            refine then_normal (hJ207 _ _ _ ⟨[(70, (.bool (decide ((h.At < end_) ∨ ((¬ (h.Del = del24)) ∨ ((¬ (h.Add = add26)) ∨ ((¬ ((h.To - h.At) = shift)) ∨ (h.To < (0 : Int)))))))))], fit_mk (fun _ _ => rfl) (by kernel_rfl) (vs_cons (Eq.trans (b := (.bool true)) (by kernel_rfl) (dec_t ((or_iff_right h210).trans ((or_iff_right (fun h1 => h1 h211)).trans (iff_true_intro (Or.inl h212))))).symm) vs_nil), rfl, rfl⟩)
        ·
          replace hp := hp.2 h211
          refine sq (o_pv (.bool true) (by kernel_rfl) (x_ndt (p := h.Del = del24) (by kernel_rfl) h211) ?_)
          refine sq (o_pv (.bool true) rfl (by kernel_rfl) ?_)
          refine sq (o_pv (.bool true) rfl (by kernel_rfl) ?_)
          refine sq (o_not (by kernel_rfl) ?_)
          refine sq (o_not (by kernel_rfl) ?_)
          refine sq (o_not (by kernel_rfl) ?_)
          refine sq (o_not (by kernel_rfl) ?_)
          refine sq (o_pv (.bool true) rfl (by kernel_rfl) ?_)
          refine sq (o_pv (.bool true) rfl (by kernel_rfl) ?_)
          refine sq (o_not (by kernel_rfl) ?_)
          refine sq (o_not (by kernel_rfl) ?_)
          refine sq (o_not (by kernel_rfl) ?_)
          refine sq (o_not (by kernel_rfl) ?_)
          refine sq (o_not (by kernel_rfl) ?_)
          refine sq (o_not (by kernel_rfl) ?_)
          refine sq (o_not (by kernel_rfl) ?_)
          refine sq (o_pv (.bool true) rfl (by kernel_rfl) ?_)
          refine sq (o_pv (.bool true) rfl (by kernel_rfl) ?_)
          refine sq (o_not (by kernel_rfl) ?_)
          refine sq (o_not (by kernel_rfl) ?_)
          refine sq (o_not (by kernel_rfl) ?_)
          refine sq (o_pv (.bool true) rfl (by kernel_rfl) ?_)
          refine nil_ ?_
          refine then_normal (hJ207 _ _ _ ⟨[(70, (.bool (decide ((h.At < end_) ∨ ((¬ (h.Del = del24)) ∨ ((¬ (h.Add = add26)) ∨ ((¬ ((h.To - h.At) = shift)) ∨ (h.To < (0 : Int)))))))))], fit_mk (fun _ _ => rfl) (by kernel_rfl) (vs_cons (Eq.trans (b := (.bool true)) (by kernel_rfl) (dec_t ((or_iff_right h210).trans (iff_true_intro (Or.inl h211)))).symm) vs_nil), rfl, rfl⟩)
    ·
      rintro _ w208 g209 ⟨rfl, hw⟩
      subst hw
      have hp := hq
      refine then_normal (K200 _ _ _ _ ?_)
      refine cond_d ((h.At < end_) ∨ ((¬ (h.Del = del24)) ∨ ((¬ (h.Add = add26)) ∨ ((¬ ((h.To - h.At) = shift)) ∨ (h.To < (0 : Int)))))) (by kernel_rfl) (fun h215 => ?_) (fun h215 => ?_)
      ·
        replace hp := hp.1 h215
        refine seq_ (fun _ K216 => ?_)
        refine reg_ ?_
        refine sq (o_pv (.int .i64 (1 : Int)) rfl (by kernel_rfl) ?_)
        refine nil_ ?_
        refine then_normal (K216 _ _ _ _ ?_)
        refine wp_ret ?_
        refine then_ret ?_
        refine end_ret hQ (.int .i64 (1 : Int)) (by kernel_rfl) ?_
        exact ⟨(1 : Int), hp, E122, rfl, (by decide)⟩
      ·
        replace hp := hp.2 h215
        refine wp_skip ?_
        refine then_normal (K199 _ _ _ _ ?_)
        refine seq_ (fun _ K217 => ?_)
        refine seq_ (fun _ K218 => ?_)
        obtain ⟨hp, hq⟩ := hp
        refine ground_ ?_
        refine join_ 77368891272094832358588416 (fun lq w223 => lq = [(85, (.bool (decide ((h.At > (a.length : Int)) ∨ (h.Del > ((a.length : Int) - h.At))))))] ∧ w111 = w223) (fun Kj221 hJ222 => ?_) ?_
        ·
          refine reg_ ?_
          refine sq (o_pv (.pointer (some ⟨b14, 0, none⟩)) rfl (by kernel_rfl) ?_)
          refine sq (o_pv (.int .i64 h.At) rfl (x_load1 (by kernel_rfl) Tryd.isAgg3 (k127.2.1.cell' 0 rfl)) ?_)
          refine sq (o_pv (.slice aa1 a.length ca2) rfl (by kernel_rfl) ?_)
          refine sq (o_pv (.int .i64 (a.length : Int)) rfl (by kernel_rfl) ?_)
          by_cases h225 : h.At > (a.length : Int)
          ·
            replace hp := hp.1 h225
            refine sq (o_pv (.bool true) rfl (x_dt (p := h.At > (a.length : Int)) (by kernel_rfl) h225) ?_)
            refine sq (o_pv (.bool true) rfl (by kernel_rfl) ?_)
            refine sq (o_not (by kernel_rfl) ?_)
            refine sq (o_not (by kernel_rfl) ?_)
            refine sq (o_not (by kernel_rfl) ?_)
            refine sq (o_not (by kernel_rfl) ?_)
            refine sq (o_not (by kernel_rfl) ?_)
            refine sq (o_not (by kernel_rfl) ?_)
            refine sq (o_not (by kernel_rfl) ?_)
            refine sq (o_not (by kernel_rfl) ?_)
            refine sq (o_pv (.bool true) rfl (by kernel_rfl) ?_)
            refine nil_ ?_
            refine then_normal (hJ222 _ _ _ ⟨[(85, (.bool (decide ((h.At > (a.length : Int)) ∨ (h.Del > ((a.length : Int) - h.At))))))], fit_mk (fun _ _ => rfl) (by kernel_rfl) (vs_cons (Eq.trans (b := (.bool true)) (by kernel_rfl) (dec_t (iff_true_intro (Or.inl h225))).symm) vs_nil), rfl, rfl⟩)
          ·
            replace hp := hp.2 h225
            refine sq (o_pv (.bool false) rfl (x_df (p := h.At > (a.length : Int)) (by kernel_rfl) h225) ?_)
            refine sq (o_pv (.bool false) rfl (by kernel_rfl) ?_)
            refine sq (o_pv (.pointer (some ⟨b14, 1, none⟩)) (by kernel_rfl) (by kernel_rfl) ?_)
            refine sq (o_pv (.int .i64 h.Del) (by kernel_rfl) (x_load1 (by kernel_rfl) Tryd.isAgg3 (k127.2.1.cell' 1 rfl)) ?_)
            refine sq (o_pv (.slice aa1 a.length ca2) (by kernel_rfl) (by kernel_rfl) ?_)
            refine sq (o_pv (.int .i64 (a.length : Int)) (by kernel_rfl) (by kernel_rfl) ?_)
            refine sq (o_pv (.pointer (some ⟨b14, 0, none⟩)) (by kernel_rfl) (by kernel_rfl) ?_)
            refine sq (o_pv (.int .i64 h.At) (by kernel_rfl) (x_load1 (by kernel_rfl) Tryd.isAgg3 (k127.2.1.cell' 0 rfl)) ?_)
            obtain ⟨h226, hp⟩ := hp
            refine sq (o_pv (.int .i64 ((a.length : Int) - h.At)) (by kernel_rfl) (x_sub2 (k := .i64) (a := (a.length : Int)) (b := h.At) ((a.length : Int) - h.At) (by kernel_rfl) (by kernel_rfl) (wrap_inR h226)) ?_)
            refine sq (o_pv (.bool (decide (h.Del > ((a.length : Int) - h.At)))) (by kernel_rfl) (by kernel_rfl) ?_)
            refine sq (o_pv (.bool (decide (h.Del > ((a.length : Int) - h.At)))) rfl (by kernel_rfl) ?_)
            refine nil_ ?_
            refine then_normal (hJ222 _ _ _ ⟨[(85, (.bool (decide ((h.At > (a.length : Int)) ∨ (h.Del > ((a.length : Int) - h.At))))))], fit_mk (fun _ _ => rfl) (by kernel_rfl) (vs_cons (Eq.trans (b := (.bool (decide (h.Del > ((a.length : Int) - h.At))))) (by kernel_rfl) (dec_d ((or_iff_right h225).trans Iff.rfl)).symm) vs_nil), rfl, rfl⟩)
        ·
          rintro _ w223 g224 ⟨rfl, hw⟩
          subst hw
          have hp := hq
          refine then_normal (K218 _ _ _ _ ?_)
          refine cond_d ((h.At > (a.length : Int)) ∨ (h.Del > ((a.length : Int) - h.At))) (by kernel_rfl) (fun h227 => ?_) (fun h227 => ?_)
          ·
            replace hp := hp.1 h227
            refine seq_ (fun _ K228 => ?_)
            refine reg_ ?_
            refine sq (o_pv (.int .i64 (4 : Int)) rfl (by kernel_rfl) ?_)
            refine nil_ ?_
            refine then_normal (K228 _ _ _ _ ?_)
            refine wp_ret ?_
            refine then_ret ?_
            refine end_ret hQ (.int .i64 (4 : Int)) (by kernel_rfl) ?_
            exact ⟨(4 : Int), hp, E122, rfl, (by decide)⟩
          ·
            replace hp := hp.2 h227
            refine wp_skip ?_
            refine then_normal (K217 _ _ _ _ ?_)
            refine seq_ (fun _ K229 => ?_)
            refine reg_ ?_
            refine sq (o_pv (.pointer (some ⟨b14, 0, none⟩)) rfl (by kernel_rfl) ?_)
            refine sq (o_pv (.int .i64 h.At) rfl (x_load1 (by kernel_rfl) Tryd.isAgg3 (k127.2.1.cell' 0 rfl)) ?_)
            refine sq (o_pv (.int .i64 h.At) rfl (by kernel_rfl) ?_)
            refine nil_ ?_
            refine then_normal (K229 _ _ _ _ ?_)
            refine seq_ (fun _ K230 => ?_)
            refine seq_ (fun _ K231 => ?_)
            refine reg_ ?_
            refine sq (o_pv (.int .i64 (0 : Int)) rfl (by kernel_rfl) ?_)
            refine nil_ ?_
            refine then_normal (K231 _ _ _ _ ?_)
            refine wp_block ?_
            obtain ⟨I365, m366, hI367, hp⟩ := hp
            refine loop_ 41538374558793611206898901908992256 (fun kq lq w369 => ∃ (X370 : List Nat) (at_232 : Int) (i234 : Int), (lq = [(12, (.int .i64 at_232)), (13, (.int .i64 i234))]) ∧ (kq = m366 at_232 i234) ∧ (Evo [] w w369) ∧ (Old X370 w369) ∧ (Sub X X370) ∧ (Sl rStr X370 w369 aa1 ca2 a) ∧ (Sl r_rectoref11_Edit X370 w369 ahLines8 chLines9 h.Lines) ∧ (OB ([]) w.heap.size X370 w369 b14 [(.int .i64 h.At), (.int .i64 h.Del), (.int .i64 h.To), (.int .i64 h.Add), (.slice ahLines8 h.Lines.length chLines9)] 130) ∧ (inR .i64 at_232) ∧ (inR .i64 i234) ∧ (I365 at_232 i234)) (m366 h.At (0 : Int)) [(12, (.int .i64 h.At)), (13, (.int .i64 (0 : Int)))] (vs_cons (by kernel_rfl) (vs_cons (by kernel_rfl) vs_nil)) ⟨X112, h.At, (0 : Int), rfl, rfl, E122, hXo123, hS124, ha125, hhLines126, k127, rhAt4, (by decide), hI367⟩ ?_
            rintro _ _ w369 g372 ⟨X370, at_232, i234, rfl, rfl, E375, hXo376, hS377, ha378, hhLines379, k380, rat_233, ri235, hI368⟩ Kl373 hA374
            replace hp := hp at_232 i234 hI368 rat_233 ri235
            refine seq_ (fun _ K381 => ?_)
            refine seq_ (fun _ K382 => ?_)
            refine reg_ ?_
            refine sq (o_pv (.int .i64 i234) rfl (by kernel_rfl) ?_)
            refine sq (o_pv (.pointer (some ⟨b14, 4, none⟩)) rfl (by kernel_rfl) ?_)
            refine sq (o_pv (.slice ahLines8 h.Lines.length chLines9) rfl (x_load1 (by kernel_rfl) Tryd.isAgg41 (k380.2.1.cell' 4 rfl)) ?_)
            refine sq (o_pv (.int .i64 (h.Lines.length : Int)) rfl (by kernel_rfl) ?_)
            refine sq (o_pv (.bool (decide (i234 < (h.Lines.length : Int)))) rfl (by kernel_rfl) ?_)
            refine nil_ ?_
            refine then_normal (K382 _ _ _ _ ?_)
            refine cond_d (i234 < (h.Lines.length : Int)) (by kernel_rfl) (fun h383 => ?_) (fun h383 => ?_)
            ·
              replace hp := hp.1 h383
              refine wp_skip ?_
              refine then_normal (K381 _ _ _ _ ?_)
              refine seq_ (fun _ K384 => ?_)
              obtain ⟨k439, hk440, hp⟩ := hp
              refine ground_ ?_
              refine join_ 41538335254197363896075173861789952 (fun lq w441 => ∃ (X442 : List Nat) (at_437 : Int), (lq = [(12, (.int .i64 at_437))]) ∧ (Evo [] w w441) ∧ (Old X442 w441) ∧ (Sub X X442) ∧ (Sl rStr X442 w441 aa1 ca2 a) ∧ (Sl r_rectoref11_Edit X442 w441 ahLines8 chLines9 h.Lines) ∧ (OB ([]) w.heap.size X442 w441 b14 [(.int .i64 h.At), (.int .i64 h.Del), (.int .i64 h.To), (.int .i64 h.Add), (.slice ahLines8 h.Lines.length chLines9)] 130) ∧ (inR .i64 at_437) ∧ (k439 at_437)) (fun Kj443 hJ444 => ?_) ?_
              ·
                refine wp_block ?_
                refine seq_ (fun _ K452 => ?_)
                refine seq_ (fun _ K453 => ?_)
                refine reg_ ?_
                refine sq (o_pv (.pointer (some ⟨b14, 4, none⟩)) rfl (by kernel_rfl) ?_)
                refine sq (o_pv (.slice ahLines8 h.Lines.length chLines9) rfl (x_load1 (by kernel_rfl) Tryd.isAgg41 (k380.2.1.cell' 4 rfl)) ?_)
                refine sq (o_pv (.int .i64 i234) rfl (by kernel_rfl) ?_)
                obtain ⟨h454, hp⟩ := hp
                obtain ⟨b455, o456, cs457, ha458, nx459, lt460, ok461, hc462⟩ := Sl.atI hhLines379 i234 h454
                obtain ⟨rfl, reOp463, zeLine464⟩ := r_rectoref11_Edit_open ok461
                replace hp := hp reOp463
                replace hp := hp zeLine464
                refine sq (o_pv (.pointer (some ⟨b455, o456 + i234.toNat * 2, none⟩)) rfl (x_ixA (m := h.Lines.length) (c := chLines9) (k := .i64) (i := i234) Tryd.underlying41 Tryd.sizeOf124 (by rw [← ha458]; kernel_rfl) (by kernel_rfl) h454) ?_)
                refine sq (o_pv (.pointer (some ⟨b455, o456 + i234.toNat * 2, none⟩)) rfl (by kernel_rfl) ?_)
                refine sq (o_pv (.int .i64 ((lget h.Lines i234).Op)) rfl (x_load1 (by kernel_rfl) Tryd.isAgg3 (hc462 0 _ rfl)) ?_)
                refine sq (o_pv (.bool (decide (((lget h.Lines i234).Op) = (3 : Int)))) rfl (by kernel_rfl) ?_)
                refine nil_ ?_
                refine then_normal (K453 _ _ _ _ ?_)
                refine cond_d (((lget h.Lines i234).Op) = (3 : Int)) (by kernel_rfl) (fun h465 => ?_) (fun h465 => ?_)
                ·
                  replace hp := hp.1 h465
                  refine wp_exit ?_
                  refine then_exit ?_
                  refine blk_exit ?_
                  refine then_normal (hJ444 _ _ _ ⟨[(12, (.int .i64 at_232))], fit_mk (fun _ _ => rfl) (by kernel_rfl) (vs_cons (by kernel_rfl) vs_nil), ?_⟩)
                  exact ⟨X370, at_232, rfl, E375, hXo376, hS377, ha378, hhLines379, k380, rat_233, hp⟩
                ·
                  replace hp := hp.2 h465
                  refine wp_skip ?_
                  refine then_normal (K452 _ _ _ _ ?_)
                  refine seq_ (fun _ K466 => ?_)
                  refine seq_ (fun _ K467 => ?_)
                  refine reg_drawn (RB w369.heap.size []) 11 (by kernel_rfl) (fun w468 hd469 => ?_)
                  have e470 := Evo.of_drew hd469
                  have z471 : w468.heap.size = w369.heap.size := by rw [hd469]
                  clear hd469
                  have s473 := Step.of0 X370 e470
                  have er472 := RB.refl w369.heap.size [] w468
                  have E474 := (Evo.then0 E375 (Step.evo s473))
                  have hXo475 := (Old.step hXo376 s473)
                  have hS476 := (Sub.trans hS377 (Step.up s473))
                  have ha477 := (Sl.step ha378 s473)
                  have hhLines478 := (Sl.step hhLines379 s473)
                  have k479 := (OB.step0 k380 s473)
                  refine r_take 0 (.slice aa1 a.length ca2) (RB.pre _ _) rfl (by kernel_rfl) (fun _ _ _ h => hQ.panic _ _ _ _ _ h) (.inl ⟨rfl, fun wq hq => (by kernel_rfl)⟩) ?_
                  refine r_take 1 (.int .i64 at_232) (RB.pre _ _) rfl (by kernel_rfl) (fun _ _ _ h => hQ.panic _ _ _ _ _ h) (.inl ⟨rfl, fun wq hq => (by kernel_rfl)⟩) ?_
                  obtain ⟨h480, hp⟩ := hp
                  obtain ⟨b481, o482, cs483, ha484, nx485, lt486, ok487, hc488⟩ := Sl.atI ha477 at_232 h480
                  obtain ⟨rfl, ze489⟩ := ok487
                  replace hp := hp ze489
                  refine r_take 2 (.pointer (some ⟨b481, o482 + at_232.toNat * 1, none⟩)) (RB.pre _ _) rfl (by kernel_rfl) (fun _ _ _ h => hQ.panic _ _ _ _ _ h) (.inl ⟨rfl, fun wq hq => (x_ixA (m := a.length) (c := ca2) (k := .i64) (i := at_232) Tryd.underlying39 Tryd.sizeOf9 (by rw [← ha484]; kernel_rfl) (by kernel_rfl) h480)⟩) ?_
                  refine r_take 3 (.string (lget a at_232)) (RB.pre _ _) rfl (by kernel_rfl) (fun _ _ _ h => hQ.panic _ _ _ _ _ h) (.inl ⟨rfl, fun wq hq => (x_load1 (by kernel_rfl) Tryd.isAgg9 ((CellsAt.rb hc488 (RB.trans er472 hq) (Nat.lt_of_lt_of_eq lt486 z471) (fun h => by cases h)) 0 _ rfl))⟩) ?_
                  refine r_take 4 (.pointer (some ⟨b14, 4, none⟩)) (RB.pre _ _) rfl (by kernel_rfl) (fun _ _ _ h => hQ.panic _ _ _ _ _ h) (.inl ⟨rfl, fun wq hq => (by kernel_rfl)⟩) ?_
                  refine r_take 5 (.slice ahLines8 h.Lines.length chLines9) (RB.pre _ _) rfl (by kernel_rfl) (fun _ _ _ h => hQ.panic _ _ _ _ _ h) (.inl ⟨rfl, fun wq hq => (x_load1 (by kernel_rfl) Tryd.isAgg41 ((Blk.rb k479.2.1 (RB.trans er472 hq) (Nat.lt_of_lt_of_eq (Blk.lt k479.2.1) z471) (fun h => by cases h)).cell' 4 rfl))⟩) ?_
                  refine r_take 6 (.int .i64 i234) (RB.pre _ _) rfl (by kernel_rfl) (fun _ _ _ h => hQ.panic _ _ _ _ _ h) (.inl ⟨rfl, fun wq hq => (by kernel_rfl)⟩) ?_
                  obtain ⟨h490, hp⟩ := hp
                  obtain ⟨b491, o492, cs493, ha494, nx495, lt496, ok497, hc498⟩ := Sl.atI hhLines478 i234 h490
                  obtain ⟨rfl, reOp499, zeLine500⟩ := r_rectoref11_Edit_open ok497
                  replace hp := hp reOp499
                  replace hp := hp zeLine500
                  refine r_take 7 (.pointer (some ⟨b491, o492 + i234.toNat * 2, none⟩)) (RB.pre _ _) rfl (by kernel_rfl) (fun _ _ _ h => hQ.panic _ _ _ _ _ h) (.inl ⟨rfl, fun wq hq => (x_ixA (m := h.Lines.length) (c := chLines9) (k := .i64) (i := i234) Tryd.underlying41 Tryd.sizeOf124 (by rw [← ha494]; kernel_rfl) (by kernel_rfl) h490)⟩) ?_
                  refine r_take 8 (.pointer (some ⟨b491, o492 + i234.toNat * 2 + 1, none⟩)) (RB.pre _ _) rfl (by kernel_rfl) (fun _ _ _ h => hQ.panic _ _ _ _ _ h) (.inl ⟨rfl, fun wq hq => (by kernel_rfl)⟩) ?_
                  refine r_take 9 (.string ((lget h.Lines i234).Line)) (RB.pre _ _) rfl (by kernel_rfl) (fun _ _ _ h => hQ.panic _ _ _ _ _ h) (.inl ⟨rfl, fun wq hq => (x_load1 (by kernel_rfl) Tryd.isAgg9 ((CellsAt.rb hc498 (RB.trans er472 hq) (Nat.lt_of_lt_of_eq lt496 z471) (fun h => by cases h)) 1 _ rfl))⟩) ?_
                  refine r_take 10 (.bool (!decide ((lget a at_232 : ByteArray) = (lget h.Lines i234).Line))) (RB.pre _ _) rfl (by kernel_rfl) (fun _ _ _ h => hQ.panic _ _ _ _ _ h) (.inl ⟨rfl, fun wq hq => (x_strne (by kernel_rfl) (by kernel_rfl))⟩) ?_
                  refine r_done (by kernel_rfl) ?_
                  refine then_normal (K467 _ _ _ _ ?_)
                  refine cond_nd ((lget a at_232 : ByteArray) = (lget h.Lines i234).Line) (by kernel_rfl) (fun h501 => ?_) (fun h501 => ?_)
                  ·
                    replace hp := hp.1 h501
                    refine seq_ (fun _ K502 => ?_)
                    refine reg_ ?_
                    refine sq (o_pv (.int .i64 (9 : Int)) rfl (by kernel_rfl) ?_)
                    refine nil_ ?_
                    refine then_normal (K502 _ _ _ _ ?_)
                    refine wp_ret ?_
                    refine then_ret ?_
                    refine blk_ret ?_
                    refine then_ret ?_
                    refine then_ret ?_
                    refine then_ret ?_
                    refine blk_ret ?_
                    refine then_ret ?_
                    refine end_ret hQ (.int .i64 (9 : Int)) (by kernel_rfl) ?_
                    exact ⟨(9 : Int), hp, E474, rfl, (by decide)⟩
                  ·
                    replace hp := hp.2 h501
                    refine wp_skip ?_
                    refine then_normal (K466 _ _ _ _ ?_)
                    refine reg_ ?_
                    refine sq (o_pv (.int .i64 at_232) rfl (by kernel_rfl) ?_)
                    obtain ⟨h503, hp⟩ := hp
                    refine sq (o_pv (.int .i64 (at_232 + (1 : Int))) rfl (x_add2 (k := .i64) (a := at_232) (b := (1 : Int)) (at_232 + (1 : Int)) (by kernel_rfl) (by kernel_rfl) (wrap_inR h503)) ?_)
                    refine sq (o_pv (.int .i64 (at_232 + (1 : Int))) rfl (by kernel_rfl) ?_)
                    refine nil_ ?_
                    refine blk_normal ?_
                    refine then_normal (hJ444 _ _ _ ⟨[(12, (.int .i64 (at_232 + (1 : Int))))], fit_mk (fun _ _ => rfl) (by kernel_rfl) (vs_cons (by kernel_rfl) vs_nil), ?_⟩)
                    exact ⟨X370, (at_232 + (1 : Int)), rfl, E474, hXo475, hS476, ha477, hhLines478, k479, h503, hp⟩
              ·
                rintro _ w441 g504 ⟨X442, at_437, rfl, E446, hXo447, hS448, ha449, hhLines450, k451, rat_438, hv445⟩
                replace hp := hk440 at_437 hv445 rat_438
                refine then_normal (K384 _ _ _ _ ?_)
                refine reg_ ?_
                refine sq (o_pv (.int .i64 i234) rfl (by kernel_rfl) ?_)
                obtain ⟨h505, hp⟩ := hp
                refine sq (o_pv (.int .i64 (i234 + (1 : Int))) rfl (x_add2 (k := .i64) (a := i234) (b := (1 : Int)) (i234 + (1 : Int)) (by kernel_rfl) (by kernel_rfl) (wrap_inR h505)) ?_)
                refine sq (o_pv (.int .i64 (i234 + (1 : Int))) rfl (by kernel_rfl) ?_)
                refine nil_ ?_
                refine then_normal (hA374 _ _ _ ⟨_, [(12, (.int .i64 at_437)), (13, (.int .i64 (i234 + (1 : Int))))], hp.2, fit_mk (AgB.nest (AgB.look (AgB.mix _ _ _) (by kernel_rfl)) (by kernel_rfl) (by kernel_rfl)) (by kernel_rfl) (vs_cons (by kernel_rfl) (vs_cons (by kernel_rfl) vs_nil)), ?_⟩)
                exact ⟨X442, at_437, (i234 + (1 : Int)), rfl, rfl, E446, hXo447, hS448, ha449, hhLines450, k451, rat_438, h505, hp.1⟩
            ·
              replace hp := hp.2 h383
              refine wp_exit ?_
              refine then_exit ?_
              refine then_exit ?_
              refine blk_exit ?_
              refine then_normal (K230 _ _ _ _ ?_)
              refine seq_ (fun _ K506 => ?_)
              refine reg_ ?_
              refine sq (o_pv (.int .i64 (0 : Int)) rfl (by kernel_rfl) ?_)
              refine nil_ ?_
              refine then_normal (K506 _ _ _ _ ?_)
              refine wp_ret ?_
              refine end_ret hQ (.int .i64 (0 : Int)) (by kernel_rfl) ?_
              exact ⟨(0 : Int), hp, E375, rfl, (by decide)⟩

def rectoref3_At_p (word : ByteArray) (at_ : Int) (e : Int) (Q : S_rectoref3_Wrong → Prop) : Prop :=
  ((word.size ≤ maxLen) → ((inR .i64 at_) → ((inR .i64 e) → Q (S_rectoref3_Wrong.mk ([(S_rectoref3_Part.mk word at_)]) e))))
set_option maxRecDepth 20000 in
set_option maxHeartbeats 4000000 in
theorem rectoref3_At_w {X : List Nat} {w : World} {word : ByteArray} {at_ : Int} {e : Int} {Q : S_rectoref3_Wrong → Prop} (hX0 : Old X w) (zword1 : word.size ≤ maxLen) (rat_2 : inR .i64 at_) (re3 : inR .i64 e) (hp : rectoref3_At_p word at_ e Q) :
    Calls Tryd.prog 14 #[(.string word), (.int .i64 at_), (.int .i64 e)] w (Ret fun v w' => ∃ (r0 : S_rectoref3_Wrong), Q r0 ∧ Evo [] w w' ∧ ∃ (aq0Parts1 : Option Addr) (cq0Parts2 : Nat), v = (.agg #[(.slice aq0Parts1 r0.Parts.length cq0Parts2), (.int .i64 r0.Err)]) ∧ Sl r_rectoref3_Part X w' aq0Parts1 cq0Parts2 r0.Parts ∧ inR .i64 r0.Err) := by
  have hXo := hX0
  have E0 : Evo [] w w := RB.refl _ _ _
  have hS : Sub X X := Sub.refl _
  unfold rectoref3_At_p at hp
  refine enter_ Tryd.func14 rfl 13 [(0, (.string word)), (1, (.int .i64 at_)), (2, (.int .i64 e))] (by kernel_rfl) (fun Qe hQ => ?_)
  replace hp := hp zword1
  replace hp := hp rat_2
  replace hp := hp re3
  refine seq_ (fun _ K4 => ?_)
  refine reg_ ?_
  refine sq (o_newX [(.slice none 0 0), (.int .i64 (0 : Int))] 34 (X := X) (B := w.heap.size) E0.size rfl (by kernel_rfl) ?_)
  intro b5 w6 X7 s8 k9 n10
  refine nil_ ?_
  refine then_normal (K4 _ _ _ _ ?_)
  refine seq_ (fun _ K11 => ?_)
  refine reg_ ?_
  refine sq (o_pv (.string word) rfl (by kernel_rfl) ?_)
  refine sq (o_pv (.int .i64 at_) rfl (by kernel_rfl) ?_)
  refine sq (o_pv (.agg #[(.string word), (.int .i64 at_)]) rfl (by kernel_rfl) ?_)
  have E18 := (Evo.then0 E0 (Step.evo s8))
  refine sq (o_rowX (R := r_rectoref3_Part) [(.string word), (.int .i64 at_)] [(S_rectoref3_Part.mk word at_)] 112 1 (X := X7) (B := w.heap.size) E18.size rfl (by kernel_rfl) (Flat.cons (cs := [(.string word), (.int .i64 at_)]) (r_rectoref3_Part_mk zword1 rat_2) Flat.nil) rfl (by decide) ?_)
  intro b12 w13 X14 s15 O16 n17
  have p19 := n17 _ (OB.old k9)
  refine sq (o_pv (.int .i64 e) rfl (by kernel_rfl) ?_)
  refine sq (o_pv (.agg #[(.slice (some ⟨b12, 0, none⟩) 1 1), (.int .i64 e)]) rfl (by kernel_rfl) ?_)
  have k20 := (OB.step0 k9 s15)
  have E21 := (Evo.then0 E18 (Step.evo s15))
  refine sq (o_stB (o := 0) (v := (.agg #[(.slice (some ⟨b12, 0, none⟩) 1 1), (.int .i64 e)])) [(.slice (some ⟨b12, 0, none⟩) 1 1), (.int .i64 e)] rfl k20 (by kernel_rfl) (by kernel_rfl) Tryd.sizeOf34 rfl rfl rfl ?_)
  intro w22 s23 k24
  refine nil_ ?_
  refine then_normal (K11 _ _ _ _ ?_)
  refine wp_ret ?_
  have O25 := (OS.step O16 s23 (Ap.symm p19))
  have hS26 := (Sub.trans (Sub.trans (Sub.trans hS (Step.up s8)) (Step.up s15)) (Step.up s23))
  have E27 := (Evo.thenW E21 (Step.evo s23) k20.2.2)
  refine end_ret hQ (.agg #[(.slice (some ⟨b12, 0, none⟩) 1 1), (.int .i64 e)]) (rs_single Tryd.results14 (rs_agg [(.slice (some ⟨b12, 0, none⟩) 1 1), (.int .i64 e)] (by kernel_rfl) Tryd.isAgg34 Tryd.sizeOf34 (k24.2.1.cells' 0 rfl))) ?_
  exact ⟨(S_rectoref3_Wrong.mk ([(S_rectoref3_Part.mk word at_)]) e), hp, E27, (some ⟨b12, 0, none⟩), 1, (by (rw [show 1 = ([(S_rectoref3_Part.mk word at_)]).length from O25.1]); first | done | rfl), (OS.out O25 hS26 hX0), re3⟩

def rectoref11_Apply_p (a : (List ByteArray)) (h : (List S_rectoref11_Hunk)) (Q : (List ByteArray) → S_rectoref3_Wrong → Prop) : Prop :=
  ((a.length ≤ 9223372036854775807) → ((h.length ≤ 9223372036854775807) → (∃ (I1619 : (List ByteArray) → Int → Int → Prop) (m1620 : (List ByteArray) → Int → Int → Nat), (I1619 ([] : List ByteArray) (0 : Int) (0 : Int)) ∧ (∀ (out815 : (List ByteArray)) (end_820 : Int) (i822 : Int), (I1619 out815 end_820 i822) → (out815.length ≤ 9223372036854775807) → (inR .i64 end_820) → (inR .i64 i822) → (((i822 < (h.length : Int)) → ((inL h i822) ∧ ((inR .i64 ((lget h i822).At)) → ((inR .i64 ((lget h i822).Del)) → ((inR .i64 ((lget h i822).To)) → ((inR .i64 ((lget h i822).Add)) → ((((lget h i822).Lines).length ≤ 9223372036854775807) → ((inR .i64 ((out815.length : Int) - end_820)) ∧ (rectoref11_hunk_p a (lget h i822) end_820 ((out815.length : Int) - end_820) (fun (r1663 : Int) => ((inR .i64 r1663) → (((¬ (r1663 = (0 : Int))) → (rectoref3_At_p (ByteArray.mk #[104, 117, 110, 107]) i822 r1663 (fun (r1673 : S_rectoref3_Wrong) => ((r1673.Parts.length ≤ 9223372036854775807) → ((inR .i64 r1673.Err) → Q ([] : List ByteArray) r1673))))) ∧ ((r1663 = (0 : Int)) → ((inL h i822) ∧ ((inR .i64 ((lget h i822).At)) → ((inR .i64 ((lget h i822).Del)) → ((inR .i64 ((lget h i822).To)) → ((inR .i64 ((lget h i822).Add)) → ((((lget h i822).Lines).length ≤ 9223372036854775807) → ((0 ≤ end_820 ∧ end_820 ≤ ((lget h i822).At) ∧ ((lget h i822).At) ≤ (a.length : Int)) ∧ (((out815.length + ((a.take ((lget h i822).At).toNat).drop end_820.toNat).length) * 16 ≤ 140737488355328) ∧ (∃ (I2155 : (List ByteArray) → Int → Prop) (m2156 : (List ByteArray) → Int → Nat), (I2155 (out815 ++ ((a.take ((lget h i822).At).toNat).drop end_820.toNat)) (0 : Int)) ∧ (∀ (out1940 : (List ByteArray)) (k1945 : Int), (I2155 out1940 k1945) → (out1940.length ≤ 9223372036854775807) → (inR .i64 k1945) → ((inL h i822) ∧ ((inR .i64 ((lget h i822).At)) → ((inR .i64 ((lget h i822).Del)) → ((inR .i64 ((lget h i822).To)) → ((inR .i64 ((lget h i822).Add)) → ((((lget h i822).Lines).length ≤ 9223372036854775807) → (((k1945 < (((lget h i822).Lines).length : Int)) → (∃ k2283 : (List ByteArray) → Prop, (∀ (out2278 : (List ByteArray)), k2283 out2278 → (out2278.length ≤ 9223372036854775807) → ((inR .i64 (k1945 + (1 : Int))) ∧ ((I2155 out2278 (k1945 + (1 : Int))) ∧ m2156 out2278 (k1945 + (1 : Int)) < m2156 out1940 k1945))) ∧ ((inL h i822) ∧ ((inR .i64 ((lget h i822).At)) → ((inR .i64 ((lget h i822).Del)) → ((inR .i64 ((lget h i822).To)) → ((inR .i64 ((lget h i822).Add)) → ((((lget h i822).Lines).length ≤ 9223372036854775807) → ((inL ((lget h i822).Lines) k1945) ∧ ((inR .i64 ((lget ((lget h i822).Lines) k1945).Op)) → ((((lget ((lget h i822).Lines) k1945).Line).size ≤ maxLen) → (((¬ (((lget ((lget h i822).Lines) k1945).Op) = (2 : Int))) → ((inL h i822) ∧ ((inR .i64 ((lget h i822).At)) → ((inR .i64 ((lget h i822).Del)) → ((inR .i64 ((lget h i822).To)) → ((inR .i64 ((lget h i822).Add)) → ((((lget h i822).Lines).length ≤ 9223372036854775807) → ((inL ((lget h i822).Lines) k1945) ∧ ((inR .i64 ((lget ((lget h i822).Lines) k1945).Op)) → ((((lget ((lget h i822).Lines) k1945).Line).size ≤ maxLen) → (((out1940.length + ([(lget ((lget h i822).Lines) k1945).Line]).length) * 16 ≤ 140737488355328) ∧ (k2283 (out1940 ++ ([(lget ((lget h i822).Lines) k1945).Line])))))))))))))) ∧ ((((lget ((lget h i822).Lines) k1945).Op) = (2 : Int)) → (k2283 out1940)))))))))))))) ∧ ((¬ (k1945 < (((lget h i822).Lines).length : Int))) → ((inL h i822) ∧ ((inR .i64 ((lget h i822).At)) → ((inR .i64 ((lget h i822).Del)) → ((inR .i64 ((lget h i822).To)) → ((inR .i64 ((lget h i822).Add)) → ((((lget h i822).Lines).length ≤ 9223372036854775807) → ((inL h i822) ∧ ((inR .i64 ((lget h i822).At)) → ((inR .i64 ((lget h i822).Del)) → ((inR .i64 ((lget h i822).To)) → ((inR .i64 ((lget h i822).Add)) → ((((lget h i822).Lines).length ≤ 9223372036854775807) → ((inR .i64 (((lget h i822).At) + ((lget h i822).Del))) ∧ ((inR .i64 (i822 + (1 : Int))) ∧ ((I1619 out1940 (((lget h i822).At) + ((lget h i822).Del)) (i822 + (1 : Int))) ∧ m1620 out1940 (((lget h i822).At) + ((lget h i822).Del)) (i822 + (1 : Int)) < m1620 out815 end_820 i822)))))))))))))))))))))))))))))))))))))))))))))) ∧ ((¬ (i822 < (h.length : Int))) → ((0 ≤ end_820 ∧ end_820 ≤ (a.length : Int)) ∧ (((out815.length + (a.drop end_820.toNat).length) * 16 ≤ 140737488355328) ∧ Q (out815 ++ (a.drop end_820.toNat)) (S_rectoref3_Wrong.mk ([] : List S_rectoref3_Part) (0 : Int))))))))))
set_option maxRecDepth 20000 in
set_option maxHeartbeats 4000000 in
theorem rectoref11_Apply_w {X : List Nat} {w : World} {a : (List ByteArray)} {h : (List S_rectoref11_Hunk)} {aa1 : Option Addr} {ca2 : Nat} {ah4 : Option Addr} {ch5 : Nat} {Q : (List ByteArray) → S_rectoref3_Wrong → Prop} (hX0 : Old X w) (ha3 : Sl rStr X w aa1 ca2 a) (hh6 : Sl r_rectoref11_Hunk X w ah4 ch5 h) (hp : rectoref11_Apply_p a h Q) :
    Calls Tryd.prog 30 #[(.slice aa1 a.length ca2), (.slice ah4 h.length ch5)] w (Ret fun v w' => ∃ (r0 : (List ByteArray)) (r1 : S_rectoref3_Wrong), Q r0 r1 ∧ Evo [] w w' ∧ ∃ (aq01 : Option Addr) (cq02 : Nat) (aq1Parts4 : Option Addr) (cq1Parts5 : Nat), v = .tuple #[(.slice aq01 r0.length cq02), (.agg #[(.slice aq1Parts4 r1.Parts.length cq1Parts5), (.int .i64 r1.Err)])] ∧ Sl rStr X w' aq01 cq02 r0 ∧ Sl r_rectoref3_Part X w' aq1Parts4 cq1Parts5 r1.Parts ∧ inR .i64 r1.Err) := by
  have hXo := hX0
  have E0 : Evo [] w w := RB.refl _ _ _
  have hS : Sub X X := Sub.refl _
  unfold rectoref11_Apply_p at hp
  refine enter_ Tryd.func30 rfl 92 [(0, (.slice aa1 a.length ca2)), (1, (.slice ah4 h.length ch5))] (by kernel_rfl) (fun Qe hQ => ?_)
  replace hp := hp (Sl.len ha3)
  replace hp := hp (Sl.len hh6)
  refine seq_ (fun _ K7 => ?_)
  refine reg_ ?_
  refine sq (o_pv (.slice none 0 0) rfl (by kernel_rfl) ?_)
  refine sq (o_newX [(.slice none 0 0), (.int .i64 (0 : Int))] 34 (X := X) (B := w.heap.size) E0.size rfl (by kernel_rfl) ?_)
  intro b8 w9 X10 s11 k12 n13
  refine nil_ ?_
  refine then_normal (K7 _ _ _ _ ?_)
  refine seq_ (fun _ K14 => ?_)
  refine reg_ ?_
  refine sq (o_pv (.slice none 0 0) rfl (by kernel_rfl) ?_)
  refine nil_ ?_
  refine then_normal (K14 _ _ _ _ ?_)
  refine seq_ (fun _ K15 => ?_)
  refine reg_ ?_
  refine sq (o_pv (.int .i64 (0 : Int)) rfl (by kernel_rfl) ?_)
  refine nil_ ?_
  refine then_normal (K15 _ _ _ _ ?_)
  refine seq_ (fun _ K16 => ?_)
  refine seq_ (fun _ K17 => ?_)
  refine reg_ ?_
  refine sq (o_pv (.int .i64 (0 : Int)) rfl (by kernel_rfl) ?_)
  refine nil_ ?_
  refine then_normal (K17 _ _ _ _ ?_)
  refine wp_block ?_
  have ha1629 := (Sl.step ha3 s11)
  have hh1630 := (Sl.step hh6 s11)
  have hXo1631 := (Old.step hXo s11)
  have E1632 := (Evo.then0 E0 (Step.evo s11))
  have hS1633 := (Sub.trans hS (Step.up s11))
  obtain ⟨I1619, m1620, hI1621, hp⟩ := hp
  refine loop_ 77371252455336267181195216 (fun kq lq w1623 => ∃ (X1624 : List Nat) (out815 : (List ByteArray)) (end_820 : Int) (i822 : Int) (a816 : Option Addr) (n817 : Nat) (c818 : Nat), (lq = [(6, (.slice a816 n817 c818)), (7, (.int .i64 end_820)), (8, (.int .i64 i822))]) ∧ (kq = m1620 out815 end_820 i822) ∧ (Evo [] w w1623) ∧ (Old X1624 w1623) ∧ (Sub X X1624) ∧ (Sl rStr X1624 w1623 aa1 ca2 a) ∧ (Sl r_rectoref11_Hunk X1624 w1623 ah4 ch5 h) ∧ (OB ([]) w.heap.size X1624 w1623 b8 [(.slice none 0 0), (.int .i64 (0 : Int))] 34) ∧ (OS rStr ([]) w.heap.size X1624 w1623 9 a816 n817 c818 out815) ∧ (Ap ([b8]) (blkL a816)) ∧ (inR .i64 end_820) ∧ (inR .i64 i822) ∧ (I1619 out815 end_820 i822)) (m1620 ([] : List ByteArray) (0 : Int) (0 : Int)) [(6, (.slice none 0 0)), (7, (.int .i64 (0 : Int))), (8, (.int .i64 (0 : Int)))] (vs_cons (by kernel_rfl) (vs_cons (by kernel_rfl) (vs_cons (by kernel_rfl) vs_nil))) ⟨X10, ([] : List ByteArray), (0 : Int), (0 : Int), none, 0, 0, rfl, rfl, E1632, hXo1631, hS1633, ha1629, hh1630, k12, (OS.nil _ _ _ _), (Ap.nil_r _), (by decide), (by decide), hI1621⟩ ?_
  rintro _ _ w1623 g1626 ⟨X1624, out815, end_820, i822, a816, n817, c818, rfl, rfl, E1634, hXo1635, hS1636, ha1637, hh1638, k1639, O819, p1640, rend_821, ri823, hI1622⟩ Kl1627 hA1628
  replace hp := hp out815 end_820 i822 hI1622 (OS.len O819) rend_821 ri823
  refine seq_ (fun _ K1641 => ?_)
  refine seq_ (fun _ K1642 => ?_)
  refine reg_ ?_
  refine sq (o_pv (.int .i64 i822) rfl (by kernel_rfl) ?_)
  refine sq (o_pv (.slice ah4 h.length ch5) rfl (by kernel_rfl) ?_)
  refine sq (o_pv (.int .i64 (h.length : Int)) rfl (by kernel_rfl) ?_)
  refine sq (o_pv (.bool (decide (i822 < (h.length : Int)))) rfl (by kernel_rfl) ?_)
  refine nil_ ?_
  refine then_normal (K1642 _ _ _ _ ?_)
  refine cond_d (i822 < (h.length : Int)) (by kernel_rfl) (fun h1643 => ?_) (fun h1643 => ?_)
  ·
    replace hp := hp.1 h1643
    refine wp_skip ?_
    refine then_normal (K1641 _ _ _ _ ?_)
    refine seq_ (fun _ K1644 => ?_)
    refine wp_block ?_
    refine seq_ (fun _ K1645 => ?_)
    refine reg_ ?_
    refine sq (o_pv (.slice aa1 a.length ca2) rfl (by kernel_rfl) ?_)
    refine sq (o_pv (.slice ah4 h.length ch5) rfl (by kernel_rfl) ?_)
    refine sq (o_pv (.int .i64 i822) rfl (by kernel_rfl) ?_)
    obtain ⟨h1646, hp⟩ := hp
    obtain ⟨b1647, o1648, cs1649, ha1650, nx1651, lt1652, ok1653, hc1654⟩ := Sl.atI hh1638 i822 h1646
    obtain ⟨aeLines1659, ceLines1660, rfl, reAt1655, reDel1656, reTo1657, reAdd1658, heLines1661⟩ := r_rectoref11_Hunk_open ok1653
    replace hp := hp reAt1655
    replace hp := hp reDel1656
    replace hp := hp reTo1657
    replace hp := hp reAdd1658
    replace hp := hp (Sl.len heLines1661)
    refine sq (o_pv (.pointer (some ⟨b1647, o1648 + i822.toNat * 5, none⟩)) rfl (x_ixA (m := h.length) (c := ch5) (k := .i64) (i := i822) Tryd.underlying48 Tryd.sizeOf130 (by rw [← ha1650]; kernel_rfl) (by kernel_rfl) h1646) ?_)
    refine sq (o_pv (.agg #[(.int .i64 ((lget h i822).At)), (.int .i64 ((lget h i822).Del)), (.int .i64 ((lget h i822).To)), (.int .i64 ((lget h i822).Add)), (.slice aeLines1659 (((lget h i822).Lines).length) ceLines1660)]) rfl (x_loadN [(.int .i64 ((lget h i822).At)), (.int .i64 ((lget h i822).Del)), (.int .i64 ((lget h i822).To)), (.int .i64 ((lget h i822).Add)), (.slice aeLines1659 (((lget h i822).Lines).length) ceLines1660)] (by kernel_rfl) Tryd.isAgg130 Tryd.sizeOf130 hc1654) ?_)
    refine sq (o_pv (.int .i64 end_820) rfl (by kernel_rfl) ?_)
    refine sq (o_pv (.slice a816 n817 c818) rfl (by kernel_rfl) ?_)
    refine sq (o_pv (.int .i64 (out815.length : Int)) rfl (by rw [← show n817 = out815.length from O819.1]; kernel_rfl) ?_)
    refine sq (o_pv (.int .i64 end_820) rfl (by kernel_rfl) ?_)
    obtain ⟨h1662, hp⟩ := hp
    refine sq (o_pv (.int .i64 ((out815.length : Int) - end_820)) rfl (x_sub2 (k := .i64) (a := (out815.length : Int)) (b := end_820) ((out815.length : Int) - end_820) (by kernel_rfl) (by kernel_rfl) (wrap_inR h1662)) ?_)
    refine sq (o_call 76 #[(.slice aa1 a.length ca2), (.agg #[(.int .i64 ((lget h i822).At)), (.int .i64 ((lget h i822).Del)), (.int .i64 ((lget h i822).To)), (.int .i64 ((lget h i822).Add)), (.slice aeLines1659 ((lget h i822).Lines).length ceLines1660)]), (.int .i64 end_820), (.int .i64 ((out815.length : Int) - end_820))] rfl (x_call Tryd.call76 (by rw []; kernel_rfl)) (rectoref11_hunk_w (X := []) (a := a) (h := (lget h i822)) (end_ := end_820) (shift := (out815.length : Int) - end_820) (Old.nil _) (Sl.less ha1637 (Sub.nil _)) reAt1655 reDel1656 reTo1657 reAdd1658 (Sl.less heLines1661 (Sub.nil _)) rend_821 h1662 hp) ?_)
    rintro _ w1664 ⟨r1663, hp, e1665, rfl, rr1667⟩
    have s1666 := Step.of0 X1624 e1665
    replace hp := hp rr1667
    refine sq (o_pv (.int .i64 r1663) rfl (by kernel_rfl) ?_)
    refine nil_ ?_
    refine then_normal (K1645 _ _ _ _ ?_)
    refine seq_ (fun _ K1668 => ?_)
    refine seq_ (fun _ K1669 => ?_)
    refine reg_ ?_
    refine sq (o_pv (.int .i64 r1663) rfl (by kernel_rfl) ?_)
    refine sq (o_pv (.bool (!decide (r1663 = (0 : Int)))) rfl (by kernel_rfl) ?_)
    refine nil_ ?_
    refine then_normal (K1669 _ _ _ _ ?_)
    refine cond_nd (r1663 = (0 : Int)) (by kernel_rfl) (fun h1670 => ?_) (fun h1670 => ?_)
    ·
      replace hp := hp.1 h1670
      refine seq_ (fun _ K1671 => ?_)
      refine reg_ ?_
      refine sq (o_pv (.int .i64 i822) rfl (by kernel_rfl) ?_)
      refine sq (o_pv (.int .i64 r1663) rfl (by kernel_rfl) ?_)
      have hXo1672 := (Old.step hXo1635 s1666)
      refine sq (o_call 14 #[(.string (ByteArray.mk #[104, 117, 110, 107])), (.int .i64 i822), (.int .i64 r1663)] rfl (x_call Tryd.call14 (by kernel_rfl)) (rectoref3_At_w (X := X1624) (word := (ByteArray.mk #[104, 117, 110, 107])) (at_ := i822) (e := r1663) hXo1672 (by decide) ri823 rr1667 hp) ?_)
      rintro _ w1674 ⟨r1673, hp, e1675, arParts1677, crParts1678, rfl, hrParts1679, rrErr1680⟩
      have s1676 := Step.of0 X1624 e1675
      replace hp := hp (Sl.len hrParts1679)
      replace hp := hp rrErr1680
      refine sq (o_pv (.slice none 0 0) rfl (by kernel_rfl) ?_)
      have k1681 := (OB.step0 (OB.step0 k1639 s1666) s1676)
      have O1682 := (OS.step0 (OS.step0 O819 s1666) s1676)
      have E1683 := (Evo.then0 (Evo.then0 E1634 e1665) e1675)
      refine sq (o_stB (o := 0) (v := (.agg #[(.slice arParts1677 r1673.Parts.length crParts1678), (.int .i64 r1673.Err)])) [(.slice arParts1677 r1673.Parts.length crParts1678), (.int .i64 r1673.Err)] rfl k1681 (by kernel_rfl) (by kernel_rfl) Tryd.sizeOf34 rfl rfl rfl ?_)
      intro w1684 s1685 k1686
      refine nil_ ?_
      refine then_normal (K1671 _ _ _ _ ?_)
      refine wp_ret ?_
      refine then_ret ?_
      refine blk_ret ?_
      refine then_ret ?_
      refine then_ret ?_
      refine blk_ret ?_
      refine then_ret ?_
      have hrParts1687 := (Sl.step hrParts1679 s1685)
      have hS1688 := (Sub.trans (Sub.trans (Sub.trans hS1636 (Step.up s1666)) (Step.up s1676)) (Step.up s1685))
      have E1689 := (Evo.thenW E1683 (Step.evo s1685) k1681.2.2)
      refine end_ret hQ (.tuple #[(.slice none 0 0), (.agg #[(.slice arParts1677 r1673.Parts.length crParts1678), (.int .i64 r1673.Err)])]) (rs2 Tryd.results30 (rs_tmp (by kernel_rfl)) (rs_agg [(.slice arParts1677 r1673.Parts.length crParts1678), (.int .i64 r1673.Err)] (by kernel_rfl) Tryd.isAgg34 Tryd.sizeOf34 (k1686.2.1.cells' 0 rfl))) ?_
      exact ⟨([] : List ByteArray), r1673, hp, E1689, none, 0, arParts1677, crParts1678, rfl, Sl.nil, (Sl.less hrParts1687 hS1688), rrErr1680⟩
    ·
      replace hp := hp.2 h1670
      refine wp_skip ?_
      refine then_normal (K1668 _ _ _ _ ?_)
      refine seq_ (fun _ K1690 => ?_)
      refine reg_ ?_
      refine sq (o_pv (.slice a816 n817 c818) rfl (by kernel_rfl) ?_)
      refine sq (o_pv (.slice aa1 a.length ca2) rfl (by kernel_rfl) ?_)
      refine sq (o_pv (.int .i64 end_820) rfl (by kernel_rfl) ?_)
      refine sq (o_pv (.slice ah4 h.length ch5) rfl (by kernel_rfl) ?_)
      refine sq (o_pv (.int .i64 i822) rfl (by kernel_rfl) ?_)
      obtain ⟨h1691, hp⟩ := hp
      have hh1692 := (Sl.step hh1638 s1666)
      obtain ⟨b1693, o1694, cs1695, ha1696, nx1697, lt1698, ok1699, hc1700⟩ := Sl.atI hh1692 i822 h1691
      obtain ⟨aeLines1705, ceLines1706, rfl, reAt1701, reDel1702, reTo1703, reAdd1704, heLines1707⟩ := r_rectoref11_Hunk_open ok1699
      replace hp := hp reAt1701
      replace hp := hp reDel1702
      replace hp := hp reTo1703
      replace hp := hp reAdd1704
      replace hp := hp (Sl.len heLines1707)
      refine sq (o_pv (.pointer (some ⟨b1693, o1694 + i822.toNat * 5, none⟩)) rfl (x_ixA (m := h.length) (c := ch5) (k := .i64) (i := i822) Tryd.underlying48 Tryd.sizeOf130 (by rw [← ha1696]; kernel_rfl) (by kernel_rfl) h1691) ?_)
      refine sq (o_pv (.pointer (some ⟨b1693, o1694 + i822.toNat * 5, none⟩)) rfl (by kernel_rfl) ?_)
      refine sq (o_pv (.int .i64 ((lget h i822).At)) rfl (x_load1 (by kernel_rfl) Tryd.isAgg3 (hc1700 0 _ rfl)) ?_)
      have ha1708 := (Sl.step ha1637 s1666)
      obtain ⟨h1712, hp⟩ := hp
      refine sq (o_slice (R := rStr) (X := X1624) (L := a) end_820.toNat (((lget h i822).At).toNat) ((a.take ((lget h i822).At).toNat).drop end_820.toNat) rfl Tryd.underlying39 Tryd.sizeOf9 ha1708 (by kernel_rfl) rfl (.inr ⟨.i64, by rw [show ((end_820.toNat : Nat) : Int) = end_820 from by omega]; kernel_rfl⟩) (.inr ⟨.i64, by rw [show ((((lget h i822).At).toNat : Nat) : Int) = (lget h i822).At from by omega]; kernel_rfl⟩) (by omega) (by omega) rfl ?_)
      intro a1709 c1710 h1711
      obtain ⟨h1713, hp⟩ := hp
      have O1714 := (OS.step0 O819 s1666)
      have k1715 := (OB.step0 k1639 s1666)
      have E1716 := (Evo.then0 E1634 e1665)
      refine sq (o_appX (R := rStr) (X := X1624) (B := w.heap.size) (L := out815) (M := (a.take ((lget h i822).At).toNat).drop end_820.toNat) rfl elT39 rfl E1716.size O1714 (Sl.src h1711) rfl (by kernel_rfl) (by kernel_rfl) h1713 ?_)
      intro a1717 n1718 c1719 w1720 X1721 s1722 O1723 gr1724
      have p1725 := gr1724 _ p1640 (OB.old k1715)
      refine sq (o_pv (.slice a1717 n1718 c1719) rfl (by kernel_rfl) ?_)
      refine nil_ ?_
      refine then_normal (K1690 _ _ _ _ ?_)
      refine seq_ (fun _ K1726 => ?_)
      refine seq_ (fun _ K1727 => ?_)
      refine reg_ ?_
      refine sq (o_pv (.int .i64 (0 : Int)) rfl (by kernel_rfl) ?_)
      refine nil_ ?_
      refine then_normal (K1727 _ _ _ _ ?_)
      refine wp_block ?_
      have E2165 := (Evo.thenW E1716 (Step.evo s1722) O1714.2.2)
      have hXo2166 := (Old.step (Old.step hXo1635 s1666) s1722)
      have hS2167 := (Sub.trans (Sub.trans hS1636 (Step.up s1666)) (Step.up s1722))
      have ha2168 := (Sl.step ha1708 s1722)
      have hh2169 := (Sl.step hh1692 s1722)
      have k2170 := (OB.step k1715 s1722 p1640)
      have heLines2171 := (Sl.step (Sl.step heLines1661 s1666) s1722)
      have heLines2172 := (Sl.step heLines1707 s1722)
      have h2173 := (Sl.step h1711 s1722)
      obtain ⟨I2155, m2156, hI2157, hp⟩ := hp
      refine loop_ 37778931854161068688448 (fun kq lq w2159 => ∃ (X2160 : List Nat) (out1940 : (List ByteArray)) (k1945 : Int) (a1941 : Option Addr) (n1942 : Nat) (c1943 : Nat), (lq = [(6, (.slice a1941 n1942 c1943)), (10, (.int .i64 k1945))]) ∧ (kq = m2156 out1940 k1945) ∧ (Evo [] w w2159) ∧ (Old X2160 w2159) ∧ (Sub X X2160) ∧ (Sl rStr X2160 w2159 aa1 ca2 a) ∧ (Sl r_rectoref11_Hunk X2160 w2159 ah4 ch5 h) ∧ (OB ([]) w.heap.size X2160 w2159 b8 [(.slice none 0 0), (.int .i64 (0 : Int))] 34) ∧ (OS rStr ([]) w.heap.size X2160 w2159 9 a1941 n1942 c1943 out1940) ∧ (Ap ([b8]) (blkL a1941)) ∧ (inR .i64 k1945) ∧ (I2155 out1940 k1945)) (m2156 (out815 ++ ((a.take ((lget h i822).At).toNat).drop end_820.toNat)) (0 : Int)) [(6, (.slice a1717 n1718 c1719)), (10, (.int .i64 (0 : Int)))] (vs_cons (by kernel_rfl) (vs_cons (by kernel_rfl) vs_nil)) ⟨X1721, (out815 ++ ((a.take ((lget h i822).At).toNat).drop end_820.toNat)), (0 : Int), a1717, n1718, c1719, rfl, rfl, E2165, hXo2166, hS2167, ha2168, hh2169, k2170, O1723, p1725, (by decide), hI2157⟩ ?_
      rintro _ _ w2159 g2162 ⟨X2160, out1940, k1945, a1941, n1942, c1943, rfl, rfl, E2174, hXo2175, hS2176, ha2177, hh2178, k2179, O1944, p2180, rk1946, hI2158⟩ Kl2163 hA2164
      replace hp := hp out1940 k1945 hI2158 (OS.len O1944) rk1946
      refine seq_ (fun _ K2181 => ?_)
      refine seq_ (fun _ K2182 => ?_)
      refine reg_ ?_
      refine sq (o_pv (.int .i64 k1945) rfl (by kernel_rfl) ?_)
      refine sq (o_pv (.slice ah4 h.length ch5) rfl (by kernel_rfl) ?_)
      refine sq (o_pv (.int .i64 i822) rfl (by kernel_rfl) ?_)
      obtain ⟨h2183, hp⟩ := hp
      obtain ⟨b2184, o2185, cs2186, ha2187, nx2188, lt2189, ok2190, hc2191⟩ := Sl.atI hh2178 i822 h2183
      obtain ⟨aeLines2196, ceLines2197, rfl, reAt2192, reDel2193, reTo2194, reAdd2195, heLines2198⟩ := r_rectoref11_Hunk_open ok2190
      replace hp := hp reAt2192
      replace hp := hp reDel2193
      replace hp := hp reTo2194
      replace hp := hp reAdd2195
      replace hp := hp (Sl.len heLines2198)
      refine sq (o_pv (.pointer (some ⟨b2184, o2185 + i822.toNat * 5, none⟩)) rfl (x_ixA (m := h.length) (c := ch5) (k := .i64) (i := i822) Tryd.underlying48 Tryd.sizeOf130 (by rw [← ha2187]; kernel_rfl) (by kernel_rfl) h2183) ?_)
      refine sq (o_pv (.pointer (some ⟨b2184, o2185 + i822.toNat * 5 + 4, none⟩)) rfl (by kernel_rfl) ?_)
      refine sq (o_pv (.slice aeLines2196 (((lget h i822).Lines).length) ceLines2197) rfl (x_load1 (by kernel_rfl) Tryd.isAgg41 (hc2191 4 _ rfl)) ?_)
      refine sq (o_pv (.int .i64 (((lget h i822).Lines).length : Int)) rfl (by kernel_rfl) ?_)
      refine sq (o_pv (.bool (decide (k1945 < (((lget h i822).Lines).length : Int)))) rfl (by kernel_rfl) ?_)
      refine nil_ ?_
      refine then_normal (K2182 _ _ _ _ ?_)
      refine cond_d (k1945 < (((lget h i822).Lines).length : Int)) (by kernel_rfl) (fun h2199 => ?_) (fun h2199 => ?_)
      ·
        replace hp := hp.1 h2199
        refine wp_skip ?_
        refine then_normal (K2181 _ _ _ _ ?_)
        refine seq_ (fun _ K2200 => ?_)
        obtain ⟨k2283, hk2284, hp⟩ := hp
        refine ground_ ?_
        refine join_ 37778922855757906968640 (fun lq w2285 => ∃ (X2286 : List Nat) (out2278 : (List ByteArray)) (a2279 : Option Addr) (n2280 : Nat) (c2281 : Nat), (lq = [(6, (.slice a2279 n2280 c2281))]) ∧ (Evo [] w w2285) ∧ (Old X2286 w2285) ∧ (Sub X X2286) ∧ (Sl rStr X2286 w2285 aa1 ca2 a) ∧ (Sl r_rectoref11_Hunk X2286 w2285 ah4 ch5 h) ∧ (OB ([]) w.heap.size X2286 w2285 b8 [(.slice none 0 0), (.int .i64 (0 : Int))] 34) ∧ (OS rStr ([]) w.heap.size X2286 w2285 9 a2279 n2280 c2281 out2278) ∧ (Ap ([b8]) (blkL a2279)) ∧ (k2283 out2278)) (fun Kj2287 hJ2288 => ?_) ?_
        ·
          refine wp_block ?_
          refine seq_ (fun _ K2297 => ?_)
          refine reg_ ?_
          refine sq (o_pv (.slice ah4 h.length ch5) rfl (by kernel_rfl) ?_)
          refine sq (o_pv (.int .i64 i822) rfl (by kernel_rfl) ?_)
          obtain ⟨h2298, hp⟩ := hp
          obtain ⟨b2299, o2300, cs2301, ha2302, nx2303, lt2304, ok2305, hc2306⟩ := Sl.atI hh2178 i822 h2298
          obtain ⟨aeLines2311, ceLines2312, rfl, reAt2307, reDel2308, reTo2309, reAdd2310, heLines2313⟩ := r_rectoref11_Hunk_open ok2305
          replace hp := hp reAt2307
          replace hp := hp reDel2308
          replace hp := hp reTo2309
          replace hp := hp reAdd2310
          replace hp := hp (Sl.len heLines2313)
          refine sq (o_pv (.pointer (some ⟨b2299, o2300 + i822.toNat * 5, none⟩)) rfl (x_ixA (m := h.length) (c := ch5) (k := .i64) (i := i822) Tryd.underlying48 Tryd.sizeOf130 (by rw [← ha2302]; kernel_rfl) (by kernel_rfl) h2298) ?_)
          refine sq (o_pv (.pointer (some ⟨b2299, o2300 + i822.toNat * 5 + 4, none⟩)) rfl (by kernel_rfl) ?_)
          refine sq (o_pv (.slice aeLines2311 (((lget h i822).Lines).length) ceLines2312) rfl (x_load1 (by kernel_rfl) Tryd.isAgg41 (hc2306 4 _ rfl)) ?_)
          refine sq (o_pv (.int .i64 k1945) rfl (by kernel_rfl) ?_)
          obtain ⟨h2314, hp⟩ := hp
          obtain ⟨b2315, o2316, cs2317, ha2318, nx2319, lt2320, ok2321, hc2322⟩ := Sl.atI heLines2313 k1945 h2314
          obtain ⟨rfl, reOp2323, zeLine2324⟩ := r_rectoref11_Edit_open ok2321
          replace hp := hp reOp2323
          replace hp := hp zeLine2324
          refine sq (o_pv (.pointer (some ⟨b2315, o2316 + k1945.toNat * 2, none⟩)) rfl (x_ixA (m := ((lget h i822).Lines).length) (c := ceLines2312) (k := .i64) (i := k1945) Tryd.underlying41 Tryd.sizeOf124 (by rw [← ha2318]; kernel_rfl) (by kernel_rfl) h2314) ?_)
          refine sq (o_pv (.pointer (some ⟨b2315, o2316 + k1945.toNat * 2, none⟩)) rfl (by kernel_rfl) ?_)
          refine sq (o_pv (.int .i64 ((lget ((lget h i822).Lines) k1945).Op)) rfl (x_load1 (by kernel_rfl) Tryd.isAgg3 (hc2322 0 _ rfl)) ?_)
          refine sq (o_pv (.bool (!decide (((lget ((lget h i822).Lines) k1945).Op) = (2 : Int)))) rfl (by kernel_rfl) ?_)
          refine nil_ ?_
          refine then_normal (K2297 _ _ _ _ ?_)
          refine cond_nd (((lget ((lget h i822).Lines) k1945).Op) = (2 : Int)) (by kernel_rfl) (fun h2325 => ?_) (fun h2325 => ?_)
          ·
            replace hp := hp.1 h2325
            refine reg_ ?_
            refine sq (o_pv (.slice a1941 n1942 c1943) rfl (by kernel_rfl) ?_)
            refine sq (o_pv (.slice ah4 h.length ch5) rfl (by kernel_rfl) ?_)
            refine sq (o_pv (.int .i64 i822) rfl (by kernel_rfl) ?_)
            obtain ⟨h2326, hp⟩ := hp
            obtain ⟨b2327, o2328, cs2329, ha2330, nx2331, lt2332, ok2333, hc2334⟩ := Sl.atI hh2178 i822 h2326
            obtain ⟨aeLines2339, ceLines2340, rfl, reAt2335, reDel2336, reTo2337, reAdd2338, heLines2341⟩ := r_rectoref11_Hunk_open ok2333
            replace hp := hp reAt2335
            replace hp := hp reDel2336
            replace hp := hp reTo2337
            replace hp := hp reAdd2338
            replace hp := hp (Sl.len heLines2341)
            refine sq (o_pv (.pointer (some ⟨b2327, o2328 + i822.toNat * 5, none⟩)) rfl (x_ixA (m := h.length) (c := ch5) (k := .i64) (i := i822) Tryd.underlying48 Tryd.sizeOf130 (by rw [← ha2330]; kernel_rfl) (by kernel_rfl) h2326) ?_)
            refine sq (o_pv (.pointer (some ⟨b2327, o2328 + i822.toNat * 5 + 4, none⟩)) rfl (by kernel_rfl) ?_)
            refine sq (o_pv (.slice aeLines2339 (((lget h i822).Lines).length) ceLines2340) rfl (x_load1 (by kernel_rfl) Tryd.isAgg41 (hc2334 4 _ rfl)) ?_)
            refine sq (o_pv (.int .i64 k1945) rfl (by kernel_rfl) ?_)
            obtain ⟨h2342, hp⟩ := hp
            obtain ⟨b2343, o2344, cs2345, ha2346, nx2347, lt2348, ok2349, hc2350⟩ := Sl.atI heLines2341 k1945 h2342
            obtain ⟨rfl, reOp2351, zeLine2352⟩ := r_rectoref11_Edit_open ok2349
            replace hp := hp reOp2351
            replace hp := hp zeLine2352
            refine sq (o_pv (.pointer (some ⟨b2343, o2344 + k1945.toNat * 2, none⟩)) rfl (x_ixA (m := ((lget h i822).Lines).length) (c := ceLines2340) (k := .i64) (i := k1945) Tryd.underlying41 Tryd.sizeOf124 (by rw [← ha2346]; kernel_rfl) (by kernel_rfl) h2342) ?_)
            refine sq (o_pv (.pointer (some ⟨b2343, o2344 + k1945.toNat * 2 + 1, none⟩)) rfl (by kernel_rfl) ?_)
            refine sq (o_pv (.string ((lget ((lget h i822).Lines) k1945).Line)) rfl (x_load1 (by kernel_rfl) Tryd.isAgg9 (hc2350 1 _ rfl)) ?_)
            refine sq (o_rowX (R := rStr) [(.string ((lget ((lget h i822).Lines) k1945).Line))] [(lget ((lget h i822).Lines) k1945).Line] 9 1 (X := X2160) (B := w.heap.size) E2174.size rfl (by kernel_rfl) (Flat.cons (cs := [(.string ((lget ((lget h i822).Lines) k1945).Line))]) (rStr_mk zeLine2352) Flat.nil) rfl (by decide) ?_)
            intro b2353 w2354 X2355 s2356 O2357 n2358
            have p2359 := n2358 _ (OB.old k2179)
            have p2360 := n2358 _ (OS.old O1944)
            obtain ⟨h2361, hp⟩ := hp
            have O2362 := (OS.step0 O1944 s2356)
            have k2363 := (OB.step0 k2179 s2356)
            have E2364 := (Evo.then0 E2174 (Step.evo s2356))
            refine sq (o_appX (R := rStr) (X := X2355) (B := w.heap.size) (L := out1940) (M := [(lget ((lget h i822).Lines) k1945).Line]) rfl elT39 rfl E2364.size O2362 (OS.src O2357) O2357.1 (by kernel_rfl) (by kernel_rfl) h2361 ?_)
            intro a2365 n2366 c2367 w2368 X2369 s2370 O2371 gr2372
            have p2373 := gr2372 _ p2180 (OB.old k2363)
            refine sq (o_pv (.slice a2365 n2366 c2367) rfl (by kernel_rfl) ?_)
            refine nil_ ?_
            refine blk_normal ?_
            have E2374 := (Evo.thenW E2364 (Step.evo s2370) O2362.2.2)
            have hXo2375 := (Old.step (Old.step hXo2175 s2356) s2370)
            have hS2376 := (Sub.trans (Sub.trans hS2176 (Step.up s2356)) (Step.up s2370))
            have ha2377 := (Sl.step (Sl.step ha2177 s2356) s2370)
            have hh2378 := (Sl.step (Sl.step hh2178 s2356) s2370)
            have k2379 := (OB.step k2363 s2370 p2180)
            refine then_normal (hJ2288 _ _ _ ⟨[(6, (.slice a2365 n2366 c2367))], fit_mk (fun _ _ => rfl) (by kernel_rfl) (vs_cons (by kernel_rfl) vs_nil), ?_⟩)
            exact ⟨X2369, (out1940 ++ ([(lget ((lget h i822).Lines) k1945).Line])), a2365, n2366, c2367, rfl, E2374, hXo2375, hS2376, ha2377, hh2378, k2379, O2371, p2373, hp⟩
          ·
            replace hp := hp.2 h2325
            refine wp_skip ?_
            refine blk_normal ?_
            refine then_normal (hJ2288 _ _ _ ⟨[(6, (.slice a1941 n1942 c1943))], fit_mk (fun _ _ => rfl) (by kernel_rfl) (vs_cons (by kernel_rfl) vs_nil), ?_⟩)
            exact ⟨X2160, out1940, a1941, n1942, c1943, rfl, E2174, hXo2175, hS2176, ha2177, hh2178, k2179, O1944, p2180, hp⟩
        ·
          rintro _ w2285 g2380 ⟨X2286, out2278, a2279, n2280, c2281, rfl, E2290, hXo2291, hS2292, ha2293, hh2294, k2295, O2282, p2296, hv2289⟩
          replace hp := hk2284 out2278 hv2289 (OS.len O2282)
          refine then_normal (K2200 _ _ _ _ ?_)
          refine reg_ ?_
          refine sq (o_pv (.int .i64 k1945) rfl (by kernel_rfl) ?_)
          obtain ⟨h2381, hp⟩ := hp
          refine sq (o_pv (.int .i64 (k1945 + (1 : Int))) rfl (x_add2 (k := .i64) (a := k1945) (b := (1 : Int)) (k1945 + (1 : Int)) (by kernel_rfl) (by kernel_rfl) (wrap_inR h2381)) ?_)
          refine sq (o_pv (.int .i64 (k1945 + (1 : Int))) rfl (by kernel_rfl) ?_)
          refine nil_ ?_
          refine then_normal (hA2164 _ _ _ ⟨_, [(6, (.slice a2279 n2280 c2281)), (10, (.int .i64 (k1945 + (1 : Int))))], hp.2, fit_mk (AgB.nest (AgB.look (AgB.mix _ _ _) (by kernel_rfl)) (by kernel_rfl) (by kernel_rfl)) (by kernel_rfl) (vs_cons (by kernel_rfl) (vs_cons (by kernel_rfl) vs_nil)), ?_⟩)
          exact ⟨X2286, out2278, (k1945 + (1 : Int)), a2279, n2280, c2281, rfl, rfl, E2290, hXo2291, hS2292, ha2293, hh2294, k2295, O2282, p2296, h2381, hp.1⟩
      ·
        replace hp := hp.2 h2199
        refine wp_exit ?_
        refine then_exit ?_
        refine then_exit ?_
        refine blk_exit ?_
        refine then_normal (K1726 _ _ _ _ ?_)
        refine reg_drawn (RB w2159.heap.size []) 11 (by kernel_rfl) (fun w2382 hd2383 => ?_)
        have e2384 := Evo.of_drew hd2383
        have z2385 : w2382.heap.size = w2159.heap.size := by rw [hd2383]
        clear hd2383
        have s2387 := Step.of0 X2160 e2384
        have er2386 := RB.refl w2159.heap.size [] w2382
        have E2388 := (Evo.then0 E2174 (Step.evo s2387))
        have hXo2389 := (Old.step hXo2175 s2387)
        have hS2390 := (Sub.trans hS2176 (Step.up s2387))
        have ha2391 := (Sl.step ha2177 s2387)
        have hh2392 := (Sl.step hh2178 s2387)
        have k2393 := (OB.step0 k2179 s2387)
        have O2394 := (OS.step0 O1944 s2387)
        have heLines2395 := (Sl.step heLines2198 s2387)
        refine r_take 0 (.slice ah4 h.length ch5) (RB.pre _ _) rfl (by kernel_rfl) (fun _ _ _ h => hQ.panic _ _ _ _ _ h) (.inl ⟨rfl, fun wq hq => (by kernel_rfl)⟩) ?_
        refine r_take 1 (.int .i64 i822) (RB.pre _ _) rfl (by kernel_rfl) (fun _ _ _ h => hQ.panic _ _ _ _ _ h) (.inl ⟨rfl, fun wq hq => (by kernel_rfl)⟩) ?_
        obtain ⟨h2396, hp⟩ := hp
        obtain ⟨b2397, o2398, cs2399, ha2400, nx2401, lt2402, ok2403, hc2404⟩ := Sl.atI hh2392 i822 h2396
        obtain ⟨aeLines2409, ceLines2410, rfl, reAt2405, reDel2406, reTo2407, reAdd2408, heLines2411⟩ := r_rectoref11_Hunk_open ok2403
        replace hp := hp reAt2405
        replace hp := hp reDel2406
        replace hp := hp reTo2407
        replace hp := hp reAdd2408
        replace hp := hp (Sl.len heLines2411)
        refine r_take 2 (.pointer (some ⟨b2397, o2398 + i822.toNat * 5, none⟩)) (RB.pre _ _) rfl (by kernel_rfl) (fun _ _ _ h => hQ.panic _ _ _ _ _ h) (.inl ⟨rfl, fun wq hq => (x_ixA (m := h.length) (c := ch5) (k := .i64) (i := i822) Tryd.underlying48 Tryd.sizeOf130 (by rw [← ha2400]; kernel_rfl) (by kernel_rfl) h2396)⟩) ?_
        refine r_take 3 (.pointer (some ⟨b2397, o2398 + i822.toNat * 5, none⟩)) (RB.pre _ _) rfl (by kernel_rfl) (fun _ _ _ h => hQ.panic _ _ _ _ _ h) (.inl ⟨rfl, fun wq hq => (by kernel_rfl)⟩) ?_
        refine r_take 4 (.int .i64 ((lget h i822).At)) (RB.pre _ _) rfl (by kernel_rfl) (fun _ _ _ h => hQ.panic _ _ _ _ _ h) (.inl ⟨rfl, fun wq hq => (x_load1 (by kernel_rfl) Tryd.isAgg3 ((CellsAt.rb hc2404 (RB.trans er2386 hq) (Nat.lt_of_lt_of_eq lt2402 z2385) (fun h => by cases h)) 0 _ rfl))⟩) ?_
        refine r_take 5 (.slice ah4 h.length ch5) (RB.pre _ _) rfl (by kernel_rfl) (fun _ _ _ h => hQ.panic _ _ _ _ _ h) (.inl ⟨rfl, fun wq hq => (by kernel_rfl)⟩) ?_
        refine r_take 6 (.int .i64 i822) (RB.pre _ _) rfl (by kernel_rfl) (fun _ _ _ h => hQ.panic _ _ _ _ _ h) (.inl ⟨rfl, fun wq hq => (by kernel_rfl)⟩) ?_
        obtain ⟨h2412, hp⟩ := hp
        obtain ⟨b2413, o2414, cs2415, ha2416, nx2417, lt2418, ok2419, hc2420⟩ := Sl.atI hh2392 i822 h2412
        obtain ⟨aeLines2425, ceLines2426, rfl, reAt2421, reDel2422, reTo2423, reAdd2424, heLines2427⟩ := r_rectoref11_Hunk_open ok2419
        replace hp := hp reAt2421
        replace hp := hp reDel2422
        replace hp := hp reTo2423
        replace hp := hp reAdd2424
        replace hp := hp (Sl.len heLines2427)
        refine r_take 7 (.pointer (some ⟨b2413, o2414 + i822.toNat * 5, none⟩)) (RB.pre _ _) rfl (by kernel_rfl) (fun _ _ _ h => hQ.panic _ _ _ _ _ h) (.inl ⟨rfl, fun wq hq => (x_ixA (m := h.length) (c := ch5) (k := .i64) (i := i822) Tryd.underlying48 Tryd.sizeOf130 (by rw [← ha2416]; kernel_rfl) (by kernel_rfl) h2412)⟩) ?_
        refine r_take 8 (.pointer (some ⟨b2413, o2414 + i822.toNat * 5 + 1, none⟩)) (RB.pre _ _) rfl (by kernel_rfl) (fun _ _ _ h => hQ.panic _ _ _ _ _ h) (.inl ⟨rfl, fun wq hq => (by kernel_rfl)⟩) ?_
        refine r_take 9 (.int .i64 ((lget h i822).Del)) (RB.pre _ _) rfl (by kernel_rfl) (fun _ _ _ h => hQ.panic _ _ _ _ _ h) (.inl ⟨rfl, fun wq hq => (x_load1 (by kernel_rfl) Tryd.isAgg3 ((CellsAt.rb hc2420 (RB.trans er2386 hq) (Nat.lt_of_lt_of_eq lt2418 z2385) (fun h => by cases h)) 1 _ rfl))⟩) ?_
        obtain ⟨h2428, hp⟩ := hp
        refine r_take 10 (.int .i64 (((lget h i822).At) + ((lget h i822).Del))) (RB.pre _ _) rfl (by kernel_rfl) (fun _ _ _ h => hQ.panic _ _ _ _ _ h) (.inl ⟨rfl, fun wq hq => (x_add2 (k := .i64) (a := (lget h i822).At) (b := (lget h i822).Del) (((lget h i822).At) + ((lget h i822).Del)) (by kernel_rfl) (by kernel_rfl) (wrap_inR h2428))⟩) ?_
        refine r_ready [11] (by kernel_rfl) rfl (all_cons ⟨_, _, _, _, _, _, rfl, ?_⟩ all_nil)
        refine o_pv (.int .i64 (((lget h i822).At) + ((lget h i822).Del))) rfl (by kernel_rfl) ?_
        refine ⟨fun h => absurd h (by decide), ?_⟩
        refine r_done (by kernel_rfl) ?_
        refine blk_normal ?_
        refine then_normal (K1644 _ _ _ _ ?_)
        refine reg_ ?_
        refine sq (o_pv (.int .i64 i822) rfl (by kernel_rfl) ?_)
        obtain ⟨h2429, hp⟩ := hp
        refine sq (o_pv (.int .i64 (i822 + (1 : Int))) rfl (x_add2 (k := .i64) (a := i822) (b := (1 : Int)) (i822 + (1 : Int)) (by kernel_rfl) (by kernel_rfl) (wrap_inR h2429)) ?_)
        refine sq (o_pv (.int .i64 (i822 + (1 : Int))) rfl (by kernel_rfl) ?_)
        refine nil_ ?_
        refine then_normal (hA1628 _ _ _ ⟨_, [(6, (.slice a1941 n1942 c1943)), (7, (.int .i64 (((lget h i822).At) + ((lget h i822).Del)))), (8, (.int .i64 (i822 + (1 : Int))))], hp.2, fit_mk (AgB.nest (AgB.mix _ _ _) (by kernel_rfl) (by kernel_rfl)) (by kernel_rfl) (vs_cons (by kernel_rfl) (vs_cons (by kernel_rfl) (vs_cons (by kernel_rfl) vs_nil))), ?_⟩)
        exact ⟨X2160, out1940, (((lget h i822).At) + ((lget h i822).Del)), (i822 + (1 : Int)), a1941, n1942, c1943, rfl, rfl, E2388, hXo2389, hS2390, ha2391, hh2392, k2393, O2394, p2180, h2428, h2429, hp.1⟩
  ·
    replace hp := hp.2 h1643
    refine wp_exit ?_
    refine then_exit ?_
    refine then_exit ?_
    refine blk_exit ?_
    refine then_normal (K16 _ _ _ _ ?_)
    refine seq_ (fun _ K2430 => ?_)
    refine reg_ ?_
    refine sq (o_pv (.slice a816 n817 c818) rfl (by kernel_rfl) ?_)
    refine sq (o_pv (.slice aa1 a.length ca2) rfl (by kernel_rfl) ?_)
    refine sq (o_pv (.int .i64 end_820) rfl (by kernel_rfl) ?_)
    obtain ⟨h2434, hp⟩ := hp
    refine sq (o_slice (R := rStr) (X := X1624) (L := a) end_820.toNat a.length (a.drop end_820.toNat) rfl Tryd.underlying39 Tryd.sizeOf9 ha1637 (by kernel_rfl) rfl (.inr ⟨.i64, by rw [show ((end_820.toNat : Nat) : Int) = end_820 from by omega]; kernel_rfl⟩) (.inl ⟨rfl, rfl, rfl⟩) (by omega) (by omega) (by rw [List.take_length]) ?_)
    intro a2431 c2432 h2433
    obtain ⟨h2435, hp⟩ := hp
    refine sq (o_appX (R := rStr) (X := X1624) (B := w.heap.size) (L := out815) (M := a.drop end_820.toNat) rfl elT39 rfl E1634.size O819 (Sl.src h2433) rfl (by kernel_rfl) (by kernel_rfl) h2435 ?_)
    intro a2436 n2437 c2438 w2439 X2440 s2441 O2442 gr2443
    have p2444 := gr2443 _ p1640 (OB.old k1639)
    refine sq (o_pv (.agg #[(.slice none 0 0), (.int .i64 (0 : Int))]) rfl (by kernel_rfl) ?_)
    refine sq (o_pv (.slice a2436 n2437 c2438) rfl (by kernel_rfl) ?_)
    have k2445 := (OB.step k1639 s2441 p1640)
    have E2446 := (Evo.thenW E1634 (Step.evo s2441) O819.2.2)
    refine sq (o_stB (o := 0) (v := (.agg #[(.slice none 0 0), (.int .i64 (0 : Int))])) [(.slice none 0 0), (.int .i64 (0 : Int))] rfl k2445 (by kernel_rfl) (by kernel_rfl) Tryd.sizeOf34 rfl rfl rfl ?_)
    intro w2447 s2448 k2449
    refine nil_ ?_
    refine then_normal (K2430 _ _ _ _ ?_)
    refine wp_ret ?_
    have O2450 := (OS.step O2442 s2448 (Ap.symm p2444))
    have hS2451 := (Sub.trans (Sub.trans hS1636 (Step.up s2441)) (Step.up s2448))
    have E2452 := (Evo.thenW E2446 (Step.evo s2448) k2445.2.2)
    refine end_ret hQ (.tuple #[(.slice a2436 n2437 c2438), (.agg #[(.slice none 0 0), (.int .i64 (0 : Int))])]) (rs2 Tryd.results30 (rs_tmp (by kernel_rfl)) (rs_agg [(.slice none 0 0), (.int .i64 (0 : Int))] (by kernel_rfl) Tryd.isAgg34 Tryd.sizeOf34 (k2449.2.1.cells' 0 rfl))) ?_
    exact ⟨(out815 ++ (a.drop end_820.toNat)), (S_rectoref3_Wrong.mk ([] : List S_rectoref3_Part) (0 : Int)), hp, E2452, a2436, c2438, none, 0, (by (rw [show n2437 = (out815 ++ (a.drop end_820.toNat)).length from O2450.1]); first | done | rfl), (OS.out O2450 hS2451 hX0), Sl.nil, (by decide)⟩

end Go.Proofs.YtjejeipdndddpaaDoor
