/- Walks of functions: what each asks and computes, as a plain predicate, and the contract from it. -/
import Derived.Test.YtnnbnljofklieaaDoorChecked
import Derived.Test.YtnnbnljofklieaaDoorPq7
namespace Go.Proofs.YtnnbnljofklieaaDoor
open Go


def rectoref11_Turned_p (h : (List S_rectoref11_Hunk)) (Q : (List S_rectoref11_Hunk) → Prop) : Prop :=
  ((h.length ≤ 9223372036854775807) → (∃ (I8299 : (List S_rectoref11_Hunk) → Int → Prop) (m8300 : (List S_rectoref11_Hunk) → Int → Nat), (I8299 ([] : List S_rectoref11_Hunk) (0 : Int)) ∧ (∀ (out3991 : (List S_rectoref11_Hunk)) (i3996 : Int), (I8299 out3991 i3996) → (out3991.length ≤ 9223372036854775807) → (inR .i64 i3996) → (((i3996 < (h.length : Int)) → ((inL h i3996) ∧ ((inR .i64 ((lget h i3996).At)) → ((inR .i64 ((lget h i3996).Del)) → ((inR .i64 ((lget h i3996).To)) → ((inR .i64 ((lget h i3996).Add)) → ((((lget h i3996).Lines).length ≤ 9223372036854775807) → ((inL h i3996) ∧ ((inR .i64 ((lget h i3996).At)) → ((inR .i64 ((lget h i3996).Del)) → ((inR .i64 ((lget h i3996).To)) → ((inR .i64 ((lget h i3996).Add)) → ((((lget h i3996).Lines).length ≤ 9223372036854775807) → ((inL h i3996) ∧ ((inR .i64 ((lget h i3996).At)) → ((inR .i64 ((lget h i3996).Del)) → ((inR .i64 ((lget h i3996).To)) → ((inR .i64 ((lget h i3996).Add)) → ((((lget h i3996).Lines).length ≤ 9223372036854775807) → ((inL h i3996) ∧ ((inR .i64 ((lget h i3996).At)) → ((inR .i64 ((lget h i3996).Del)) → ((inR .i64 ((lget h i3996).To)) → ((inR .i64 ((lget h i3996).Add)) → ((((lget h i3996).Lines).length ≤ 9223372036854775807) → ((inL h i3996) ∧ ((inR .i64 ((lget h i3996).At)) → ((inR .i64 ((lget h i3996).Del)) → ((inR .i64 ((lget h i3996).To)) → ((inR .i64 ((lget h i3996).Add)) → ((((lget h i3996).Lines).length ≤ 9223372036854775807) → (∃ (I11173 : Int → (List S_rectoref11_Edit) → Prop) (m11174 : Int → (List S_rectoref11_Edit) → Nat), (I11173 (0 : Int) ([] : List S_rectoref11_Edit)) ∧ (∀ (k9788 : Int) (f9790 : (List S_rectoref11_Edit)), (I11173 k9788 f9790) → (inR .i64 k9788) → (f9790.length ≤ 9223372036854775807) → (((k9788 < (((lget h i3996).Lines).length : Int)) → ((inL ((lget h i3996).Lines) k9788) ∧ ((inR .i64 ((lget ((lget h i3996).Lines) k9788).Op)) → ((((lget ((lget h i3996).Lines) k9788).Line).size ≤ maxLen) → (((((lget ((lget h i3996).Lines) k9788).Op) = (1 : Int)) → ((inL ((lget h i3996).Lines) k9788) ∧ ((inR .i64 ((lget ((lget h i3996).Lines) k9788).Op)) → ((((lget ((lget h i3996).Lines) k9788).Line).size ≤ maxLen) → (((f9790.length + ([(lget ((lget h i3996).Lines) k9788)]).length) * 24 ≤ 140737488355328) ∧ ((inR .i64 (k9788 + (1 : Int))) ∧ ((I11173 (k9788 + (1 : Int)) (f9790 ++ ([(lget ((lget h i3996).Lines) k9788)]))) ∧ m11174 (k9788 + (1 : Int)) (f9790 ++ ([(lget ((lget h i3996).Lines) k9788)])) < m11174 k9788 f9790))))))) ∧ ((¬ (((lget ((lget h i3996).Lines) k9788).Op) = (1 : Int))) → (∃ (I11340 : Int → Prop) (m11341 : Int → Nat), (I11340 k9788) ∧ (∀ (k11288 : Int), (I11340 k11288) → (inR .i64 k11288) → (∃ k11376 : Bool → Prop, (∀ (s11375 : Bool), k11376 s11375 → (((s11375 = true) → ((inR .i64 (k11288 + (1 : Int))) ∧ ((I11340 (k11288 + (1 : Int))) ∧ m11341 (k11288 + (1 : Int)) < m11341 k11288))) ∧ ((s11375 = false) → (∃ (I11795 : Int → (List S_rectoref11_Edit) → Prop) (m11796 : Int → (List S_rectoref11_Edit) → Nat), (I11795 k9788 f9790) ∧ (∀ (j11600 : Int) (f11602 : (List S_rectoref11_Edit)), (I11795 j11600 f11602) → (inR .i64 j11600) → (f11602.length ≤ 9223372036854775807) → (((j11600 < k11288) → (∃ k11896 : (List S_rectoref11_Edit) → Prop, (∀ (f11890 : (List S_rectoref11_Edit)), k11896 f11890 → (f11890.length ≤ 9223372036854775807) → ((inR .i64 (j11600 + (1 : Int))) ∧ ((I11795 (j11600 + (1 : Int)) f11890) ∧ m11796 (j11600 + (1 : Int)) f11890 < m11796 j11600 f11602))) ∧ ((inL ((lget h i3996).Lines) j11600) ∧ ((inR .i64 ((lget ((lget h i3996).Lines) j11600).Op)) → ((((lget ((lget h i3996).Lines) j11600).Line).size ≤ maxLen) → (((((lget ((lget h i3996).Lines) j11600).Op) = (3 : Int)) → ((inL ((lget h i3996).Lines) j11600) ∧ ((inR .i64 ((lget ((lget h i3996).Lines) j11600).Op)) → ((((lget ((lget h i3996).Lines) j11600).Line).size ≤ maxLen) → (((f11602.length + ([(S_rectoref11_Edit.mk (2 : Int) ((lget ((lget h i3996).Lines) j11600).Line))]).length) * 24 ≤ 140737488355328) ∧ (k11896 (f11602 ++ ([(S_rectoref11_Edit.mk (2 : Int) ((lget ((lget h i3996).Lines) j11600).Line))])))))))) ∧ ((¬ (((lget ((lget h i3996).Lines) j11600).Op) = (3 : Int))) → (k11896 f11602)))))))) ∧ ((¬ (j11600 < k11288)) → (∃ (I12378 : Int → (List S_rectoref11_Edit) → Prop) (m12379 : Int → (List S_rectoref11_Edit) → Nat), (I12378 k9788 f11602) ∧ (∀ (j12183 : Int) (f12185 : (List S_rectoref11_Edit)), (I12378 j12183 f12185) → (inR .i64 j12183) → (f12185.length ≤ 9223372036854775807) → (((j12183 < k11288) → (∃ k12479 : (List S_rectoref11_Edit) → Prop, (∀ (f12473 : (List S_rectoref11_Edit)), k12479 f12473 → (f12473.length ≤ 9223372036854775807) → ((inR .i64 (j12183 + (1 : Int))) ∧ ((I12378 (j12183 + (1 : Int)) f12473) ∧ m12379 (j12183 + (1 : Int)) f12473 < m12379 j12183 f12185))) ∧ ((inL ((lget h i3996).Lines) j12183) ∧ ((inR .i64 ((lget ((lget h i3996).Lines) j12183).Op)) → ((((lget ((lget h i3996).Lines) j12183).Line).size ≤ maxLen) → (((((lget ((lget h i3996).Lines) j12183).Op) = (2 : Int)) → ((inL ((lget h i3996).Lines) j12183) ∧ ((inR .i64 ((lget ((lget h i3996).Lines) j12183).Op)) → ((((lget ((lget h i3996).Lines) j12183).Line).size ≤ maxLen) → (((f12185.length + ([(S_rectoref11_Edit.mk (3 : Int) ((lget ((lget h i3996).Lines) j12183).Line))]).length) * 24 ≤ 140737488355328) ∧ (k12479 (f12185 ++ ([(S_rectoref11_Edit.mk (3 : Int) ((lget ((lget h i3996).Lines) j12183).Line))])))))))) ∧ ((¬ (((lget ((lget h i3996).Lines) j12183).Op) = (2 : Int))) → (k12479 f12185)))))))) ∧ ((¬ (j12183 < k11288)) → ((I11173 k11288 f12185) ∧ m11174 k11288 f12185 < m11174 k9788 f9790)))))))))))) ∧ (((k11288 < (((lget h i3996).Lines).length : Int)) → ((inL ((lget h i3996).Lines) k11288) ∧ ((inR .i64 ((lget ((lget h i3996).Lines) k11288).Op)) → ((((lget ((lget h i3996).Lines) k11288).Line).size ≤ maxLen) → (k11376 (!decide (((lget ((lget h i3996).Lines) k11288).Op) = (1 : Int)))))))) ∧ ((¬ (k11288 < (((lget h i3996).Lines).length : Int))) → (k11376 false)))))))))))) ∧ ((¬ (k9788 < (((lget h i3996).Lines).length : Int))) → (((out3991.length + ([(S_rectoref11_Hunk.mk ((lget h i3996).To) ((lget h i3996).Add) ((lget h i3996).At) ((lget h i3996).Del) f9790)]).length) * 56 ≤ 140737488355328) ∧ (∀ l12604 : List S_rectoref11_Hunk, l12604 = (out3991 ++ ([(S_rectoref11_Hunk.mk ((lget h i3996).To) ((lget h i3996).Add) ((lget h i3996).At) ((lget h i3996).Del) f9790)])) → ((inR .i64 (i3996 + (1 : Int))) ∧ ((I8299 l12604 (i3996 + (1 : Int))) ∧ m8300 l12604 (i3996 + (1 : Int)) < m8300 out3991 i3996))))))))))))))))))))))))))))))))))))))) ∧ ((¬ (i3996 < (h.length : Int))) → Q out3991)))))
set_option maxRecDepth 20000 in
set_option maxHeartbeats 4000000 in
theorem rectoref11_Turned_w {X : List Nat} {w : World} {h : (List S_rectoref11_Hunk)} {ah1 : Option Addr} {ch2 : Nat} {Q : (List S_rectoref11_Hunk) → Prop} (hX0 : Old X w) (hh3 : Sl r_rectoref11_Hunk X w ah1 ch2 h) (hp : rectoref11_Turned_p h Q) :
    Calls Tryd.prog 14 #[(.slice ah1 h.length ch2)] w (Ret fun v w' => ∃ (r0 : (List S_rectoref11_Hunk)), Q r0 ∧ Evo [] w w' ∧ ∃ (aq01 : Option Addr) (cq02 : Nat), v = (.slice aq01 r0.length cq02) ∧ Sl r_rectoref11_Hunk X w' aq01 cq02 r0) := by
  have hXo := hX0
  have E0 : Evo [] w w := RB.refl _ _ _
  have hS : Sub X X := Sub.refl _
  unfold rectoref11_Turned_p at hp
  refine enter_ Tryd.func14 rfl 130 [(0, (.slice ah1 h.length ch2))] (by kernel_rfl) (fun Qe hQ => ?_)
  replace hp := hp (Sl.len hh3)
  refine seq_ (fun _ K4 => ?_)
  refine reg_ ?_
  refine sq (o_pv (.slice none 0 0) rfl (by kernel_rfl) ?_)
  refine nil_ ?_
  refine then_normal (K4 _ _ _ _ ?_)
  refine seq_ (fun _ K5 => ?_)
  refine reg_ ?_
  refine sq (o_pv (.slice none 0 0) rfl (by kernel_rfl) ?_)
  refine nil_ ?_
  refine then_normal (K5 _ _ _ _ ?_)
  refine seq_ (fun _ K6 => ?_)
  refine seq_ (fun _ K7 => ?_)
  refine reg_ ?_
  refine sq (o_pv (.int .i64 (0 : Int)) rfl (by kernel_rfl) ?_)
  refine nil_ ?_
  refine then_normal (K7 _ _ _ _ ?_)
  refine wp_block ?_
  obtain ⟨I8299, m8300, hI8301, hp⟩ := hp
  refine loop_ 680564733841876926926749214863536422904 (fun kq lq w8303 => ∃ (X8304 : List Nat) (out3991 : (List S_rectoref11_Hunk)) (i3996 : Int) (a3992 : Option Addr) (n3993 : Nat) (c3994 : Nat), (lq = [(3, (.slice a3992 n3993 c3994)), (4, (.int .i64 i3996))]) ∧ (kq = m8300 out3991 i3996) ∧ (Evo [] w w8303) ∧ (Old X8304 w8303) ∧ (Sub X X8304) ∧ (Sl r_rectoref11_Hunk X8304 w8303 ah1 ch2 h) ∧ (OS r_rectoref11_Hunk ([]) w.heap.size X8304 w8303 60 a3992 n3993 c3994 out3991) ∧ (inR .i64 i3996) ∧ (I8299 out3991 i3996)) (m8300 ([] : List S_rectoref11_Hunk) (0 : Int)) [(3, (.slice none 0 0)), (4, (.int .i64 (0 : Int)))] (vs_cons (by kernel_rfl) (vs_cons (by kernel_rfl) vs_nil)) ⟨X, ([] : List S_rectoref11_Hunk), (0 : Int), none, 0, 0, rfl, rfl, E0, hXo, hS, hh3, (OS.nil _ _ _ _), (by decide : inR .i64 (0 : Int)), hI8301⟩ ?_
  rintro _ _ w8303 g8306 ⟨X8304, out3991, i3996, a3992, n3993, c3994, rfl, rfl, E8309, hXo8310, hS8311, hh8312, O3995, ri3997, hI8302⟩ Kl8307 hA8308
  replace hp := hp out3991 i3996 hI8302 (OS.len O3995) ri3997
  refine seq_ (fun _ K8313 => ?_)
  refine seq_ (fun _ K8314 => ?_)
  refine reg_ ?_
  refine sq (o_pv (.int .i64 i3996) rfl (by kernel_rfl) ?_)
  refine sq (o_pv (.slice ah1 h.length ch2) rfl (by kernel_rfl) ?_)
  refine sq (o_pv (.int .i64 (h.length : Int)) rfl (by kernel_rfl) ?_)
  refine sq (o_pv (.bool (decide (i3996 < (h.length : Int)))) rfl (by kernel_rfl) ?_)
  refine nil_ ?_
  refine then_normal (K8314 _ _ _ _ ?_)
  refine cond_d (i3996 < (h.length : Int)) (by kernel_rfl) (fun h8315 => ?_) (fun h8315 => ?_)
  ·
    replace hp := hp.1 h8315
    refine wp_skip ?_
    refine then_normal (K8313 _ _ _ _ ?_)
    refine seq_ (fun _ K8316 => ?_)
    refine wp_block ?_
    refine seq_ (fun _ K8317 => ?_)
    refine reg_drawn (RB w8303.heap.size []) 22 (by kernel_rfl) (fun w8318 hd8319 => ?_)
    have e8320 := Evo.of_drew hd8319
    have z8321 : w8318.heap.size = w8303.heap.size := by rw [hd8319]
    clear hd8319
    have s8323 := Step.of0 X8304 e8320
    have er8322 := RB.refl w8303.heap.size [] w8318
    have E8324 := (Evo.then0 E8309 (Step.evo s8323))
    have hXo8325 := (Old.step hXo8310 s8323)
    have hS8326 := (Sub.trans hS8311 (Step.up s8323))
    have hh8327 := (Sl.step hh8312 s8323)
    have O8328 := (OS.step0 O3995 s8323)
    refine r_take 0 (.slice ah1 h.length ch2) (RB.pre _ _) rfl (by kernel_rfl) (fun _ _ _ h => hQ.panic _ _ _ _ _ h) (.inl ⟨rfl, fun wq hq => (by kernel_rfl)⟩) ?_
    refine r_take 1 (.int .i64 i3996) (RB.pre _ _) rfl (by kernel_rfl) (fun _ _ _ h => hQ.panic _ _ _ _ _ h) (.inl ⟨rfl, fun wq hq => (by kernel_rfl)⟩) ?_
    obtain ⟨h8329, hp⟩ := hp
    obtain ⟨b8330, o8331, cs8332, ha8333, nx8334, lt8335, ok8336, hc8337⟩ := Sl.atI hh8327 i3996 h8329
    obtain ⟨aeLines8342, ceLines8343, rfl, reAt8338, reDel8339, reTo8340, reAdd8341, heLines8344⟩ := r_rectoref11_Hunk_open ok8336
    replace hp := hp reAt8338
    replace hp := hp reDel8339
    replace hp := hp reTo8340
    replace hp := hp reAdd8341
    replace hp := hp (Sl.len heLines8344)
    refine r_take 2 (.pointer (some ⟨b8330, o8331 + i3996.toNat * 5, none⟩)) (RB.pre _ _) rfl (by kernel_rfl) (fun _ _ _ h => hQ.panic _ _ _ _ _ h) (.inl ⟨rfl, fun wq hq => (x_ixA (m := h.length) (c := ch2) (k := .i64) (i := i3996) Tryd.underlying35 Tryd.sizeOf60 (by rw [← ha8333]; kernel_rfl) (by kernel_rfl) h8329)⟩) ?_
    refine r_take 3 (.pointer (some ⟨b8330, o8331 + i3996.toNat * 5 + 2, none⟩)) (RB.pre _ _) rfl (by kernel_rfl) (fun _ _ _ h => hQ.panic _ _ _ _ _ h) (.inl ⟨rfl, fun wq hq => (by kernel_rfl)⟩) ?_
    refine r_take 4 (.int .i64 ((lget h i3996).To)) (RB.pre _ _) rfl (by kernel_rfl) (fun _ _ _ h => hQ.panic _ _ _ _ _ h) (.inl ⟨rfl, fun wq hq => (x_load1 (by kernel_rfl) Tryd.isAgg3 ((CellsAt.rb hc8337 (RB.trans er8322 hq) (Nat.lt_of_lt_of_eq lt8335 z8321) (fun h => by cases h)) 2 _ rfl))⟩) ?_
    refine r_take 5 (.slice ah1 h.length ch2) (RB.pre _ _) rfl (by kernel_rfl) (fun _ _ _ h => hQ.panic _ _ _ _ _ h) (.inl ⟨rfl, fun wq hq => (by kernel_rfl)⟩) ?_
    refine r_take 6 (.int .i64 i3996) (RB.pre _ _) rfl (by kernel_rfl) (fun _ _ _ h => hQ.panic _ _ _ _ _ h) (.inl ⟨rfl, fun wq hq => (by kernel_rfl)⟩) ?_
    obtain ⟨h8345, hp⟩ := hp
    obtain ⟨b8346, o8347, cs8348, ha8349, nx8350, lt8351, ok8352, hc8353⟩ := Sl.atI hh8327 i3996 h8345
    obtain ⟨aeLines8358, ceLines8359, rfl, reAt8354, reDel8355, reTo8356, reAdd8357, heLines8360⟩ := r_rectoref11_Hunk_open ok8352
    replace hp := hp reAt8354
    replace hp := hp reDel8355
    replace hp := hp reTo8356
    replace hp := hp reAdd8357
    replace hp := hp (Sl.len heLines8360)
    refine r_take 7 (.pointer (some ⟨b8346, o8347 + i3996.toNat * 5, none⟩)) (RB.pre _ _) rfl (by kernel_rfl) (fun _ _ _ h => hQ.panic _ _ _ _ _ h) (.inl ⟨rfl, fun wq hq => (x_ixA (m := h.length) (c := ch2) (k := .i64) (i := i3996) Tryd.underlying35 Tryd.sizeOf60 (by rw [← ha8349]; kernel_rfl) (by kernel_rfl) h8345)⟩) ?_
    refine r_take 8 (.pointer (some ⟨b8346, o8347 + i3996.toNat * 5 + 3, none⟩)) (RB.pre _ _) rfl (by kernel_rfl) (fun _ _ _ h => hQ.panic _ _ _ _ _ h) (.inl ⟨rfl, fun wq hq => (by kernel_rfl)⟩) ?_
    refine r_take 9 (.int .i64 ((lget h i3996).Add)) (RB.pre _ _) rfl (by kernel_rfl) (fun _ _ _ h => hQ.panic _ _ _ _ _ h) (.inl ⟨rfl, fun wq hq => (x_load1 (by kernel_rfl) Tryd.isAgg3 ((CellsAt.rb hc8353 (RB.trans er8322 hq) (Nat.lt_of_lt_of_eq lt8351 z8321) (fun h => by cases h)) 3 _ rfl))⟩) ?_
    refine r_take 10 (.slice ah1 h.length ch2) (RB.pre _ _) rfl (by kernel_rfl) (fun _ _ _ h => hQ.panic _ _ _ _ _ h) (.inl ⟨rfl, fun wq hq => (by kernel_rfl)⟩) ?_
    refine r_take 11 (.int .i64 i3996) (RB.pre _ _) rfl (by kernel_rfl) (fun _ _ _ h => hQ.panic _ _ _ _ _ h) (.inl ⟨rfl, fun wq hq => (by kernel_rfl)⟩) ?_
    obtain ⟨h8361, hp⟩ := hp
    obtain ⟨b8362, o8363, cs8364, ha8365, nx8366, lt8367, ok8368, hc8369⟩ := Sl.atI hh8327 i3996 h8361
    obtain ⟨aeLines8374, ceLines8375, rfl, reAt8370, reDel8371, reTo8372, reAdd8373, heLines8376⟩ := r_rectoref11_Hunk_open ok8368
    replace hp := hp reAt8370
    replace hp := hp reDel8371
    replace hp := hp reTo8372
    replace hp := hp reAdd8373
    replace hp := hp (Sl.len heLines8376)
    refine r_take 12 (.pointer (some ⟨b8362, o8363 + i3996.toNat * 5, none⟩)) (RB.pre _ _) rfl (by kernel_rfl) (fun _ _ _ h => hQ.panic _ _ _ _ _ h) (.inl ⟨rfl, fun wq hq => (x_ixA (m := h.length) (c := ch2) (k := .i64) (i := i3996) Tryd.underlying35 Tryd.sizeOf60 (by rw [← ha8365]; kernel_rfl) (by kernel_rfl) h8361)⟩) ?_
    refine r_take 13 (.pointer (some ⟨b8362, o8363 + i3996.toNat * 5, none⟩)) (RB.pre _ _) rfl (by kernel_rfl) (fun _ _ _ h => hQ.panic _ _ _ _ _ h) (.inl ⟨rfl, fun wq hq => (by kernel_rfl)⟩) ?_
    refine r_take 14 (.int .i64 ((lget h i3996).At)) (RB.pre _ _) rfl (by kernel_rfl) (fun _ _ _ h => hQ.panic _ _ _ _ _ h) (.inl ⟨rfl, fun wq hq => (x_load1 (by kernel_rfl) Tryd.isAgg3 ((CellsAt.rb hc8369 (RB.trans er8322 hq) (Nat.lt_of_lt_of_eq lt8367 z8321) (fun h => by cases h)) 0 _ rfl))⟩) ?_
    refine r_take 15 (.slice ah1 h.length ch2) (RB.pre _ _) rfl (by kernel_rfl) (fun _ _ _ h => hQ.panic _ _ _ _ _ h) (.inl ⟨rfl, fun wq hq => (by kernel_rfl)⟩) ?_
    refine r_take 16 (.int .i64 i3996) (RB.pre _ _) rfl (by kernel_rfl) (fun _ _ _ h => hQ.panic _ _ _ _ _ h) (.inl ⟨rfl, fun wq hq => (by kernel_rfl)⟩) ?_
    obtain ⟨h8377, hp⟩ := hp
    obtain ⟨b8378, o8379, cs8380, ha8381, nx8382, lt8383, ok8384, hc8385⟩ := Sl.atI hh8327 i3996 h8377
    obtain ⟨aeLines8390, ceLines8391, rfl, reAt8386, reDel8387, reTo8388, reAdd8389, heLines8392⟩ := r_rectoref11_Hunk_open ok8384
    replace hp := hp reAt8386
    replace hp := hp reDel8387
    replace hp := hp reTo8388
    replace hp := hp reAdd8389
    replace hp := hp (Sl.len heLines8392)
    refine r_take 17 (.pointer (some ⟨b8378, o8379 + i3996.toNat * 5, none⟩)) (RB.pre _ _) rfl (by kernel_rfl) (fun _ _ _ h => hQ.panic _ _ _ _ _ h) (.inl ⟨rfl, fun wq hq => (x_ixA (m := h.length) (c := ch2) (k := .i64) (i := i3996) Tryd.underlying35 Tryd.sizeOf60 (by rw [← ha8381]; kernel_rfl) (by kernel_rfl) h8377)⟩) ?_
    refine r_take 18 (.pointer (some ⟨b8378, o8379 + i3996.toNat * 5 + 1, none⟩)) (RB.pre _ _) rfl (by kernel_rfl) (fun _ _ _ h => hQ.panic _ _ _ _ _ h) (.inl ⟨rfl, fun wq hq => (by kernel_rfl)⟩) ?_
    refine r_take 19 (.int .i64 ((lget h i3996).Del)) (RB.pre _ _) rfl (by kernel_rfl) (fun _ _ _ h => hQ.panic _ _ _ _ _ h) (.inl ⟨rfl, fun wq hq => (x_load1 (by kernel_rfl) Tryd.isAgg3 ((CellsAt.rb hc8385 (RB.trans er8322 hq) (Nat.lt_of_lt_of_eq lt8383 z8321) (fun h => by cases h)) 1 _ rfl))⟩) ?_
    refine r_take 20 (.agg #[(.int .i64 ((lget h i3996).To)), (.int .i64 ((lget h i3996).Add)), (.int .i64 ((lget h i3996).At)), (.int .i64 ((lget h i3996).Del)), (.slice none 0 0)]) (RB.pre _ _) rfl (by kernel_rfl) (fun _ _ _ h => hQ.panic _ _ _ _ _ h) (.inl ⟨rfl, fun wq hq => (by kernel_rfl)⟩) ?_
    refine r_ready [21] (by kernel_rfl) rfl (all_cons ⟨_, _, _, _, _, _, rfl, ?_⟩ all_nil)
    refine o_newX [(.int .i64 (0 : Int)), (.int .i64 (0 : Int)), (.int .i64 (0 : Int)), (.int .i64 (0 : Int)), (.slice none 0 0)] 60 (X := X8304) (B := w.heap.size) E8324.size rfl (by kernel_rfl) ?_
    intro b8393 w8394 X8395 s8396 k8397 n8398
    have rm := RB.mono (F' := []) (Step.evo s8396) (Nat.le_trans (Nat.le_of_eq z8321.symm) (RB.size er8322)) (fun _ h => by cases h)
    have er8399 := RB.trans er8322 rm
    refine ⟨fun _ => rm, ?_⟩
    have gb8400 := apge n8398 (Nat.le_trans (Nat.le_of_eq z8321.symm) (RB.size er8322))
    have p8401 := n8398 _ (OS.old O8328)
    refine r_ready [22] (by kernel_rfl) rfl (all_cons ⟨_, _, _, _, _, _, rfl, ?_⟩ all_nil)
    have O8402 := (OS.step0 O8328 s8396)
    have E8403 := (Evo.then0 E8324 (Step.evo s8396))
    refine o_stB (o := 0) (v := (.agg #[(.int .i64 ((lget h i3996).To)), (.int .i64 ((lget h i3996).Add)), (.int .i64 ((lget h i3996).At)), (.int .i64 ((lget h i3996).Del)), (.slice none 0 0)])) [(.int .i64 ((lget h i3996).To)), (.int .i64 ((lget h i3996).Add)), (.int .i64 ((lget h i3996).At)), (.int .i64 ((lget h i3996).Del)), (.slice none 0 0)] rfl k8397 (by kernel_rfl) (by kernel_rfl) Tryd.sizeOf60 rfl rfl rfl ?_
    intro w8404 s8405 k8406
    refine ⟨fun h => absurd h (by decide), ?_⟩
    refine r_done (by kernel_rfl) ?_
    refine then_normal (K8317 _ _ _ _ ?_)
    refine seq_ (fun _ K8407 => ?_)
    refine reg_ ?_
    refine sq (o_pv (.slice ah1 h.length ch2) rfl (by kernel_rfl) ?_)
    refine sq (o_pv (.int .i64 i3996) rfl (by kernel_rfl) ?_)
    obtain ⟨h8408, hp⟩ := hp
    have hh8409 := (Sl.step (Sl.step hh8327 s8396) s8405)
    obtain ⟨b8410, o8411, cs8412, ha8413, nx8414, lt8415, ok8416, hc8417⟩ := Sl.atI hh8409 i3996 h8408
    obtain ⟨aeLines8422, ceLines8423, rfl, reAt8418, reDel8419, reTo8420, reAdd8421, heLines8424⟩ := r_rectoref11_Hunk_open ok8416
    replace hp := hp reAt8418
    replace hp := hp reDel8419
    replace hp := hp reTo8420
    replace hp := hp reAdd8421
    replace hp := hp (Sl.len heLines8424)
    refine sq (o_pv (.pointer (some ⟨b8410, o8411 + i3996.toNat * 5, none⟩)) rfl (x_ixA (m := h.length) (c := ch2) (k := .i64) (i := i3996) Tryd.underlying35 Tryd.sizeOf60 (by rw [← ha8413]; kernel_rfl) (by kernel_rfl) h8408) ?_)
    refine sq (o_pv (.pointer (some ⟨b8410, o8411 + i3996.toNat * 5 + 4, none⟩)) rfl (by kernel_rfl) ?_)
    refine sq (o_pv (.slice aeLines8422 (((lget h i3996).Lines).length) ceLines8423) rfl (x_load1 (by kernel_rfl) Tryd.isAgg25 (hc8417 4 _ rfl)) ?_)
    refine sq (o_pv (.slice aeLines8422 (((lget h i3996).Lines).length) ceLines8423) rfl (by kernel_rfl) ?_)
    refine nil_ ?_
    refine then_normal (K8407 _ _ _ _ ?_)
    refine seq_ (fun _ K8425 => ?_)
    refine reg_ ?_
    refine sq (o_pv (.int .i64 (0 : Int)) rfl (by kernel_rfl) ?_)
    refine nil_ ?_
    refine then_normal (K8425 _ _ _ _ ?_)
    refine seq_ (fun _ K8426 => ?_)
    refine wp_block ?_
    have E11183 := (Evo.thenW E8403 (Step.evo s8405) k8397.2.2)
    have hXo11184 := (Old.step (Old.step hXo8325 s8396) s8405)
    have hS11185 := (Sub.trans (Sub.trans hS8326 (Step.up s8396)) (Step.up s8405))
    have O11186 := (OS.step O8402 s8405 p8401)
    have heLines11187 := (Sl.step (Sl.step heLines8344 s8396) s8405)
    have heLines11188 := (Sl.step (Sl.step heLines8360 s8396) s8405)
    have heLines11189 := (Sl.step (Sl.step heLines8376 s8396) s8405)
    have heLines11190 := (Sl.step (Sl.step heLines8392 s8396) s8405)
    obtain ⟨I11173, m11174, hI11175, hp⟩ := hp
    refine loop_ 42535295865117307932921817132878006144 (fun kq lq w11177 => ∃ (X11178 : List Nat) (k9788 : Int) (f9790 : (List S_rectoref11_Edit)) (a9791 : Option Addr) (n9792 : Nat) (c9793 : Nat), (lq = [(7, (.int .i64 k9788))]) ∧ (kq = m11174 k9788 f9790) ∧ (Evo [] w w11177) ∧ (Old X11178 w11177) ∧ (Sub X X11178) ∧ (Sl r_rectoref11_Hunk X11178 w11177 ah1 ch2 h) ∧ (OS r_rectoref11_Hunk ([]) w.heap.size X11178 w11177 60 a3992 n3993 c3994 out3991) ∧ (Sl r_rectoref11_Edit X11178 w11177 aeLines8422 ceLines8423 ((lget h i3996).Lines)) ∧ (OS r_rectoref11_Edit ([]) w.heap.size X11178 w11177 54 a9791 n9792 c9793 f9790) ∧ (OB ([]) w.heap.size X11178 w11177 b8393 [(.int .i64 ((lget h i3996).To)), (.int .i64 ((lget h i3996).Add)), (.int .i64 ((lget h i3996).At)), (.int .i64 ((lget h i3996).Del)), (.slice a9791 n9792 c9793)] 60) ∧ (Ap (blkL a3992) (blkL a9791)) ∧ (Ap (blkL a3992) ([b8393])) ∧ (Ap (blkL a9791) ([b8393])) ∧ (inR .i64 k9788) ∧ (I11173 k9788 f9790)) (m11174 (0 : Int) ([] : List S_rectoref11_Edit)) [(7, (.int .i64 (0 : Int)))] (vs_cons (by kernel_rfl) vs_nil) ⟨X8395, (0 : Int), ([] : List S_rectoref11_Edit), none, 0, 0, rfl, rfl, E11183, hXo11184, hS11185, hh8409, O11186, heLines8424, (OS.nil _ _ _ _), k8406, (Ap.nil_r _), p8401, (Ap.nil_l _), (by decide : inR .i64 (0 : Int)), hI11175⟩ ?_
    rintro _ _ w11177 g11180 ⟨X11178, k9788, f9790, a9791, n9792, c9793, rfl, rfl, E11191, hXo11192, hS11193, hh11194, O11195, heLines11196, O9794, k9795, p11197, p11198, p11199, rk9789, hI11176⟩ Kl11181 hA11182
    replace hp := hp k9788 f9790 hI11176 rk9789 (OS.len O9794)
    refine seq_ (fun _ K11200 => ?_)
    refine seq_ (fun _ K11201 => ?_)
    refine reg_ ?_
    refine sq (o_pv (.int .i64 k9788) rfl (by kernel_rfl) ?_)
    refine sq (o_pv (.slice aeLines8422 (((lget h i3996).Lines).length) ceLines8423) rfl (by kernel_rfl) ?_)
    refine sq (o_pv (.int .i64 (((lget h i3996).Lines).length : Int)) rfl (by kernel_rfl) ?_)
    refine sq (o_pv (.bool (decide (k9788 < (((lget h i3996).Lines).length : Int)))) rfl (by kernel_rfl) ?_)
    refine nil_ ?_
    refine then_normal (K11201 _ _ _ _ ?_)
    refine cond_d (k9788 < (((lget h i3996).Lines).length : Int)) (by kernel_rfl) (fun h11202 => ?_) (fun h11202 => ?_)
    ·
      replace hp := hp.1 h11202
      refine wp_skip ?_
      refine then_normal (K11200 _ _ _ _ ?_)
      refine wp_block ?_
      refine seq_ (fun _ K11203 => ?_)
      refine seq_ (fun _ K11204 => ?_)
      refine reg_ ?_
      refine sq (o_pv (.slice aeLines8422 (((lget h i3996).Lines).length) ceLines8423) rfl (by kernel_rfl) ?_)
      refine sq (o_pv (.int .i64 k9788) rfl (by kernel_rfl) ?_)
      obtain ⟨h11205, hp⟩ := hp
      obtain ⟨b11206, o11207, cs11208, ha11209, nx11210, lt11211, ok11212, hc11213⟩ := Sl.atI heLines11196 k9788 h11205
      obtain ⟨rfl, reOp11214, zeLine11215⟩ := r_rectoref11_Edit_open ok11212
      replace hp := hp reOp11214
      replace hp := hp zeLine11215
      refine sq (o_pv (.pointer (some ⟨b11206, o11207 + k9788.toNat * 2, none⟩)) rfl (x_ixA (m := ((lget h i3996).Lines).length) (c := ceLines8423) (k := .i64) (i := k9788) Tryd.underlying25 Tryd.sizeOf54 (by rw [← ha11209]; kernel_rfl) (by kernel_rfl) h11205) ?_)
      refine sq (o_pv (.pointer (some ⟨b11206, o11207 + k9788.toNat * 2, none⟩)) rfl (by kernel_rfl) ?_)
      refine sq (o_pv (.int .i64 ((lget ((lget h i3996).Lines) k9788).Op)) rfl (x_load1 (by kernel_rfl) Tryd.isAgg3 (hc11213 0 _ rfl)) ?_)
      refine sq (o_pv (.bool (decide (((lget ((lget h i3996).Lines) k9788).Op) = (1 : Int)))) rfl (by kernel_rfl) ?_)
      refine nil_ ?_
      refine then_normal (K11204 _ _ _ _ ?_)
      refine cond_d (((lget ((lget h i3996).Lines) k9788).Op) = (1 : Int)) (by kernel_rfl) (fun h11216 => ?_) (fun h11216 => ?_)
      ·
        replace hp := hp.1 h11216
        refine seq_ (fun _ K11217 => ?_)
        have hFX11224 : Sub (blkL a9791) X11178 := (OS.mem O9794)
        refine reg_drawn (RB w11177.heap.size (blkL a9791)) 9 (by kernel_rfl) (fun w11218 hd11219 => ?_)
        have e11220 := Evo.of_drew hd11219
        have z11221 : w11218.heap.size = w11177.heap.size := by rw [hd11219]
        clear hd11219
        have s11223 := Step.of0 X11178 e11220
        have er11222 := RB.refl w11177.heap.size (blkL a9791) w11218
        have E11225 := (Evo.then0 E11191 (Step.evo s11223))
        have hXo11226 := (Old.step hXo11192 s11223)
        have hS11227 := (Sub.trans hS11193 (Step.up s11223))
        have hh11228 := (Sl.step hh11194 s11223)
        have O11229 := (OS.step0 O11195 s11223)
        have heLines11230 := (Sl.step heLines11196 s11223)
        have O11231 := (OS.step0 O9794 s11223)
        have k11232 := (OB.step0 k9795 s11223)
        refine r_take 0 (.pointer (some ⟨b8393, 4, none⟩)) (RB.pre _ _) rfl (by kernel_rfl) (fun _ _ _ h => hQ.panic _ _ _ _ _ h) (.inl ⟨rfl, fun wq hq => (by kernel_rfl)⟩) ?_
        refine r_take 1 (.slice a9791 n9792 c9793) (RB.pre _ _) rfl (by kernel_rfl) (fun _ _ _ h => hQ.panic _ _ _ _ _ h) (.inl ⟨rfl, fun wq hq => (x_load1 (by kernel_rfl) Tryd.isAgg25 ((OB.step k11232 (stepR (RB.trans er11222 hq) z11221 hFX11224) (Ap.symm p11199)).2.1.cell' 4 rfl))⟩) ?_
        refine r_take 2 (.slice aeLines8422 (((lget h i3996).Lines).length) ceLines8423) (RB.pre _ _) rfl (by kernel_rfl) (fun _ _ _ h => hQ.panic _ _ _ _ _ h) (.inl ⟨rfl, fun wq hq => (by kernel_rfl)⟩) ?_
        refine r_take 3 (.int .i64 k9788) (RB.pre _ _) rfl (by kernel_rfl) (fun _ _ _ h => hQ.panic _ _ _ _ _ h) (.inl ⟨rfl, fun wq hq => (by kernel_rfl)⟩) ?_
        obtain ⟨h11233, hp⟩ := hp
        obtain ⟨b11234, o11235, cs11236, ha11237, nx11238, lt11239, ok11240, hc11241⟩ := Sl.atI heLines11230 k9788 h11233
        obtain ⟨rfl, reOp11242, zeLine11243⟩ := r_rectoref11_Edit_open ok11240
        replace hp := hp reOp11242
        replace hp := hp zeLine11243
        refine r_take 4 (.pointer (some ⟨b11234, o11235 + k9788.toNat * 2, none⟩)) (RB.pre _ _) rfl (by kernel_rfl) (fun _ _ _ h => hQ.panic _ _ _ _ _ h) (.inl ⟨rfl, fun wq hq => (x_ixA (m := ((lget h i3996).Lines).length) (c := ceLines8423) (k := .i64) (i := k9788) Tryd.underlying25 Tryd.sizeOf54 (by rw [← ha11237]; kernel_rfl) (by kernel_rfl) h11233)⟩) ?_
        refine r_take 5 (.agg #[(.int .i64 ((lget ((lget h i3996).Lines) k9788).Op)), (.string ((lget ((lget h i3996).Lines) k9788).Line))]) (RB.pre _ _) rfl (by kernel_rfl) (fun _ _ _ h => hQ.panic _ _ _ _ _ h) (.inl ⟨rfl, fun wq hq => (x_loadN [(.int .i64 ((lget ((lget h i3996).Lines) k9788).Op)), (.string ((lget ((lget h i3996).Lines) k9788).Line))] (by kernel_rfl) Tryd.isAgg54 Tryd.sizeOf54 (CellsAt.evo hc11241 (Step.evo (stepR (RB.trans er11222 hq) z11221 hFX11224)) (fun h => nx11238 (hFX11224 _ h))))⟩) ?_
        refine r_ready [6] (by kernel_rfl) rfl (all_cons ⟨_, _, _, _, _, _, rfl, ?_⟩ all_nil)
        refine o_rowX (R := r_rectoref11_Edit) [(.int .i64 ((lget ((lget h i3996).Lines) k9788).Op)), (.string ((lget ((lget h i3996).Lines) k9788).Line))] [(lget ((lget h i3996).Lines) k9788)] 54 1 (X := X11178) (B := w.heap.size) E11225.size rfl (by kernel_rfl) (Flat.cons (cs := [(.int .i64 ((lget ((lget h i3996).Lines) k9788).Op)), (.string ((lget ((lget h i3996).Lines) k9788).Line))]) (r_rectoref11_Edit_mk reOp11242 zeLine11243) Flat.nil) rfl (by decide) ?_
        intro b11244 w11245 X11246 s11247 O11248 n11249
        have nb11250 := new_of (Nat.le_trans (Nat.le_of_eq z11221.symm) (RB.size er11222)) n11249
        have rm := RB.mono (F' := (blkL a9791)) (Step.evo s11247) (Nat.le_trans (Nat.le_of_eq z11221.symm) (RB.size er11222)) (fun _ h => by cases h)
        have er11251 := RB.trans er11222 rm
        refine ⟨fun _ => rm, ?_⟩
        have p11252 := n11249 _ (OS.old O11229)
        have p11253 := n11249 _ (OS.old O11231)
        have p11254 := n11249 _ (OB.old k11232)
        refine r_ready [7] (by kernel_rfl) rfl (all_cons ⟨_, _, _, _, _, _, rfl, ?_⟩ all_nil)
        obtain ⟨h11255, hp⟩ := hp
        have O11256 := (OS.step0 O11231 s11247)
        have O11257 := (OS.step0 O11229 s11247)
        have k11258 := (OB.step0 k11232 s11247)
        have E11259 := (Evo.then0 E11225 (Step.evo s11247))
        refine o_appX (R := r_rectoref11_Edit) (X := X11246) (B := w.heap.size) (L := f9790) (M := [(lget ((lget h i3996).Lines) k9788)]) rfl elT25 rfl E11259.size O11256 (OS.src O11248) O11248.1 (by kernel_rfl) (by kernel_rfl) h11255 ?_
        intro a11260 n11261 c11262 w11263 X11264 s11265 O11266 gr11267
        have rm := RB.mono (F' := (blkL a9791)) (Step.evo s11265) (Nat.le_trans (Nat.le_of_eq z11221.symm) (RB.size er11251)) (Wr.self _ _ (Sub.refl _))
        have er11268 := RB.trans er11251 rm
        refine ⟨fun _ => rm, ?_⟩
        have p11269 := gr11267 _ p11197 (OS.old O11257)
        have p11270 := gr11267 _ (Ap.symm p11199) (OB.old k11258)
        refine r_take 8 (.pointer (some ⟨b8393, 4, none⟩)) (RB.pre _ _) rfl (by kernel_rfl) (fun _ _ _ h => hQ.panic _ _ _ _ _ h) (.inl ⟨rfl, fun wq hq => (by kernel_rfl)⟩) ?_
        refine r_ready [9] (by kernel_rfl) rfl (all_cons ⟨_, _, _, _, _, _, rfl, ?_⟩ all_nil)
        have O11271 := (OS.step O11257 s11265 p11197)
        have k11272 := (OB.step k11258 s11265 (Ap.symm p11199))
        have E11273 := (Evo.thenW E11259 (Step.evo s11265) O11256.2.2)
        refine o_stB (o := 4) (v := (.slice a11260 n11261 c11262)) [(.int .i64 ((lget h i3996).To)), (.int .i64 ((lget h i3996).Add)), (.int .i64 ((lget h i3996).At)), (.int .i64 ((lget h i3996).Del)), (.slice a11260 n11261 c11262)] rfl k11272 (by kernel_rfl) (by kernel_rfl) Tryd.sizeOf25 rfl rfl rfl ?_
        intro w11274 s11275 k11276
        refine ⟨fun h => absurd h (by decide), ?_⟩
        refine r_done (by kernel_rfl) ?_
        refine then_normal (K11217 _ _ _ _ ?_)
        refine seq_ (fun _ K11277 => ?_)
        refine reg_ ?_
        refine sq (o_pv (.int .i64 k9788) rfl (by kernel_rfl) ?_)
        obtain ⟨h11278, hp⟩ := hp
        refine sq (o_pv (.int .i64 (k9788 + (1 : Int))) rfl (x_add2 (k := .i64) (a := k9788) (b := (1 : Int)) (k9788 + (1 : Int)) (by kernel_rfl) (by kernel_rfl) (wrap_inR h11278)) ?_)
        refine sq (o_pv (.int .i64 (k9788 + (1 : Int))) rfl (by kernel_rfl) ?_)
        refine nil_ ?_
        refine then_normal (K11277 _ _ _ _ ?_)
        refine wp_exit ?_
        refine then_exit ?_
        refine blk_exit ?_
        have E11279 := (Evo.thenW E11273 (Step.evo s11275) k11272.2.2)
        have hXo11280 := (Old.step (Old.step (Old.step hXo11226 s11247) s11265) s11275)
        have hS11281 := (Sub.trans (Sub.trans (Sub.trans hS11227 (Step.up s11247)) (Step.up s11265)) (Step.up s11275))
        have hh11282 := (Sl.step (Sl.step (Sl.step hh11228 s11247) s11265) s11275)
        have O11283 := (OS.step O11271 s11275 p11198)
        have heLines11284 := (Sl.step (Sl.step (Sl.step heLines11230 s11247) s11265) s11275)
        have O11285 := (OS.step O11266 s11275 (Ap.symm p11270))
        refine then_normal (hA11182 _ _ _ ⟨_, [(7, (.int .i64 (k9788 + (1 : Int))))], hp.2, fit_mk (AgB.mix _ _ _) (by kernel_rfl) (vs_cons (by kernel_rfl) vs_nil), ?_⟩)
        exact ⟨X11264, (k9788 + (1 : Int)), (f9790 ++ ([(lget ((lget h i3996).Lines) k9788)])), a11260, n11261, c11262, rfl, rfl, E11279, hXo11280, hS11281, hh11282, O11283, heLines11284, O11285, k11276, p11269, p11198, (Ap.symm p11270), h11278, hp.1⟩
      ·
        replace hp := hp.2 h11216
        refine wp_skip ?_
        refine then_normal (K11203 _ _ _ _ ?_)
        refine seq_ (fun _ K11286 => ?_)
        refine reg_ ?_
        refine sq (o_pv (.int .i64 k9788) rfl (by kernel_rfl) ?_)
        refine sq (o_pv (.int .i64 k9788) rfl (by kernel_rfl) ?_)
        refine nil_ ?_
        refine then_normal (K11286 _ _ _ _ ?_)
        refine seq_ (fun _ K11287 => ?_)
        refine wp_block ?_
        obtain ⟨I11340, m11341, hI11342, hp⟩ := hp
        refine loop_ 604426016319167168249984 (fun kq lq w11344 => ∃ (X11345 : List Nat) (k11288 : Int), (lq = [(7, (.int .i64 k11288))]) ∧ (kq = m11341 k11288) ∧ (Evo [] w w11344) ∧ (Old X11345 w11344) ∧ (Sub X X11345) ∧ (Sl r_rectoref11_Hunk X11345 w11344 ah1 ch2 h) ∧ (OS r_rectoref11_Hunk ([]) w.heap.size X11345 w11344 60 a3992 n3993 c3994 out3991) ∧ (Sl r_rectoref11_Edit X11345 w11344 aeLines8422 ceLines8423 ((lget h i3996).Lines)) ∧ (OS r_rectoref11_Edit ([]) w.heap.size X11345 w11344 54 a9791 n9792 c9793 f9790) ∧ (OB ([]) w.heap.size X11345 w11344 b8393 [(.int .i64 ((lget h i3996).To)), (.int .i64 ((lget h i3996).Add)), (.int .i64 ((lget h i3996).At)), (.int .i64 ((lget h i3996).Del)), (.slice a9791 n9792 c9793)] 60) ∧ (Ap (blkL a3992) (blkL a9791)) ∧ (Ap (blkL a3992) ([b8393])) ∧ (Ap (blkL a9791) ([b8393])) ∧ (inR .i64 k11288) ∧ (I11340 k11288)) (m11341 k9788) [(7, (.int .i64 k9788))] (vs_cons (by kernel_rfl) vs_nil) ⟨X11178, k9788, rfl, rfl, E11191, hXo11192, hS11193, hh11194, O11195, heLines11196, O9794, k9795, p11197, p11198, p11199, rk9789, hI11342⟩ ?_
        rintro _ _ w11344 g11347 ⟨X11345, k11288, rfl, rfl, E11350, hXo11351, hS11352, hh11353, O11354, heLines11355, O11356, k11357, p11358, p11359, p11360, rk11289, hI11343⟩ Kl11348 hA11349
        replace hp := hp k11288 hI11343 rk11289
        refine seq_ (fun _ K11361 => ?_)
        refine seq_ (fun _ K11362 => ?_)
        obtain ⟨k11376, hk11377, hp⟩ := hp
        refine ground_ ?_
        refine join_ 151078833963681227735040 (fun lq w11378 => ∃ (X11379 : List Nat) (s11375 : Bool), (lq = [(76, (.bool s11375))]) ∧ (Evo [] w w11378) ∧ (Old X11379 w11378) ∧ (Sub X X11379) ∧ (Sl r_rectoref11_Hunk X11379 w11378 ah1 ch2 h) ∧ (OS r_rectoref11_Hunk ([]) w.heap.size X11379 w11378 60 a3992 n3993 c3994 out3991) ∧ (Sl r_rectoref11_Edit X11379 w11378 aeLines8422 ceLines8423 ((lget h i3996).Lines)) ∧ (OS r_rectoref11_Edit ([]) w.heap.size X11379 w11378 54 a9791 n9792 c9793 f9790) ∧ (OB ([]) w.heap.size X11379 w11378 b8393 [(.int .i64 ((lget h i3996).To)), (.int .i64 ((lget h i3996).Add)), (.int .i64 ((lget h i3996).At)), (.int .i64 ((lget h i3996).Del)), (.slice a9791 n9792 c9793)] 60) ∧ (Ap (blkL a3992) (blkL a9791)) ∧ (Ap (blkL a3992) ([b8393])) ∧ (Ap (blkL a9791) ([b8393])) ∧ (k11376 s11375)) (fun Kj11380 hJ11381 => ?_) ?_
        ·
          refine reg_ ?_
          refine sq (o_pv (.int .i64 k11288) rfl (by kernel_rfl) ?_)
          refine sq (o_pv (.slice aeLines8422 (((lget h i3996).Lines).length) ceLines8423) rfl (by kernel_rfl) ?_)
          refine sq (o_pv (.int .i64 (((lget h i3996).Lines).length : Int)) rfl (by kernel_rfl) ?_)
          by_cases h11394 : k11288 < (((lget h i3996).Lines).length : Int)
          ·
            replace hp := hp.1 h11394
            refine sq (o_pv (.bool true) rfl (x_dt (p := k11288 < (((lget h i3996).Lines).length : Int)) (by kernel_rfl) h11394) ?_)
            refine sq (o_pv (.bool true) rfl (by kernel_rfl) ?_)
            refine sq (o_pv (.slice aeLines8422 (((lget h i3996).Lines).length) ceLines8423) (by kernel_rfl) (by kernel_rfl) ?_)
            refine sq (o_pv (.int .i64 k11288) (by kernel_rfl) (by kernel_rfl) ?_)
            obtain ⟨h11395, hp⟩ := hp
            obtain ⟨b11396, o11397, cs11398, ha11399, nx11400, lt11401, ok11402, hc11403⟩ := Sl.atI heLines11355 k11288 h11395
            obtain ⟨rfl, reOp11404, zeLine11405⟩ := r_rectoref11_Edit_open ok11402
            replace hp := hp reOp11404
            replace hp := hp zeLine11405
            refine sq (o_pv (.pointer (some ⟨b11396, o11397 + k11288.toNat * 2, none⟩)) (by kernel_rfl) (x_ixA (m := ((lget h i3996).Lines).length) (c := ceLines8423) (k := .i64) (i := k11288) Tryd.underlying25 Tryd.sizeOf54 (by rw [← ha11399]; kernel_rfl) (by kernel_rfl) h11395) ?_)
            refine sq (o_pv (.pointer (some ⟨b11396, o11397 + k11288.toNat * 2, none⟩)) (by kernel_rfl) (by kernel_rfl) ?_)
            refine sq (o_pv (.int .i64 ((lget ((lget h i3996).Lines) k11288).Op)) (by kernel_rfl) (x_load1 (by kernel_rfl) Tryd.isAgg3 (hc11403 0 _ rfl)) ?_)
            refine sq (o_pv (.bool (!decide (((lget ((lget h i3996).Lines) k11288).Op) = (1 : Int)))) (by kernel_rfl) (by kernel_rfl) ?_)
            refine sq (o_pv (.bool (!decide (((lget ((lget h i3996).Lines) k11288).Op) = (1 : Int)))) rfl (by kernel_rfl) ?_)
            refine nil_ ?_
            refine then_normal (hJ11381 _ _ _ ⟨[(76, (.bool (!decide (((lget ((lget h i3996).Lines) k11288).Op) = (1 : Int)))))], fit_mk (fun _ _ => rfl) (by kernel_rfl) (vs_cons (by kernel_rfl) vs_nil), ?_⟩)
            exact ⟨X11345, (!decide (((lget ((lget h i3996).Lines) k11288).Op) = (1 : Int))), rfl, E11350, hXo11351, hS11352, hh11353, O11354, heLines11355, O11356, k11357, p11358, p11359, p11360, hp⟩
          ·
            replace hp := hp.2 h11394
            refine sq (o_pv (.bool false) rfl (x_df (p := k11288 < (((lget h i3996).Lines).length : Int)) (by kernel_rfl) h11394) ?_)
            refine sq (o_pv (.bool false) rfl (by kernel_rfl) ?_)
            refine sq (o_not (by kernel_rfl) ?_)
            refine sq (o_not (by kernel_rfl) ?_)
            refine sq (o_not (by kernel_rfl) ?_)
            refine sq (o_not (by kernel_rfl) ?_)
            refine sq (o_not (by kernel_rfl) ?_)
            refine sq (o_not (by kernel_rfl) ?_)
            refine sq (o_pv (.bool false) rfl (by kernel_rfl) ?_)
            refine nil_ ?_
            refine then_normal (hJ11381 _ _ _ ⟨[(76, (.bool false))], fit_mk (fun _ _ => rfl) (by kernel_rfl) (vs_cons (by kernel_rfl) vs_nil), ?_⟩)
            exact ⟨X11345, false, rfl, E11350, hXo11351, hS11352, hh11353, O11354, heLines11355, O11356, k11357, p11358, p11359, p11360, hp⟩
        ·
          rintro _ w11378 g11406 ⟨X11379, s11375, rfl, E11383, hXo11384, hS11385, hh11386, O11387, heLines11388, O11389, k11390, p11391, p11392, p11393, hv11382⟩
          replace hp := hk11377 s11375 hv11382
          refine then_normal (K11362 _ _ _ _ ?_)
          refine cond_b s11375 (by kernel_rfl) (fun h11407 => ?_) (fun h11407 => ?_)
          ·
            replace hp := hp.1 h11407
            refine wp_skip ?_
            refine then_normal (K11361 _ _ _ _ ?_)
            refine wp_block ?_
            refine reg_ ?_
            refine sq (o_pv (.int .i64 k11288) rfl (by kernel_rfl) ?_)
            obtain ⟨h11408, hp⟩ := hp
            refine sq (o_pv (.int .i64 (k11288 + (1 : Int))) rfl (x_add2 (k := .i64) (a := k11288) (b := (1 : Int)) (k11288 + (1 : Int)) (by kernel_rfl) (by kernel_rfl) (wrap_inR h11408)) ?_)
            refine sq (o_pv (.int .i64 (k11288 + (1 : Int))) rfl (by kernel_rfl) ?_)
            refine nil_ ?_
            refine blk_normal ?_
            refine then_normal (hA11349 _ _ _ ⟨_, [(7, (.int .i64 (k11288 + (1 : Int))))], hp.2, fit_mk (AgB.nest (AgB.look (AgB.mix _ _ _) (by kernel_rfl)) (by kernel_rfl) (by kernel_rfl)) (by kernel_rfl) (vs_cons (by kernel_rfl) vs_nil), ?_⟩)
            exact ⟨X11379, (k11288 + (1 : Int)), rfl, rfl, E11383, hXo11384, hS11385, hh11386, O11387, heLines11388, O11389, k11390, p11391, p11392, p11393, h11408, hp.1⟩
          ·
            replace hp := hp.2 h11407
            refine wp_exit ?_
            refine then_exit ?_
            refine then_exit ?_
            refine blk_exit ?_
            refine then_normal (K11287 _ _ _ _ ?_)
            refine seq_ (fun _ K11409 => ?_)
            refine seq_ (fun _ K11410 => ?_)
            refine reg_ ?_
            refine sq (o_pv (.int .i64 k9788) rfl (by kernel_rfl) ?_)
            refine sq (o_pv (.int .i64 k9788) rfl (by kernel_rfl) ?_)
            refine nil_ ?_
            refine then_normal (K11410 _ _ _ _ ?_)
            refine wp_block ?_
            obtain ⟨I11795, m11796, hI11797, hp⟩ := hp
            refine loop_ 5070601191987097991357638115840 (fun kq lq w11799 => ∃ (X11800 : List Nat) (j11600 : Int) (f11602 : (List S_rectoref11_Edit)) (a11603 : Option Addr) (n11604 : Nat) (c11605 : Nat), (lq = [(9, (.int .i64 j11600))]) ∧ (kq = m11796 j11600 f11602) ∧ (Evo [] w w11799) ∧ (Old X11800 w11799) ∧ (Sub X X11800) ∧ (Sl r_rectoref11_Hunk X11800 w11799 ah1 ch2 h) ∧ (OS r_rectoref11_Hunk ([]) w.heap.size X11800 w11799 60 a3992 n3993 c3994 out3991) ∧ (Sl r_rectoref11_Edit X11800 w11799 aeLines8422 ceLines8423 ((lget h i3996).Lines)) ∧ (OS r_rectoref11_Edit ([]) w.heap.size X11800 w11799 54 a11603 n11604 c11605 f11602) ∧ (OB ([]) w.heap.size X11800 w11799 b8393 [(.int .i64 ((lget h i3996).To)), (.int .i64 ((lget h i3996).Add)), (.int .i64 ((lget h i3996).At)), (.int .i64 ((lget h i3996).Del)), (.slice a11603 n11604 c11605)] 60) ∧ (Ap (blkL a3992) (blkL a11603)) ∧ (Ap (blkL a3992) ([b8393])) ∧ (Ap (blkL a11603) ([b8393])) ∧ (inR .i64 j11600) ∧ (I11795 j11600 f11602)) (m11796 k9788 f9790) [(9, (.int .i64 k9788))] (vs_cons (by kernel_rfl) vs_nil) ⟨X11379, k9788, f9790, a9791, n9792, c9793, rfl, rfl, E11383, hXo11384, hS11385, hh11386, O11387, heLines11388, O11389, k11390, p11391, p11392, p11393, rk9789, hI11797⟩ ?_
            rintro _ _ w11799 g11802 ⟨X11800, j11600, f11602, a11603, n11604, c11605, rfl, rfl, E11805, hXo11806, hS11807, hh11808, O11809, heLines11810, O11606, k11607, p11811, p11812, p11813, rj11601, hI11798⟩ Kl11803 hA11804
            replace hp := hp j11600 f11602 hI11798 rj11601 (OS.len O11606)
            refine seq_ (fun _ K11814 => ?_)
            refine seq_ (fun _ K11815 => ?_)
            refine reg_ ?_
            refine sq (o_pv (.int .i64 j11600) rfl (by kernel_rfl) ?_)
            refine sq (o_pv (.int .i64 k11288) rfl (by kernel_rfl) ?_)
            refine sq (o_pv (.bool (decide (j11600 < k11288))) rfl (by kernel_rfl) ?_)
            refine nil_ ?_
            refine then_normal (K11815 _ _ _ _ ?_)
            refine cond_d (j11600 < k11288) (by kernel_rfl) (fun h11816 => ?_) (fun h11816 => ?_)
            ·
              replace hp := hp.1 h11816
              refine wp_skip ?_
              refine then_normal (K11814 _ _ _ _ ?_)
              refine seq_ (fun _ K11817 => ?_)
              obtain ⟨k11896, hk11897, hp⟩ := hp
              refine ground_ ?_
              refine join_ 5070563715286689937853222223872 (fun lq w11898 => ∃ (X11899 : List Nat) (f11890 : (List S_rectoref11_Edit)) (a11891 : Option Addr) (n11892 : Nat) (c11893 : Nat), (lq = []) ∧ (Evo [] w w11898) ∧ (Old X11899 w11898) ∧ (Sub X X11899) ∧ (Sl r_rectoref11_Hunk X11899 w11898 ah1 ch2 h) ∧ (OS r_rectoref11_Hunk ([]) w.heap.size X11899 w11898 60 a3992 n3993 c3994 out3991) ∧ (Sl r_rectoref11_Edit X11899 w11898 aeLines8422 ceLines8423 ((lget h i3996).Lines)) ∧ (OS r_rectoref11_Edit ([]) w.heap.size X11899 w11898 54 a11891 n11892 c11893 f11890) ∧ (OB ([]) w.heap.size X11899 w11898 b8393 [(.int .i64 ((lget h i3996).To)), (.int .i64 ((lget h i3996).Add)), (.int .i64 ((lget h i3996).At)), (.int .i64 ((lget h i3996).Del)), (.slice a11891 n11892 c11893)] 60) ∧ (Ap (blkL a3992) (blkL a11891)) ∧ (Ap (blkL a3992) ([b8393])) ∧ (Ap (blkL a11891) ([b8393])) ∧ (k11896 f11890)) (fun Kj11900 hJ11901 => ?_) ?_
              ·
                refine wp_block ?_
                refine seq_ (fun _ K11912 => ?_)
                refine reg_ ?_
                refine sq (o_pv (.slice aeLines8422 (((lget h i3996).Lines).length) ceLines8423) rfl (by kernel_rfl) ?_)
                refine sq (o_pv (.int .i64 j11600) rfl (by kernel_rfl) ?_)
                obtain ⟨h11913, hp⟩ := hp
                obtain ⟨b11914, o11915, cs11916, ha11917, nx11918, lt11919, ok11920, hc11921⟩ := Sl.atI heLines11810 j11600 h11913
                obtain ⟨rfl, reOp11922, zeLine11923⟩ := r_rectoref11_Edit_open ok11920
                replace hp := hp reOp11922
                replace hp := hp zeLine11923
                refine sq (o_pv (.pointer (some ⟨b11914, o11915 + j11600.toNat * 2, none⟩)) rfl (x_ixA (m := ((lget h i3996).Lines).length) (c := ceLines8423) (k := .i64) (i := j11600) Tryd.underlying25 Tryd.sizeOf54 (by rw [← ha11917]; kernel_rfl) (by kernel_rfl) h11913) ?_)
                refine sq (o_pv (.pointer (some ⟨b11914, o11915 + j11600.toNat * 2, none⟩)) rfl (by kernel_rfl) ?_)
                refine sq (o_pv (.int .i64 ((lget ((lget h i3996).Lines) j11600).Op)) rfl (x_load1 (by kernel_rfl) Tryd.isAgg3 (hc11921 0 _ rfl)) ?_)
                refine sq (o_pv (.bool (decide (((lget ((lget h i3996).Lines) j11600).Op) = (3 : Int)))) rfl (by kernel_rfl) ?_)
                refine nil_ ?_
                refine then_normal (K11912 _ _ _ _ ?_)
                refine cond_d (((lget ((lget h i3996).Lines) j11600).Op) = (3 : Int)) (by kernel_rfl) (fun h11924 => ?_) (fun h11924 => ?_)
                ·
                  replace hp := hp.1 h11924
                  have hFX11931 : Sub (blkL a11603) X11800 := (OS.mem O11606)
                  refine reg_drawn (RB w11799.heap.size (blkL a11603)) 11 (by kernel_rfl) (fun w11925 hd11926 => ?_)
                  have e11927 := Evo.of_drew hd11926
                  have z11928 : w11925.heap.size = w11799.heap.size := by rw [hd11926]
                  clear hd11926
                  have s11930 := Step.of0 X11800 e11927
                  have er11929 := RB.refl w11799.heap.size (blkL a11603) w11925
                  have E11932 := (Evo.then0 E11805 (Step.evo s11930))
                  have hXo11933 := (Old.step hXo11806 s11930)
                  have hS11934 := (Sub.trans hS11807 (Step.up s11930))
                  have hh11935 := (Sl.step hh11808 s11930)
                  have O11936 := (OS.step0 O11809 s11930)
                  have heLines11937 := (Sl.step heLines11810 s11930)
                  have O11938 := (OS.step0 O11606 s11930)
                  have k11939 := (OB.step0 k11607 s11930)
                  refine r_take 0 (.pointer (some ⟨b8393, 4, none⟩)) (RB.pre _ _) rfl (by kernel_rfl) (fun _ _ _ h => hQ.panic _ _ _ _ _ h) (.inl ⟨rfl, fun wq hq => (by kernel_rfl)⟩) ?_
                  refine r_take 1 (.slice a11603 n11604 c11605) (RB.pre _ _) rfl (by kernel_rfl) (fun _ _ _ h => hQ.panic _ _ _ _ _ h) (.inl ⟨rfl, fun wq hq => (x_load1 (by kernel_rfl) Tryd.isAgg25 ((OB.step k11939 (stepR (RB.trans er11929 hq) z11928 hFX11931) (Ap.symm p11813)).2.1.cell' 4 rfl))⟩) ?_
                  refine r_take 2 (.slice aeLines8422 (((lget h i3996).Lines).length) ceLines8423) (RB.pre _ _) rfl (by kernel_rfl) (fun _ _ _ h => hQ.panic _ _ _ _ _ h) (.inl ⟨rfl, fun wq hq => (by kernel_rfl)⟩) ?_
                  refine r_take 3 (.int .i64 j11600) (RB.pre _ _) rfl (by kernel_rfl) (fun _ _ _ h => hQ.panic _ _ _ _ _ h) (.inl ⟨rfl, fun wq hq => (by kernel_rfl)⟩) ?_
                  obtain ⟨h11940, hp⟩ := hp
                  obtain ⟨b11941, o11942, cs11943, ha11944, nx11945, lt11946, ok11947, hc11948⟩ := Sl.atI heLines11937 j11600 h11940
                  obtain ⟨rfl, reOp11949, zeLine11950⟩ := r_rectoref11_Edit_open ok11947
                  replace hp := hp reOp11949
                  replace hp := hp zeLine11950
                  refine r_take 4 (.pointer (some ⟨b11941, o11942 + j11600.toNat * 2, none⟩)) (RB.pre _ _) rfl (by kernel_rfl) (fun _ _ _ h => hQ.panic _ _ _ _ _ h) (.inl ⟨rfl, fun wq hq => (x_ixA (m := ((lget h i3996).Lines).length) (c := ceLines8423) (k := .i64) (i := j11600) Tryd.underlying25 Tryd.sizeOf54 (by rw [← ha11944]; kernel_rfl) (by kernel_rfl) h11940)⟩) ?_
                  refine r_take 5 (.pointer (some ⟨b11941, o11942 + j11600.toNat * 2 + 1, none⟩)) (RB.pre _ _) rfl (by kernel_rfl) (fun _ _ _ h => hQ.panic _ _ _ _ _ h) (.inl ⟨rfl, fun wq hq => (by kernel_rfl)⟩) ?_
                  refine r_take 6 (.string ((lget ((lget h i3996).Lines) j11600).Line)) (RB.pre _ _) rfl (by kernel_rfl) (fun _ _ _ h => hQ.panic _ _ _ _ _ h) (.inl ⟨rfl, fun wq hq => (x_load1 (by kernel_rfl) Tryd.isAgg9 ((CellsAt.evo hc11948 (Step.evo (stepR (RB.trans er11929 hq) z11928 hFX11931)) (fun h => nx11945 (hFX11931 _ h))) 1 _ rfl))⟩) ?_
                  refine r_take 7 (.agg #[(.int .i64 (2 : Int)), (.string ((lget ((lget h i3996).Lines) j11600).Line))]) (RB.pre _ _) rfl (by kernel_rfl) (fun _ _ _ h => hQ.panic _ _ _ _ _ h) (.inl ⟨rfl, fun wq hq => (by kernel_rfl)⟩) ?_
                  refine r_ready [8] (by kernel_rfl) rfl (all_cons ⟨_, _, _, _, _, _, rfl, ?_⟩ all_nil)
                  refine o_rowX (R := r_rectoref11_Edit) [(.int .i64 (2 : Int)), (.string ((lget ((lget h i3996).Lines) j11600).Line))] [(S_rectoref11_Edit.mk (2 : Int) ((lget ((lget h i3996).Lines) j11600).Line))] 54 1 (X := X11800) (B := w.heap.size) E11932.size rfl (by kernel_rfl) (Flat.cons (cs := [(.int .i64 (2 : Int)), (.string ((lget ((lget h i3996).Lines) j11600).Line))]) (r_rectoref11_Edit_mk (by decide : inR .i64 (2 : Int)) zeLine11950) Flat.nil) rfl (by decide) ?_
                  intro b11951 w11952 X11953 s11954 O11955 n11956
                  have nb11957 := new_of (Nat.le_trans (Nat.le_of_eq z11928.symm) (RB.size er11929)) n11956
                  have rm := RB.mono (F' := (blkL a11603)) (Step.evo s11954) (Nat.le_trans (Nat.le_of_eq z11928.symm) (RB.size er11929)) (fun _ h => by cases h)
                  have er11958 := RB.trans er11929 rm
                  refine ⟨fun _ => rm, ?_⟩
                  have p11959 := n11956 _ (OS.old O11936)
                  have p11960 := n11956 _ (OS.old O11938)
                  have p11961 := n11956 _ (OB.old k11939)
                  refine r_ready [9] (by kernel_rfl) rfl (all_cons ⟨_, _, _, _, _, _, rfl, ?_⟩ all_nil)
                  obtain ⟨h11962, hp⟩ := hp
                  have O11963 := (OS.step0 O11938 s11954)
                  have O11964 := (OS.step0 O11936 s11954)
                  have k11965 := (OB.step0 k11939 s11954)
                  have E11966 := (Evo.then0 E11932 (Step.evo s11954))
                  refine o_appX (R := r_rectoref11_Edit) (X := X11953) (B := w.heap.size) (L := f11602) (M := [(S_rectoref11_Edit.mk (2 : Int) ((lget ((lget h i3996).Lines) j11600).Line))]) rfl elT25 rfl E11966.size O11963 (OS.src O11955) O11955.1 (by kernel_rfl) (by kernel_rfl) h11962 ?_
                  intro a11967 n11968 c11969 w11970 X11971 s11972 O11973 gr11974
                  have rm := RB.mono (F' := (blkL a11603)) (Step.evo s11972) (Nat.le_trans (Nat.le_of_eq z11928.symm) (RB.size er11958)) (Wr.self _ _ (Sub.refl _))
                  have er11975 := RB.trans er11958 rm
                  refine ⟨fun _ => rm, ?_⟩
                  have p11976 := gr11974 _ p11811 (OS.old O11964)
                  have p11977 := gr11974 _ (Ap.symm p11813) (OB.old k11965)
                  refine r_take 10 (.pointer (some ⟨b8393, 4, none⟩)) (RB.pre _ _) rfl (by kernel_rfl) (fun _ _ _ h => hQ.panic _ _ _ _ _ h) (.inl ⟨rfl, fun wq hq => (by kernel_rfl)⟩) ?_
                  refine r_ready [11] (by kernel_rfl) rfl (all_cons ⟨_, _, _, _, _, _, rfl, ?_⟩ all_nil)
                  have O11978 := (OS.step O11964 s11972 p11811)
                  have k11979 := (OB.step k11965 s11972 (Ap.symm p11813))
                  have E11980 := (Evo.thenW E11966 (Step.evo s11972) O11963.2.2)
                  refine o_stB (o := 4) (v := (.slice a11967 n11968 c11969)) [(.int .i64 ((lget h i3996).To)), (.int .i64 ((lget h i3996).Add)), (.int .i64 ((lget h i3996).At)), (.int .i64 ((lget h i3996).Del)), (.slice a11967 n11968 c11969)] rfl k11979 (by kernel_rfl) (by kernel_rfl) Tryd.sizeOf25 rfl rfl rfl ?_
                  intro w11981 s11982 k11983
                  refine ⟨fun h => absurd h (by decide), ?_⟩
                  refine r_done (by kernel_rfl) ?_
                  refine blk_normal ?_
                  have E11984 := (Evo.thenW E11980 (Step.evo s11982) k11979.2.2)
                  have hXo11985 := (Old.step (Old.step (Old.step hXo11933 s11954) s11972) s11982)
                  have hS11986 := (Sub.trans (Sub.trans (Sub.trans hS11934 (Step.up s11954)) (Step.up s11972)) (Step.up s11982))
                  have hh11987 := (Sl.step (Sl.step (Sl.step hh11935 s11954) s11972) s11982)
                  have O11988 := (OS.step O11978 s11982 p11812)
                  have heLines11989 := (Sl.step (Sl.step (Sl.step heLines11937 s11954) s11972) s11982)
                  have O11990 := (OS.step O11973 s11982 (Ap.symm p11977))
                  refine then_normal (hJ11901 _ _ _ ⟨[], fit_mk (fun _ _ => rfl) (by kernel_rfl) vs_nil, ?_⟩)
                  exact ⟨X11971, (f11602 ++ ([(S_rectoref11_Edit.mk (2 : Int) ((lget ((lget h i3996).Lines) j11600).Line))])), a11967, n11968, c11969, rfl, E11984, hXo11985, hS11986, hh11987, O11988, heLines11989, O11990, k11983, p11976, p11812, (Ap.symm p11977), hp⟩
                ·
                  replace hp := hp.2 h11924
                  refine wp_skip ?_
                  refine blk_normal ?_
                  refine then_normal (hJ11901 _ _ _ ⟨[], fit_mk (fun _ _ => rfl) (by kernel_rfl) vs_nil, ?_⟩)
                  exact ⟨X11800, f11602, a11603, n11604, c11605, rfl, E11805, hXo11806, hS11807, hh11808, O11809, heLines11810, O11606, k11607, p11811, p11812, p11813, hp⟩
              ·
                rintro _ w11898 g11991 ⟨X11899, f11890, a11891, n11892, c11893, rfl, E11903, hXo11904, hS11905, hh11906, O11907, heLines11908, O11894, k11895, p11909, p11910, p11911, hv11902⟩
                replace hp := hk11897 f11890 hv11902 (OS.len O11894)
                refine then_normal (K11817 _ _ _ _ ?_)
                refine reg_ ?_
                refine sq (o_pv (.int .i64 j11600) rfl (by kernel_rfl) ?_)
                obtain ⟨h11992, hp⟩ := hp
                refine sq (o_pv (.int .i64 (j11600 + (1 : Int))) rfl (x_add2 (k := .i64) (a := j11600) (b := (1 : Int)) (j11600 + (1 : Int)) (by kernel_rfl) (by kernel_rfl) (wrap_inR h11992)) ?_)
                refine sq (o_pv (.int .i64 (j11600 + (1 : Int))) rfl (by kernel_rfl) ?_)
                refine nil_ ?_
                refine then_normal (hA11804 _ _ _ ⟨_, [(9, (.int .i64 (j11600 + (1 : Int))))], hp.2, fit_mk (AgB.nest (AgB.look (AgB.mix _ _ _) (by kernel_rfl)) (by kernel_rfl) (by kernel_rfl)) (by kernel_rfl) (vs_cons (by kernel_rfl) vs_nil), ?_⟩)
                exact ⟨X11899, (j11600 + (1 : Int)), f11890, a11891, n11892, c11893, rfl, rfl, E11903, hXo11904, hS11905, hh11906, O11907, heLines11908, O11894, k11895, p11909, p11910, p11911, h11992, hp.1⟩
            ·
              replace hp := hp.2 h11816
              refine wp_exit ?_
              refine then_exit ?_
              refine then_exit ?_
              refine blk_exit ?_
              refine then_normal (K11409 _ _ _ _ ?_)
              refine seq_ (fun _ K11993 => ?_)
              refine reg_ ?_
              refine sq (o_pv (.int .i64 k9788) rfl (by kernel_rfl) ?_)
              refine sq (o_pv (.int .i64 k9788) rfl (by kernel_rfl) ?_)
              refine nil_ ?_
              refine then_normal (K11993 _ _ _ _ ?_)
              refine wp_block ?_
              obtain ⟨I12378, m12379, hI12380, hp⟩ := hp
              refine loop_ 42535285723912506107086613955345384448 (fun kq lq w12382 => ∃ (X12383 : List Nat) (j12183 : Int) (f12185 : (List S_rectoref11_Edit)) (a12186 : Option Addr) (n12187 : Nat) (c12188 : Nat), (lq = [(10, (.int .i64 j12183))]) ∧ (kq = m12379 j12183 f12185) ∧ (Evo [] w w12382) ∧ (Old X12383 w12382) ∧ (Sub X X12383) ∧ (Sl r_rectoref11_Hunk X12383 w12382 ah1 ch2 h) ∧ (OS r_rectoref11_Hunk ([]) w.heap.size X12383 w12382 60 a3992 n3993 c3994 out3991) ∧ (Sl r_rectoref11_Edit X12383 w12382 aeLines8422 ceLines8423 ((lget h i3996).Lines)) ∧ (OS r_rectoref11_Edit ([]) w.heap.size X12383 w12382 54 a12186 n12187 c12188 f12185) ∧ (OB ([]) w.heap.size X12383 w12382 b8393 [(.int .i64 ((lget h i3996).To)), (.int .i64 ((lget h i3996).Add)), (.int .i64 ((lget h i3996).At)), (.int .i64 ((lget h i3996).Del)), (.slice a12186 n12187 c12188)] 60) ∧ (Ap (blkL a3992) (blkL a12186)) ∧ (Ap (blkL a3992) ([b8393])) ∧ (Ap (blkL a12186) ([b8393])) ∧ (inR .i64 j12183) ∧ (I12378 j12183 f12185)) (m12379 k9788 f11602) [(10, (.int .i64 k9788))] (vs_cons (by kernel_rfl) vs_nil) ⟨X11800, k9788, f11602, a11603, n11604, c11605, rfl, rfl, E11805, hXo11806, hS11807, hh11808, O11809, heLines11810, O11606, k11607, p11811, p11812, p11813, rk9789, hI12380⟩ ?_
              rintro _ _ w12382 g12385 ⟨X12383, j12183, f12185, a12186, n12187, c12188, rfl, rfl, E12388, hXo12389, hS12390, hh12391, O12392, heLines12393, O12189, k12190, p12394, p12395, p12396, rj12184, hI12381⟩ Kl12386 hA12387
              replace hp := hp j12183 f12185 hI12381 rj12184 (OS.len O12189)
              refine seq_ (fun _ K12397 => ?_)
              refine seq_ (fun _ K12398 => ?_)
              refine reg_ ?_
              refine sq (o_pv (.int .i64 j12183) rfl (by kernel_rfl) ?_)
              refine sq (o_pv (.int .i64 k11288) rfl (by kernel_rfl) ?_)
              refine sq (o_pv (.bool (decide (j12183 < k11288))) rfl (by kernel_rfl) ?_)
              refine nil_ ?_
              refine then_normal (K12398 _ _ _ _ ?_)
              refine cond_d (j12183 < k11288) (by kernel_rfl) (fun h12399 => ?_) (fun h12399 => ?_)
              ·
                replace hp := hp.1 h12399
                refine wp_skip ?_
                refine then_normal (K12397 _ _ _ _ ?_)
                refine seq_ (fun _ K12400 => ?_)
                obtain ⟨k12479, hk12480, hp⟩ := hp
                refine ground_ ?_
                refine join_ 42534971346563649506195042772950450176 (fun lq w12481 => ∃ (X12482 : List Nat) (f12473 : (List S_rectoref11_Edit)) (a12474 : Option Addr) (n12475 : Nat) (c12476 : Nat), (lq = []) ∧ (Evo [] w w12481) ∧ (Old X12482 w12481) ∧ (Sub X X12482) ∧ (Sl r_rectoref11_Hunk X12482 w12481 ah1 ch2 h) ∧ (OS r_rectoref11_Hunk ([]) w.heap.size X12482 w12481 60 a3992 n3993 c3994 out3991) ∧ (Sl r_rectoref11_Edit X12482 w12481 aeLines8422 ceLines8423 ((lget h i3996).Lines)) ∧ (OS r_rectoref11_Edit ([]) w.heap.size X12482 w12481 54 a12474 n12475 c12476 f12473) ∧ (OB ([]) w.heap.size X12482 w12481 b8393 [(.int .i64 ((lget h i3996).To)), (.int .i64 ((lget h i3996).Add)), (.int .i64 ((lget h i3996).At)), (.int .i64 ((lget h i3996).Del)), (.slice a12474 n12475 c12476)] 60) ∧ (Ap (blkL a3992) (blkL a12474)) ∧ (Ap (blkL a3992) ([b8393])) ∧ (Ap (blkL a12474) ([b8393])) ∧ (k12479 f12473)) (fun Kj12483 hJ12484 => ?_) ?_
                ·
                  refine wp_block ?_
                  refine seq_ (fun _ K12495 => ?_)
                  refine reg_ ?_
                  refine sq (o_pv (.slice aeLines8422 (((lget h i3996).Lines).length) ceLines8423) rfl (by kernel_rfl) ?_)
                  refine sq (o_pv (.int .i64 j12183) rfl (by kernel_rfl) ?_)
                  obtain ⟨h12496, hp⟩ := hp
                  obtain ⟨b12497, o12498, cs12499, ha12500, nx12501, lt12502, ok12503, hc12504⟩ := Sl.atI heLines12393 j12183 h12496
                  obtain ⟨rfl, reOp12505, zeLine12506⟩ := r_rectoref11_Edit_open ok12503
                  replace hp := hp reOp12505
                  replace hp := hp zeLine12506
                  refine sq (o_pv (.pointer (some ⟨b12497, o12498 + j12183.toNat * 2, none⟩)) rfl (x_ixA (m := ((lget h i3996).Lines).length) (c := ceLines8423) (k := .i64) (i := j12183) Tryd.underlying25 Tryd.sizeOf54 (by rw [← ha12500]; kernel_rfl) (by kernel_rfl) h12496) ?_)
                  refine sq (o_pv (.pointer (some ⟨b12497, o12498 + j12183.toNat * 2, none⟩)) rfl (by kernel_rfl) ?_)
                  refine sq (o_pv (.int .i64 ((lget ((lget h i3996).Lines) j12183).Op)) rfl (x_load1 (by kernel_rfl) Tryd.isAgg3 (hc12504 0 _ rfl)) ?_)
                  refine sq (o_pv (.bool (decide (((lget ((lget h i3996).Lines) j12183).Op) = (2 : Int)))) rfl (by kernel_rfl) ?_)
                  refine nil_ ?_
                  refine then_normal (K12495 _ _ _ _ ?_)
                  refine cond_d (((lget ((lget h i3996).Lines) j12183).Op) = (2 : Int)) (by kernel_rfl) (fun h12507 => ?_) (fun h12507 => ?_)
                  ·
                    replace hp := hp.1 h12507
                    have hFX12514 : Sub (blkL a12186) X12383 := (OS.mem O12189)
                    refine reg_drawn (RB w12382.heap.size (blkL a12186)) 11 (by kernel_rfl) (fun w12508 hd12509 => ?_)
                    have e12510 := Evo.of_drew hd12509
                    have z12511 : w12508.heap.size = w12382.heap.size := by rw [hd12509]
                    clear hd12509
                    have s12513 := Step.of0 X12383 e12510
                    have er12512 := RB.refl w12382.heap.size (blkL a12186) w12508
                    have E12515 := (Evo.then0 E12388 (Step.evo s12513))
                    have hXo12516 := (Old.step hXo12389 s12513)
                    have hS12517 := (Sub.trans hS12390 (Step.up s12513))
                    have hh12518 := (Sl.step hh12391 s12513)
                    have O12519 := (OS.step0 O12392 s12513)
                    have heLines12520 := (Sl.step heLines12393 s12513)
                    have O12521 := (OS.step0 O12189 s12513)
                    have k12522 := (OB.step0 k12190 s12513)
                    refine r_take 0 (.pointer (some ⟨b8393, 4, none⟩)) (RB.pre _ _) rfl (by kernel_rfl) (fun _ _ _ h => hQ.panic _ _ _ _ _ h) (.inl ⟨rfl, fun wq hq => (by kernel_rfl)⟩) ?_
                    refine r_take 1 (.slice a12186 n12187 c12188) (RB.pre _ _) rfl (by kernel_rfl) (fun _ _ _ h => hQ.panic _ _ _ _ _ h) (.inl ⟨rfl, fun wq hq => (x_load1 (by kernel_rfl) Tryd.isAgg25 ((OB.step k12522 (stepR (RB.trans er12512 hq) z12511 hFX12514) (Ap.symm p12396)).2.1.cell' 4 rfl))⟩) ?_
                    refine r_take 2 (.slice aeLines8422 (((lget h i3996).Lines).length) ceLines8423) (RB.pre _ _) rfl (by kernel_rfl) (fun _ _ _ h => hQ.panic _ _ _ _ _ h) (.inl ⟨rfl, fun wq hq => (by kernel_rfl)⟩) ?_
                    refine r_take 3 (.int .i64 j12183) (RB.pre _ _) rfl (by kernel_rfl) (fun _ _ _ h => hQ.panic _ _ _ _ _ h) (.inl ⟨rfl, fun wq hq => (by kernel_rfl)⟩) ?_
                    obtain ⟨h12523, hp⟩ := hp
                    obtain ⟨b12524, o12525, cs12526, ha12527, nx12528, lt12529, ok12530, hc12531⟩ := Sl.atI heLines12520 j12183 h12523
                    obtain ⟨rfl, reOp12532, zeLine12533⟩ := r_rectoref11_Edit_open ok12530
                    replace hp := hp reOp12532
                    replace hp := hp zeLine12533
                    refine r_take 4 (.pointer (some ⟨b12524, o12525 + j12183.toNat * 2, none⟩)) (RB.pre _ _) rfl (by kernel_rfl) (fun _ _ _ h => hQ.panic _ _ _ _ _ h) (.inl ⟨rfl, fun wq hq => (x_ixA (m := ((lget h i3996).Lines).length) (c := ceLines8423) (k := .i64) (i := j12183) Tryd.underlying25 Tryd.sizeOf54 (by rw [← ha12527]; kernel_rfl) (by kernel_rfl) h12523)⟩) ?_
                    refine r_take 5 (.pointer (some ⟨b12524, o12525 + j12183.toNat * 2 + 1, none⟩)) (RB.pre _ _) rfl (by kernel_rfl) (fun _ _ _ h => hQ.panic _ _ _ _ _ h) (.inl ⟨rfl, fun wq hq => (by kernel_rfl)⟩) ?_
                    refine r_take 6 (.string ((lget ((lget h i3996).Lines) j12183).Line)) (RB.pre _ _) rfl (by kernel_rfl) (fun _ _ _ h => hQ.panic _ _ _ _ _ h) (.inl ⟨rfl, fun wq hq => (x_load1 (by kernel_rfl) Tryd.isAgg9 ((CellsAt.evo hc12531 (Step.evo (stepR (RB.trans er12512 hq) z12511 hFX12514)) (fun h => nx12528 (hFX12514 _ h))) 1 _ rfl))⟩) ?_
                    refine r_take 7 (.agg #[(.int .i64 (3 : Int)), (.string ((lget ((lget h i3996).Lines) j12183).Line))]) (RB.pre _ _) rfl (by kernel_rfl) (fun _ _ _ h => hQ.panic _ _ _ _ _ h) (.inl ⟨rfl, fun wq hq => (by kernel_rfl)⟩) ?_
                    refine r_ready [8] (by kernel_rfl) rfl (all_cons ⟨_, _, _, _, _, _, rfl, ?_⟩ all_nil)
                    refine o_rowX (R := r_rectoref11_Edit) [(.int .i64 (3 : Int)), (.string ((lget ((lget h i3996).Lines) j12183).Line))] [(S_rectoref11_Edit.mk (3 : Int) ((lget ((lget h i3996).Lines) j12183).Line))] 54 1 (X := X12383) (B := w.heap.size) E12515.size rfl (by kernel_rfl) (Flat.cons (cs := [(.int .i64 (3 : Int)), (.string ((lget ((lget h i3996).Lines) j12183).Line))]) (r_rectoref11_Edit_mk (by decide : inR .i64 (3 : Int)) zeLine12533) Flat.nil) rfl (by decide) ?_
                    intro b12534 w12535 X12536 s12537 O12538 n12539
                    have nb12540 := new_of (Nat.le_trans (Nat.le_of_eq z12511.symm) (RB.size er12512)) n12539
                    have rm := RB.mono (F' := (blkL a12186)) (Step.evo s12537) (Nat.le_trans (Nat.le_of_eq z12511.symm) (RB.size er12512)) (fun _ h => by cases h)
                    have er12541 := RB.trans er12512 rm
                    refine ⟨fun _ => rm, ?_⟩
                    have p12542 := n12539 _ (OS.old O12519)
                    have p12543 := n12539 _ (OS.old O12521)
                    have p12544 := n12539 _ (OB.old k12522)
                    refine r_ready [9] (by kernel_rfl) rfl (all_cons ⟨_, _, _, _, _, _, rfl, ?_⟩ all_nil)
                    obtain ⟨h12545, hp⟩ := hp
                    have O12546 := (OS.step0 O12521 s12537)
                    have O12547 := (OS.step0 O12519 s12537)
                    have k12548 := (OB.step0 k12522 s12537)
                    have E12549 := (Evo.then0 E12515 (Step.evo s12537))
                    refine o_appX (R := r_rectoref11_Edit) (X := X12536) (B := w.heap.size) (L := f12185) (M := [(S_rectoref11_Edit.mk (3 : Int) ((lget ((lget h i3996).Lines) j12183).Line))]) rfl elT25 rfl E12549.size O12546 (OS.src O12538) O12538.1 (by kernel_rfl) (by kernel_rfl) h12545 ?_
                    intro a12550 n12551 c12552 w12553 X12554 s12555 O12556 gr12557
                    have rm := RB.mono (F' := (blkL a12186)) (Step.evo s12555) (Nat.le_trans (Nat.le_of_eq z12511.symm) (RB.size er12541)) (Wr.self _ _ (Sub.refl _))
                    have er12558 := RB.trans er12541 rm
                    refine ⟨fun _ => rm, ?_⟩
                    have p12559 := gr12557 _ p12394 (OS.old O12547)
                    have p12560 := gr12557 _ (Ap.symm p12396) (OB.old k12548)
                    refine r_take 10 (.pointer (some ⟨b8393, 4, none⟩)) (RB.pre _ _) rfl (by kernel_rfl) (fun _ _ _ h => hQ.panic _ _ _ _ _ h) (.inl ⟨rfl, fun wq hq => (by kernel_rfl)⟩) ?_
                    refine r_ready [11] (by kernel_rfl) rfl (all_cons ⟨_, _, _, _, _, _, rfl, ?_⟩ all_nil)
                    have O12561 := (OS.step O12547 s12555 p12394)
                    have k12562 := (OB.step k12548 s12555 (Ap.symm p12396))
                    have E12563 := (Evo.thenW E12549 (Step.evo s12555) O12546.2.2)
                    refine o_stB (o := 4) (v := (.slice a12550 n12551 c12552)) [(.int .i64 ((lget h i3996).To)), (.int .i64 ((lget h i3996).Add)), (.int .i64 ((lget h i3996).At)), (.int .i64 ((lget h i3996).Del)), (.slice a12550 n12551 c12552)] rfl k12562 (by kernel_rfl) (by kernel_rfl) Tryd.sizeOf25 rfl rfl rfl ?_
                    intro w12564 s12565 k12566
                    refine ⟨fun h => absurd h (by decide), ?_⟩
                    refine r_done (by kernel_rfl) ?_
                    refine blk_normal ?_
                    have E12567 := (Evo.thenW E12563 (Step.evo s12565) k12562.2.2)
                    have hXo12568 := (Old.step (Old.step (Old.step hXo12516 s12537) s12555) s12565)
                    have hS12569 := (Sub.trans (Sub.trans (Sub.trans hS12517 (Step.up s12537)) (Step.up s12555)) (Step.up s12565))
                    have hh12570 := (Sl.step (Sl.step (Sl.step hh12518 s12537) s12555) s12565)
                    have O12571 := (OS.step O12561 s12565 p12395)
                    have heLines12572 := (Sl.step (Sl.step (Sl.step heLines12520 s12537) s12555) s12565)
                    have O12573 := (OS.step O12556 s12565 (Ap.symm p12560))
                    refine then_normal (hJ12484 _ _ _ ⟨[], fit_mk (fun _ _ => rfl) (by kernel_rfl) vs_nil, ?_⟩)
                    exact ⟨X12554, (f12185 ++ ([(S_rectoref11_Edit.mk (3 : Int) ((lget ((lget h i3996).Lines) j12183).Line))])), a12550, n12551, c12552, rfl, E12567, hXo12568, hS12569, hh12570, O12571, heLines12572, O12573, k12566, p12559, p12395, (Ap.symm p12560), hp⟩
                  ·
                    replace hp := hp.2 h12507
                    refine wp_skip ?_
                    refine blk_normal ?_
                    refine then_normal (hJ12484 _ _ _ ⟨[], fit_mk (fun _ _ => rfl) (by kernel_rfl) vs_nil, ?_⟩)
                    exact ⟨X12383, f12185, a12186, n12187, c12188, rfl, E12388, hXo12389, hS12390, hh12391, O12392, heLines12393, O12189, k12190, p12394, p12395, p12396, hp⟩
                ·
                  rintro _ w12481 g12574 ⟨X12482, f12473, a12474, n12475, c12476, rfl, E12486, hXo12487, hS12488, hh12489, O12490, heLines12491, O12477, k12478, p12492, p12493, p12494, hv12485⟩
                  replace hp := hk12480 f12473 hv12485 (OS.len O12477)
                  refine then_normal (K12400 _ _ _ _ ?_)
                  refine reg_ ?_
                  refine sq (o_pv (.int .i64 j12183) rfl (by kernel_rfl) ?_)
                  obtain ⟨h12575, hp⟩ := hp
                  refine sq (o_pv (.int .i64 (j12183 + (1 : Int))) rfl (x_add2 (k := .i64) (a := j12183) (b := (1 : Int)) (j12183 + (1 : Int)) (by kernel_rfl) (by kernel_rfl) (wrap_inR h12575)) ?_)
                  refine sq (o_pv (.int .i64 (j12183 + (1 : Int))) rfl (by kernel_rfl) ?_)
                  refine nil_ ?_
                  refine then_normal (hA12387 _ _ _ ⟨_, [(10, (.int .i64 (j12183 + (1 : Int))))], hp.2, fit_mk (AgB.nest (AgB.look (AgB.mix _ _ _) (by kernel_rfl)) (by kernel_rfl) (by kernel_rfl)) (by kernel_rfl) (vs_cons (by kernel_rfl) vs_nil), ?_⟩)
                  exact ⟨X12482, (j12183 + (1 : Int)), f12473, a12474, n12475, c12476, rfl, rfl, E12486, hXo12487, hS12488, hh12489, O12490, heLines12491, O12477, k12478, p12492, p12493, p12494, h12575, hp.1⟩
              ·
                replace hp := hp.2 h12399
                refine wp_exit ?_
                refine then_exit ?_
                refine then_exit ?_
                refine blk_exit ?_
                refine blk_normal ?_
                refine then_normal (hA11182 _ _ _ ⟨_, [(7, (.int .i64 k11288))], hp.2, fit_mk (AgB.nest (AgB.nest (AgB.nest (AgB.look (AgB.nest (AgB.mix _ _ _) (by kernel_rfl) (by kernel_rfl)) (by kernel_rfl)) (by kernel_rfl) (by kernel_rfl)) (by kernel_rfl) (by kernel_rfl)) (by kernel_rfl) (by kernel_rfl)) (by kernel_rfl) (vs_cons (by kernel_rfl) vs_nil), ?_⟩)
                exact ⟨X12383, k11288, f12185, a12186, n12187, c12188, rfl, rfl, E12388, hXo12389, hS12390, hh12391, O12392, heLines12393, O12189, k12190, p12394, p12395, p12396, rk11289, hp.1⟩
    ·
      replace hp := hp.2 h11202
      refine wp_exit ?_
      refine then_exit ?_
      refine then_exit ?_
      refine blk_exit ?_
      refine then_normal (K8426 _ _ _ _ ?_)
      refine reg_ ?_
      refine sq (o_pv (.slice a3992 n3993 c3994) rfl (by kernel_rfl) ?_)
      refine sq (o_pv (.agg #[(.int .i64 ((lget h i3996).To)), (.int .i64 ((lget h i3996).Add)), (.int .i64 ((lget h i3996).At)), (.int .i64 ((lget h i3996).Del)), (.slice a9791 n9792 c9793)]) rfl (x_loadN [(.int .i64 ((lget h i3996).To)), (.int .i64 ((lget h i3996).Add)), (.int .i64 ((lget h i3996).At)), (.int .i64 ((lget h i3996).Del)), (.slice a9791 n9792 c9793)] (by kernel_rfl) Tryd.isAgg60 Tryd.sizeOf60 (k9795.2.1.cells' 0 rfl)) ?_)
      have ax12580 := OS.apold O9794 hX0
      obtain ⟨X12576, u12577, r12578, hm12579⟩ := OS.release O9794
      obtain rfl : n9792 = f9790.length := O9794.1
      have O12581 := (OS.less O11195 u12577 (hm12579 _ p11197 (OS.mem O11195)))
      have k12582 := (OB.less k9795 (hm12579 _ (Ap.symm p11199) (OB.mem k9795)))
      have E12589 := E11191
      refine sq (o_rowX (R := r_rectoref11_Hunk) [(.int .i64 ((lget h i3996).To)), (.int .i64 ((lget h i3996).Add)), (.int .i64 ((lget h i3996).At)), (.int .i64 ((lget h i3996).Del)), (.slice a9791 f9790.length c9793)] [(S_rectoref11_Hunk.mk ((lget h i3996).To) ((lget h i3996).Add) ((lget h i3996).At) ((lget h i3996).Del) f9790)] 60 1 (X := X12576) (B := w.heap.size) E12589.size rfl (by kernel_rfl) (Flat.cons (cs := [(.int .i64 ((lget h i3996).To)), (.int .i64 ((lget h i3996).Add)), (.int .i64 ((lget h i3996).At)), (.int .i64 ((lget h i3996).Del)), (.slice a9791 f9790.length c9793)]) (r_rectoref11_Hunk_mk reTo8340 reAdd8357 reAt8370 reDel8387 r12578 rfl) Flat.nil) rfl (by decide) ?_)
      intro b12583 w12584 X12585 s12586 O12587 n12588
      have p12590 := n12588 _ (OS.old O12581)
      have p12591 := n12588 _ (OB.old k12582)
      obtain ⟨h12592, hp⟩ := hp
      have O12593 := (OS.step0 O12581 s12586)
      have k12594 := (OB.step0 k12582 s12586)
      have E12595 := (Evo.then0 E12589 (Step.evo s12586))
      refine sq (o_appX (R := r_rectoref11_Hunk) (X := X12585) (B := w.heap.size) (L := out3991) (M := [(S_rectoref11_Hunk.mk ((lget h i3996).To) ((lget h i3996).Add) ((lget h i3996).At) ((lget h i3996).Del) f9790)]) rfl elT35 rfl E12595.size O12593 (OS.src O12587) O12587.1 (by kernel_rfl) (by kernel_rfl) h12592 ?_)
      intro a12596 n12597 c12598 w12599 X12600 s12601 O12602 gr12603
      obtain ⟨l12604, ql12604⟩ : ∃ y, y = (out3991 ++ ([(S_rectoref11_Hunk.mk ((lget h i3996).To) ((lget h i3996).Add) ((lget h i3996).At) ((lget h i3996).Del) f9790)])) := ⟨_, rfl⟩
      replace hp := hp l12604 ql12604
      rw [← ql12604] at O12602
      have p12605 := gr12603 _ (Ap.symm p11198) (OB.old k12594)
      refine sq (o_pv (.slice a12596 n12597 c12598) rfl (by kernel_rfl) ?_)
      refine nil_ ?_
      refine blk_normal ?_
      refine then_normal (K8316 _ _ _ _ ?_)
      refine reg_ ?_
      refine sq (o_pv (.int .i64 i3996) rfl (by kernel_rfl) ?_)
      obtain ⟨h12606, hp⟩ := hp
      refine sq (o_pv (.int .i64 (i3996 + (1 : Int))) rfl (x_add2 (k := .i64) (a := i3996) (b := (1 : Int)) (i3996 + (1 : Int)) (by kernel_rfl) (by kernel_rfl) (wrap_inR h12606)) ?_)
      refine sq (o_pv (.int .i64 (i3996 + (1 : Int))) rfl (by kernel_rfl) ?_)
      refine nil_ ?_
      have E12607 := (Evo.thenW E12595 (Step.evo s12601) O12593.2.2)
      have hXo12608 := (Old.step (Old.step (Old.less hXo11192 u12577) s12586) s12601)
      have hS12609 := (Sub.trans (Sub.trans (hm12579 _ ax12580 hS11193) (Step.up s12586)) (Step.up s12601))
      have hh12610 := (Sl.step (Sl.step (Sl.less hh11194 u12577) s12586) s12601)
      refine then_normal (hA8308 _ _ _ ⟨_, [(3, (.slice a12596 n12597 c12598)), (4, (.int .i64 (i3996 + (1 : Int))))], hp.2, fit_mk (AgB.nest (AgB.mix _ _ _) (by kernel_rfl) (by kernel_rfl)) (by kernel_rfl) (vs_cons (by kernel_rfl) (vs_cons (by kernel_rfl) vs_nil)), ?_⟩)
      exact ⟨X12600, l12604, (i3996 + (1 : Int)), a12596, n12597, c12598, rfl, rfl, E12607, hXo12608, hS12609, hh12610, O12602, h12606, hp.1⟩
  ·
    replace hp := hp.2 h8315
    refine wp_exit ?_
    refine then_exit ?_
    refine then_exit ?_
    refine blk_exit ?_
    refine then_normal (K6 _ _ _ _ ?_)
    refine seq_ (fun _ K12611 => ?_)
    refine reg_ ?_
    refine sq (o_pv (.slice a3992 n3993 c3994) rfl (by kernel_rfl) ?_)
    refine sq (o_pv (.slice a3992 n3993 c3994) rfl (by kernel_rfl) ?_)
    refine nil_ ?_
    refine then_normal (K12611 _ _ _ _ ?_)
    refine wp_ret ?_
    refine end_ret hQ (.slice a3992 n3993 c3994) (by kernel_rfl) ?_
    exact ⟨out3991, hp, E8309, a3992, c3994, (by (rw [show n3993 = out3991.length from O3995.1]); first | done | rfl), (OS.out O3995 hS8311 hX0)⟩

def rectoref11_Equal_p (a : (List ByteArray)) (b : (List ByteArray)) (Q : Bool → Prop) : Prop :=
  ((a.length ≤ 9223372036854775807) → ((b.length ≤ 9223372036854775807) → (((¬ ((a.length : Int) = (b.length : Int))) → Q false) ∧ (((a.length : Int) = (b.length : Int)) → (∃ (I57 : Int → Prop) (m58 : Int → Nat), (I57 (0 : Int)) ∧ (∀ (i14 : Int), (I57 i14) → (inR .i64 i14) → (((i14 < (a.length : Int)) → ((inL a i14) ∧ (((lget a i14).size ≤ maxLen) → ((inL b i14) ∧ (((lget b i14).size ≤ maxLen) → (((¬ ((lget a i14 : ByteArray) = lget b i14)) → Q false) ∧ (((lget a i14 : ByteArray) = lget b i14) → ((inR .i64 (i14 + (1 : Int))) ∧ ((I57 (i14 + (1 : Int))) ∧ m58 (i14 + (1 : Int)) < m58 i14))))))))) ∧ ((¬ (i14 < (a.length : Int))) → Q true))))))))
set_option maxRecDepth 20000 in
set_option maxHeartbeats 4000000 in
theorem rectoref11_Equal_w {X : List Nat} {w : World} {a : (List ByteArray)} {b : (List ByteArray)} {aa1 : Option Addr} {ca2 : Nat} {ab4 : Option Addr} {cb5 : Nat} {Q : Bool → Prop} (hX0 : Old X w) (ha3 : Sl rStr X w aa1 ca2 a) (hb6 : Sl rStr X w ab4 cb5 b) (hp : rectoref11_Equal_p a b Q) :
    Calls Tryd.prog 16 #[(.slice aa1 a.length ca2), (.slice ab4 b.length cb5)] w (Ret fun v w' => ∃ (r0 : Bool), Q r0 ∧ Evo [] w w' ∧ v = (.bool r0)) := by
  have hXo := hX0
  have E0 : Evo [] w w := RB.refl _ _ _
  have hS : Sub X X := Sub.refl _
  unfold rectoref11_Equal_p at hp
  refine enter_ Tryd.func16 rfl 26 [(0, (.slice aa1 a.length ca2)), (1, (.slice ab4 b.length cb5))] (by kernel_rfl) (fun Qe hQ => ?_)
  replace hp := hp (Sl.len ha3)
  replace hp := hp (Sl.len hb6)
  refine seq_ (fun _ K7 => ?_)
  refine reg_ ?_
  refine sq (o_pv (.bool false) rfl (by kernel_rfl) ?_)
  refine nil_ ?_
  refine then_normal (K7 _ _ _ _ ?_)
  refine seq_ (fun _ K8 => ?_)
  refine seq_ (fun _ K9 => ?_)
  refine reg_ ?_
  refine sq (o_pv (.slice aa1 a.length ca2) rfl (by kernel_rfl) ?_)
  refine sq (o_pv (.int .i64 (a.length : Int)) rfl (by kernel_rfl) ?_)
  refine sq (o_pv (.slice ab4 b.length cb5) rfl (by kernel_rfl) ?_)
  refine sq (o_pv (.int .i64 (b.length : Int)) rfl (by kernel_rfl) ?_)
  refine sq (o_pv (.bool (!decide ((a.length : Int) = (b.length : Int)))) rfl (by kernel_rfl) ?_)
  refine nil_ ?_
  refine then_normal (K9 _ _ _ _ ?_)
  refine cond_nd ((a.length : Int) = (b.length : Int)) (by kernel_rfl) (fun h10 => ?_) (fun h10 => ?_)
  ·
    replace hp := hp.1 h10
    refine seq_ (fun _ K11 => ?_)
    refine reg_ ?_
    refine sq (o_pv (.bool false) rfl (by kernel_rfl) ?_)
    refine nil_ ?_
    refine then_normal (K11 _ _ _ _ ?_)
    refine wp_ret ?_
    refine then_ret ?_
    refine end_ret hQ (.bool false) (by kernel_rfl) ?_
    exact ⟨false, hp, E0, rfl⟩
  ·
    replace hp := hp.2 h10
    refine wp_skip ?_
    refine then_normal (K8 _ _ _ _ ?_)
    refine seq_ (fun _ K12 => ?_)
    refine seq_ (fun _ K13 => ?_)
    refine reg_ ?_
    refine sq (o_pv (.int .i64 (0 : Int)) rfl (by kernel_rfl) ?_)
    refine nil_ ?_
    refine then_normal (K13 _ _ _ _ ?_)
    refine wp_block ?_
    obtain ⟨I57, m58, hI59, hp⟩ := hp
    refine loop_ 67106864 (fun kq lq w61 => ∃ (X62 : List Nat) (i14 : Int), (lq = [(5, (.int .i64 i14))]) ∧ (kq = m58 i14) ∧ (Evo [] w w61) ∧ (Old X62 w61) ∧ (Sub X X62) ∧ (Sl rStr X62 w61 aa1 ca2 a) ∧ (Sl rStr X62 w61 ab4 cb5 b) ∧ (inR .i64 i14) ∧ (I57 i14)) (m58 (0 : Int)) [(5, (.int .i64 (0 : Int)))] (vs_cons (by kernel_rfl) vs_nil) ⟨X, (0 : Int), rfl, rfl, E0, hXo, hS, ha3, hb6, (by decide : inR .i64 (0 : Int)), hI59⟩ ?_
    rintro _ _ w61 g64 ⟨X62, i14, rfl, rfl, E67, hXo68, hS69, ha70, hb71, ri15, hI60⟩ Kl65 hA66
    replace hp := hp i14 hI60 ri15
    refine seq_ (fun _ K72 => ?_)
    refine seq_ (fun _ K73 => ?_)
    refine reg_ ?_
    refine sq (o_pv (.int .i64 i14) rfl (by kernel_rfl) ?_)
    refine sq (o_pv (.slice aa1 a.length ca2) rfl (by kernel_rfl) ?_)
    refine sq (o_pv (.int .i64 (a.length : Int)) rfl (by kernel_rfl) ?_)
    refine sq (o_pv (.bool (decide (i14 < (a.length : Int)))) rfl (by kernel_rfl) ?_)
    refine nil_ ?_
    refine then_normal (K73 _ _ _ _ ?_)
    refine cond_d (i14 < (a.length : Int)) (by kernel_rfl) (fun h74 => ?_) (fun h74 => ?_)
    ·
      replace hp := hp.1 h74
      refine wp_skip ?_
      refine then_normal (K72 _ _ _ _ ?_)
      refine seq_ (fun _ K75 => ?_)
      refine wp_block ?_
      refine seq_ (fun _ K76 => ?_)
      refine reg_drawn (RB w61.heap.size []) 9 (by kernel_rfl) (fun w77 hd78 => ?_)
      have e79 := Evo.of_drew hd78
      have z80 : w77.heap.size = w61.heap.size := by rw [hd78]
      clear hd78
      have s82 := Step.of0 X62 e79
      have er81 := RB.refl w61.heap.size [] w77
      have E83 := (Evo.then0 E67 (Step.evo s82))
      have hXo84 := (Old.step hXo68 s82)
      have hS85 := (Sub.trans hS69 (Step.up s82))
      have ha86 := (Sl.step ha70 s82)
      have hb87 := (Sl.step hb71 s82)
      refine r_take 0 (.slice aa1 a.length ca2) (RB.pre _ _) rfl (by kernel_rfl) (fun _ _ _ h => hQ.panic _ _ _ _ _ h) (.inl ⟨rfl, fun wq hq => (by kernel_rfl)⟩) ?_
      refine r_take 1 (.int .i64 i14) (RB.pre _ _) rfl (by kernel_rfl) (fun _ _ _ h => hQ.panic _ _ _ _ _ h) (.inl ⟨rfl, fun wq hq => (by kernel_rfl)⟩) ?_
      obtain ⟨h88, hp⟩ := hp
      obtain ⟨b89, o90, cs91, ha92, nx93, lt94, ok95, hc96⟩ := Sl.atI ha86 i14 h88
      obtain ⟨rfl, ze97⟩ := ok95
      replace hp := hp ze97
      refine r_take 2 (.pointer (some ⟨b89, o90 + i14.toNat * 1, none⟩)) (RB.pre _ _) rfl (by kernel_rfl) (fun _ _ _ h => hQ.panic _ _ _ _ _ h) (.inl ⟨rfl, fun wq hq => (x_ixA (m := a.length) (c := ca2) (k := .i64) (i := i14) Tryd.underlying22 Tryd.sizeOf9 (by rw [← ha92]; kernel_rfl) (by kernel_rfl) h88)⟩) ?_
      refine r_take 3 (.string (lget a i14)) (RB.pre _ _) rfl (by kernel_rfl) (fun _ _ _ h => hQ.panic _ _ _ _ _ h) (.inl ⟨rfl, fun wq hq => (x_load1 (by kernel_rfl) Tryd.isAgg9 ((CellsAt.rb hc96 (RB.trans er81 hq) (Nat.lt_of_lt_of_eq lt94 z80) (fun h => by cases h)) 0 _ rfl))⟩) ?_
      refine r_take 4 (.slice ab4 b.length cb5) (RB.pre _ _) rfl (by kernel_rfl) (fun _ _ _ h => hQ.panic _ _ _ _ _ h) (.inl ⟨rfl, fun wq hq => (by kernel_rfl)⟩) ?_
      refine r_take 5 (.int .i64 i14) (RB.pre _ _) rfl (by kernel_rfl) (fun _ _ _ h => hQ.panic _ _ _ _ _ h) (.inl ⟨rfl, fun wq hq => (by kernel_rfl)⟩) ?_
      obtain ⟨h98, hp⟩ := hp
      obtain ⟨b99, o100, cs101, ha102, nx103, lt104, ok105, hc106⟩ := Sl.atI hb87 i14 h98
      obtain ⟨rfl, ze107⟩ := ok105
      replace hp := hp ze107
      refine r_take 6 (.pointer (some ⟨b99, o100 + i14.toNat * 1, none⟩)) (RB.pre _ _) rfl (by kernel_rfl) (fun _ _ _ h => hQ.panic _ _ _ _ _ h) (.inl ⟨rfl, fun wq hq => (x_ixA (m := b.length) (c := cb5) (k := .i64) (i := i14) Tryd.underlying22 Tryd.sizeOf9 (by rw [← ha102]; kernel_rfl) (by kernel_rfl) h98)⟩) ?_
      refine r_take 7 (.string (lget b i14)) (RB.pre _ _) rfl (by kernel_rfl) (fun _ _ _ h => hQ.panic _ _ _ _ _ h) (.inl ⟨rfl, fun wq hq => (x_load1 (by kernel_rfl) Tryd.isAgg9 ((CellsAt.rb hc106 (RB.trans er81 hq) (Nat.lt_of_lt_of_eq lt104 z80) (fun h => by cases h)) 0 _ rfl))⟩) ?_
      refine r_take 8 (.bool (!decide ((lget a i14 : ByteArray) = lget b i14))) (RB.pre _ _) rfl (by kernel_rfl) (fun _ _ _ h => hQ.panic _ _ _ _ _ h) (.inl ⟨rfl, fun wq hq => (x_strne (by kernel_rfl) (by kernel_rfl))⟩) ?_
      refine r_done (by kernel_rfl) ?_
      refine then_normal (K76 _ _ _ _ ?_)
      refine cond_nd ((lget a i14 : ByteArray) = lget b i14) (by kernel_rfl) (fun h108 => ?_) (fun h108 => ?_)
      ·
        replace hp := hp.1 h108
        refine seq_ (fun _ K109 => ?_)
        refine reg_ ?_
        refine sq (o_pv (.bool false) rfl (by kernel_rfl) ?_)
        refine nil_ ?_
        refine then_normal (K109 _ _ _ _ ?_)
        refine wp_ret ?_
        refine blk_ret ?_
        refine then_ret ?_
        refine then_ret ?_
        refine blk_ret ?_
        refine then_ret ?_
        refine end_ret hQ (.bool false) (by kernel_rfl) ?_
        exact ⟨false, hp, E83, rfl⟩
      ·
        replace hp := hp.2 h108
        refine wp_skip ?_
        refine blk_normal ?_
        refine then_normal (K75 _ _ _ _ ?_)
        refine reg_ ?_
        refine sq (o_pv (.int .i64 i14) rfl (by kernel_rfl) ?_)
        obtain ⟨h110, hp⟩ := hp
        refine sq (o_pv (.int .i64 (i14 + (1 : Int))) rfl (x_add2 (k := .i64) (a := i14) (b := (1 : Int)) (i14 + (1 : Int)) (by kernel_rfl) (by kernel_rfl) (wrap_inR h110)) ?_)
        refine sq (o_pv (.int .i64 (i14 + (1 : Int))) rfl (by kernel_rfl) ?_)
        refine nil_ ?_
        refine then_normal (hA66 _ _ _ ⟨_, [(5, (.int .i64 (i14 + (1 : Int))))], hp.2, fit_mk (AgB.mix _ _ _) (by kernel_rfl) (vs_cons (by kernel_rfl) vs_nil), ?_⟩)
        exact ⟨X62, (i14 + (1 : Int)), rfl, rfl, E83, hXo84, hS85, ha86, hb87, h110, hp.1⟩
    ·
      replace hp := hp.2 h74
      refine wp_exit ?_
      refine then_exit ?_
      refine then_exit ?_
      refine blk_exit ?_
      refine then_normal (K12 _ _ _ _ ?_)
      refine seq_ (fun _ K111 => ?_)
      refine reg_ ?_
      refine sq (o_pv (.bool true) rfl (by kernel_rfl) ?_)
      refine nil_ ?_
      refine then_normal (K111 _ _ _ _ ?_)
      refine wp_ret ?_
      refine end_ret hQ (.bool true) (by kernel_rfl) ?_
      exact ⟨true, hp, E67, rfl⟩

def rectolaw12_PatchAny_p (a : (List ByteArray)) (b : (List ByteArray)) (around : Int) (Q : Bool → Prop) : Prop :=
  ((a.length ≤ 9223372036854775807) → ((b.length ≤ 9223372036854775807) → ((inR .i64 around) → (rectolaw12_known_p  (fun (r11 : Bool) => ((((!r11) = true) → Q false) ∧ (((!r11) = false) → (rectolaw12_few_p a b (fun (r22 : Bool) => ((((!r22) = true) → Q true) ∧ (((!r22) = false) → (rectoref11_Lines_p a b (fun (r33 : (List S_rectoref11_Edit)) (r34 : S_rectoref3_Wrong) => ((r33.length ≤ 9223372036854775807) → ((r34.Parts.length ≤ 9223372036854775807) → ((inR .i64 r34.Err) → (rectolaw11_To_p r33 (fun (r59 : (List S_diff_Edit)) => ((r59.length ≤ 9223372036854775807) → (patch_Hunks_p r59 around (fun (r67 : (List S_patch_Hunk)) => ((r67.length ≤ 9223372036854775807) → (rectoref11_Hunks_p r33 around (fun (r77 : (List S_rectoref11_Hunk)) => ((r77.length ≤ 9223372036854775807) → (∃ k129 : Bool → Prop, (∀ (s128 : Bool), k129 s128 → (((s128 = true) → Q false) ∧ ((s128 = false) → (patch_Apply_p a r67 (fun (r220 : (List ByteArray)) (r221 : PErr) => ((r220.length ≤ 9223372036854775807) → (patch_Turned_p r67 (fun (r233 : (List S_patch_Hunk)) => ((r233.length ≤ 9223372036854775807) → (patch_Apply_p b r233 (fun (r242 : (List ByteArray)) (r243 : PErr) => ((r242.length ≤ 9223372036854775807) → (∃ k268 : Bool → Prop, (∀ (s267 : Bool), k268 s267 → Q s267) ∧ (((r221.isNil = true) → (((r243.isNil = true) → (rectoref11_Equal_p r220 b (fun (r291 : Bool) => (((r291 = true) → (rectoref11_Equal_p r242 a (fun (r301 : Bool) => (k268 r301)))) ∧ ((r291 = false) → (k268 false)))))) ∧ ((¬ (r243.isNil = true)) → (k268 false)))) ∧ ((¬ (r221.isNil = true)) → (k268 false)))))))))))))))) ∧ (rectolaw12_same_p r67 r77 (fun (r154 : Bool) => (((r154 = true) → (patch_Text_p r67 (fun (r167 : ByteArray) => ((r167.size ≤ maxLen) → (rectoref11_HunkText_p r77 (fun (r173 : ByteArray) => ((r173.size ≤ maxLen) → ((((r167 : ByteArray) = r173) → (patch_Turned_p r67 (fun (r181 : (List S_patch_Hunk)) => ((r181.length ≤ 9223372036854775807) → (rectoref11_Turned_p r77 (fun (r190 : (List S_rectoref11_Hunk)) => ((r190.length ≤ 9223372036854775807) → (rectolaw12_same_p r181 r190 (fun (r198 : Bool) => (k129 (!r198))))))))))) ∧ ((¬ ((r167 : ByteArray) = r173)) → (k129 true)))))))))) ∧ ((r154 = false) → (k129 true)))))))))))))))))))))))))))))))
set_option maxRecDepth 20000 in
set_option maxHeartbeats 4000000 in
theorem rectolaw12_PatchAny_w {X : List Nat} {w : World} {a : (List ByteArray)} {b : (List ByteArray)} {around : Int} {aa1 : Option Addr} {ca2 : Nat} {ab4 : Option Addr} {cb5 : Nat} {Q : Bool → Prop} (hX0 : Old X w) (ha3 : Sl rStr X w aa1 ca2 a) (hb6 : Sl rStr X w ab4 cb5 b) (raround7 : inR .i64 around) (gv0 : GV X w 0 (Lib.pow10Tab.map (Value.int .u64))) (hp : rectolaw12_PatchAny_p a b around Q) :
    Calls Tryd.prog 3 #[(.slice aa1 a.length ca2), (.slice ab4 b.length cb5), (.int .i64 around)] w (Ret fun v w' => ∃ (r0 : Bool), Q r0 ∧ Evo [] w w' ∧ v = (.bool r0)) := by
  have hXo := hX0
  have E0 : Evo [] w w := RB.refl _ _ _
  have hS : Sub X X := Sub.refl _
  unfold rectolaw12_PatchAny_p at hp
  refine enter_ Tryd.func3 rfl 82 [(0, (.slice aa1 a.length ca2)), (1, (.slice ab4 b.length cb5)), (2, (.int .i64 around))] (by kernel_rfl) (fun Qe hQ => ?_)
  replace hp := hp (Sl.len ha3)
  replace hp := hp (Sl.len hb6)
  replace hp := hp raround7
  refine seq_ (fun _ K8 => ?_)
  refine reg_ ?_
  refine sq (o_pv (.bool false) rfl (by kernel_rfl) ?_)
  refine nil_ ?_
  refine then_normal (K8 _ _ _ _ ?_)
  refine seq_ (fun _ K9 => ?_)
  refine seq_ (fun _ K10 => ?_)
  refine reg_ ?_
  refine sq (o_call 4 #[] rfl (x_call Tryd.call4 (by kernel_rfl)) (rectolaw12_known_w (X := [])  (Old.nil _) (GV.less gv0 (Sub.nil _)) hp) ?_)
  rintro _ w12 ⟨r11, hp, e13, rfl⟩
  have s14 := Step.of0 X e13
  refine sq (o_pv (.bool (!r11)) rfl (by kernel_rfl) ?_)
  refine nil_ ?_
  refine then_normal (K10 _ _ _ _ ?_)
  refine cond_b (!r11) (by kernel_rfl) (fun h15 => ?_) (fun h15 => ?_)
  ·
    replace hp := hp.1 h15
    refine seq_ (fun _ K16 => ?_)
    refine reg_ ?_
    refine sq (o_pv (.bool false) rfl (by kernel_rfl) ?_)
    refine nil_ ?_
    refine then_normal (K16 _ _ _ _ ?_)
    refine wp_ret ?_
    refine then_ret ?_
    have E17 := (Evo.then0 E0 e13)
    refine end_ret hQ (.bool false) (by kernel_rfl) ?_
    exact ⟨false, hp, E17, rfl⟩
  ·
    replace hp := hp.2 h15
    refine wp_skip ?_
    refine then_normal (K9 _ _ _ _ ?_)
    refine seq_ (fun _ K18 => ?_)
    refine seq_ (fun _ K19 => ?_)
    refine reg_ ?_
    refine sq (o_pv (.slice aa1 a.length ca2) rfl (by kernel_rfl) ?_)
    refine sq (o_pv (.slice ab4 b.length cb5) rfl (by kernel_rfl) ?_)
    have ha20 := (Sl.step ha3 s14)
    have hb21 := (Sl.step hb6 s14)
    refine sq (o_call 5 #[(.slice aa1 a.length ca2), (.slice ab4 b.length cb5)] rfl (x_call Tryd.call5 (by kernel_rfl)) (rectolaw12_few_w (X := []) (a := a) (b := b) (Old.nil _) (Sl.less ha20 (Sub.nil _)) (Sl.less hb21 (Sub.nil _)) hp) ?_)
    rintro _ w23 ⟨r22, hp, e24, rfl⟩
    have s25 := Step.of0 X e24
    refine sq (o_pv (.bool (!r22)) rfl (by kernel_rfl) ?_)
    refine nil_ ?_
    refine then_normal (K19 _ _ _ _ ?_)
    refine cond_b (!r22) (by kernel_rfl) (fun h26 => ?_) (fun h26 => ?_)
    ·
      replace hp := hp.1 h26
      refine seq_ (fun _ K27 => ?_)
      refine reg_ ?_
      refine sq (o_pv (.bool true) rfl (by kernel_rfl) ?_)
      refine nil_ ?_
      refine then_normal (K27 _ _ _ _ ?_)
      refine wp_ret ?_
      refine then_ret ?_
      have E28 := (Evo.then0 (Evo.then0 E0 e13) e24)
      refine end_ret hQ (.bool true) (by kernel_rfl) ?_
      exact ⟨true, hp, E28, rfl⟩
    ·
      replace hp := hp.2 h26
      refine wp_skip ?_
      refine then_normal (K18 _ _ _ _ ?_)
      refine seq_ (fun _ K29 => ?_)
      refine reg_ ?_
      refine sq (o_pv (.slice aa1 a.length ca2) rfl (by kernel_rfl) ?_)
      refine sq (o_pv (.slice ab4 b.length cb5) rfl (by kernel_rfl) ?_)
      have ha30 := (Sl.step ha20 s25)
      have hb31 := (Sl.step hb21 s25)
      have hXo32 := (Old.step (Old.step hXo s14) s25)
      refine sq (o_call 6 #[(.slice aa1 a.length ca2), (.slice ab4 b.length cb5)] rfl (x_call Tryd.call6 (by kernel_rfl)) (rectoref11_Lines_w (X := X) (a := a) (b := b) hXo32 ha30 hb31 hp) ?_)
      rintro _ w35 ⟨r33, r34, hp, e36, ar38, cr39, arParts41, crParts42, rfl, hr40, hrParts43, rrErr44⟩
      have s37 := Step.of0 X e36
      replace hp := hp (Sl.len hr40)
      replace hp := hp (Sl.len hrParts43)
      replace hp := hp rrErr44
      refine sq (o_pv (.tuple #[(.slice ar38 r33.length cr39), (.agg #[(.slice arParts41 r34.Parts.length crParts42), (.int .i64 r34.Err)])]) rfl (by kernel_rfl) ?_)
      refine sq (o_pv (.slice ar38 r33.length cr39) rfl (by kernel_rfl) ?_)
      refine sq (o_pv (.agg #[(.slice arParts41 r34.Parts.length crParts42), (.int .i64 r34.Err)]) rfl (by kernel_rfl) ?_)
      have E51 := (Evo.then0 (Evo.then0 (Evo.then0 E0 e13) e24) e36)
      refine sq (o_newX [(.slice none 0 0), (.int .i64 (0 : Int))] 28 (X := X) (B := w.heap.size) E51.size rfl (by kernel_rfl) ?_)
      intro b45 w46 X47 s48 k49 n50
      refine sq (o_pv (.slice ar38 r33.length cr39) rfl (by kernel_rfl) ?_)
      have E52 := (Evo.then0 E51 (Step.evo s48))
      refine sq (o_stB (o := 0) (v := (.agg #[(.slice arParts41 r34.Parts.length crParts42), (.int .i64 r34.Err)])) [(.slice arParts41 r34.Parts.length crParts42), (.int .i64 r34.Err)] rfl k49 (by kernel_rfl) (by kernel_rfl) Tryd.sizeOf28 rfl rfl rfl ?_)
      intro w53 s54 k55
      refine nil_ ?_
      refine then_normal (K29 _ _ _ _ ?_)
      refine seq_ (fun _ K56 => ?_)
      refine reg_ ?_
      refine sq (o_pv (.slice ar38 r33.length cr39) rfl (by kernel_rfl) ?_)
      have hr57 := (Sl.step (Sl.step hr40 s48) s54)
      have hXo58 := (Old.step (Old.step (Old.step hXo32 s37) s48) s54)
      refine sq (o_call 8 #[(.slice ar38 r33.length cr39)] rfl (x_call Tryd.call8 (by kernel_rfl)) (rectolaw11_To_w (X := X47) (l := r33) hXo58 hr57 hp) ?_)
      rintro _ w60 ⟨r59, hp, e61, ar63, cr64, rfl, hr65⟩
      have s62 := Step.of0 X47 e61
      replace hp := hp (Sl.len hr65)
      refine sq (o_pv (.int .i64 around) rfl (by kernel_rfl) ?_)
      have hXo66 := (Old.step hXo58 s62)
      refine sq (o_call 7 #[(.slice ar63 r59.length cr64), (.int .i64 around)] rfl (x_call Tryd.call7 (by kernel_rfl)) (patch_Hunks_w (X := X47) (l := r59) (around := around) hXo66 hr65 raround7 hp) ?_)
      rintro _ w68 ⟨r67, hp, e69, ar71, cr72, rfl, hr73⟩
      have s70 := Step.of0 X47 e69
      replace hp := hp (Sl.len hr73)
      refine sq (o_pv (.slice ar71 r67.length cr72) rfl (by kernel_rfl) ?_)
      refine nil_ ?_
      refine then_normal (K56 _ _ _ _ ?_)
      refine seq_ (fun _ K74 => ?_)
      refine reg_ ?_
      refine sq (o_pv (.slice ar38 r33.length cr39) rfl (by kernel_rfl) ?_)
      refine sq (o_pv (.int .i64 around) rfl (by kernel_rfl) ?_)
      have hr75 := (Sl.step (Sl.step hr57 s62) s70)
      have hXo76 := (Old.step hXo66 s70)
      refine sq (o_call 9 #[(.slice ar38 r33.length cr39), (.int .i64 around)] rfl (x_call Tryd.call9 (by kernel_rfl)) (rectoref11_Hunks_w (X := X47) (l := r33) (around := around) hXo76 hr75 raround7 hp) ?_)
      rintro _ w78 ⟨r77, hp, e79, ar81, cr82, rfl, hr83⟩
      have s80 := Step.of0 X47 e79
      replace hp := hp (Sl.len hr83)
      refine sq (o_pv (.slice ar81 r77.length cr82) rfl (by kernel_rfl) ?_)
      refine nil_ ?_
      refine then_normal (K74 _ _ _ _ ?_)
      refine seq_ (fun _ K84 => ?_)
      refine seq_ (fun _ K85 => ?_)
      have ha136 := (Sl.step (Sl.step (Sl.step (Sl.step (Sl.step (Sl.step ha30 s37) s48) s54) s62) s70) s80)
      have hb137 := (Sl.step (Sl.step (Sl.step (Sl.step (Sl.step (Sl.step hb31 s37) s48) s54) s62) s70) s80)
      have gv138 := (GV.step (GV.step (GV.step (GV.step (GV.step (GV.step (GV.step (GV.step gv0 s14) s25) s37) s48) s54) s62) s70) s80)
      have hXo139 := (Old.step hXo76 s80)
      have E140 := (Evo.then0 (Evo.then0 (Evo.then0 (Evo.thenW E52 (Step.evo s54) k49.2.2) e61) e69) e79)
      have hS141 := (Sub.trans (Sub.trans (Sub.trans (Sub.trans (Sub.trans (Sub.trans (Sub.trans (Sub.trans hS (Step.up s14)) (Step.up s25)) (Step.up s37)) (Step.up s48)) (Step.up s54)) (Step.up s62)) (Step.up s70)) (Step.up s80))
      have hr142 := (Sl.step hr75 s80)
      have hrParts143 := (Sl.step (Sl.step (Sl.step (Sl.step (Sl.step hrParts43 s48) s54) s62) s70) s80)
      have k144 := (OB.step0 (OB.step0 (OB.step0 k55 s62) s70) s80)
      have hr145 := (Sl.step (Sl.step hr65 s70) s80)
      have hr146 := (Sl.step hr73 s80)
      obtain ⟨k129, hk130, hp⟩ := hp
      refine ground_ ?_
      refine join_ 9007182074871808 (fun lq w131 => ∃ (X132 : List Nat) (s128 : Bool), (lq = [(52, (.bool s128))]) ∧ (Evo [] w w131) ∧ (Old X132 w131) ∧ (Sub X X132) ∧ (GV X132 w131 0 (Lib.pow10Tab.map (Value.int .u64))) ∧ (Sl rStr X132 w131 aa1 ca2 a) ∧ (Sl rStr X132 w131 ab4 cb5 b) ∧ (Sl r_patch_Hunk X132 w131 ar71 cr72 r67) ∧ (k129 s128)) (fun Kj133 hJ134 => ?_) ?_
      ·
        refine reg_ ?_
        refine sq (o_pv (.slice ar71 r67.length cr72) rfl (by kernel_rfl) ?_)
        refine sq (o_pv (.slice ar81 r77.length cr82) rfl (by kernel_rfl) ?_)
        refine sq (o_call 10 #[(.slice ar71 r67.length cr72), (.slice ar81 r77.length cr82)] rfl (x_call Tryd.call10 (by kernel_rfl)) (rectolaw12_same_w (X := []) (a := r67) (b := r77) (Old.nil _) (Sl.less hr146 (Sub.nil _)) (Sl.less hr83 (Sub.nil _)) hp) ?_)
        rintro _ w155 ⟨r154, hp, e156, rfl⟩
        have s157 := Step.of0 X47 e156
        cases r154
        ·
          replace hp := hp.2 rfl
          refine sq (o_pv (.bool true) rfl (by kernel_rfl) ?_)
          refine sq (o_pv (.bool true) rfl (by kernel_rfl) ?_)
          refine sq (o_not (by kernel_rfl) ?_)
          refine sq (o_not (by kernel_rfl) ?_)
          refine sq (o_not (by kernel_rfl) ?_)
          refine sq (o_not (by kernel_rfl) ?_)
          refine sq (o_not (by kernel_rfl) ?_)
          refine sq (o_pv (.bool true) rfl (by kernel_rfl) ?_)
          refine sq (o_pv (.bool true) rfl (by kernel_rfl) ?_)
          refine sq (o_not (by kernel_rfl) ?_)
          refine sq (o_not (by kernel_rfl) ?_)
          refine sq (o_not (by kernel_rfl) ?_)
          refine sq (o_not (by kernel_rfl) ?_)
          refine sq (o_not (by kernel_rfl) ?_)
          refine sq (o_not (by kernel_rfl) ?_)
          refine sq (o_pv (.bool true) rfl (by kernel_rfl) ?_)
          refine nil_ ?_
          have E158 := (Evo.then0 E140 e156)
          have hXo159 := (Old.step hXo139 s157)
          have hS160 := (Sub.trans hS141 (Step.up s157))
          have gv161 := (GV.step gv138 s157)
          have ha162 := (Sl.step ha136 s157)
          have hb163 := (Sl.step hb137 s157)
          have hr164 := (Sl.step hr146 s157)
          refine then_normal (hJ134 _ _ _ ⟨[(52, (.bool true))], fit_mk (fun _ _ => rfl) (by kernel_rfl) (vs_cons (by kernel_rfl) vs_nil), ?_⟩)
          exact ⟨X47, true, rfl, E158, hXo159, hS160, gv161, ha162, hb163, hr164, hp⟩
        ·
          replace hp := hp.1 rfl
          refine sq (o_pv (.bool false) rfl (by kernel_rfl) ?_)
          refine sq (o_pv (.bool false) rfl (by kernel_rfl) ?_)
          refine sq (o_pv (.slice ar71 r67.length cr72) (by kernel_rfl) (by kernel_rfl) ?_)
          have hr165 := (Sl.step hr146 s157)
          have gv166 := (GV.step gv138 s157)
          refine sq (o_call 11 #[(.slice ar71 r67.length cr72)] (by kernel_rfl) (x_call Tryd.call11 (by kernel_rfl)) (patch_Text_w (X := []) (h := r67) (Old.nil _) (Sl.less hr165 (Sub.nil _)) (GV.less gv166 (Sub.nil _)) hp) ?_)
          rintro _ w168 ⟨r167, hp, e169, rfl, zr171⟩
          have s170 := Step.of0 X47 e169
          replace hp := hp zr171
          refine sq (o_pv (.slice ar81 r77.length cr82) (by kernel_rfl) (by kernel_rfl) ?_)
          have hr172 := (Sl.step (Sl.step hr83 s157) s170)
          refine sq (o_call 12 #[(.slice ar81 r77.length cr82)] (by kernel_rfl) (x_call Tryd.call12 (by kernel_rfl)) (rectoref11_HunkText_w (X := []) (h := r77) (Old.nil _) (Sl.less hr172 (Sub.nil _)) hp) ?_)
          rintro _ w174 ⟨r173, hp, e175, rfl, zr177⟩
          have s176 := Step.of0 X47 e175
          replace hp := hp zr177
          by_cases h178 : (r167 : ByteArray) = r173
          ·
            replace hp := hp.1 h178
            refine sq (o_pv (.bool false) (by kernel_rfl) (x_ndf (p := (r167 : ByteArray) = r173) (x_strne (by kernel_rfl) (by kernel_rfl)) h178) ?_)
            refine sq (o_pv (.bool false) rfl (by kernel_rfl) ?_)
            refine sq (o_pv (.bool false) rfl (by kernel_rfl) ?_)
            refine sq (o_pv (.slice ar71 r67.length cr72) (by kernel_rfl) (by kernel_rfl) ?_)
            have hr179 := (Sl.step (Sl.step hr165 s170) s176)
            have hXo180 := (Old.step (Old.step (Old.step hXo139 s157) s170) s176)
            refine sq (o_call 13 #[(.slice ar71 r67.length cr72)] (by kernel_rfl) (x_call Tryd.call13 (by kernel_rfl)) (patch_Turned_w (X := X47) (h := r67) hXo180 hr179 hp) ?_)
            rintro _ w182 ⟨r181, hp, e183, ar185, cr186, rfl, hr187⟩
            have s184 := Step.of0 X47 e183
            replace hp := hp (Sl.len hr187)
            refine sq (o_pv (.slice ar81 r77.length cr82) (by kernel_rfl) (by kernel_rfl) ?_)
            have hr188 := (Sl.step (Sl.step hr172 s176) s184)
            have hXo189 := (Old.step hXo180 s184)
            refine sq (o_call 14 #[(.slice ar81 r77.length cr82)] (by kernel_rfl) (x_call Tryd.call14 (by kernel_rfl)) (rectoref11_Turned_w (X := X47) (h := r77) hXo189 hr188 hp) ?_)
            rintro _ w191 ⟨r190, hp, e192, ar194, cr195, rfl, hr196⟩
            have s193 := Step.of0 X47 e192
            replace hp := hp (Sl.len hr196)
            have hr197 := (Sl.step hr187 s193)
            refine sq (o_call 10 #[(.slice ar185 r181.length cr186), (.slice ar194 r190.length cr195)] (by kernel_rfl) (x_call Tryd.call10 (by kernel_rfl)) (rectolaw12_same_w (X := []) (a := r181) (b := r190) (Old.nil _) (Sl.less hr197 (Sub.nil _)) (Sl.less hr196 (Sub.nil _)) hp) ?_)
            rintro _ w199 ⟨r198, hp, e200, rfl⟩
            have s201 := Step.of0 X47 e200
            refine sq (o_pv (.bool (!r198)) (by kernel_rfl) (by kernel_rfl) ?_)
            refine sq (o_pv (.bool (!r198)) rfl (by kernel_rfl) ?_)
            refine nil_ ?_
            have E202 := (Evo.then0 (Evo.then0 (Evo.then0 (Evo.then0 (Evo.then0 (Evo.then0 E140 e156) e169) e175) e183) e192) e200)
            have hXo203 := (Old.step (Old.step hXo189 s193) s201)
            have hS204 := (Sub.trans (Sub.trans (Sub.trans (Sub.trans (Sub.trans (Sub.trans hS141 (Step.up s157)) (Step.up s170)) (Step.up s176)) (Step.up s184)) (Step.up s193)) (Step.up s201))
            have gv205 := (GV.step (GV.step (GV.step (GV.step (GV.step gv166 s170) s176) s184) s193) s201)
            have ha206 := (Sl.step (Sl.step (Sl.step (Sl.step (Sl.step (Sl.step ha136 s157) s170) s176) s184) s193) s201)
            have hb207 := (Sl.step (Sl.step (Sl.step (Sl.step (Sl.step (Sl.step hb137 s157) s170) s176) s184) s193) s201)
            have hr208 := (Sl.step (Sl.step (Sl.step hr179 s184) s193) s201)
            refine then_normal (hJ134 _ _ _ ⟨[(52, (.bool (!r198)))], fit_mk (fun _ _ => rfl) (by kernel_rfl) (vs_cons (by kernel_rfl) vs_nil), ?_⟩)
            exact ⟨X47, (!r198), rfl, E202, hXo203, hS204, gv205, ha206, hb207, hr208, hp⟩
          ·
            replace hp := hp.2 h178
            refine sq (o_pv (.bool true) (by kernel_rfl) (x_ndt (p := (r167 : ByteArray) = r173) (x_strne (by kernel_rfl) (by kernel_rfl)) h178) ?_)
            refine sq (o_pv (.bool true) rfl (by kernel_rfl) ?_)
            refine sq (o_pv (.bool true) rfl (by kernel_rfl) ?_)
            refine sq (o_not (by kernel_rfl) ?_)
            refine sq (o_not (by kernel_rfl) ?_)
            refine sq (o_not (by kernel_rfl) ?_)
            refine sq (o_not (by kernel_rfl) ?_)
            refine sq (o_not (by kernel_rfl) ?_)
            refine sq (o_not (by kernel_rfl) ?_)
            refine sq (o_pv (.bool true) rfl (by kernel_rfl) ?_)
            refine nil_ ?_
            have E209 := (Evo.then0 (Evo.then0 (Evo.then0 E140 e156) e169) e175)
            have hXo210 := (Old.step (Old.step (Old.step hXo139 s157) s170) s176)
            have hS211 := (Sub.trans (Sub.trans (Sub.trans hS141 (Step.up s157)) (Step.up s170)) (Step.up s176))
            have gv212 := (GV.step (GV.step gv166 s170) s176)
            have ha213 := (Sl.step (Sl.step (Sl.step ha136 s157) s170) s176)
            have hb214 := (Sl.step (Sl.step (Sl.step hb137 s157) s170) s176)
            have hr215 := (Sl.step (Sl.step hr165 s170) s176)
            refine then_normal (hJ134 _ _ _ ⟨[(52, (.bool true))], fit_mk (fun _ _ => rfl) (by kernel_rfl) (vs_cons (by kernel_rfl) vs_nil), ?_⟩)
            exact ⟨X47, true, rfl, E209, hXo210, hS211, gv212, ha213, hb214, hr215, hp⟩
      ·
        rintro _ w131 g216 ⟨X132, s128, rfl, E147, hXo148, hS149, gv150, ha151, hb152, hr153, hv135⟩
        replace hp := hk130 s128 hv135
        refine then_normal (K85 _ _ _ _ ?_)
        refine cond_b s128 (by kernel_rfl) (fun h217 => ?_) (fun h217 => ?_)
        ·
          replace hp := hp.1 h217
          refine seq_ (fun _ K218 => ?_)
          refine reg_ ?_
          refine sq (o_pv (.bool false) rfl (by kernel_rfl) ?_)
          refine nil_ ?_
          refine then_normal (K218 _ _ _ _ ?_)
          refine wp_ret ?_
          refine then_ret ?_
          refine end_ret hQ (.bool false) (by kernel_rfl) ?_
          exact ⟨false, hp, E147, rfl⟩
        ·
          replace hp := hp.2 h217
          refine wp_skip ?_
          refine then_normal (K84 _ _ _ _ ?_)
          refine seq_ (fun _ K219 => ?_)
          refine reg_ ?_
          refine sq (o_pv (.slice aa1 a.length ca2) rfl (by kernel_rfl) ?_)
          refine sq (o_pv (.slice ar71 r67.length cr72) rfl (by kernel_rfl) ?_)
          refine sq (o_call 15 #[(.slice aa1 a.length ca2), (.slice ar71 r67.length cr72)] rfl (x_call Tryd.call15 (by kernel_rfl)) (patch_Apply_w (X := X132) (a := a) (h := r67) hXo148 ha151 hr153 hp) ?_)
          rintro _ w222 ⟨r220, r221, hp, e223, ar225, cr226, vr228, rfl, hr227, hr229⟩
          have s224 := Step.of0 X132 e223
          replace hp := hp (Sl.len hr227)
          refine sq (o_pv (.tuple #[(.slice ar225 r220.length cr226), vr228]) rfl (by kernel_rfl) ?_)
          refine sq (o_pv (.slice ar225 r220.length cr226) rfl (by kernel_rfl) ?_)
          refine sq (o_pv vr228 rfl (by kernel_rfl) ?_)
          refine sq (o_pv (.slice ar225 r220.length cr226) rfl (by kernel_rfl) ?_)
          refine sq (o_pv vr228 rfl (by kernel_rfl) ?_)
          refine nil_ ?_
          refine then_normal (K219 _ _ _ _ ?_)
          refine seq_ (fun _ K230 => ?_)
          refine reg_ ?_
          refine sq (o_pv (.slice ab4 b.length cb5) rfl (by kernel_rfl) ?_)
          refine sq (o_pv (.slice ar71 r67.length cr72) rfl (by kernel_rfl) ?_)
          have hr231 := (Sl.step hr153 s224)
          have hXo232 := (Old.step hXo148 s224)
          refine sq (o_call 13 #[(.slice ar71 r67.length cr72)] rfl (x_call Tryd.call13 (by kernel_rfl)) (patch_Turned_w (X := X132) (h := r67) hXo232 hr231 hp) ?_)
          rintro _ w234 ⟨r233, hp, e235, ar237, cr238, rfl, hr239⟩
          have s236 := Step.of0 X132 e235
          replace hp := hp (Sl.len hr239)
          have hb240 := (Sl.step (Sl.step hb152 s224) s236)
          have hXo241 := (Old.step hXo232 s236)
          refine sq (o_call 15 #[(.slice ab4 b.length cb5), (.slice ar237 r233.length cr238)] rfl (x_call Tryd.call15 (by kernel_rfl)) (patch_Apply_w (X := X132) (a := b) (h := r233) hXo241 hb240 hr239 hp) ?_)
          rintro _ w244 ⟨r242, r243, hp, e245, ar247, cr248, vr250, rfl, hr249, hr251⟩
          have s246 := Step.of0 X132 e245
          replace hp := hp (Sl.len hr249)
          refine sq (o_pv (.tuple #[(.slice ar247 r242.length cr248), vr250]) rfl (by kernel_rfl) ?_)
          refine sq (o_pv (.slice ar247 r242.length cr248) rfl (by kernel_rfl) ?_)
          refine sq (o_pv vr250 rfl (by kernel_rfl) ?_)
          refine sq (o_pv (.slice ar247 r242.length cr248) rfl (by kernel_rfl) ?_)
          refine sq (o_pv vr250 rfl (by kernel_rfl) ?_)
          refine nil_ ?_
          refine then_normal (K230 _ _ _ _ ?_)
          refine seq_ (fun _ K252 => ?_)
          have E275 := (Evo.then0 (Evo.then0 (Evo.then0 E147 e223) e235) e245)
          have hXo276 := (Old.step hXo241 s246)
          have hS277 := (Sub.trans (Sub.trans (Sub.trans hS149 (Step.up s224)) (Step.up s236)) (Step.up s246))
          have gv278 := (GV.step (GV.step (GV.step gv150 s224) s236) s246)
          have ha279 := (Sl.step (Sl.step (Sl.step ha151 s224) s236) s246)
          have hb280 := (Sl.step hb240 s246)
          have hr281 := (Sl.step (Sl.step hr231 s236) s246)
          have hr282 := (Sl.step (Sl.step hr227 s236) s246)
          have hr283 := (Rep.step (rErr 74 77 79) (Rep.step (rErr 74 77 79) hr229 s236) s246)
          have hr284 := (Sl.step hr239 s246)
          obtain ⟨k268, hk269, hp⟩ := hp
          refine ground_ ?_
          refine join_ 4835629491482221860618304 (fun lq w270 => ∃ (X271 : List Nat) (s267 : Bool), (lq = [(6, (.bool s267))]) ∧ (Evo [] w w270) ∧ (Old X271 w270) ∧ (Sub X X271) ∧ (GV X271 w270 0 (Lib.pow10Tab.map (Value.int .u64))) ∧ (k268 s267)) (fun Kj272 hJ273 => ?_) ?_
          ·
            refine reg_ ?_
            refine sq (o_pv vr228 rfl (by kernel_rfl) ?_)
            by_cases h289 : r221.isNil = true
            ·
              replace hp := hp.1 h289
              refine sq (o_pv (.bool true) rfl (x_bt (x_err_eq r221 hr283 Tryd.underlying43 (by kernel_rfl)) h289) ?_)
              refine sq (o_pv (.bool true) rfl (by kernel_rfl) ?_)
              refine sq (o_pv vr250 (by kernel_rfl) (by kernel_rfl) ?_)
              by_cases h290 : r243.isNil = true
              ·
                replace hp := hp.1 h290
                refine sq (o_pv (.bool true) (by kernel_rfl) (x_bt (x_err_eq r243 hr251 Tryd.underlying43 (by kernel_rfl)) h290) ?_)
                refine sq (o_pv (.bool true) rfl (by kernel_rfl) ?_)
                refine sq (o_pv (.bool true) rfl (by kernel_rfl) ?_)
                refine sq (o_pv (.slice ar225 r220.length cr226) (by kernel_rfl) (by kernel_rfl) ?_)
                refine sq (o_pv (.slice ab4 b.length cb5) (by kernel_rfl) (by kernel_rfl) ?_)
                refine sq (o_call 16 #[(.slice ar225 r220.length cr226), (.slice ab4 b.length cb5)] (by kernel_rfl) (x_call Tryd.call16 (by kernel_rfl)) (rectoref11_Equal_w (X := []) (a := r220) (b := b) (Old.nil _) (Sl.less hr282 (Sub.nil _)) (Sl.less hb280 (Sub.nil _)) hp) ?_)
                rintro _ w292 ⟨r291, hp, e293, rfl⟩
                have s294 := Step.of0 X132 e293
                cases r291
                ·
                  replace hp := hp.2 rfl
                  refine sq (o_pv (.bool false) rfl (by kernel_rfl) ?_)
                  refine sq (o_pv (.bool false) rfl (by kernel_rfl) ?_)
                  refine sq (o_not (by kernel_rfl) ?_)
                  refine sq (o_not (by kernel_rfl) ?_)
                  refine sq (o_not (by kernel_rfl) ?_)
                  refine sq (o_pv (.bool false) rfl (by kernel_rfl) ?_)
                  refine sq (o_pv (.bool false) rfl (by kernel_rfl) ?_)
                  refine nil_ ?_
                  have E295 := (Evo.then0 E275 e293)
                  have hXo296 := (Old.step hXo276 s294)
                  have hS297 := (Sub.trans hS277 (Step.up s294))
                  have gv298 := (GV.step gv278 s294)
                  refine then_normal (hJ273 _ _ _ ⟨[(6, (.bool false))], fit_mk (fun _ _ => rfl) (by kernel_rfl) (vs_cons (by kernel_rfl) vs_nil), ?_⟩)
                  exact ⟨X132, false, rfl, E295, hXo296, hS297, gv298, hp⟩
                ·
                  replace hp := hp.1 rfl
                  refine sq (o_pv (.bool true) rfl (by kernel_rfl) ?_)
                  refine sq (o_pv (.bool true) rfl (by kernel_rfl) ?_)
                  refine sq (o_pv (.slice ar247 r242.length cr248) (by kernel_rfl) (by kernel_rfl) ?_)
                  refine sq (o_pv (.slice aa1 a.length ca2) (by kernel_rfl) (by kernel_rfl) ?_)
                  have hr299 := (Sl.step hr249 s294)
                  have ha300 := (Sl.step ha279 s294)
                  refine sq (o_call 16 #[(.slice ar247 r242.length cr248), (.slice aa1 a.length ca2)] (by kernel_rfl) (x_call Tryd.call16 (by kernel_rfl)) (rectoref11_Equal_w (X := []) (a := r242) (b := a) (Old.nil _) (Sl.less hr299 (Sub.nil _)) (Sl.less ha300 (Sub.nil _)) hp) ?_)
                  rintro _ w302 ⟨r301, hp, e303, rfl⟩
                  have s304 := Step.of0 X132 e303
                  refine sq (o_pv (.bool r301) rfl (by kernel_rfl) ?_)
                  refine sq (o_pv (.bool r301) rfl (by kernel_rfl) ?_)
                  refine nil_ ?_
                  have E305 := (Evo.then0 (Evo.then0 E275 e293) e303)
                  have hXo306 := (Old.step (Old.step hXo276 s294) s304)
                  have hS307 := (Sub.trans (Sub.trans hS277 (Step.up s294)) (Step.up s304))
                  have gv308 := (GV.step (GV.step gv278 s294) s304)
                  refine then_normal (hJ273 _ _ _ ⟨[(6, (.bool r301))], fit_mk (fun _ _ => rfl) (by kernel_rfl) (vs_cons (by kernel_rfl) vs_nil), ?_⟩)
                  exact ⟨X132, r301, rfl, E305, hXo306, hS307, gv308, hp⟩
              ·
                replace hp := hp.2 h290
                refine sq (o_pv (.bool false) (by kernel_rfl) (x_bf (x_err_eq r243 hr251 Tryd.underlying43 (by kernel_rfl)) h290) ?_)
                refine sq (o_pv (.bool false) rfl (by kernel_rfl) ?_)
                refine sq (o_pv (.bool false) rfl (by kernel_rfl) ?_)
                refine sq (o_not (by kernel_rfl) ?_)
                refine sq (o_not (by kernel_rfl) ?_)
                refine sq (o_not (by kernel_rfl) ?_)
                refine sq (o_pv (.bool false) rfl (by kernel_rfl) ?_)
                refine sq (o_pv (.bool false) rfl (by kernel_rfl) ?_)
                refine sq (o_not (by kernel_rfl) ?_)
                refine sq (o_not (by kernel_rfl) ?_)
                refine sq (o_not (by kernel_rfl) ?_)
                refine sq (o_pv (.bool false) rfl (by kernel_rfl) ?_)
                refine sq (o_pv (.bool false) rfl (by kernel_rfl) ?_)
                refine nil_ ?_
                refine then_normal (hJ273 _ _ _ ⟨[(6, (.bool false))], fit_mk (fun _ _ => rfl) (by kernel_rfl) (vs_cons (by kernel_rfl) vs_nil), ?_⟩)
                exact ⟨X132, false, rfl, E275, hXo276, hS277, gv278, hp⟩
            ·
              replace hp := hp.2 h289
              refine sq (o_pv (.bool false) rfl (x_bf (x_err_eq r221 hr283 Tryd.underlying43 (by kernel_rfl)) h289) ?_)
              refine sq (o_pv (.bool false) rfl (by kernel_rfl) ?_)
              refine sq (o_not (by kernel_rfl) ?_)
              refine sq (o_not (by kernel_rfl) ?_)
              refine sq (o_pv (.bool false) rfl (by kernel_rfl) ?_)
              refine sq (o_pv (.bool false) rfl (by kernel_rfl) ?_)
              refine sq (o_not (by kernel_rfl) ?_)
              refine sq (o_not (by kernel_rfl) ?_)
              refine sq (o_not (by kernel_rfl) ?_)
              refine sq (o_pv (.bool false) rfl (by kernel_rfl) ?_)
              refine sq (o_pv (.bool false) rfl (by kernel_rfl) ?_)
              refine sq (o_not (by kernel_rfl) ?_)
              refine sq (o_not (by kernel_rfl) ?_)
              refine sq (o_not (by kernel_rfl) ?_)
              refine sq (o_pv (.bool false) rfl (by kernel_rfl) ?_)
              refine sq (o_pv (.bool false) rfl (by kernel_rfl) ?_)
              refine nil_ ?_
              refine then_normal (hJ273 _ _ _ ⟨[(6, (.bool false))], fit_mk (fun _ _ => rfl) (by kernel_rfl) (vs_cons (by kernel_rfl) vs_nil), ?_⟩)
              exact ⟨X132, false, rfl, E275, hXo276, hS277, gv278, hp⟩
          ·
            rintro _ w270 g309 ⟨X271, s267, rfl, E285, hXo286, hS287, gv288, hv274⟩
            replace hp := hk269 s267 hv274
            refine then_normal (K252 _ _ _ _ ?_)
            refine wp_ret ?_
            refine end_ret hQ (.bool s267) (by kernel_rfl) ?_
            exact ⟨s267, hp, E285, rfl⟩

end Go.Proofs.YtnnbnljofklieaaDoor
