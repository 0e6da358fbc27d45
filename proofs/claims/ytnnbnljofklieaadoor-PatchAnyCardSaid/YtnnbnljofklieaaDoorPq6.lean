/- Walks of functions: what each asks and computes, as a plain predicate, and the contract from it. -/
import Derived.Test.YtnnbnljofklieaaDoorChecked
import Derived.Test.YtnnbnljofklieaaDoorPq5
import Derived.Test.YtnnbnljofklieaaDoorHk
namespace Go.Proofs.YtnnbnljofklieaaDoor
open Go

theorem elT35 : ElemT Tryd.prog 35 60 5 56 := elemT_mk (i := Tryd.t60) (z := (.agg #[(.int .i64 0), (.int .i64 0), (.int .i64 0), (.int .i64 0), (.slice none 0 0)])) (by kernel_rfl) (by kernel_rfl) (by kernel_rfl) (by kernel_rfl) Tryd.underlying35 Tryd.sizeOf60 (by decide) (by decide)
def hkI (l : List S_rectoref11_Edit) (k : Nat) : Int := ((((l.take k).filter fun e => !decide (e.Op = 3)).length : Nat) : Int)
def hkJ (l : List S_rectoref11_Edit) (k : Nat) : Int := ((((l.take k).filter fun e => !decide (e.Op = 2)).length : Nat) : Int)
def hkAdd (e : S_rectoref11_Edit) (x : S_rectoref11_Hunk) : S_rectoref11_Hunk := ⟨x.At, if e.Op = 3 then x.Del else x.Del + 1, x.To, if e.Op = 2 then x.Add else x.Add + 1, x.Lines ++ [e]⟩
def hkNew (s : List Bool) (k : Nat) : Bool := decide (k = 0) || !(lget s ((k : Int) - 1))
def hkRun (l : List S_rectoref11_Edit) (s : List Bool) : Nat → List S_rectoref11_Hunk
  | 0 => []
  | k + 1 => if lget s (k : Int) = true then (if hkNew s k = true then hkRun l s k ++ [hkAdd (lget l (k : Int)) ⟨hkI l k, 0, hkJ l k, 0, []⟩] else (hkRun l s k).dropLast ++ [hkAdd (lget l (k : Int)) ((hkRun l s k).getLastD default)]) else hkRun l s k
def hkB (x : S_rectoref11_Hunk) (k : Nat) : Prop := (0 ≤ x.At ∧ x.At ≤ (k : Int)) ∧ (0 ≤ x.Del ∧ x.Del ≤ (k : Int)) ∧ (0 ≤ x.To ∧ x.To ≤ (k : Int)) ∧ (0 ≤ x.Add ∧ x.Add ≤ (k : Int)) ∧ x.Lines.length ≤ k
theorem hkI_le (l : List S_rectoref11_Edit) (k : Nat) : 0 ≤ hkI l k ∧ hkI l k ≤ (k : Int) := by
  have h1 := List.length_filter_le (fun e : S_rectoref11_Edit => !decide (e.Op = 3)) (l.take k)
  have h2 := List.length_take_le k l
  unfold hkI; omega
theorem hkJ_le (l : List S_rectoref11_Edit) (k : Nat) : 0 ≤ hkJ l k ∧ hkJ l k ≤ (k : Int) := by
  have h1 := List.length_filter_le (fun e : S_rectoref11_Edit => !decide (e.Op = 2)) (l.take k)
  have h2 := List.length_take_le k l
  unfold hkJ; omega
theorem hk_take {l : List S_rectoref11_Edit} {k : Nat} (hk : k < l.length) : l.take (k + 1) = l.take k ++ [lget l (k : Int)] := by
  rw [← lget_eq (L := l) (i := (k : Int)) ⟨by omega, by omega⟩]; exact List.take_succ_eq_append_getElem hk
theorem hkI_next {l : List S_rectoref11_Edit} {k : Nat} (hk : k < l.length) : hkI l (k + 1) = if (lget l (k : Int)).Op = 3 then hkI l k else hkI l k + 1 := by
  unfold hkI; rw [hk_take hk, List.filter_append, List.length_append]
  by_cases h : (lget l (k : Int)).Op = 3 <;> simp [h]
theorem hkJ_next {l : List S_rectoref11_Edit} {k : Nat} (hk : k < l.length) : hkJ l (k + 1) = if (lget l (k : Int)).Op = 2 then hkJ l k else hkJ l k + 1 := by
  unfold hkJ; rw [hk_take hk, List.filter_append, List.length_append]
  by_cases h : (lget l (k : Int)).Op = 2 <;> simp [h]
theorem hkB_new (l : List S_rectoref11_Edit) (k : Nat) : hkB ⟨hkI l k, 0, hkJ l k, 0, []⟩ k := by
  have h1 := hkI_le l k; have h2 := hkJ_le l k
  exact ⟨h1, ⟨Int.le_refl _, by dsimp only; omega⟩, h2, ⟨Int.le_refl _, by dsimp only; omega⟩, Nat.zero_le _⟩
theorem hkB_up {x : S_rectoref11_Hunk} {k : Nat} (h : hkB x k) : hkB x (k + 1) := by unfold hkB at *; omega
theorem hkB_add {x : S_rectoref11_Hunk} {k : Nat} (e : S_rectoref11_Edit) (h : hkB x k) : hkB (hkAdd e x) (k + 1) := by
  obtain ⟨h1, h2, h3, h4, h5⟩ := h
  refine ⟨by show 0 ≤ x.At ∧ x.At ≤ _; omega, ?_, by show 0 ≤ x.To ∧ x.To ≤ _; omega, ?_, ?_⟩
  · show 0 ≤ (if e.Op = 3 then x.Del else x.Del + 1) ∧ (if e.Op = 3 then x.Del else x.Del + 1) ≤ _
    split <;> omega
  · show 0 ≤ (if e.Op = 2 then x.Add else x.Add + 1) ∧ (if e.Op = 2 then x.Add else x.Add + 1) ≤ _
    split <;> omega
  · show (x.Lines ++ [e]).length ≤ _
    rw [List.length_append]; show _ + 1 ≤ _; omega
theorem hk_getLastD {α : Type} {L : List α} {H : List α} {x d : α} (h : L = H ++ [x]) : L.getLastD d = x ∧ L.dropLast = H := by subst h; simp
theorem hk_snoc {α : Type} {L : List α} (h : L ≠ []) : ∃ H x, L = H ++ [x] := ⟨L.dropLast, L.getLast h, (List.dropLast_concat_getLast h).symm⟩
theorem hkRun_some (l : List S_rectoref11_Edit) (s : List Bool) (k : Nat) (h0 : 0 < k) (h : lget s ((k : Int) - 1) = true) : hkRun l s k ≠ [] := by
  obtain ⟨j, rfl⟩ : ∃ j, k = j + 1 := ⟨k - 1, by omega⟩
  rw [show ((j + 1 : Nat) : Int) - 1 = (j : Int) from by omega] at h
  rw [hkRun, if_pos h]; split <;> simp
theorem hkRun_ok (l : List S_rectoref11_Edit) (s : List Bool) : ∀ k, (∀ x ∈ hkRun l s k, hkB x k) ∧ (hkRun l s k).length ≤ k := by
  intro k
  induction k with
  | zero => exact ⟨(fun x hx => by rw [hkRun] at hx; cases hx), Nat.le_refl _⟩
  | succ k ih =>
    obtain ⟨h1, h2⟩ := ih
    rw [hkRun]
    split
    · rename_i hm
      split
      · refine ⟨fun x hx => ?_, by rw [List.length_append]; show _ + 1 ≤ _; omega⟩
        rcases List.mem_append.1 hx with hx | hx
        · exact hkB_up (h1 x hx)
        · rw [List.mem_singleton.1 hx]; exact hkB_add _ (hkB_new l k)
      · rename_i hn
        have hne : hkRun l s k ≠ [] := by
          unfold hkNew at hn
          simp at hn
          exact hkRun_some l s k (by omega) hn.2
        obtain ⟨H, y, hy⟩ := hk_snoc hne
        obtain ⟨e1, e2⟩ := hk_getLastD (d := default) hy
        rw [e1, e2]
        rw [hy] at h1 h2
        rw [List.length_append] at h2
        have h2 : H.length + 1 ≤ k := h2
        refine ⟨fun x hx => ?_, by rw [List.length_append]; show _ + 1 ≤ _; omega⟩
        rcases List.mem_append.1 hx with hx | hx
        · exact hkB_up (h1 x (List.mem_append_left _ hx))
        · rw [List.mem_singleton.1 hx]; exact hkB_add _ (h1 y (by simp))
    · exact ⟨fun x hx => hkB_up (h1 x hx), by omega⟩
theorem hkRun_new {l : List S_rectoref11_Edit} {s : List Bool} {k : Nat} (h : lget s (k : Int) = true) (hn : hkNew s k = true) : hkRun l s (k + 1) = hkRun l s k ++ [hkAdd (lget l (k : Int)) ⟨hkI l k, 0, hkJ l k, 0, []⟩] := by rw [hkRun, if_pos h, if_pos hn]
theorem hkRun_old {l : List S_rectoref11_Edit} {s : List Bool} {k : Nat} {H : List S_rectoref11_Hunk} {x : S_rectoref11_Hunk} (h : lget s (k : Int) = true) (hn : hkNew s k = false) (hx : hkRun l s k = H ++ [x]) : hkRun l s (k + 1) = H ++ [hkAdd (lget l (k : Int)) x] := by
  obtain ⟨e1, e2⟩ := hk_getLastD (d := default) hx
  rw [hkRun, if_pos h, if_neg (by rw [hn]; decide), e1, e2]
theorem hkRun_not {l : List S_rectoref11_Edit} {s : List Bool} {k : Nat} (h : lget s (k : Int) = false) : hkRun l s (k + 1) = hkRun l s k := by rw [hkRun, if_neg (by rw [h]; decide)]
/-! what lies in memory -/
abbrev hkV (x : S_rectoref11_Hunk) (aL : Option Addr) (nL cL : Nat) : List Value := [.int .i64 x.At, .int .i64 x.Del, .int .i64 x.To, .int .i64 x.Add, .slice aL nL cL]
def HkOp (B : Nat) (X : List Nat) (w : World) (a : Option Addr) (n c : Nat) (H : List S_rectoref11_Hunk) (x : S_rectoref11_Hunk) : Prop :=
  ∃ V aL nL cL, OS (rRaw 5) [] B X w 60 a n c (V ++ [hkV x aL nL cL]) ∧ Rows r_rectoref11_Hunk X w V H ∧ OS r_rectoref11_Edit [] B X w 54 aL nL cL x.Lines ∧ Ap (blkL a) (blkL aL)
def HkSt (B : Nat) (X : List Nat) (w : World) (a : Option Addr) (n c : Nat) (L : List S_rectoref11_Hunk) : Prop :=
  (L = [] ∧ OS (rRaw 5) [] B X w 60 a n c []) ∨ ∃ H x, L = H ++ [x] ∧ HkOp B X w a n c H x
structure HkE (X0 : List Nat) (w0 : World) (al : Option Addr) (cl : Nat) (l : List S_rectoref11_Edit) (az : Option Addr) (cz : Nat) (s : List Bool) (X : List Nat) (w : World) : Prop where
  evo : Evo [] w0 w
  old : Old X w
  sub : Sub X0 X
  hl : Sl r_rectoref11_Edit X w al cl l
  hs : Sl rBool X w az cz s
section
variable {X0 X X' X1 F : List Nat} {w0 w w' : World} {al az a : Option Addr} {cl cz n c : Nat} {l : List S_rectoref11_Edit} {s : List Bool}
theorem HkE.step (h : HkE X0 w0 al cl l az cz s X w) (st : Step X w F X' w') (hw : Wr [] w0.heap.size F) : HkE X0 w0 al cl l az cz s X' w' :=
  ⟨h.evo.thenW st.evo hw, h.old.step st, h.sub.trans st.up, h.hl.step st, h.hs.step st⟩
theorem HkE.step0 (h : HkE X0 w0 al cl l az cz s X w) (st : Step X w [] X' w') : HkE X0 w0 al cl l az cz s X' w' := h.step st (Wr.nil _ _)
theorem HkE.less (h : HkE X0 w0 al cl l az cz s X w) (u : Sub X1 X) (k : Sub X0 X1) : HkE X0 w0 al cl l az cz s X1 w :=
  ⟨h.evo, h.old.less u, k, h.hl.less u, h.hs.less u⟩
theorem HkOp.step0 {B : Nat} {H : List S_rectoref11_Hunk} {x : S_rectoref11_Hunk} (h : HkOp B X w a n c H x) (st : Step X w [] X' w') : HkOp B X' w' a n c H x := by
  obtain ⟨V, aL, nL, cL, h1, h2, h3, h4⟩ := h
  exact ⟨V, aL, nL, cL, h1.step0 st, h2.step st, h3.step0 st, h4⟩
theorem HkSt.step0 {B : Nat} {L : List S_rectoref11_Hunk} (h : HkSt B X w a n c L) (st : Step X w [] X' w') : HkSt B X' w' a n c L := by
  rcases h with ⟨h1, h2⟩ | ⟨H, x, h1, h2⟩
  · exact .inl ⟨h1, h2.step0 st⟩
  · exact .inr ⟨H, x, h1, h2.step0 st⟩
/-- All is done, for now. -/
theorem HkSt.done {B k : Nat} {L : List S_rectoref11_Hunk} (h : HkSt B X w a n c L) (h0 : ∀ b ∈ X0, b < B) (hs : Sub X0 X) (hk : k ≤ 1000000) (hb : ∀ x ∈ L, hkB x k) : ∃ X1 V, Sub X1 X ∧ Sub X0 X1 ∧ OS (rRaw 5) [] B X1 w 60 a n c V ∧ Rows r_rectoref11_Hunk X1 w V L := by
  rcases h with ⟨rfl, h2⟩ | ⟨H, x, rfl, V, aL, nL, cL, h1, h2, h3, h4⟩
  · exact ⟨X, [], Sub.refl _, hs, h2, trivial⟩
  · obtain ⟨X1, u, r, hm⟩ := OS.release h3
    obtain ⟨b1, b2, b3, b4, b5⟩ := hb x (by simp)
    refine ⟨X1, V ++ [hkV x aL nL cL], u, hm _ (OS.apold h3 h0) hs, h1.less u (hm _ h4 h1.mem), (h2.less u).snoc ?_⟩
    exact r_rectoref11_Hunk_mk (inR_i64.2 (by omega)) (inR_i64.2 (by omega)) (inR_i64.2 (by omega)) (inR_i64.2 (by omega)) r h3.1
end
def rectoref11_Hunks_p (l : (List S_rectoref11_Edit)) (around : Int) (Q : (List S_rectoref11_Hunk) → Prop) : Prop :=
  ((l.length ≤ 9223372036854775807) → ((inR .i64 around) → (∃ k11 : Int → Prop, (∀ (around9 : Int), k11 around9 → (inR .i64 around9) → (∃ k29 : Int → Prop, (∀ (around27 : Int), k29 around27 → (inR .i64 around27) → ((0 ≤ (l.length : Int) ∧ (1 : Int) * (l.length : Int) ≤ 281474976710656) ∧ (∃ (I3117 : (List Bool) → Int → Prop) (m3118 : (List Bool) → Int → Nat), (I3117 (List.replicate (l.length : Int).toNat (default : Bool)) (0 : Int)) ∧ (∀ (s1584 : (List Bool)) (i1586 : Int), (I3117 s1584 i1586) → (s1584.length ≤ 9223372036854775807) → (inR .i64 i1586) → (((i1586 < (l.length : Int)) → (∃ k3894 : (List Bool) → Prop, (∀ (s3892 : (List Bool)), k3894 s3892 → (s3892.length ≤ 9223372036854775807) → ((inR .i64 (i1586 + (1 : Int))) ∧ ((I3117 s3892 (i1586 + (1 : Int))) ∧ m3118 s3892 (i1586 + (1 : Int)) < m3118 s1584 i1586))) ∧ ((inL l i1586) ∧ ((inR .i64 ((lget l i1586).Op)) → ((((lget l i1586).Line).size ≤ maxLen) → (((((lget l i1586).Op) = (1 : Int)) → (k3894 s1584)) ∧ ((¬ (((lget l i1586).Op) = (1 : Int))) → ((inL s1584 i1586) ∧ (∃ (I4409 : (List Bool) → Int → Prop) (m4410 : (List Bool) → Int → Nat), (I4409 (lset s1584 i1586 true) (-1 : Int)) ∧ (∀ (s4170 : (List Bool)) (side4172 : Int), (I4409 s4170 side4172) → (s4170.length ≤ 9223372036854775807) → (inR .i64 side4172) → (((side4172 ≤ (1 : Int)) → ((inR .i64 (i1586 + side4172)) ∧ (∃ (I4578 : (List Bool) → Int → Int → Prop) (m4579 : (List Bool) → Int → Int → Nat), (I4578 s4170 around27 (i1586 + side4172)) ∧ (∀ (s4505 : (List Bool)) (n_4507 : Int) (k4509 : Int), (I4578 s4505 n_4507 k4509) → (s4505.length ≤ 9223372036854775807) → (inR .i64 n_4507) → (inR .i64 k4509) → (∃ k4609 : Bool → Prop, (∀ (s4608 : Bool), k4609 s4608 → (((s4608 = true) → ((inL s4505 k4509) ∧ ((inR .i64 (n_4507 - (1 : Int))) ∧ ((inR .i64 (k4509 + side4172)) ∧ ((I4578 (lset s4505 k4509 true) (n_4507 - (1 : Int)) (k4509 + side4172)) ∧ m4579 (lset s4505 k4509 true) (n_4507 - (1 : Int)) (k4509 + side4172) < m4579 s4505 n_4507 k4509))))) ∧ ((s4608 = false) → ((inR .i64 (side4172 + (2 : Int))) ∧ ((I4409 s4505 (side4172 + (2 : Int))) ∧ m4410 s4505 (side4172 + (2 : Int)) < m4410 s4170 side4172))))) ∧ (((k4509 ≥ (0 : Int)) → (((k4509 < (l.length : Int)) → (((n_4507 > (0 : Int)) → ((inL l k4509) ∧ ((inR .i64 ((lget l k4509).Op)) → ((((lget l k4509).Line).size ≤ maxLen) → (k4609 (decide (((lget l k4509).Op) = (1 : Int)))))))) ∧ ((¬ (n_4507 > (0 : Int))) → (k4609 false)))) ∧ ((¬ (k4509 < (l.length : Int))) → (k4609 false)))) ∧ ((¬ (k4509 ≥ (0 : Int))) → (k4609 false)))))))) ∧ ((¬ (side4172 ≤ (1 : Int))) → (k3894 s4170))))))))))))) ∧ ((¬ (i1586 < (l.length : Int))) → (s1584.length = l.length ∧ l.length ≤ 1000000 ∧ Q (hkRun l s1584 l.length)))))))) ∧ (((around9 > (16 : Int)) → (k29 (16 : Int))) ∧ ((¬ (around9 > (16 : Int))) → (k29 around9))))) ∧ (((around < (0 : Int)) → (k11 (0 : Int))) ∧ ((¬ (around < (0 : Int))) → (k11 around))))))
set_option maxRecDepth 20000 in
set_option maxHeartbeats 4000000 in
theorem rectoref11_Hunks_w {X : List Nat} {w : World} {l : (List S_rectoref11_Edit)} {around : Int} {al1 : Option Addr} {cl2 : Nat} {Q : (List S_rectoref11_Hunk) → Prop} (hX0 : Old X w) (hl3 : Sl r_rectoref11_Edit X w al1 cl2 l) (raround4 : inR .i64 around) (hp : rectoref11_Hunks_p l around Q) :
    Calls Tryd.prog 9 #[(.slice al1 l.length cl2), (.int .i64 around)] w (Ret fun v w' => ∃ (r0 : (List S_rectoref11_Hunk)), Q r0 ∧ Evo [] w w' ∧ ∃ (aq01 : Option Addr) (cq02 : Nat), v = (.slice aq01 r0.length cq02) ∧ Sl r_rectoref11_Hunk X w' aq01 cq02 r0) := by
  have hXo := hX0
  have E0 : Evo [] w w := RB.refl _ _ _
  have hS : Sub X X := Sub.refl _
  unfold rectoref11_Hunks_p at hp
  refine enter_ Tryd.func9 rfl 160 [(0, (.slice al1 l.length cl2)), (1, (.int .i64 around))] (by kernel_rfl) (fun Qe hQ => ?_)
  replace hp := hp (Sl.len hl3)
  replace hp := hp raround4
  refine seq_ (fun _ K5 => ?_)
  refine reg_ ?_
  refine sq (o_pv (.slice none 0 0) rfl (by kernel_rfl) ?_)
  refine nil_ ?_
  refine then_normal (K5 _ _ _ _ ?_)
  refine seq_ (fun _ K6 => ?_)
  refine seq_ (fun _ K7 => ?_)
  refine reg_ ?_
  refine sq (o_pv (.int .i64 around) rfl (by kernel_rfl) ?_)
  refine sq (o_pv (.bool (decide (around < (0 : Int)))) rfl (by kernel_rfl) ?_)
  refine nil_ ?_
  refine then_normal (K7 _ _ _ _ ?_)
  obtain ⟨k11, hk12, hp⟩ := hp
  refine ground_ ?_
  refine join_ 2 (fun lq w13 => ∃ (X14 : List Nat) (around9 : Int), (lq = [(1, (.int .i64 around9))]) ∧ (Evo [] w w13) ∧ (Old X14 w13) ∧ (Sub X X14) ∧ (Sl r_rectoref11_Edit X14 w13 al1 cl2 l) ∧ (inR .i64 around9) ∧ (k11 around9)) (fun Kj15 hJ16 => ?_) ?_
  ·
    refine cond_d (around < (0 : Int)) (by kernel_rfl) (fun h22 => ?_) (fun h22 => ?_)
    ·
      replace hp := hp.1 h22
      refine reg_ ?_
      refine sq (o_pv (.int .i64 (0 : Int)) rfl (by kernel_rfl) ?_)
      refine nil_ ?_
      refine then_normal (hJ16 _ _ _ ⟨[(1, (.int .i64 (0 : Int)))], fit_mk (fun _ _ => rfl) (by kernel_rfl) (vs_cons (by kernel_rfl) vs_nil), ?_⟩)
      exact ⟨X, (0 : Int), rfl, E0, hXo, hS, hl3, (by decide : inR .i64 (0 : Int)), hp⟩
    ·
      replace hp := hp.2 h22
      refine wp_skip ?_
      refine then_normal (hJ16 _ _ _ ⟨[(1, (.int .i64 around))], fit_mk (fun _ _ => rfl) (by kernel_rfl) (vs_cons (by kernel_rfl) vs_nil), ?_⟩)
      exact ⟨X, around, rfl, E0, hXo, hS, hl3, raround4, hp⟩
  ·
    rintro _ w13 g23 ⟨X14, around9, rfl, E18, hXo19, hS20, hl21, raround10, hv17⟩
    replace hp := hk12 around9 hv17 raround10
    refine then_normal (K6 _ _ _ _ ?_)
    refine seq_ (fun _ K24 => ?_)
    refine seq_ (fun _ K25 => ?_)
    refine reg_ ?_
    refine sq (o_pv (.int .i64 around9) rfl (by kernel_rfl) ?_)
    refine sq (o_pv (.bool (decide (around9 > (16 : Int)))) rfl (by kernel_rfl) ?_)
    refine nil_ ?_
    refine then_normal (K25 _ _ _ _ ?_)
    obtain ⟨k29, hk30, hp⟩ := hp
    refine ground_ ?_
    refine join_ 2 (fun lq w31 => ∃ (X32 : List Nat) (around27 : Int), (lq = [(1, (.int .i64 around27))]) ∧ (Evo [] w w31) ∧ (Old X32 w31) ∧ (Sub X X32) ∧ (Sl r_rectoref11_Edit X32 w31 al1 cl2 l) ∧ (inR .i64 around27) ∧ (k29 around27)) (fun Kj33 hJ34 => ?_) ?_
    ·
      refine cond_d (around9 > (16 : Int)) (by kernel_rfl) (fun h40 => ?_) (fun h40 => ?_)
      ·
        replace hp := hp.1 h40
        refine reg_ ?_
        refine sq (o_pv (.int .i64 (16 : Int)) rfl (by kernel_rfl) ?_)
        refine nil_ ?_
        refine then_normal (hJ34 _ _ _ ⟨[(1, (.int .i64 (16 : Int)))], fit_mk (fun _ _ => rfl) (by kernel_rfl) (vs_cons (by kernel_rfl) vs_nil), ?_⟩)
        exact ⟨X14, (16 : Int), rfl, E18, hXo19, hS20, hl21, (by decide : inR .i64 (16 : Int)), hp⟩
      ·
        replace hp := hp.2 h40
        refine wp_skip ?_
        refine then_normal (hJ34 _ _ _ ⟨[(1, (.int .i64 around9))], fit_mk (fun _ _ => rfl) (by kernel_rfl) (vs_cons (by kernel_rfl) vs_nil), ?_⟩)
        exact ⟨X14, around9, rfl, E18, hXo19, hS20, hl21, raround10, hp⟩
    ·
      rintro _ w31 g41 ⟨X32, around27, rfl, E36, hXo37, hS38, hl39, raround28, hv35⟩
      replace hp := hk30 around27 hv35 raround28
      refine then_normal (K24 _ _ _ _ ?_)
      refine seq_ (fun _ K42 => ?_)
      refine reg_ ?_
      refine sq (o_pv (.slice al1 l.length cl2) rfl (by kernel_rfl) ?_)
      refine sq (o_pv (.int .i64 (l.length : Int)) rfl (by kernel_rfl) ?_)
      obtain ⟨h43, hp⟩ := hp
      refine sq (o_makeX (R := rBool) (kl := .i64) (kc := .i64) (X := X32) (B := w.heap.size) (.bool false) (l.length : Int) E36.size rfl Tryd.underlying58 (by kernel_rfl) rfl rfl (fun _ _ => rfl) (by kernel_rfl) (by kernel_rfl) h43 (inR_len (Sl.len hl39)) ?_)
      intro a44 n45 w46 X47 s48 O49 n50
      refine sq (o_pv (.slice a44 n45 n45) rfl (by kernel_rfl) ?_)
      refine nil_ ?_
      refine then_normal (K42 _ _ _ _ ?_)
      refine seq_ (fun _ K51 => ?_)
      refine seq_ (fun _ K52 => ?_)
      refine reg_ ?_
      refine sq (o_pv (.int .i64 (0 : Int)) rfl (by kernel_rfl) ?_)
      refine nil_ ?_
      refine then_normal (K52 _ _ _ _ ?_)
      refine wp_block ?_
      have E3127 := (Evo.then0 E36 (Step.evo s48))
      have hXo3128 := (Old.step hXo37 s48)
      have hS3129 := (Sub.trans hS38 (Step.up s48))
      have hl3130 := (Sl.step hl39 s48)
      obtain ⟨I3117, m3118, hI3119, hp⟩ := hp
      refine loop_ 9444732965739286234048 (fun kq lq w3121 => ∃ (X3122 : List Nat) (s1584 : (List Bool)) (i1586 : Int), (lq = [(6, (.int .i64 i1586))]) ∧ (kq = m3118 s1584 i1586) ∧ (Evo [] w w3121) ∧ (Old X3122 w3121) ∧ (Sub X X3122) ∧ (Sl r_rectoref11_Edit X3122 w3121 al1 cl2 l) ∧ (OS rBool ([]) w.heap.size X3122 w3121 4 a44 n45 n45 s1584) ∧ (inR .i64 i1586) ∧ (I3117 s1584 i1586)) (m3118 (List.replicate (l.length : Int).toNat (default : Bool)) (0 : Int)) [(6, (.int .i64 (0 : Int)))] (vs_cons (by kernel_rfl) vs_nil) ⟨X47, (List.replicate (l.length : Int).toNat (default : Bool)), (0 : Int), rfl, rfl, E3127, hXo3128, hS3129, hl3130, O49, (by decide : inR .i64 (0 : Int)), hI3119⟩ ?_
      rintro _ _ w3121 g3124 ⟨X3122, s1584, i1586, rfl, rfl, E3131, hXo3132, hS3133, hl3134, O1585, ri1587, hI3120⟩ Kl3125 hA3126
      replace hp := hp s1584 i1586 hI3120 (OS.len O1585) ri1587
      refine seq_ (fun _ K3135 => ?_)
      refine seq_ (fun _ K3136 => ?_)
      refine reg_ ?_
      refine sq (o_pv (.int .i64 i1586) rfl (by kernel_rfl) ?_)
      refine sq (o_pv (.slice al1 l.length cl2) rfl (by kernel_rfl) ?_)
      refine sq (o_pv (.int .i64 (l.length : Int)) rfl (by kernel_rfl) ?_)
      refine sq (o_pv (.bool (decide (i1586 < (l.length : Int)))) rfl (by kernel_rfl) ?_)
      refine nil_ ?_
      refine then_normal (K3136 _ _ _ _ ?_)
      refine cond_d (i1586 < (l.length : Int)) (by kernel_rfl) (fun h3137 => ?_) (fun h3137 => ?_)
      ·
        replace hp := hp.1 h3137
        refine wp_skip ?_
        refine then_normal (K3135 _ _ _ _ ?_)
        refine seq_ (fun _ K3138 => ?_)
        obtain ⟨k3894, hk3895, hp⟩ := hp
        refine ground_ ?_
        refine join_ 9444732965739021992832 (fun lq w3896 => ∃ (X3897 : List Nat) (s3892 : (List Bool)), (lq = []) ∧ (Evo [] w w3896) ∧ (Old X3897 w3896) ∧ (Sub X X3897) ∧ (Sl r_rectoref11_Edit X3897 w3896 al1 cl2 l) ∧ (OS rBool ([]) w.heap.size X3897 w3896 4 a44 n45 n45 s3892) ∧ (k3894 s3892)) (fun Kj3898 hJ3899 => ?_) ?_
        ·
          refine wp_block ?_
          refine seq_ (fun _ K3905 => ?_)
          refine seq_ (fun _ K3906 => ?_)
          refine reg_ ?_
          refine sq (o_pv (.slice al1 l.length cl2) rfl (by kernel_rfl) ?_)
          refine sq (o_pv (.int .i64 i1586) rfl (by kernel_rfl) ?_)
          obtain ⟨h3907, hp⟩ := hp
          obtain ⟨b3908, o3909, cs3910, ha3911, nx3912, lt3913, ok3914, hc3915⟩ := Sl.atI hl3134 i1586 h3907
          obtain ⟨rfl, reOp3916, zeLine3917⟩ := r_rectoref11_Edit_open ok3914
          replace hp := hp reOp3916
          replace hp := hp zeLine3917
          refine sq (o_pv (.pointer (some ⟨b3908, o3909 + i1586.toNat * 2, none⟩)) rfl (x_ixA (m := l.length) (c := cl2) (k := .i64) (i := i1586) Tryd.underlying25 Tryd.sizeOf54 (by rw [← ha3911]; kernel_rfl) (by kernel_rfl) h3907) ?_)
          refine sq (o_pv (.pointer (some ⟨b3908, o3909 + i1586.toNat * 2, none⟩)) rfl (by kernel_rfl) ?_)
          refine sq (o_pv (.int .i64 ((lget l i1586).Op)) rfl (x_load1 (by kernel_rfl) Tryd.isAgg3 (hc3915 0 _ rfl)) ?_)
          refine sq (o_pv (.bool (decide (((lget l i1586).Op) = (1 : Int)))) rfl (by kernel_rfl) ?_)
          refine nil_ ?_
          refine then_normal (K3906 _ _ _ _ ?_)
          refine cond_d (((lget l i1586).Op) = (1 : Int)) (by kernel_rfl) (fun h3918 => ?_) (fun h3918 => ?_)
          ·
            replace hp := hp.1 h3918
            refine wp_exit ?_
            refine then_exit ?_
            refine blk_exit ?_
            refine then_normal (hJ3899 _ _ _ ⟨[], fit_mk (fun _ _ => rfl) (by kernel_rfl) vs_nil, ?_⟩)
            exact ⟨X3122, s1584, rfl, E3131, hXo3132, hS3133, hl3134, O1585, hp⟩
          ·
            replace hp := hp.2 h3918
            refine wp_skip ?_
            refine then_normal (K3905 _ _ _ _ ?_)
            refine seq_ (fun _ K3919 => ?_)
            refine reg_ ?_
            refine sq (o_pv (.slice a44 n45 n45) rfl (by kernel_rfl) ?_)
            refine sq (o_pv (.int .i64 i1586) rfl (by kernel_rfl) ?_)
            obtain ⟨h3920, hp⟩ := hp
            obtain ⟨b3921, o3922, cs3923, ha3924, nx3925, lt3926, ok3927, hc3928⟩ := Sl.atI (OS.rd O1585) i1586 h3920
            obtain rfl := ok3927
            refine sq (o_pv (.pointer (some ⟨b3921, o3922 + i1586.toNat * 1, none⟩)) rfl (x_ixA (m := n45) (c := n45) (k := .i64) (i := i1586) Tryd.underlying58 Tryd.sizeOf4 (by rw [← ha3924]; kernel_rfl) (by kernel_rfl) ⟨h3920.1, by rw [O1585.1]; exact h3920.2⟩) ?_)
            refine sq (o_stS (o := o3922) (v := (.bool true)) i1586 true rfl O1585 ha3924 (h3920) (by kernel_rfl) (by kernel_rfl) Tryd.sizeOf4 (fun _ => rBool_mk) ?_)
            intro w3929 s3930 O3931
            refine nil_ ?_
            refine then_normal (K3919 _ _ _ _ ?_)
            refine seq_ (fun _ K3932 => ?_)
            refine reg_ ?_
            refine sq (o_pv (.int .i64 (-1 : Int)) rfl (by kernel_rfl) ?_)
            refine nil_ ?_
            refine then_normal (K3932 _ _ _ _ ?_)
            refine wp_block ?_
            have E4419 := (Evo.thenW E3131 (Step.evo s3930) O1585.2.2)
            have hXo4420 := (Old.step hXo3132 s3930)
            have hS4421 := (Sub.trans hS3133 (Step.up s3930))
            have hl4422 := (Sl.step hl3134 s3930)
            obtain ⟨I4409, m4410, hI4411, hp⟩ := hp
            refine loop_ 9444732965601851474816 (fun kq lq w4413 => ∃ (X4414 : List Nat) (s4170 : (List Bool)) (side4172 : Int), (lq = [(7, (.int .i64 side4172))]) ∧ (kq = m4410 s4170 side4172) ∧ (Evo [] w w4413) ∧ (Old X4414 w4413) ∧ (Sub X X4414) ∧ (Sl r_rectoref11_Edit X4414 w4413 al1 cl2 l) ∧ (OS rBool ([]) w.heap.size X4414 w4413 4 a44 n45 n45 s4170) ∧ (inR .i64 side4172) ∧ (I4409 s4170 side4172)) (m4410 (lset s1584 i1586 true) (-1 : Int)) [(7, (.int .i64 (-1 : Int)))] (vs_cons (by kernel_rfl) vs_nil) ⟨X3122, (lset s1584 i1586 true), (-1 : Int), rfl, rfl, E4419, hXo4420, hS4421, hl4422, O3931, (by decide : inR .i64 (-1 : Int)), hI4411⟩ ?_
            rintro _ _ w4413 g4416 ⟨X4414, s4170, side4172, rfl, rfl, E4423, hXo4424, hS4425, hl4426, O4171, rside4173, hI4412⟩ Kl4417 hA4418
            replace hp := hp s4170 side4172 hI4412 (OS.len O4171) rside4173
            refine seq_ (fun _ K4427 => ?_)
            refine seq_ (fun _ K4428 => ?_)
            refine reg_ ?_
            refine sq (o_pv (.int .i64 side4172) rfl (by kernel_rfl) ?_)
            refine sq (o_pv (.bool (decide (side4172 ≤ (1 : Int)))) rfl (by kernel_rfl) ?_)
            refine nil_ ?_
            refine then_normal (K4428 _ _ _ _ ?_)
            refine cond_d (side4172 ≤ (1 : Int)) (by kernel_rfl) (fun h4429 => ?_) (fun h4429 => ?_)
            ·
              replace hp := hp.1 h4429
              refine wp_skip ?_
              refine then_normal (K4427 _ _ _ _ ?_)
              refine seq_ (fun _ K4430 => ?_)
              refine wp_block ?_
              refine seq_ (fun _ K4431 => ?_)
              refine reg_ ?_
              refine sq (o_pv (.int .i64 around27) rfl (by kernel_rfl) ?_)
              refine sq (o_pv (.int .i64 around27) rfl (by kernel_rfl) ?_)
              refine nil_ ?_
              refine then_normal (K4431 _ _ _ _ ?_)
              refine seq_ (fun _ K4432 => ?_)
              refine reg_ ?_
              refine sq (o_pv (.int .i64 i1586) rfl (by kernel_rfl) ?_)
              refine sq (o_pv (.int .i64 side4172) rfl (by kernel_rfl) ?_)
              obtain ⟨h4433, hp⟩ := hp
              refine sq (o_pv (.int .i64 (i1586 + side4172)) rfl (x_add2 (k := .i64) (a := i1586) (b := side4172) (i1586 + side4172) (by kernel_rfl) (by kernel_rfl) (wrap_inR h4433)) ?_)
              refine sq (o_pv (.int .i64 (i1586 + side4172)) rfl (by kernel_rfl) ?_)
              refine nil_ ?_
              refine then_normal (K4432 _ _ _ _ ?_)
              refine wp_block ?_
              obtain ⟨I4578, m4579, hI4580, hp⟩ := hp
              refine loop_ 9444732930554918339328 (fun kq lq w4582 => ∃ (X4583 : List Nat) (s4505 : (List Bool)) (n_4507 : Int) (k4509 : Int), (lq = [(8, (.int .i64 n_4507)), (9, (.int .i64 k4509))]) ∧ (kq = m4579 s4505 n_4507 k4509) ∧ (Evo [] w w4582) ∧ (Old X4583 w4582) ∧ (Sub X X4583) ∧ (Sl r_rectoref11_Edit X4583 w4582 al1 cl2 l) ∧ (OS rBool ([]) w.heap.size X4583 w4582 4 a44 n45 n45 s4505) ∧ (inR .i64 n_4507) ∧ (inR .i64 k4509) ∧ (I4578 s4505 n_4507 k4509)) (m4579 s4170 around27 (i1586 + side4172)) [(8, (.int .i64 around27)), (9, (.int .i64 (i1586 + side4172)))] (vs_cons (by kernel_rfl) (vs_cons (by kernel_rfl) vs_nil)) ⟨X4414, s4170, around27, (i1586 + side4172), rfl, rfl, E4423, hXo4424, hS4425, hl4426, O4171, raround28, h4433, hI4580⟩ ?_
              rintro _ _ w4582 g4585 ⟨X4583, s4505, n_4507, k4509, rfl, rfl, E4588, hXo4589, hS4590, hl4591, O4506, rn_4508, rk4510, hI4581⟩ Kl4586 hA4587
              replace hp := hp s4505 n_4507 k4509 hI4581 (OS.len O4506) rn_4508 rk4510
              refine seq_ (fun _ K4592 => ?_)
              refine seq_ (fun _ K4593 => ?_)
              obtain ⟨k4609, hk4610, hp⟩ := hp
              refine ground_ ?_
              refine join_ 36893452963047014400 (fun lq w4611 => ∃ (X4612 : List Nat) (s4608 : Bool), (lq = [(64, (.bool s4608))]) ∧ (Evo [] w w4611) ∧ (Old X4612 w4611) ∧ (Sub X X4612) ∧ (Sl r_rectoref11_Edit X4612 w4611 al1 cl2 l) ∧ (OS rBool ([]) w.heap.size X4612 w4611 4 a44 n45 n45 s4505) ∧ (k4609 s4608)) (fun Kj4613 hJ4614 => ?_) ?_
              ·
                refine reg_ ?_
                refine sq (o_pv (.int .i64 k4509) rfl (by kernel_rfl) ?_)
                by_cases h4621 : k4509 ≥ (0 : Int)
                ·
                  replace hp := hp.1 h4621
                  refine sq (o_pv (.bool true) rfl (x_dt (p := k4509 ≥ (0 : Int)) (by kernel_rfl) h4621) ?_)
                  refine sq (o_pv (.bool true) rfl (by kernel_rfl) ?_)
                  refine sq (o_pv (.int .i64 k4509) (by kernel_rfl) (by kernel_rfl) ?_)
                  refine sq (o_pv (.slice al1 l.length cl2) (by kernel_rfl) (by kernel_rfl) ?_)
                  refine sq (o_pv (.int .i64 (l.length : Int)) (by kernel_rfl) (by kernel_rfl) ?_)
                  by_cases h4622 : k4509 < (l.length : Int)
                  ·
                    replace hp := hp.1 h4622
                    refine sq (o_pv (.bool true) (by kernel_rfl) (x_dt (p := k4509 < (l.length : Int)) (by kernel_rfl) h4622) ?_)
                    refine sq (o_pv (.bool true) rfl (by kernel_rfl) ?_)
                    refine sq (o_pv (.bool true) rfl (by kernel_rfl) ?_)
                    refine sq (o_pv (.int .i64 n_4507) (by kernel_rfl) (by kernel_rfl) ?_)
                    by_cases h4623 : n_4507 > (0 : Int)
                    ·
                      replace hp := hp.1 h4623
                      refine sq (o_pv (.bool true) (by kernel_rfl) (x_dt (p := n_4507 > (0 : Int)) (by kernel_rfl) h4623) ?_)
                      refine sq (o_pv (.bool true) rfl (by kernel_rfl) ?_)
                      refine sq (o_pv (.bool true) rfl (by kernel_rfl) ?_)
                      refine sq (o_pv (.slice al1 l.length cl2) (by kernel_rfl) (by kernel_rfl) ?_)
                      refine sq (o_pv (.int .i64 k4509) (by kernel_rfl) (by kernel_rfl) ?_)
                      obtain ⟨h4624, hp⟩ := hp
                      obtain ⟨b4625, o4626, cs4627, ha4628, nx4629, lt4630, ok4631, hc4632⟩ := Sl.atI hl4591 k4509 h4624
                      obtain ⟨rfl, reOp4633, zeLine4634⟩ := r_rectoref11_Edit_open ok4631
                      replace hp := hp reOp4633
                      replace hp := hp zeLine4634
                      refine sq (o_pv (.pointer (some ⟨b4625, o4626 + k4509.toNat * 2, none⟩)) (by kernel_rfl) (x_ixA (m := l.length) (c := cl2) (k := .i64) (i := k4509) Tryd.underlying25 Tryd.sizeOf54 (by rw [← ha4628]; kernel_rfl) (by kernel_rfl) h4624) ?_)
                      refine sq (o_pv (.pointer (some ⟨b4625, o4626 + k4509.toNat * 2, none⟩)) (by kernel_rfl) (by kernel_rfl) ?_)
                      refine sq (o_pv (.int .i64 ((lget l k4509).Op)) (by kernel_rfl) (x_load1 (by kernel_rfl) Tryd.isAgg3 (hc4632 0 _ rfl)) ?_)
                      refine sq (o_pv (.bool (decide (((lget l k4509).Op) = (1 : Int)))) (by kernel_rfl) (by kernel_rfl) ?_)
                      refine sq (o_pv (.bool (decide (((lget l k4509).Op) = (1 : Int)))) rfl (by kernel_rfl) ?_)
                      refine nil_ ?_
                      refine then_normal (hJ4614 _ _ _ ⟨[(64, (.bool (decide (((lget l k4509).Op) = (1 : Int)))))], fit_mk (fun _ _ => rfl) (by kernel_rfl) (vs_cons (by kernel_rfl) vs_nil), ?_⟩)
                      exact ⟨X4583, (decide (((lget l k4509).Op) = (1 : Int))), rfl, E4588, hXo4589, hS4590, hl4591, O4506, hp⟩
                    ·
                      replace hp := hp.2 h4623
                      refine sq (o_pv (.bool false) (by kernel_rfl) (x_df (p := n_4507 > (0 : Int)) (by kernel_rfl) h4623) ?_)
                      refine sq (o_pv (.bool false) rfl (by kernel_rfl) ?_)
                      refine sq (o_pv (.bool false) rfl (by kernel_rfl) ?_)
                      refine sq (o_not (by kernel_rfl) ?_)
                      refine sq (o_not (by kernel_rfl) ?_)
                      refine sq (o_not (by kernel_rfl) ?_)
                      refine sq (o_not (by kernel_rfl) ?_)
                      refine sq (o_not (by kernel_rfl) ?_)
                      refine sq (o_not (by kernel_rfl) ?_)
                      refine sq (o_pv (.bool false) rfl (by kernel_rfl) ?_)
                      refine nil_ ?_
                      refine then_normal (hJ4614 _ _ _ ⟨[(64, (.bool false))], fit_mk (fun _ _ => rfl) (by kernel_rfl) (vs_cons (by kernel_rfl) vs_nil), ?_⟩)
                      exact ⟨X4583, false, rfl, E4588, hXo4589, hS4590, hl4591, O4506, hp⟩
                  ·
                    replace hp := hp.2 h4622
                    refine sq (o_pv (.bool false) (by kernel_rfl) (x_df (p := k4509 < (l.length : Int)) (by kernel_rfl) h4622) ?_)
                    refine sq (o_pv (.bool false) rfl (by kernel_rfl) ?_)
                    refine sq (o_pv (.bool false) rfl (by kernel_rfl) ?_)
                    refine sq (o_not (by kernel_rfl) ?_)
                    refine sq (o_not (by kernel_rfl) ?_)
                    refine sq (o_pv (.bool false) rfl (by kernel_rfl) ?_)
                    refine sq (o_pv (.bool false) rfl (by kernel_rfl) ?_)
                    refine sq (o_not (by kernel_rfl) ?_)
                    refine sq (o_not (by kernel_rfl) ?_)
                    refine sq (o_not (by kernel_rfl) ?_)
                    refine sq (o_not (by kernel_rfl) ?_)
                    refine sq (o_not (by kernel_rfl) ?_)
                    refine sq (o_not (by kernel_rfl) ?_)
                    refine sq (o_pv (.bool false) rfl (by kernel_rfl) ?_)
                    refine nil_ ?_
                    refine then_normal (hJ4614 _ _ _ ⟨[(64, (.bool false))], fit_mk (fun _ _ => rfl) (by kernel_rfl) (vs_cons (by kernel_rfl) vs_nil), ?_⟩)
                    exact ⟨X4583, false, rfl, E4588, hXo4589, hS4590, hl4591, O4506, hp⟩
                ·
                  replace hp := hp.2 h4621
                  refine sq (o_pv (.bool false) rfl (x_df (p := k4509 ≥ (0 : Int)) (by kernel_rfl) h4621) ?_)
                  refine sq (o_pv (.bool false) rfl (by kernel_rfl) ?_)
                  refine sq (o_not (by kernel_rfl) ?_)
                  refine sq (o_not (by kernel_rfl) ?_)
                  refine sq (o_not (by kernel_rfl) ?_)
                  refine sq (o_not (by kernel_rfl) ?_)
                  refine sq (o_pv (.bool false) rfl (by kernel_rfl) ?_)
                  refine sq (o_pv (.bool false) rfl (by kernel_rfl) ?_)
                  refine sq (o_not (by kernel_rfl) ?_)
                  refine sq (o_not (by kernel_rfl) ?_)
                  refine sq (o_pv (.bool false) rfl (by kernel_rfl) ?_)
                  refine sq (o_pv (.bool false) rfl (by kernel_rfl) ?_)
                  refine sq (o_not (by kernel_rfl) ?_)
                  refine sq (o_not (by kernel_rfl) ?_)
                  refine sq (o_not (by kernel_rfl) ?_)
                  refine sq (o_not (by kernel_rfl) ?_)
                  refine sq (o_not (by kernel_rfl) ?_)
                  refine sq (o_not (by kernel_rfl) ?_)
                  refine sq (o_pv (.bool false) rfl (by kernel_rfl) ?_)
                  refine nil_ ?_
                  refine then_normal (hJ4614 _ _ _ ⟨[(64, (.bool false))], fit_mk (fun _ _ => rfl) (by kernel_rfl) (vs_cons (by kernel_rfl) vs_nil), ?_⟩)
                  exact ⟨X4583, false, rfl, E4588, hXo4589, hS4590, hl4591, O4506, hp⟩
              ·
                rintro _ w4611 g4635 ⟨X4612, s4608, rfl, E4616, hXo4617, hS4618, hl4619, O4620, hv4615⟩
                replace hp := hk4610 s4608 hv4615
                refine then_normal (K4593 _ _ _ _ ?_)
                refine cond_b s4608 (by kernel_rfl) (fun h4636 => ?_) (fun h4636 => ?_)
                ·
                  replace hp := hp.1 h4636
                  refine wp_skip ?_
                  refine then_normal (K4592 _ _ _ _ ?_)
                  refine seq_ (fun _ K4637 => ?_)
                  refine wp_block ?_
                  refine seq_ (fun _ K4638 => ?_)
                  refine reg_ ?_
                  refine sq (o_pv (.slice a44 n45 n45) rfl (by kernel_rfl) ?_)
                  refine sq (o_pv (.int .i64 k4509) rfl (by kernel_rfl) ?_)
                  obtain ⟨h4639, hp⟩ := hp
                  obtain ⟨b4640, o4641, cs4642, ha4643, nx4644, lt4645, ok4646, hc4647⟩ := Sl.atI (OS.rd O4620) k4509 h4639
                  obtain rfl := ok4646
                  refine sq (o_pv (.pointer (some ⟨b4640, o4641 + k4509.toNat * 1, none⟩)) rfl (x_ixA (m := n45) (c := n45) (k := .i64) (i := k4509) Tryd.underlying58 Tryd.sizeOf4 (by rw [← ha4643]; kernel_rfl) (by kernel_rfl) ⟨h4639.1, by rw [O4620.1]; exact h4639.2⟩) ?_)
                  refine sq (o_stS (o := o4641) (v := (.bool true)) k4509 true rfl O4620 ha4643 (h4639) (by kernel_rfl) (by kernel_rfl) Tryd.sizeOf4 (fun _ => rBool_mk) ?_)
                  intro w4648 s4649 O4650
                  refine nil_ ?_
                  refine then_normal (K4638 _ _ _ _ ?_)
                  refine reg_ ?_
                  refine sq (o_pv (.int .i64 n_4507) rfl (by kernel_rfl) ?_)
                  obtain ⟨h4651, hp⟩ := hp
                  refine sq (o_pv (.int .i64 (n_4507 - (1 : Int))) rfl (x_sub2 (k := .i64) (a := n_4507) (b := (1 : Int)) (n_4507 - (1 : Int)) (by kernel_rfl) (by kernel_rfl) (wrap_inR h4651)) ?_)
                  refine sq (o_pv (.int .i64 (n_4507 - (1 : Int))) rfl (by kernel_rfl) ?_)
                  refine nil_ ?_
                  refine blk_normal ?_
                  refine then_normal (K4637 _ _ _ _ ?_)
                  refine reg_ ?_
                  refine sq (o_pv (.int .i64 k4509) rfl (by kernel_rfl) ?_)
                  refine sq (o_pv (.int .i64 side4172) rfl (by kernel_rfl) ?_)
                  obtain ⟨h4652, hp⟩ := hp
                  refine sq (o_pv (.int .i64 (k4509 + side4172)) rfl (x_add2 (k := .i64) (a := k4509) (b := side4172) (k4509 + side4172) (by kernel_rfl) (by kernel_rfl) (wrap_inR h4652)) ?_)
                  refine sq (o_pv (.int .i64 (k4509 + side4172)) rfl (by kernel_rfl) ?_)
                  refine nil_ ?_
                  have E4653 := (Evo.thenW E4616 (Step.evo s4649) O4620.2.2)
                  have hXo4654 := (Old.step hXo4617 s4649)
                  have hS4655 := (Sub.trans hS4618 (Step.up s4649))
                  have hl4656 := (Sl.step hl4619 s4649)
                  refine then_normal (hA4587 _ _ _ ⟨_, [(8, (.int .i64 (n_4507 - (1 : Int)))), (9, (.int .i64 (k4509 + side4172)))], hp.2, fit_mk (AgB.nest (AgB.look (AgB.mix _ _ _) (by kernel_rfl)) (by kernel_rfl) (by kernel_rfl)) (by kernel_rfl) (vs_cons (by kernel_rfl) (vs_cons (by kernel_rfl) vs_nil)), ?_⟩)
                  exact ⟨X4612, (lset s4505 k4509 true), (n_4507 - (1 : Int)), (k4509 + side4172), rfl, rfl, E4653, hXo4654, hS4655, hl4656, O4650, h4651, h4652, hp.1⟩
                ·
                  replace hp := hp.2 h4636
                  refine wp_exit ?_
                  refine then_exit ?_
                  refine then_exit ?_
                  refine blk_exit ?_
                  refine blk_normal ?_
                  refine then_normal (K4430 _ _ _ _ ?_)
                  refine reg_ ?_
                  refine sq (o_pv (.int .i64 side4172) rfl (by kernel_rfl) ?_)
                  obtain ⟨h4657, hp⟩ := hp
                  refine sq (o_pv (.int .i64 (side4172 + (2 : Int))) rfl (x_add2 (k := .i64) (a := side4172) (b := (2 : Int)) (side4172 + (2 : Int)) (by kernel_rfl) (by kernel_rfl) (wrap_inR h4657)) ?_)
                  refine sq (o_pv (.int .i64 (side4172 + (2 : Int))) rfl (by kernel_rfl) ?_)
                  refine nil_ ?_
                  refine then_normal (hA4418 _ _ _ ⟨_, [(7, (.int .i64 (side4172 + (2 : Int))))], hp.2, fit_mk (AgB.nest (AgB.look (AgB.nest (AgB.mix _ _ _) (by kernel_rfl) (by kernel_rfl)) (by kernel_rfl)) (by kernel_rfl) (by kernel_rfl)) (by kernel_rfl) (vs_cons (by kernel_rfl) vs_nil), ?_⟩)
                  exact ⟨X4612, s4505, (side4172 + (2 : Int)), rfl, rfl, E4616, hXo4617, hS4618, hl4619, O4620, h4657, hp.1⟩
            ·
              replace hp := hp.2 h4429
              refine wp_exit ?_
              refine then_exit ?_
              refine then_exit ?_
              refine blk_exit ?_
              refine blk_normal ?_
              refine then_normal (hJ3899 _ _ _ ⟨[], fit_mk (AgB.nest (fun _ _ => rfl) (by kernel_rfl) (by kernel_rfl)) (by kernel_rfl) vs_nil, ?_⟩)
              exact ⟨X4414, s4170, rfl, E4423, hXo4424, hS4425, hl4426, O4171, hp⟩
        ·
          rintro _ w3896 g4658 ⟨X3897, s3892, rfl, E3901, hXo3902, hS3903, hl3904, O3893, hv3900⟩
          replace hp := hk3895 s3892 hv3900 (OS.len O3893)
          refine then_normal (K3138 _ _ _ _ ?_)
          refine reg_ ?_
          refine sq (o_pv (.int .i64 i1586) rfl (by kernel_rfl) ?_)
          obtain ⟨h4659, hp⟩ := hp
          refine sq (o_pv (.int .i64 (i1586 + (1 : Int))) rfl (x_add2 (k := .i64) (a := i1586) (b := (1 : Int)) (i1586 + (1 : Int)) (by kernel_rfl) (by kernel_rfl) (wrap_inR h4659)) ?_)
          refine sq (o_pv (.int .i64 (i1586 + (1 : Int))) rfl (by kernel_rfl) ?_)
          refine nil_ ?_
          refine then_normal (hA3126 _ _ _ ⟨_, [(6, (.int .i64 (i1586 + (1 : Int))))], hp.2, fit_mk (AgB.nest (AgB.look (AgB.mix _ _ _) (by kernel_rfl)) (by kernel_rfl) (by kernel_rfl)) (by kernel_rfl) (vs_cons (by kernel_rfl) vs_nil), ?_⟩)
          exact ⟨X3897, s3892, (i1586 + (1 : Int)), rfl, rfl, E3901, hXo3902, hS3903, hl3904, O3893, h4659, hp.1⟩
      ·
        replace hp := hp.2 h3137
        refine wp_exit ?_
        refine then_exit ?_
        refine then_exit ?_
        refine blk_exit ?_
        refine then_normal (K51 _ _ _ _ ?_)
        refine seq_ (fun _ K4660 => ?_)
        refine reg_ ?_
        refine sq (o_pv (.slice none 0 0) rfl (by kernel_rfl) ?_)
        refine nil_ ?_
        refine then_normal (K4660 _ _ _ _ ?_)
        refine seq_ (fun _ K4661 => ?_)
        refine reg_ ?_
        refine sq (o_pv (.int .i64 (0 : Int)) rfl (by kernel_rfl) ?_)
        refine nil_ ?_
        refine then_normal (K4661 _ _ _ _ ?_)
        refine seq_ (fun _ K4662 => ?_)
        refine reg_ ?_
        refine sq (o_pv (.int .i64 (0 : Int)) rfl (by kernel_rfl) ?_)
        refine nil_ ?_
        refine then_normal (K4662 _ _ _ _ ?_)
        refine seq_ (fun _ K4663 => ?_)
        refine seq_ (fun _ K4664 => ?_)
        refine reg_ ?_
        refine sq (o_pv (.int .i64 (0 : Int)) rfl (by kernel_rfl) ?_)
        refine nil_ ?_
        refine then_normal (K4664 _ _ _ _ ?_)
        have ax4669 := OS.apold O1585 hX0
        obtain ⟨X4665, u4666, r4667, hm4668⟩ := OS.release O1585
        obtain rfl : n45 = s1584.length := O1585.1
        have E4670 := E3131
        have hXo4671 := (Old.less hXo3132 u4666)
        have hS4672 := (hm4668 _ ax4669 hS3133)
        have hl4673 := (Sl.less hl3134 u4666)
        obtain ⟨hsl, hll, hp⟩ := hp
        refine wp_block ?_
        refine loop_ 730750818665451459101842406913408544088675875840 (fun kq lq wq => ∃ (Xq : List Nat) (aq : Option Addr) (nq cq : Nat) (iq : Nat), (lq = [(10, .slice aq nq cq), (11, .int .i64 (hkI l iq)), (12, .int .i64 (hkJ l iq)), (13, .int .i64 (iq : Int))]) ∧ (kq = l.length - iq) ∧ iq ≤ l.length ∧ HkE X w al1 cl2 l a44 (s1584.length) s1584 Xq wq ∧ HkSt w.heap.size Xq wq aq nq cq (hkRun l s1584 iq)) l.length [(10, .slice none 0 0), (11, .int .i64 0), (12, .int .i64 0), (13, .int .i64 0)] (vs_cons (by kernel_rfl) (vs_cons (by kernel_rfl) (vs_cons (by kernel_rfl) (vs_cons (by kernel_rfl) vs_nil)))) ⟨X4665, none, 0, 0, 0, rfl, rfl, Nat.zero_le _, ⟨E4670, hXo4671, hS4672, hl4673, r4667⟩, .inl ⟨rfl, OS.nil _ _ _ _⟩⟩ ?_
        rintro _ _ wq gq ⟨Xq, aq, nq, cq, iq, rfl, rfl, hiq, Eq, hst⟩ Klq hAq
        obtain ⟨bok, blen⟩ := hkRun_ok l s1584 iq
        refine seq_ (fun _ Ka => ?_)
        refine seq_ (fun _ Kb => ?_)
        refine reg_ ?_
        refine sq (o_pv (.int .i64 (iq : Int)) rfl (by kernel_rfl) ?_)
        refine sq (o_pv (.slice al1 l.length cl2) rfl (by kernel_rfl) ?_)
        refine sq (o_pv (.int .i64 (l.length : Int)) rfl (by kernel_rfl) ?_)
        refine sq (o_pv (.bool (decide ((iq : Int) < (l.length : Int)))) rfl (by kernel_rfl) ?_)
        refine nil_ ?_
        refine then_normal (Kb _ _ _ _ ?_)
        refine cond_d ((iq : Int) < (l.length : Int)) (by kernel_rfl) (fun hlt => ?_) (fun hge => ?_)
        ·
          have hil : iq < l.length := by omega
          have hin : inL l (iq : Int) := ⟨by omega, hlt⟩
          have his : inL s1584 (iq : Int) := ⟨by omega, by omega⟩
          have hI1 := hkI_next hil
          have hJ1 := hkJ_next hil
          have rI := hkI_le l iq
          have rJ := hkJ_le l iq
          refine wp_skip ?_
          refine then_normal (Ka _ _ _ _ ?_)
          refine seq_ (fun _ Kc => ?_)
          refine wp_block ?_
          refine seq_ (fun _ Kd => ?_)
          refine seq_ (fun _ Ke => ?_)
          refine reg_ ?_
          refine sq (o_pv (.slice a44 s1584.length (s1584.length)) rfl (by kernel_rfl) ?_)
          refine sq (o_pv (.int .i64 (iq : Int)) rfl (by kernel_rfl) ?_)
          obtain ⟨bs, os, css, has, nxs, lts, oks, hcs⟩ := Sl.atI Eq.hs (iq : Int) his
          obtain rfl := oks
          refine sq (o_pv (.pointer (some ⟨bs, os + (iq : Int).toNat * 1, none⟩)) rfl (x_ixA (m := s1584.length) (c := (s1584.length)) (k := .i64) (i := (iq : Int)) Tryd.underlying58 Tryd.sizeOf4 (by rw [← has]; kernel_rfl) (by kernel_rfl) his) ?_)
          refine sq (o_pv (.bool (lget s1584 (iq : Int))) rfl (x_load1 (by kernel_rfl) Tryd.isAgg4 (hcs 0 _ rfl)) ?_)
          refine nil_ ?_
          refine then_normal (Ke _ _ _ _ ?_)
          refine cond_b (lget s1584 (iq : Int)) (by kernel_rfl) (fun hm => ?_) (fun hm => ?_)
          ·
            refine seq_ (fun _ Kf => ?_)
            refine ground_ ?_
            refine join_ 633815628707557783714953954304 (fun lq w1 => ∃ (X1 : List Nat) (a1 : Option Addr) (n1 c1 : Nat) (H : List S_rectoref11_Hunk) (x : S_rectoref11_Hunk), (lq = [(10, .slice a1 n1 c1)]) ∧ HkE X w al1 cl2 l a44 (s1584.length) s1584 X1 w1 ∧ HkOp w.heap.size X1 w1 a1 n1 c1 H x ∧ hkB x iq ∧ H.length ≤ iq ∧ hkRun l s1584 (iq + 1) = H ++ [hkAdd (lget l (iq : Int)) x]) (fun Kj hJ => ?_) ?_
            ·
              refine seq_ (fun _ Kg => ?_)
              refine reg_ ?_
              refine sq (o_pv (.int .i64 (iq : Int)) rfl (by kernel_rfl) ?_)
              by_cases h0 : (iq : Int) = 0
              ·
                have hnew : hkNew s1584 iq = true := by unfold hkNew; rw [decide_eq_true (show iq = 0 by omega)]; rfl
                refine sq (o_pv (.bool true) rfl (x_dt (p := (iq : Int) = 0) (by kernel_rfl) h0) ?_)
                refine sq (o_pv (.bool true) rfl (by kernel_rfl) ?_)
                refine sq (o_not (by kernel_rfl) ?_)
                refine sq (o_not (by kernel_rfl) ?_)
                refine sq (o_not (by kernel_rfl) ?_)
                refine sq (o_not (by kernel_rfl) ?_)
                refine sq (o_not (by kernel_rfl) ?_)
                refine sq (o_not (by kernel_rfl) ?_)
                refine sq (o_pv (.bool true) rfl (by kernel_rfl) ?_)
                refine nil_ ?_
                refine then_normal (Kg _ _ _ _ ?_)
                refine cond_t (by kernel_rfl) ?_
                obtain ⟨X5, V, u5, k5, O5, R5⟩ := HkSt.done hst hX0 Eq.sub (by omega) bok
                have E5 := Eq.less u5 k5
                have hVl := R5.len
                refine reg_ ?_
                refine sq (o_pv (.slice aq nq cq) rfl (by kernel_rfl) ?_)
                refine sq (o_pv (.int .i64 (hkI l iq)) rfl (by kernel_rfl) ?_)
                refine sq (o_pv (.int .i64 (hkJ l iq)) rfl (by kernel_rfl) ?_)
                refine sq (o_pv (.agg #[(.int .i64 (hkI l iq)), (.int .i64 (0 : Int)), (.int .i64 (hkJ l iq)), (.int .i64 (0 : Int)), (.slice none 0 0)]) rfl (by kernel_rfl) ?_)
                refine sq (o_rowX (R := rRaw 5) [(.int .i64 (hkI l iq)), (.int .i64 (0 : Int)), (.int .i64 (hkJ l iq)), (.int .i64 (0 : Int)), (.slice none 0 0)] [hkV ⟨hkI l iq, 0, hkJ l iq, 0, []⟩ none 0 0] 60 1 (X := X5) (B := w.heap.size) E5.evo.size rfl (by kernel_rfl) (Flat.cons (cs := [(.int .i64 (hkI l iq)), (.int .i64 (0 : Int)), (.int .i64 (hkJ l iq)), (.int .i64 (0 : Int)), (.slice none 0 0)]) (rRaw_mk rfl rfl) Flat.nil) rfl (by decide) ?_)
                intro b7 w7 X7 s7 O7 n7
                have E7 := E5.step0 s7
                have Q7 := OS.step0 O5 s7
                refine sq (o_appX (R := rRaw 5) (X := X7) (B := w.heap.size) (L := V) (M := [hkV ⟨hkI l iq, 0, hkJ l iq, 0, []⟩ none 0 0]) rfl elT35 rfl E7.evo.size Q7 (OS.src O7) O7.1 (by kernel_rfl) (by kernel_rfl) (by show (V.length + 1) * 56 ≤ _; omega) ?_)
                intro a8 n8 c8 w8 X8 s8 O8 gr8
                refine sq (o_pv (.slice a8 n8 c8) rfl (by kernel_rfl) ?_)
                refine nil_ ?_
                refine then_normal (hJ _ _ _ ⟨[(10, .slice a8 n8 c8)], fit_mk (fun _ _ => rfl) (by kernel_rfl) (vs_cons (by kernel_rfl) vs_nil), ?_⟩)
                exact ⟨X8, a8, n8, c8, hkRun l s1584 iq, ⟨hkI l iq, 0, hkJ l iq, 0, []⟩, rfl, E7.step s8 Q7.2.2, ⟨V, none, 0, 0, O8, (R5.step s7).step s8, OS.nil _ _ _ _, Ap.nil_r _⟩, hkB_new l iq, blen, hkRun_new hm hnew⟩
              ·
                have hprev : inL s1584 ((iq : Int) - 1) := ⟨by omega, by omega⟩
                obtain ⟨bp, op, csp, hap, nxp, ltp, okp, hcp⟩ := Sl.atI Eq.hs ((iq : Int) - 1) hprev
                obtain rfl := okp
                refine sq (o_pv (.bool false) rfl (x_df (p := (iq : Int) = 0) (by kernel_rfl) h0) ?_)
                refine sq (o_pv (.bool false) rfl (by kernel_rfl) ?_)
                refine sq (o_pv (.slice a44 s1584.length (s1584.length)) (by kernel_rfl) (by kernel_rfl) ?_)
                refine sq (o_pv (.int .i64 (iq : Int)) (by kernel_rfl) (by kernel_rfl) ?_)
                refine sq (o_pv (.int .i64 ((iq : Int) - 1)) (by kernel_rfl) (x_sub2 (k := .i64) (a := (iq : Int)) (b := (1 : Int)) ((iq : Int) - 1) (by kernel_rfl) (by kernel_rfl) (wrap_inR (inR_i64.2 (by omega)))) ?_)
                refine sq (o_pv (.pointer (some ⟨bp, op + ((iq : Int) - 1).toNat * 1, none⟩)) (by kernel_rfl) (x_ixA (m := s1584.length) (c := (s1584.length)) (k := .i64) (i := (iq : Int) - 1) Tryd.underlying58 Tryd.sizeOf4 (by rw [← hap]; kernel_rfl) (by kernel_rfl) hprev) ?_)
                refine sq (o_pv (.bool (lget s1584 ((iq : Int) - 1))) (by kernel_rfl) (x_load1 (by kernel_rfl) Tryd.isAgg4 (hcp 0 _ rfl)) ?_)
                refine sq (o_pv (.bool (!lget s1584 ((iq : Int) - 1))) (by kernel_rfl) (by kernel_rfl) ?_)
                refine sq (o_pv (.bool (!lget s1584 ((iq : Int) - 1))) rfl (by kernel_rfl) ?_)
                refine nil_ ?_
                refine then_normal (Kg _ _ _ _ ?_)
                refine cond_b (!lget s1584 ((iq : Int) - 1)) (by kernel_rfl) (fun hpv => ?_) (fun hpv => ?_)
                ·
                  have hnew : hkNew s1584 iq = true := by unfold hkNew; rw [hpv, Bool.or_true]
                  obtain ⟨X5, V, u5, k5, O5, R5⟩ := HkSt.done hst hX0 Eq.sub (by omega) bok
                  have E5 := Eq.less u5 k5
                  have hVl := R5.len
                  refine reg_ ?_
                  refine sq (o_pv (.slice aq nq cq) rfl (by kernel_rfl) ?_)
                  refine sq (o_pv (.int .i64 (hkI l iq)) rfl (by kernel_rfl) ?_)
                  refine sq (o_pv (.int .i64 (hkJ l iq)) rfl (by kernel_rfl) ?_)
                  refine sq (o_pv (.agg #[(.int .i64 (hkI l iq)), (.int .i64 (0 : Int)), (.int .i64 (hkJ l iq)), (.int .i64 (0 : Int)), (.slice none 0 0)]) rfl (by kernel_rfl) ?_)
                  refine sq (o_rowX (R := rRaw 5) [(.int .i64 (hkI l iq)), (.int .i64 (0 : Int)), (.int .i64 (hkJ l iq)), (.int .i64 (0 : Int)), (.slice none 0 0)] [hkV ⟨hkI l iq, 0, hkJ l iq, 0, []⟩ none 0 0] 60 1 (X := X5) (B := w.heap.size) E5.evo.size rfl (by kernel_rfl) (Flat.cons (cs := [(.int .i64 (hkI l iq)), (.int .i64 (0 : Int)), (.int .i64 (hkJ l iq)), (.int .i64 (0 : Int)), (.slice none 0 0)]) (rRaw_mk rfl rfl) Flat.nil) rfl (by decide) ?_)
                  intro b7 w7 X7 s7 O7 n7
                  have E7 := E5.step0 s7
                  have Q7 := OS.step0 O5 s7
                  refine sq (o_appX (R := rRaw 5) (X := X7) (B := w.heap.size) (L := V) (M := [hkV ⟨hkI l iq, 0, hkJ l iq, 0, []⟩ none 0 0]) rfl elT35 rfl E7.evo.size Q7 (OS.src O7) O7.1 (by kernel_rfl) (by kernel_rfl) (by show (V.length + 1) * 56 ≤ _; omega) ?_)
                  intro a8 n8 c8 w8 X8 s8 O8 gr8
                  refine sq (o_pv (.slice a8 n8 c8) rfl (by kernel_rfl) ?_)
                  refine nil_ ?_
                  refine then_normal (hJ _ _ _ ⟨[(10, .slice a8 n8 c8)], fit_mk (fun _ _ => rfl) (by kernel_rfl) (vs_cons (by kernel_rfl) vs_nil), ?_⟩)
                  exact ⟨X8, a8, n8, c8, hkRun l s1584 iq, ⟨hkI l iq, 0, hkJ l iq, 0, []⟩, rfl, E7.step s8 Q7.2.2, ⟨V, none, 0, 0, O8, (R5.step s7).step s8, OS.nil _ _ _ _, Ap.nil_r _⟩, hkB_new l iq, blen, hkRun_new hm hnew⟩
                ·
                  have hold : hkNew s1584 iq = false := by unfold hkNew; rw [hpv, Bool.or_false]; exact decide_eq_false (by omega)
                  have hp1 : lget s1584 ((iq : Int) - 1) = true := by simpa using hpv
                  refine wp_skip ?_
                  rcases hst with ⟨hx, _⟩ | ⟨H, x, hx, hop⟩
                  · exact absurd hx (hkRun_some l s1584 iq (by omega) hp1)
                  · refine then_normal (hJ _ _ _ ⟨[(10, .slice aq nq cq)], fit_mk (fun _ _ => rfl) (by kernel_rfl) (vs_cons (by kernel_rfl) vs_nil), ?_⟩)
                    rw [hx, List.length_append] at blen
                    exact ⟨Xq, aq, nq, cq, H, x, rfl, Eq, hop, bok x (by rw [hx]; simp), by omega, hkRun_old hm hold hx⟩
            ·
              rintro _ w1 g1 ⟨X1, a1, n1, c1, H, x, rfl, E1, ⟨V, aL, nL, cL, O1, hV, OL, hap⟩, hbx, hHl, hrun⟩
              obtain ⟨bx1, bx2, bx3, bx4, bx5⟩ := hbx
              obtain ⟨g, csg, rfl, _⟩ := OS.row O1 (by simp)
              have hn1 : n1 = V.length + 1 := by rw [O1.1]; simp
              subst hn1
              have hVl := hV.len
              refine then_normal (Kf _ _ _ _ ?_)
              refine seq_ (fun _ Kg => ?_)
              refine reg_ ?_
              refine sq (o_pv (.slice (some ⟨g, 0, none⟩) (V.length + 1) c1) rfl (by kernel_rfl) ?_)
              refine sq (o_pv (.slice (some ⟨g, 0, none⟩) (V.length + 1) c1) rfl (by kernel_rfl) ?_)
              refine sq (o_pv (.int .i64 ((V.length + 1 : Nat) : Int)) rfl (by kernel_rfl) ?_)
              refine sq (o_pv (.int .i64 (V.length : Int)) rfl (x_sub2 (k := .i64) (a := ((V.length + 1 : Nat) : Int)) (b := (1 : Int)) (V.length : Int) (by kernel_rfl) (by kernel_rfl) (by rw [show ((V.length + 1 : Nat) : Int) - 1 = (V.length : Int) by omega]; exact wrap_inR (inR_i64.2 (by omega)))) ?_)
              refine sq (o_pv (.pointer (some ⟨g, 0 + V.length * 5, none⟩)) rfl (x_ixA (m := V.length + 1) (c := c1) (k := .i64) (i := (V.length : Int)) Tryd.underlying35 Tryd.sizeOf60 (by kernel_rfl) (by kernel_rfl) (by omega)) ?_)
              refine sq (o_pv (.pointer (some ⟨g, 0 + V.length * 5, none⟩)) rfl (by kernel_rfl) ?_)
              refine nil_ ?_
              refine then_normal (Kg _ _ _ _ ?_)
              refine seq_ (fun _ Kh => ?_)
              have hFX : Sub (blkL aL) X1 := OS.mem OL
              refine reg_drawn (RB w1.heap.size (blkL aL)) 13 (by kernel_rfl) (fun w2 hd2 => ?_)
              have e2 := Evo.of_drew hd2
              have z2 : w2.heap.size = w1.heap.size := by rw [hd2]
              clear hd2
              have s2 := Step.of0 X1 e2
              have er2 := RB.refl w1.heap.size (blkL aL) w2
              have E2 := E1.step0 s2
              have O2 := OS.step0 O1 s2
              have V2 := hV.step s2
              have L2 := OS.step0 OL s2
              refine r_take 0 (.pointer (some ⟨g, 0 + V.length * 5, none⟩)) (RB.pre _ _) rfl (by kernel_rfl) (fun _ _ _ h => hQ.panic _ _ _ _ _ h) (.inl ⟨rfl, fun wz hz => (by kernel_rfl)⟩) ?_
              refine r_take 1 (.pointer (some ⟨g, 0 + V.length * 5, none⟩)) (RB.pre _ _) rfl (by kernel_rfl) (fun _ _ _ h => hQ.panic _ _ _ _ _ h) (.inl ⟨rfl, fun wz hz => (by kernel_rfl)⟩) ?_
              refine r_take 2 (.pointer (some ⟨g, 0 + V.length * 5, none⟩)) (RB.pre _ _) rfl (by kernel_rfl) (fun _ _ _ h => hQ.panic _ _ _ _ _ h) (.inl ⟨rfl, fun wz hz => (by kernel_rfl)⟩) ?_
              refine r_take 3 (.pointer (some ⟨g, 0 + V.length * 5 + 4, none⟩)) (RB.pre _ _) rfl (by kernel_rfl) (fun _ _ _ h => hQ.panic _ _ _ _ _ h) (.inl ⟨rfl, fun wz hz => (by kernel_rfl)⟩) ?_
              refine r_take 4 (.slice aL nL cL) (RB.pre _ _) rfl (by kernel_rfl) (fun _ _ _ h => hQ.panic _ _ _ _ _ h) (.inl ⟨rfl, fun wz hz => (x_load1 (by kernel_rfl) Tryd.isAgg25 ((OE.cells (OS.step O2 (stepR (RB.trans er2 hz) z2 hFX) hap)) 4 _ rfl))⟩) ?_
              refine r_take 5 (.slice al1 l.length cl2) (RB.pre _ _) rfl (by kernel_rfl) (fun _ _ _ h => hQ.panic _ _ _ _ _ h) (.inl ⟨rfl, fun wz hz => (by kernel_rfl)⟩) ?_
              refine r_take 6 (.int .i64 (iq : Int)) (RB.pre _ _) rfl (by kernel_rfl) (fun _ _ _ h => hQ.panic _ _ _ _ _ h) (.inl ⟨rfl, fun wz hz => (by kernel_rfl)⟩) ?_
              obtain ⟨be, oe, cse, hae, nxe, lte, oke, hce⟩ := Sl.atI E2.hl (iq : Int) hin
              obtain ⟨rfl, reOp, zeLine⟩ := r_rectoref11_Edit_open oke
              refine r_take 7 (.pointer (some ⟨be, oe + (iq : Int).toNat * 2, none⟩)) (RB.pre _ _) rfl (by kernel_rfl) (fun _ _ _ h => hQ.panic _ _ _ _ _ h) (.inl ⟨rfl, fun wz hz => (x_ixA (m := l.length) (c := cl2) (k := .i64) (i := (iq : Int)) Tryd.underlying25 Tryd.sizeOf54 (by rw [← hae]; kernel_rfl) (by kernel_rfl) hin)⟩) ?_
              refine r_take 8 (.agg #[(.int .i64 ((lget l (iq : Int)).Op)), (.string ((lget l (iq : Int)).Line))]) (RB.pre _ _) rfl (by kernel_rfl) (fun _ _ _ h => hQ.panic _ _ _ _ _ h) (.inl ⟨rfl, fun wz hz => (x_loadN [(.int .i64 ((lget l (iq : Int)).Op)), (.string ((lget l (iq : Int)).Line))] (by kernel_rfl) Tryd.isAgg54 Tryd.sizeOf54 (CellsAt.evo hce (Step.evo (stepR (RB.trans er2 hz) z2 hFX)) (fun h => nxe (hFX _ h))))⟩) ?_
              refine r_ready [9] (by kernel_rfl) rfl (all_cons ⟨_, _, _, _, _, _, rfl, ?_⟩ all_nil)
              refine o_rowX (R := r_rectoref11_Edit) [(.int .i64 ((lget l (iq : Int)).Op)), (.string ((lget l (iq : Int)).Line))] [(lget l (iq : Int))] 54 1 (X := X1) (B := w.heap.size) E2.evo.size rfl (by kernel_rfl) (Flat.cons (cs := [(.int .i64 ((lget l (iq : Int)).Op)), (.string ((lget l (iq : Int)).Line))]) (r_rectoref11_Edit_mk reOp zeLine) Flat.nil) rfl (by decide) ?_
              intro b3 w3 X3 s3 O3 n3
              have rm3 := RB.mono (F' := (blkL aL)) (Step.evo s3) (Nat.le_trans (Nat.le_of_eq z2.symm) (RB.size er2)) (fun _ h => by cases h)
              have er3 := RB.trans er2 rm3
              refine ⟨fun _ => rm3, ?_⟩
              refine r_ready [10] (by kernel_rfl) rfl (all_cons ⟨_, _, _, _, _, _, rfl, ?_⟩ all_nil)
              have E3 := E2.step0 s3
              have O3g := OS.step0 O2 s3
              have V3 := V2.step s3
              have L3 := OS.step0 L2 s3
              refine o_appX (R := r_rectoref11_Edit) (X := X3) (B := w.heap.size) (L := x.Lines) (M := [(lget l (iq : Int))]) rfl elT25 rfl E3.evo.size L3 (OS.src O3) O3.1 (by kernel_rfl) (by kernel_rfl) (by show (x.Lines.length + 1) * 24 ≤ _; omega) ?_
              intro a4 n4 c4 w4 X4 s4 O4 gr4
              have rm4 := RB.mono (F' := (blkL aL)) (Step.evo s4) (Nat.le_trans (Nat.le_of_eq z2.symm) (RB.size er3)) (Wr.self _ _ (Sub.refl _))
              have er4 := RB.trans er3 rm4
              refine ⟨fun _ => rm4, ?_⟩
              have p4 := gr4 _ hap (OS.old O3g)
              refine r_take 11 (.pointer (some ⟨g, 0 + V.length * 5, none⟩)) (RB.pre _ _) rfl (by kernel_rfl) (fun _ _ _ h => hQ.panic _ _ _ _ _ h) (.inl ⟨rfl, fun wz hz => (by kernel_rfl)⟩) ?_
              refine r_take 12 (.pointer (some ⟨g, 0 + V.length * 5 + 4, none⟩)) (RB.pre _ _) rfl (by kernel_rfl) (fun _ _ _ h => hQ.panic _ _ _ _ _ h) (.inl ⟨rfl, fun wz hz => (by kernel_rfl)⟩) ?_
              refine r_ready [13] (by kernel_rfl) rfl (all_cons ⟨_, _, _, _, _, _, rfl, ?_⟩ all_nil)
              have O4g := OS.step O3g s4 hap
              have E4 := E3.step s4 L3.2.2
              have V4 := V3.step s4
              refine o_stE (V := V) (m := 5) (o := 0) (v' := hkV x a4 n4 c4) (z := (.slice a4 n4 c4)) 4 rfl O4g rfl (by kernel_rfl) (by kernel_rfl) Tryd.sizeOf25 rfl rfl rfl ?_
              intro w5 s5 O5
              refine ⟨fun h => absurd h (by decide), ?_⟩
              refine r_done (by kernel_rfl) ?_
              have E5 := E4.step s5 O4g.2.2
              have V5 := V4.step s5
              have L5 := OS.step O4 s5 (Ap.symm p4)
              refine then_normal (Kh _ _ _ _ ?_)
              obtain ⟨be, oe, cse, hae, nxe, lte, oke, hce⟩ := Sl.atI E5.hl (iq : Int) hin
              obtain ⟨rfl, reOp, zeLine⟩ := r_rectoref11_Edit_open oke
              rcases (show (lget l (iq : Int)).Op = 3 ∨ (lget l (iq : Int)).Op = 2 ∨ ((lget l (iq : Int)).Op ≠ 3 ∧ (lget l (iq : Int)).Op ≠ 2) by omega) with e3 | e3 | ⟨e3, e4⟩
              ·
                have q3 : (lget l (iq : Int)).Op = 3 := e3
                have q2 : ¬ (lget l (iq : Int)).Op = 2 := by omega
                refine seq_ (fun _ Km => ?_)
                refine seq_ (fun _ Kn0 => ?_)
                refine reg_ ?_
                refine sq (o_pv (.slice al1 l.length cl2) rfl (by kernel_rfl) ?_)
                refine sq (o_pv (.int .i64 (iq : Int)) rfl (by kernel_rfl) ?_)
                refine sq (o_pv (.pointer (some ⟨be, oe + (iq : Int).toNat * 2, none⟩)) rfl (x_ixA (m := l.length) (c := cl2) (k := .i64) (i := (iq : Int)) Tryd.underlying25 Tryd.sizeOf54 (by rw [← hae]; kernel_rfl) (by kernel_rfl) hin) ?_)
                refine sq (o_pv (.pointer (some ⟨be, oe + (iq : Int).toNat * 2, none⟩)) rfl (by kernel_rfl) ?_)
                refine sq (o_pv (.int .i64 ((lget l (iq : Int)).Op)) rfl (x_load1 (by kernel_rfl) Tryd.isAgg3 (hce 0 _ rfl)) ?_)
                refine sq (o_pv (.bool (!decide (((lget l (iq : Int)).Op) = (3 : Int)))) rfl (by kernel_rfl) ?_)
                refine nil_ ?_
                refine then_normal (Kn0 _ _ _ _ ?_)
                refine cond_ndf ((lget l (iq : Int)).Op = (3 : Int)) (by kernel_rfl) q3 ?_
                refine wp_skip ?_
                refine then_normal (Km _ _ _ _ ?_)
                refine seq_ (fun _ Kn1 => ?_)
                refine reg_ ?_
                refine sq (o_pv (.slice al1 l.length cl2) rfl (by kernel_rfl) ?_)
                refine sq (o_pv (.int .i64 (iq : Int)) rfl (by kernel_rfl) ?_)
                refine sq (o_pv (.pointer (some ⟨be, oe + (iq : Int).toNat * 2, none⟩)) rfl (x_ixA (m := l.length) (c := cl2) (k := .i64) (i := (iq : Int)) Tryd.underlying25 Tryd.sizeOf54 (by rw [← hae]; kernel_rfl) (by kernel_rfl) hin) ?_)
                refine sq (o_pv (.pointer (some ⟨be, oe + (iq : Int).toNat * 2, none⟩)) rfl (by kernel_rfl) ?_)
                refine sq (o_pv (.int .i64 ((lget l (iq : Int)).Op)) rfl (x_load1 (by kernel_rfl) Tryd.isAgg3 (hce 0 _ rfl)) ?_)
                refine sq (o_pv (.bool (!decide (((lget l (iq : Int)).Op) = (2 : Int)))) rfl (by kernel_rfl) ?_)
                refine nil_ ?_
                refine then_normal (Kn1 _ _ _ _ ?_)
                refine cond_ndt ((lget l (iq : Int)).Op = (2 : Int)) (by kernel_rfl) q2 ?_
                refine reg_ ?_
                refine sq (o_pv (.pointer (some ⟨g, 0 + V.length * 5, none⟩)) rfl (by kernel_rfl) ?_)
                refine sq (o_pv (.pointer (some ⟨g, 0 + V.length * 5, none⟩)) rfl (by kernel_rfl) ?_)
                refine sq (o_pv (.pointer (some ⟨g, 0 + V.length * 5 + 3, none⟩)) rfl (by kernel_rfl) ?_)
                refine sq (o_pv (.int .i64 x.Add) rfl (x_load1 (by kernel_rfl) Tryd.isAgg3 ((OE.cells O5) 3 _ rfl)) ?_)
                refine sq (o_pv (.int .i64 (x.Add + 1)) rfl (x_add2 (k := .i64) (a := x.Add) (b := (1 : Int)) (x.Add + 1) (by kernel_rfl) (by kernel_rfl) (wrap_inR (inR_i64.2 (by omega)))) ?_)
                refine sq (o_pv (.pointer (some ⟨g, 0 + V.length * 5, none⟩)) rfl (by kernel_rfl) ?_)
                refine sq (o_pv (.pointer (some ⟨g, 0 + V.length * 5 + 3, none⟩)) rfl (by kernel_rfl) ?_)
                refine sq (o_stE (V := V) (m := 5) (o := 0) (v' := [.int .i64 (x.At), .int .i64 (x.Del), .int .i64 (x.To), .int .i64 (x.Add + 1), .slice a4 n4 c4]) (z := (.int .i64 (x.Add + 1))) 3 rfl O5 rfl (by kernel_rfl) (by kernel_rfl) Tryd.sizeOf3 rfl rfl rfl ?_)
                intro w7 s7 O7
                have E7 := E5.step s7 O5.2.2
                have V7 := V5.step s7
                have L7 := OS.step L5 s7 (Ap.symm p4)
                refine nil_ ?_
                obtain ⟨be, oe, cse, hae, nxe, lte, oke, hce⟩ := Sl.atI E7.hl (iq : Int) hin
                obtain ⟨rfl, reOp, zeLine⟩ := r_rectoref11_Edit_open oke
                refine then_normal (Kd _ _ _ _ ?_)
                refine seq_ (fun _ Ko => ?_)
                refine seq_ (fun _ Kp0 => ?_)
                refine reg_ ?_
                refine sq (o_pv (.slice al1 l.length cl2) rfl (by kernel_rfl) ?_)
                refine sq (o_pv (.int .i64 (iq : Int)) rfl (by kernel_rfl) ?_)
                refine sq (o_pv (.pointer (some ⟨be, oe + (iq : Int).toNat * 2, none⟩)) rfl (x_ixA (m := l.length) (c := cl2) (k := .i64) (i := (iq : Int)) Tryd.underlying25 Tryd.sizeOf54 (by rw [← hae]; kernel_rfl) (by kernel_rfl) hin) ?_)
                refine sq (o_pv (.pointer (some ⟨be, oe + (iq : Int).toNat * 2, none⟩)) rfl (by kernel_rfl) ?_)
                refine sq (o_pv (.int .i64 ((lget l (iq : Int)).Op)) rfl (x_load1 (by kernel_rfl) Tryd.isAgg3 (hce 0 _ rfl)) ?_)
                refine sq (o_pv (.bool (!decide (((lget l (iq : Int)).Op) = (3 : Int)))) rfl (by kernel_rfl) ?_)
                refine nil_ ?_
                refine then_normal (Kp0 _ _ _ _ ?_)
                refine cond_ndf ((lget l (iq : Int)).Op = (3 : Int)) (by kernel_rfl) q3 ?_
                refine wp_skip ?_
                refine then_normal (Ko _ _ _ _ ?_)
                refine seq_ (fun _ Kp1 => ?_)
                refine reg_ ?_
                refine sq (o_pv (.slice al1 l.length cl2) rfl (by kernel_rfl) ?_)
                refine sq (o_pv (.int .i64 (iq : Int)) rfl (by kernel_rfl) ?_)
                refine sq (o_pv (.pointer (some ⟨be, oe + (iq : Int).toNat * 2, none⟩)) rfl (x_ixA (m := l.length) (c := cl2) (k := .i64) (i := (iq : Int)) Tryd.underlying25 Tryd.sizeOf54 (by rw [← hae]; kernel_rfl) (by kernel_rfl) hin) ?_)
                refine sq (o_pv (.pointer (some ⟨be, oe + (iq : Int).toNat * 2, none⟩)) rfl (by kernel_rfl) ?_)
                refine sq (o_pv (.int .i64 ((lget l (iq : Int)).Op)) rfl (x_load1 (by kernel_rfl) Tryd.isAgg3 (hce 0 _ rfl)) ?_)
                refine sq (o_pv (.bool (!decide (((lget l (iq : Int)).Op) = (2 : Int)))) rfl (by kernel_rfl) ?_)
                refine nil_ ?_
                refine then_normal (Kp1 _ _ _ _ ?_)
                refine cond_ndt ((lget l (iq : Int)).Op = (2 : Int)) (by kernel_rfl) q2 ?_
                refine reg_ ?_
                refine sq (o_pv (.int .i64 (hkJ l iq)) rfl (by kernel_rfl) ?_)
                refine sq (o_pv (.int .i64 (hkJ l iq + 1)) rfl (x_add2 (k := .i64) (a := hkJ l iq) (b := (1 : Int)) (hkJ l iq + 1) (by kernel_rfl) (by kernel_rfl) (wrap_inR (inR_i64.2 (by omega)))) ?_)
                refine sq (o_pv (.int .i64 (hkJ l iq + 1)) rfl (by kernel_rfl) ?_)
                refine nil_ ?_
                refine blk_normal ?_
                refine then_normal (Kc _ _ _ _ ?_)
                refine reg_ ?_
                refine sq (o_pv (.int .i64 (iq : Int)) rfl (by kernel_rfl) ?_)
                refine sq (o_pv (.int .i64 ((iq + 1 : Nat) : Int)) rfl (x_add2 (k := .i64) (a := (iq : Int)) (b := (1 : Int)) ((iq + 1 : Nat) : Int) (by kernel_rfl) (by kernel_rfl) (wrap_inR (inR_i64.2 (by omega)))) ?_)
                refine sq (o_pv (.int .i64 ((iq + 1 : Nat) : Int)) rfl (by kernel_rfl) ?_)
                refine nil_ ?_
                rw [if_pos q3] at hI1
                rw [if_neg q2] at hJ1
                refine then_normal (hAq _ _ _ ⟨l.length - (iq + 1), [(10, (.slice (some ⟨g, 0, none⟩) (V.length + 1) c1)), (11, .int .i64 (hkI l iq)), (12, .int .i64 (hkJ l iq + 1)), (13, .int .i64 ((iq + 1 : Nat) : Int))], by omega, fit_mk (AgB.nest (AgB.look (AgB.mix _ _ _) (by kernel_rfl)) (by kernel_rfl) (by kernel_rfl)) (by kernel_rfl) (vs_cons (by kernel_rfl) (vs_cons (by kernel_rfl) (vs_cons (by kernel_rfl) (vs_cons (by kernel_rfl) vs_nil)))), ?_⟩)
                refine ⟨_, _, _, _, iq + 1, by rw [hI1, hJ1], rfl, by omega, E7, .inr ⟨H, _, hrun, V, a4, n4, c4, ?_, V7, L7, p4⟩⟩
                have hadd : hkV (hkAdd (lget l (iq : Int)) x) a4 n4 c4 = [.int .i64 (x.At), .int .i64 (x.Del), .int .i64 (x.To), .int .i64 (x.Add + 1), .slice a4 n4 c4] := by unfold hkV hkAdd; rw [if_pos q3, if_neg q2]
                rw [hadd]; exact O7
              ·
                have q3 : ¬ (lget l (iq : Int)).Op = 3 := by omega
                have q2 : (lget l (iq : Int)).Op = 2 := e3
                refine seq_ (fun _ Km => ?_)
                refine seq_ (fun _ Kn0 => ?_)
                refine reg_ ?_
                refine sq (o_pv (.slice al1 l.length cl2) rfl (by kernel_rfl) ?_)
                refine sq (o_pv (.int .i64 (iq : Int)) rfl (by kernel_rfl) ?_)
                refine sq (o_pv (.pointer (some ⟨be, oe + (iq : Int).toNat * 2, none⟩)) rfl (x_ixA (m := l.length) (c := cl2) (k := .i64) (i := (iq : Int)) Tryd.underlying25 Tryd.sizeOf54 (by rw [← hae]; kernel_rfl) (by kernel_rfl) hin) ?_)
                refine sq (o_pv (.pointer (some ⟨be, oe + (iq : Int).toNat * 2, none⟩)) rfl (by kernel_rfl) ?_)
                refine sq (o_pv (.int .i64 ((lget l (iq : Int)).Op)) rfl (x_load1 (by kernel_rfl) Tryd.isAgg3 (hce 0 _ rfl)) ?_)
                refine sq (o_pv (.bool (!decide (((lget l (iq : Int)).Op) = (3 : Int)))) rfl (by kernel_rfl) ?_)
                refine nil_ ?_
                refine then_normal (Kn0 _ _ _ _ ?_)
                refine cond_ndt ((lget l (iq : Int)).Op = (3 : Int)) (by kernel_rfl) q3 ?_
                refine reg_ ?_
                refine sq (o_pv (.pointer (some ⟨g, 0 + V.length * 5, none⟩)) rfl (by kernel_rfl) ?_)
                refine sq (o_pv (.pointer (some ⟨g, 0 + V.length * 5, none⟩)) rfl (by kernel_rfl) ?_)
                refine sq (o_pv (.pointer (some ⟨g, 0 + V.length * 5 + 1, none⟩)) rfl (by kernel_rfl) ?_)
                refine sq (o_pv (.int .i64 x.Del) rfl (x_load1 (by kernel_rfl) Tryd.isAgg3 ((OE.cells O5) 1 _ rfl)) ?_)
                refine sq (o_pv (.int .i64 (x.Del + 1)) rfl (x_add2 (k := .i64) (a := x.Del) (b := (1 : Int)) (x.Del + 1) (by kernel_rfl) (by kernel_rfl) (wrap_inR (inR_i64.2 (by omega)))) ?_)
                refine sq (o_pv (.pointer (some ⟨g, 0 + V.length * 5, none⟩)) rfl (by kernel_rfl) ?_)
                refine sq (o_pv (.pointer (some ⟨g, 0 + V.length * 5 + 1, none⟩)) rfl (by kernel_rfl) ?_)
                refine sq (o_stE (V := V) (m := 5) (o := 0) (v' := [.int .i64 (x.At), .int .i64 (x.Del + 1), .int .i64 (x.To), .int .i64 (x.Add), .slice a4 n4 c4]) (z := (.int .i64 (x.Del + 1))) 1 rfl O5 rfl (by kernel_rfl) (by kernel_rfl) Tryd.sizeOf3 rfl rfl rfl ?_)
                intro w6 s6 O6
                have E6 := E5.step s6 O5.2.2
                have V6 := V5.step s6
                have L6 := OS.step L5 s6 (Ap.symm p4)
                refine nil_ ?_
                obtain ⟨be, oe, cse, hae, nxe, lte, oke, hce⟩ := Sl.atI E6.hl (iq : Int) hin
                obtain ⟨rfl, reOp, zeLine⟩ := r_rectoref11_Edit_open oke
                refine then_normal (Km _ _ _ _ ?_)
                refine seq_ (fun _ Kn1 => ?_)
                refine reg_ ?_
                refine sq (o_pv (.slice al1 l.length cl2) rfl (by kernel_rfl) ?_)
                refine sq (o_pv (.int .i64 (iq : Int)) rfl (by kernel_rfl) ?_)
                refine sq (o_pv (.pointer (some ⟨be, oe + (iq : Int).toNat * 2, none⟩)) rfl (x_ixA (m := l.length) (c := cl2) (k := .i64) (i := (iq : Int)) Tryd.underlying25 Tryd.sizeOf54 (by rw [← hae]; kernel_rfl) (by kernel_rfl) hin) ?_)
                refine sq (o_pv (.pointer (some ⟨be, oe + (iq : Int).toNat * 2, none⟩)) rfl (by kernel_rfl) ?_)
                refine sq (o_pv (.int .i64 ((lget l (iq : Int)).Op)) rfl (x_load1 (by kernel_rfl) Tryd.isAgg3 (hce 0 _ rfl)) ?_)
                refine sq (o_pv (.bool (!decide (((lget l (iq : Int)).Op) = (2 : Int)))) rfl (by kernel_rfl) ?_)
                refine nil_ ?_
                refine then_normal (Kn1 _ _ _ _ ?_)
                refine cond_ndf ((lget l (iq : Int)).Op = (2 : Int)) (by kernel_rfl) q2 ?_
                refine wp_skip ?_
                refine then_normal (Kd _ _ _ _ ?_)
                refine seq_ (fun _ Ko => ?_)
                refine seq_ (fun _ Kp0 => ?_)
                refine reg_ ?_
                refine sq (o_pv (.slice al1 l.length cl2) rfl (by kernel_rfl) ?_)
                refine sq (o_pv (.int .i64 (iq : Int)) rfl (by kernel_rfl) ?_)
                refine sq (o_pv (.pointer (some ⟨be, oe + (iq : Int).toNat * 2, none⟩)) rfl (x_ixA (m := l.length) (c := cl2) (k := .i64) (i := (iq : Int)) Tryd.underlying25 Tryd.sizeOf54 (by rw [← hae]; kernel_rfl) (by kernel_rfl) hin) ?_)
                refine sq (o_pv (.pointer (some ⟨be, oe + (iq : Int).toNat * 2, none⟩)) rfl (by kernel_rfl) ?_)
                refine sq (o_pv (.int .i64 ((lget l (iq : Int)).Op)) rfl (x_load1 (by kernel_rfl) Tryd.isAgg3 (hce 0 _ rfl)) ?_)
                refine sq (o_pv (.bool (!decide (((lget l (iq : Int)).Op) = (3 : Int)))) rfl (by kernel_rfl) ?_)
                refine nil_ ?_
                refine then_normal (Kp0 _ _ _ _ ?_)
                refine cond_ndt ((lget l (iq : Int)).Op = (3 : Int)) (by kernel_rfl) q3 ?_
                refine reg_ ?_
                refine sq (o_pv (.int .i64 (hkI l iq)) rfl (by kernel_rfl) ?_)
                refine sq (o_pv (.int .i64 (hkI l iq + 1)) rfl (x_add2 (k := .i64) (a := hkI l iq) (b := (1 : Int)) (hkI l iq + 1) (by kernel_rfl) (by kernel_rfl) (wrap_inR (inR_i64.2 (by omega)))) ?_)
                refine sq (o_pv (.int .i64 (hkI l iq + 1)) rfl (by kernel_rfl) ?_)
                refine nil_ ?_
                refine then_normal (Ko _ _ _ _ ?_)
                refine seq_ (fun _ Kp1 => ?_)
                refine reg_ ?_
                refine sq (o_pv (.slice al1 l.length cl2) rfl (by kernel_rfl) ?_)
                refine sq (o_pv (.int .i64 (iq : Int)) rfl (by kernel_rfl) ?_)
                refine sq (o_pv (.pointer (some ⟨be, oe + (iq : Int).toNat * 2, none⟩)) rfl (x_ixA (m := l.length) (c := cl2) (k := .i64) (i := (iq : Int)) Tryd.underlying25 Tryd.sizeOf54 (by rw [← hae]; kernel_rfl) (by kernel_rfl) hin) ?_)
                refine sq (o_pv (.pointer (some ⟨be, oe + (iq : Int).toNat * 2, none⟩)) rfl (by kernel_rfl) ?_)
                refine sq (o_pv (.int .i64 ((lget l (iq : Int)).Op)) rfl (x_load1 (by kernel_rfl) Tryd.isAgg3 (hce 0 _ rfl)) ?_)
                refine sq (o_pv (.bool (!decide (((lget l (iq : Int)).Op) = (2 : Int)))) rfl (by kernel_rfl) ?_)
                refine nil_ ?_
                refine then_normal (Kp1 _ _ _ _ ?_)
                refine cond_ndf ((lget l (iq : Int)).Op = (2 : Int)) (by kernel_rfl) q2 ?_
                refine wp_skip ?_
                refine blk_normal ?_
                refine then_normal (Kc _ _ _ _ ?_)
                refine reg_ ?_
                refine sq (o_pv (.int .i64 (iq : Int)) rfl (by kernel_rfl) ?_)
                refine sq (o_pv (.int .i64 ((iq + 1 : Nat) : Int)) rfl (x_add2 (k := .i64) (a := (iq : Int)) (b := (1 : Int)) ((iq + 1 : Nat) : Int) (by kernel_rfl) (by kernel_rfl) (wrap_inR (inR_i64.2 (by omega)))) ?_)
                refine sq (o_pv (.int .i64 ((iq + 1 : Nat) : Int)) rfl (by kernel_rfl) ?_)
                refine nil_ ?_
                rw [if_neg q3] at hI1
                rw [if_pos q2] at hJ1
                refine then_normal (hAq _ _ _ ⟨l.length - (iq + 1), [(10, (.slice (some ⟨g, 0, none⟩) (V.length + 1) c1)), (11, .int .i64 (hkI l iq + 1)), (12, .int .i64 (hkJ l iq)), (13, .int .i64 ((iq + 1 : Nat) : Int))], by omega, fit_mk (AgB.nest (AgB.look (AgB.mix _ _ _) (by kernel_rfl)) (by kernel_rfl) (by kernel_rfl)) (by kernel_rfl) (vs_cons (by kernel_rfl) (vs_cons (by kernel_rfl) (vs_cons (by kernel_rfl) (vs_cons (by kernel_rfl) vs_nil)))), ?_⟩)
                refine ⟨_, _, _, _, iq + 1, by rw [hI1, hJ1], rfl, by omega, E6, .inr ⟨H, _, hrun, V, a4, n4, c4, ?_, V6, L6, p4⟩⟩
                have hadd : hkV (hkAdd (lget l (iq : Int)) x) a4 n4 c4 = [.int .i64 (x.At), .int .i64 (x.Del + 1), .int .i64 (x.To), .int .i64 (x.Add), .slice a4 n4 c4] := by unfold hkV hkAdd; rw [if_neg q3, if_pos q2]
                rw [hadd]; exact O6
              ·
                have q3 : ¬ (lget l (iq : Int)).Op = 3 := e3
                have q2 : ¬ (lget l (iq : Int)).Op = 2 := e4
                refine seq_ (fun _ Km => ?_)
                refine seq_ (fun _ Kn0 => ?_)
                refine reg_ ?_
                refine sq (o_pv (.slice al1 l.length cl2) rfl (by kernel_rfl) ?_)
                refine sq (o_pv (.int .i64 (iq : Int)) rfl (by kernel_rfl) ?_)
                refine sq (o_pv (.pointer (some ⟨be, oe + (iq : Int).toNat * 2, none⟩)) rfl (x_ixA (m := l.length) (c := cl2) (k := .i64) (i := (iq : Int)) Tryd.underlying25 Tryd.sizeOf54 (by rw [← hae]; kernel_rfl) (by kernel_rfl) hin) ?_)
                refine sq (o_pv (.pointer (some ⟨be, oe + (iq : Int).toNat * 2, none⟩)) rfl (by kernel_rfl) ?_)
                refine sq (o_pv (.int .i64 ((lget l (iq : Int)).Op)) rfl (x_load1 (by kernel_rfl) Tryd.isAgg3 (hce 0 _ rfl)) ?_)
                refine sq (o_pv (.bool (!decide (((lget l (iq : Int)).Op) = (3 : Int)))) rfl (by kernel_rfl) ?_)
                refine nil_ ?_
                refine then_normal (Kn0 _ _ _ _ ?_)
                refine cond_ndt ((lget l (iq : Int)).Op = (3 : Int)) (by kernel_rfl) q3 ?_
                refine reg_ ?_
                refine sq (o_pv (.pointer (some ⟨g, 0 + V.length * 5, none⟩)) rfl (by kernel_rfl) ?_)
                refine sq (o_pv (.pointer (some ⟨g, 0 + V.length * 5, none⟩)) rfl (by kernel_rfl) ?_)
                refine sq (o_pv (.pointer (some ⟨g, 0 + V.length * 5 + 1, none⟩)) rfl (by kernel_rfl) ?_)
                refine sq (o_pv (.int .i64 x.Del) rfl (x_load1 (by kernel_rfl) Tryd.isAgg3 ((OE.cells O5) 1 _ rfl)) ?_)
                refine sq (o_pv (.int .i64 (x.Del + 1)) rfl (x_add2 (k := .i64) (a := x.Del) (b := (1 : Int)) (x.Del + 1) (by kernel_rfl) (by kernel_rfl) (wrap_inR (inR_i64.2 (by omega)))) ?_)
                refine sq (o_pv (.pointer (some ⟨g, 0 + V.length * 5, none⟩)) rfl (by kernel_rfl) ?_)
                refine sq (o_pv (.pointer (some ⟨g, 0 + V.length * 5 + 1, none⟩)) rfl (by kernel_rfl) ?_)
                refine sq (o_stE (V := V) (m := 5) (o := 0) (v' := [.int .i64 (x.At), .int .i64 (x.Del + 1), .int .i64 (x.To), .int .i64 (x.Add), .slice a4 n4 c4]) (z := (.int .i64 (x.Del + 1))) 1 rfl O5 rfl (by kernel_rfl) (by kernel_rfl) Tryd.sizeOf3 rfl rfl rfl ?_)
                intro w6 s6 O6
                have E6 := E5.step s6 O5.2.2
                have V6 := V5.step s6
                have L6 := OS.step L5 s6 (Ap.symm p4)
                refine nil_ ?_
                obtain ⟨be, oe, cse, hae, nxe, lte, oke, hce⟩ := Sl.atI E6.hl (iq : Int) hin
                obtain ⟨rfl, reOp, zeLine⟩ := r_rectoref11_Edit_open oke
                refine then_normal (Km _ _ _ _ ?_)
                refine seq_ (fun _ Kn1 => ?_)
                refine reg_ ?_
                refine sq (o_pv (.slice al1 l.length cl2) rfl (by kernel_rfl) ?_)
                refine sq (o_pv (.int .i64 (iq : Int)) rfl (by kernel_rfl) ?_)
                refine sq (o_pv (.pointer (some ⟨be, oe + (iq : Int).toNat * 2, none⟩)) rfl (x_ixA (m := l.length) (c := cl2) (k := .i64) (i := (iq : Int)) Tryd.underlying25 Tryd.sizeOf54 (by rw [← hae]; kernel_rfl) (by kernel_rfl) hin) ?_)
                refine sq (o_pv (.pointer (some ⟨be, oe + (iq : Int).toNat * 2, none⟩)) rfl (by kernel_rfl) ?_)
                refine sq (o_pv (.int .i64 ((lget l (iq : Int)).Op)) rfl (x_load1 (by kernel_rfl) Tryd.isAgg3 (hce 0 _ rfl)) ?_)
                refine sq (o_pv (.bool (!decide (((lget l (iq : Int)).Op) = (2 : Int)))) rfl (by kernel_rfl) ?_)
                refine nil_ ?_
                refine then_normal (Kn1 _ _ _ _ ?_)
                refine cond_ndt ((lget l (iq : Int)).Op = (2 : Int)) (by kernel_rfl) q2 ?_
                refine reg_ ?_
                refine sq (o_pv (.pointer (some ⟨g, 0 + V.length * 5, none⟩)) rfl (by kernel_rfl) ?_)
                refine sq (o_pv (.pointer (some ⟨g, 0 + V.length * 5, none⟩)) rfl (by kernel_rfl) ?_)
                refine sq (o_pv (.pointer (some ⟨g, 0 + V.length * 5 + 3, none⟩)) rfl (by kernel_rfl) ?_)
                refine sq (o_pv (.int .i64 x.Add) rfl (x_load1 (by kernel_rfl) Tryd.isAgg3 ((OE.cells O6) 3 _ rfl)) ?_)
                refine sq (o_pv (.int .i64 (x.Add + 1)) rfl (x_add2 (k := .i64) (a := x.Add) (b := (1 : Int)) (x.Add + 1) (by kernel_rfl) (by kernel_rfl) (wrap_inR (inR_i64.2 (by omega)))) ?_)
                refine sq (o_pv (.pointer (some ⟨g, 0 + V.length * 5, none⟩)) rfl (by kernel_rfl) ?_)
                refine sq (o_pv (.pointer (some ⟨g, 0 + V.length * 5 + 3, none⟩)) rfl (by kernel_rfl) ?_)
                refine sq (o_stE (V := V) (m := 5) (o := 0) (v' := [.int .i64 (x.At), .int .i64 (x.Del + 1), .int .i64 (x.To), .int .i64 (x.Add + 1), .slice a4 n4 c4]) (z := (.int .i64 (x.Add + 1))) 3 rfl O6 rfl (by kernel_rfl) (by kernel_rfl) Tryd.sizeOf3 rfl rfl rfl ?_)
                intro w7 s7 O7
                have E7 := E6.step s7 O6.2.2
                have V7 := V6.step s7
                have L7 := OS.step L6 s7 (Ap.symm p4)
                refine nil_ ?_
                obtain ⟨be, oe, cse, hae, nxe, lte, oke, hce⟩ := Sl.atI E7.hl (iq : Int) hin
                obtain ⟨rfl, reOp, zeLine⟩ := r_rectoref11_Edit_open oke
                refine then_normal (Kd _ _ _ _ ?_)
                refine seq_ (fun _ Ko => ?_)
                refine seq_ (fun _ Kp0 => ?_)
                refine reg_ ?_
                refine sq (o_pv (.slice al1 l.length cl2) rfl (by kernel_rfl) ?_)
                refine sq (o_pv (.int .i64 (iq : Int)) rfl (by kernel_rfl) ?_)
                refine sq (o_pv (.pointer (some ⟨be, oe + (iq : Int).toNat * 2, none⟩)) rfl (x_ixA (m := l.length) (c := cl2) (k := .i64) (i := (iq : Int)) Tryd.underlying25 Tryd.sizeOf54 (by rw [← hae]; kernel_rfl) (by kernel_rfl) hin) ?_)
                refine sq (o_pv (.pointer (some ⟨be, oe + (iq : Int).toNat * 2, none⟩)) rfl (by kernel_rfl) ?_)
                refine sq (o_pv (.int .i64 ((lget l (iq : Int)).Op)) rfl (x_load1 (by kernel_rfl) Tryd.isAgg3 (hce 0 _ rfl)) ?_)
                refine sq (o_pv (.bool (!decide (((lget l (iq : Int)).Op) = (3 : Int)))) rfl (by kernel_rfl) ?_)
                refine nil_ ?_
                refine then_normal (Kp0 _ _ _ _ ?_)
                refine cond_ndt ((lget l (iq : Int)).Op = (3 : Int)) (by kernel_rfl) q3 ?_
                refine reg_ ?_
                refine sq (o_pv (.int .i64 (hkI l iq)) rfl (by kernel_rfl) ?_)
                refine sq (o_pv (.int .i64 (hkI l iq + 1)) rfl (x_add2 (k := .i64) (a := hkI l iq) (b := (1 : Int)) (hkI l iq + 1) (by kernel_rfl) (by kernel_rfl) (wrap_inR (inR_i64.2 (by omega)))) ?_)
                refine sq (o_pv (.int .i64 (hkI l iq + 1)) rfl (by kernel_rfl) ?_)
                refine nil_ ?_
                refine then_normal (Ko _ _ _ _ ?_)
                refine seq_ (fun _ Kp1 => ?_)
                refine reg_ ?_
                refine sq (o_pv (.slice al1 l.length cl2) rfl (by kernel_rfl) ?_)
                refine sq (o_pv (.int .i64 (iq : Int)) rfl (by kernel_rfl) ?_)
                refine sq (o_pv (.pointer (some ⟨be, oe + (iq : Int).toNat * 2, none⟩)) rfl (x_ixA (m := l.length) (c := cl2) (k := .i64) (i := (iq : Int)) Tryd.underlying25 Tryd.sizeOf54 (by rw [← hae]; kernel_rfl) (by kernel_rfl) hin) ?_)
                refine sq (o_pv (.pointer (some ⟨be, oe + (iq : Int).toNat * 2, none⟩)) rfl (by kernel_rfl) ?_)
                refine sq (o_pv (.int .i64 ((lget l (iq : Int)).Op)) rfl (x_load1 (by kernel_rfl) Tryd.isAgg3 (hce 0 _ rfl)) ?_)
                refine sq (o_pv (.bool (!decide (((lget l (iq : Int)).Op) = (2 : Int)))) rfl (by kernel_rfl) ?_)
                refine nil_ ?_
                refine then_normal (Kp1 _ _ _ _ ?_)
                refine cond_ndt ((lget l (iq : Int)).Op = (2 : Int)) (by kernel_rfl) q2 ?_
                refine reg_ ?_
                refine sq (o_pv (.int .i64 (hkJ l iq)) rfl (by kernel_rfl) ?_)
                refine sq (o_pv (.int .i64 (hkJ l iq + 1)) rfl (x_add2 (k := .i64) (a := hkJ l iq) (b := (1 : Int)) (hkJ l iq + 1) (by kernel_rfl) (by kernel_rfl) (wrap_inR (inR_i64.2 (by omega)))) ?_)
                refine sq (o_pv (.int .i64 (hkJ l iq + 1)) rfl (by kernel_rfl) ?_)
                refine nil_ ?_
                refine blk_normal ?_
                refine then_normal (Kc _ _ _ _ ?_)
                refine reg_ ?_
                refine sq (o_pv (.int .i64 (iq : Int)) rfl (by kernel_rfl) ?_)
                refine sq (o_pv (.int .i64 ((iq + 1 : Nat) : Int)) rfl (x_add2 (k := .i64) (a := (iq : Int)) (b := (1 : Int)) ((iq + 1 : Nat) : Int) (by kernel_rfl) (by kernel_rfl) (wrap_inR (inR_i64.2 (by omega)))) ?_)
                refine sq (o_pv (.int .i64 ((iq + 1 : Nat) : Int)) rfl (by kernel_rfl) ?_)
                refine nil_ ?_
                rw [if_neg q3] at hI1
                rw [if_neg q2] at hJ1
                refine then_normal (hAq _ _ _ ⟨l.length - (iq + 1), [(10, (.slice (some ⟨g, 0, none⟩) (V.length + 1) c1)), (11, .int .i64 (hkI l iq + 1)), (12, .int .i64 (hkJ l iq + 1)), (13, .int .i64 ((iq + 1 : Nat) : Int))], by omega, fit_mk (AgB.nest (AgB.look (AgB.mix _ _ _) (by kernel_rfl)) (by kernel_rfl) (by kernel_rfl)) (by kernel_rfl) (vs_cons (by kernel_rfl) (vs_cons (by kernel_rfl) (vs_cons (by kernel_rfl) (vs_cons (by kernel_rfl) vs_nil)))), ?_⟩)
                refine ⟨_, _, _, _, iq + 1, by rw [hI1, hJ1], rfl, by omega, E7, .inr ⟨H, _, hrun, V, a4, n4, c4, ?_, V7, L7, p4⟩⟩
                have hadd : hkV (hkAdd (lget l (iq : Int)) x) a4 n4 c4 = [.int .i64 (x.At), .int .i64 (x.Del + 1), .int .i64 (x.To), .int .i64 (x.Add + 1), .slice a4 n4 c4] := by unfold hkV hkAdd; rw [if_neg q3, if_neg q2]
                rw [hadd]; exact O7
          ·
            refine wp_skip ?_
            refine then_normal (Kd _ _ _ _ ?_)
            have hrun := hkRun_not (l := l) hm
            obtain ⟨be, oe, cse, hae, nxe, lte, oke, hce⟩ := Sl.atI Eq.hl (iq : Int) hin
            obtain ⟨rfl, reOp, zeLine⟩ := r_rectoref11_Edit_open oke
            rcases (show (lget l (iq : Int)).Op = 3 ∨ (lget l (iq : Int)).Op = 2 ∨ ((lget l (iq : Int)).Op ≠ 3 ∧ (lget l (iq : Int)).Op ≠ 2) by omega) with e3 | e3 | ⟨e3, e4⟩
            ·
              have q3 : (lget l (iq : Int)).Op = 3 := e3
              have q2 : ¬ (lget l (iq : Int)).Op = 2 := by omega
              refine seq_ (fun _ Ko => ?_)
              refine seq_ (fun _ Kp0 => ?_)
              refine reg_ ?_
              refine sq (o_pv (.slice al1 l.length cl2) rfl (by kernel_rfl) ?_)
              refine sq (o_pv (.int .i64 (iq : Int)) rfl (by kernel_rfl) ?_)
              refine sq (o_pv (.pointer (some ⟨be, oe + (iq : Int).toNat * 2, none⟩)) rfl (x_ixA (m := l.length) (c := cl2) (k := .i64) (i := (iq : Int)) Tryd.underlying25 Tryd.sizeOf54 (by rw [← hae]; kernel_rfl) (by kernel_rfl) hin) ?_)
              refine sq (o_pv (.pointer (some ⟨be, oe + (iq : Int).toNat * 2, none⟩)) rfl (by kernel_rfl) ?_)
              refine sq (o_pv (.int .i64 ((lget l (iq : Int)).Op)) rfl (x_load1 (by kernel_rfl) Tryd.isAgg3 (hce 0 _ rfl)) ?_)
              refine sq (o_pv (.bool (!decide (((lget l (iq : Int)).Op) = (3 : Int)))) rfl (by kernel_rfl) ?_)
              refine nil_ ?_
              refine then_normal (Kp0 _ _ _ _ ?_)
              refine cond_ndf ((lget l (iq : Int)).Op = (3 : Int)) (by kernel_rfl) q3 ?_
              refine wp_skip ?_
              refine then_normal (Ko _ _ _ _ ?_)
              refine seq_ (fun _ Kp1 => ?_)
              refine reg_ ?_
              refine sq (o_pv (.slice al1 l.length cl2) rfl (by kernel_rfl) ?_)
              refine sq (o_pv (.int .i64 (iq : Int)) rfl (by kernel_rfl) ?_)
              refine sq (o_pv (.pointer (some ⟨be, oe + (iq : Int).toNat * 2, none⟩)) rfl (x_ixA (m := l.length) (c := cl2) (k := .i64) (i := (iq : Int)) Tryd.underlying25 Tryd.sizeOf54 (by rw [← hae]; kernel_rfl) (by kernel_rfl) hin) ?_)
              refine sq (o_pv (.pointer (some ⟨be, oe + (iq : Int).toNat * 2, none⟩)) rfl (by kernel_rfl) ?_)
              refine sq (o_pv (.int .i64 ((lget l (iq : Int)).Op)) rfl (x_load1 (by kernel_rfl) Tryd.isAgg3 (hce 0 _ rfl)) ?_)
              refine sq (o_pv (.bool (!decide (((lget l (iq : Int)).Op) = (2 : Int)))) rfl (by kernel_rfl) ?_)
              refine nil_ ?_
              refine then_normal (Kp1 _ _ _ _ ?_)
              refine cond_ndt ((lget l (iq : Int)).Op = (2 : Int)) (by kernel_rfl) q2 ?_
              refine reg_ ?_
              refine sq (o_pv (.int .i64 (hkJ l iq)) rfl (by kernel_rfl) ?_)
              refine sq (o_pv (.int .i64 (hkJ l iq + 1)) rfl (x_add2 (k := .i64) (a := hkJ l iq) (b := (1 : Int)) (hkJ l iq + 1) (by kernel_rfl) (by kernel_rfl) (wrap_inR (inR_i64.2 (by omega)))) ?_)
              refine sq (o_pv (.int .i64 (hkJ l iq + 1)) rfl (by kernel_rfl) ?_)
              refine nil_ ?_
              refine blk_normal ?_
              refine then_normal (Kc _ _ _ _ ?_)
              refine reg_ ?_
              refine sq (o_pv (.int .i64 (iq : Int)) rfl (by kernel_rfl) ?_)
              refine sq (o_pv (.int .i64 ((iq + 1 : Nat) : Int)) rfl (x_add2 (k := .i64) (a := (iq : Int)) (b := (1 : Int)) ((iq + 1 : Nat) : Int) (by kernel_rfl) (by kernel_rfl) (wrap_inR (inR_i64.2 (by omega)))) ?_)
              refine sq (o_pv (.int .i64 ((iq + 1 : Nat) : Int)) rfl (by kernel_rfl) ?_)
              refine nil_ ?_
              rw [if_pos q3] at hI1
              rw [if_neg q2] at hJ1
              refine then_normal (hAq _ _ _ ⟨l.length - (iq + 1), [(10, (.slice aq nq cq)), (11, .int .i64 (hkI l iq)), (12, .int .i64 (hkJ l iq + 1)), (13, .int .i64 ((iq + 1 : Nat) : Int))], by omega, fit_mk (AgB.mix _ _ _) (by kernel_rfl) (vs_cons (by kernel_rfl) (vs_cons (by kernel_rfl) (vs_cons (by kernel_rfl) (vs_cons (by kernel_rfl) vs_nil)))), ?_⟩)
              refine ⟨_, _, _, _, iq + 1, by rw [hI1, hJ1], rfl, by omega, Eq, ?_⟩
              rw [hrun]; exact hst
            ·
              have q3 : ¬ (lget l (iq : Int)).Op = 3 := by omega
              have q2 : (lget l (iq : Int)).Op = 2 := e3
              refine seq_ (fun _ Ko => ?_)
              refine seq_ (fun _ Kp0 => ?_)
              refine reg_ ?_
              refine sq (o_pv (.slice al1 l.length cl2) rfl (by kernel_rfl) ?_)
              refine sq (o_pv (.int .i64 (iq : Int)) rfl (by kernel_rfl) ?_)
              refine sq (o_pv (.pointer (some ⟨be, oe + (iq : Int).toNat * 2, none⟩)) rfl (x_ixA (m := l.length) (c := cl2) (k := .i64) (i := (iq : Int)) Tryd.underlying25 Tryd.sizeOf54 (by rw [← hae]; kernel_rfl) (by kernel_rfl) hin) ?_)
              refine sq (o_pv (.pointer (some ⟨be, oe + (iq : Int).toNat * 2, none⟩)) rfl (by kernel_rfl) ?_)
              refine sq (o_pv (.int .i64 ((lget l (iq : Int)).Op)) rfl (x_load1 (by kernel_rfl) Tryd.isAgg3 (hce 0 _ rfl)) ?_)
              refine sq (o_pv (.bool (!decide (((lget l (iq : Int)).Op) = (3 : Int)))) rfl (by kernel_rfl) ?_)
              refine nil_ ?_
              refine then_normal (Kp0 _ _ _ _ ?_)
              refine cond_ndt ((lget l (iq : Int)).Op = (3 : Int)) (by kernel_rfl) q3 ?_
              refine reg_ ?_
              refine sq (o_pv (.int .i64 (hkI l iq)) rfl (by kernel_rfl) ?_)
              refine sq (o_pv (.int .i64 (hkI l iq + 1)) rfl (x_add2 (k := .i64) (a := hkI l iq) (b := (1 : Int)) (hkI l iq + 1) (by kernel_rfl) (by kernel_rfl) (wrap_inR (inR_i64.2 (by omega)))) ?_)
              refine sq (o_pv (.int .i64 (hkI l iq + 1)) rfl (by kernel_rfl) ?_)
              refine nil_ ?_
              refine then_normal (Ko _ _ _ _ ?_)
              refine seq_ (fun _ Kp1 => ?_)
              refine reg_ ?_
              refine sq (o_pv (.slice al1 l.length cl2) rfl (by kernel_rfl) ?_)
              refine sq (o_pv (.int .i64 (iq : Int)) rfl (by kernel_rfl) ?_)
              refine sq (o_pv (.pointer (some ⟨be, oe + (iq : Int).toNat * 2, none⟩)) rfl (x_ixA (m := l.length) (c := cl2) (k := .i64) (i := (iq : Int)) Tryd.underlying25 Tryd.sizeOf54 (by rw [← hae]; kernel_rfl) (by kernel_rfl) hin) ?_)
              refine sq (o_pv (.pointer (some ⟨be, oe + (iq : Int).toNat * 2, none⟩)) rfl (by kernel_rfl) ?_)
              refine sq (o_pv (.int .i64 ((lget l (iq : Int)).Op)) rfl (x_load1 (by kernel_rfl) Tryd.isAgg3 (hce 0 _ rfl)) ?_)
              refine sq (o_pv (.bool (!decide (((lget l (iq : Int)).Op) = (2 : Int)))) rfl (by kernel_rfl) ?_)
              refine nil_ ?_
              refine then_normal (Kp1 _ _ _ _ ?_)
              refine cond_ndf ((lget l (iq : Int)).Op = (2 : Int)) (by kernel_rfl) q2 ?_
              refine wp_skip ?_
              refine blk_normal ?_
              refine then_normal (Kc _ _ _ _ ?_)
              refine reg_ ?_
              refine sq (o_pv (.int .i64 (iq : Int)) rfl (by kernel_rfl) ?_)
              refine sq (o_pv (.int .i64 ((iq + 1 : Nat) : Int)) rfl (x_add2 (k := .i64) (a := (iq : Int)) (b := (1 : Int)) ((iq + 1 : Nat) : Int) (by kernel_rfl) (by kernel_rfl) (wrap_inR (inR_i64.2 (by omega)))) ?_)
              refine sq (o_pv (.int .i64 ((iq + 1 : Nat) : Int)) rfl (by kernel_rfl) ?_)
              refine nil_ ?_
              rw [if_neg q3] at hI1
              rw [if_pos q2] at hJ1
              refine then_normal (hAq _ _ _ ⟨l.length - (iq + 1), [(10, (.slice aq nq cq)), (11, .int .i64 (hkI l iq + 1)), (12, .int .i64 (hkJ l iq)), (13, .int .i64 ((iq + 1 : Nat) : Int))], by omega, fit_mk (AgB.mix _ _ _) (by kernel_rfl) (vs_cons (by kernel_rfl) (vs_cons (by kernel_rfl) (vs_cons (by kernel_rfl) (vs_cons (by kernel_rfl) vs_nil)))), ?_⟩)
              refine ⟨_, _, _, _, iq + 1, by rw [hI1, hJ1], rfl, by omega, Eq, ?_⟩
              rw [hrun]; exact hst
            ·
              have q3 : ¬ (lget l (iq : Int)).Op = 3 := e3
              have q2 : ¬ (lget l (iq : Int)).Op = 2 := e4
              refine seq_ (fun _ Ko => ?_)
              refine seq_ (fun _ Kp0 => ?_)
              refine reg_ ?_
              refine sq (o_pv (.slice al1 l.length cl2) rfl (by kernel_rfl) ?_)
              refine sq (o_pv (.int .i64 (iq : Int)) rfl (by kernel_rfl) ?_)
              refine sq (o_pv (.pointer (some ⟨be, oe + (iq : Int).toNat * 2, none⟩)) rfl (x_ixA (m := l.length) (c := cl2) (k := .i64) (i := (iq : Int)) Tryd.underlying25 Tryd.sizeOf54 (by rw [← hae]; kernel_rfl) (by kernel_rfl) hin) ?_)
              refine sq (o_pv (.pointer (some ⟨be, oe + (iq : Int).toNat * 2, none⟩)) rfl (by kernel_rfl) ?_)
              refine sq (o_pv (.int .i64 ((lget l (iq : Int)).Op)) rfl (x_load1 (by kernel_rfl) Tryd.isAgg3 (hce 0 _ rfl)) ?_)
              refine sq (o_pv (.bool (!decide (((lget l (iq : Int)).Op) = (3 : Int)))) rfl (by kernel_rfl) ?_)
              refine nil_ ?_
              refine then_normal (Kp0 _ _ _ _ ?_)
              refine cond_ndt ((lget l (iq : Int)).Op = (3 : Int)) (by kernel_rfl) q3 ?_
              refine reg_ ?_
              refine sq (o_pv (.int .i64 (hkI l iq)) rfl (by kernel_rfl) ?_)
              refine sq (o_pv (.int .i64 (hkI l iq + 1)) rfl (x_add2 (k := .i64) (a := hkI l iq) (b := (1 : Int)) (hkI l iq + 1) (by kernel_rfl) (by kernel_rfl) (wrap_inR (inR_i64.2 (by omega)))) ?_)
              refine sq (o_pv (.int .i64 (hkI l iq + 1)) rfl (by kernel_rfl) ?_)
              refine nil_ ?_
              refine then_normal (Ko _ _ _ _ ?_)
              refine seq_ (fun _ Kp1 => ?_)
              refine reg_ ?_
              refine sq (o_pv (.slice al1 l.length cl2) rfl (by kernel_rfl) ?_)
              refine sq (o_pv (.int .i64 (iq : Int)) rfl (by kernel_rfl) ?_)
              refine sq (o_pv (.pointer (some ⟨be, oe + (iq : Int).toNat * 2, none⟩)) rfl (x_ixA (m := l.length) (c := cl2) (k := .i64) (i := (iq : Int)) Tryd.underlying25 Tryd.sizeOf54 (by rw [← hae]; kernel_rfl) (by kernel_rfl) hin) ?_)
              refine sq (o_pv (.pointer (some ⟨be, oe + (iq : Int).toNat * 2, none⟩)) rfl (by kernel_rfl) ?_)
              refine sq (o_pv (.int .i64 ((lget l (iq : Int)).Op)) rfl (x_load1 (by kernel_rfl) Tryd.isAgg3 (hce 0 _ rfl)) ?_)
              refine sq (o_pv (.bool (!decide (((lget l (iq : Int)).Op) = (2 : Int)))) rfl (by kernel_rfl) ?_)
              refine nil_ ?_
              refine then_normal (Kp1 _ _ _ _ ?_)
              refine cond_ndt ((lget l (iq : Int)).Op = (2 : Int)) (by kernel_rfl) q2 ?_
              refine reg_ ?_
              refine sq (o_pv (.int .i64 (hkJ l iq)) rfl (by kernel_rfl) ?_)
              refine sq (o_pv (.int .i64 (hkJ l iq + 1)) rfl (x_add2 (k := .i64) (a := hkJ l iq) (b := (1 : Int)) (hkJ l iq + 1) (by kernel_rfl) (by kernel_rfl) (wrap_inR (inR_i64.2 (by omega)))) ?_)
              refine sq (o_pv (.int .i64 (hkJ l iq + 1)) rfl (by kernel_rfl) ?_)
              refine nil_ ?_
              refine blk_normal ?_
              refine then_normal (Kc _ _ _ _ ?_)
              refine reg_ ?_
              refine sq (o_pv (.int .i64 (iq : Int)) rfl (by kernel_rfl) ?_)
              refine sq (o_pv (.int .i64 ((iq + 1 : Nat) : Int)) rfl (x_add2 (k := .i64) (a := (iq : Int)) (b := (1 : Int)) ((iq + 1 : Nat) : Int) (by kernel_rfl) (by kernel_rfl) (wrap_inR (inR_i64.2 (by omega)))) ?_)
              refine sq (o_pv (.int .i64 ((iq + 1 : Nat) : Int)) rfl (by kernel_rfl) ?_)
              refine nil_ ?_
              rw [if_neg q3] at hI1
              rw [if_neg q2] at hJ1
              refine then_normal (hAq _ _ _ ⟨l.length - (iq + 1), [(10, (.slice aq nq cq)), (11, .int .i64 (hkI l iq + 1)), (12, .int .i64 (hkJ l iq + 1)), (13, .int .i64 ((iq + 1 : Nat) : Int))], by omega, fit_mk (AgB.mix _ _ _) (by kernel_rfl) (vs_cons (by kernel_rfl) (vs_cons (by kernel_rfl) (vs_cons (by kernel_rfl) (vs_cons (by kernel_rfl) vs_nil)))), ?_⟩)
              refine ⟨_, _, _, _, iq + 1, by rw [hI1, hJ1], rfl, by omega, Eq, ?_⟩
              rw [hrun]; exact hst
        ·
          have hii : iq = l.length := by omega
          subst hii
          obtain ⟨X6, V6, u6, k6, O6, R6⟩ := HkSt.done hst hX0 Eq.sub hll bok
          have E6 := Eq.less u6 k6
          have hO6 := OS.conv O6 rfl R6
          have hE6 := E6.evo
          have hold6 := E6.old
          have hsub6 := E6.sub
          have hl6 := E6.hl
          have hs6 := E6.hs
          refine wp_exit ?_
          refine then_exit ?_
          refine then_exit ?_
          refine blk_exit ?_
          refine then_normal (K4663 _ _ _ _ ?_)
          refine seq_ (fun _ K4674 => ?_)
          refine reg_ ?_
          refine sq (o_pv (.slice aq nq cq) rfl (by kernel_rfl) ?_)
          refine sq (o_pv (.slice aq nq cq) rfl (by kernel_rfl) ?_)
          refine nil_ ?_
          refine then_normal (K4674 _ _ _ _ ?_)
          refine wp_ret ?_
          refine end_ret hQ (.slice aq nq cq) (by kernel_rfl) ?_
          exact ⟨(hkRun l s1584 l.length), hp, hE6, aq, cq, (by (rw [show nq = (hkRun l s1584 l.length).length from hO6.1]); first | done | rfl), (OS.out hO6 hsub6 hX0)⟩

def rectolaw11_Edits_p (a : (List S_diff_Edit)) (b : (List S_rectoref11_Edit)) (Q : Bool → Prop) : Prop :=
  ((a.length ≤ 9223372036854775807) → ((b.length ≤ 9223372036854775807) → (((¬ ((a.length : Int) = (b.length : Int))) → Q false) ∧ (((a.length : Int) = (b.length : Int)) → (∃ (I152 : Int → Prop) (m153 : Int → Nat), (I152 (0 : Int)) ∧ (∀ (i14 : Int), (I152 i14) → (inR .i64 i14) → (((i14 < (a.length : Int)) → (∃ k229 : Bool → Prop, (∀ (s228 : Bool), k229 s228 → (((s228 = true) → Q false) ∧ ((s228 = false) → ((inR .i64 (i14 + (1 : Int))) ∧ ((I152 (i14 + (1 : Int))) ∧ m153 (i14 + (1 : Int)) < m153 i14))))) ∧ ((inL a i14) ∧ ((inR .i64 ((lget a i14).Op)) → ((((lget a i14).Line).size ≤ maxLen) → ((inL b i14) ∧ ((inR .i64 ((lget b i14).Op)) → ((((lget b i14).Line).size ≤ maxLen) → (((((lget a i14).Op) = ((lget b i14).Op)) → ((inL a i14) ∧ ((inR .i64 ((lget a i14).Op)) → ((((lget a i14).Line).size ≤ maxLen) → ((inL b i14) ∧ ((inR .i64 ((lget b i14).Op)) → ((((lget b i14).Line).size ≤ maxLen) → (k229 (!decide (((lget a i14).Line : ByteArray) = (lget b i14).Line)))))))))) ∧ ((¬ (((lget a i14).Op) = ((lget b i14).Op))) → (k229 true))))))))))) ∧ ((¬ (i14 < (a.length : Int))) → Q true))))))))
set_option maxRecDepth 20000 in
set_option maxHeartbeats 4000000 in
theorem rectolaw11_Edits_w {X : List Nat} {w : World} {a : (List S_diff_Edit)} {b : (List S_rectoref11_Edit)} {aa1 : Option Addr} {ca2 : Nat} {ab4 : Option Addr} {cb5 : Nat} {Q : Bool → Prop} (hX0 : Old X w) (ha3 : Sl r_diff_Edit X w aa1 ca2 a) (hb6 : Sl r_rectoref11_Edit X w ab4 cb5 b) (hp : rectolaw11_Edits_p a b Q) :
    Calls Tryd.prog 22 #[(.slice aa1 a.length ca2), (.slice ab4 b.length cb5)] w (Ret fun v w' => ∃ (r0 : Bool), Q r0 ∧ Evo [] w w' ∧ v = (.bool r0)) := by
  have hXo := hX0
  have E0 : Evo [] w w := RB.refl _ _ _
  have hS : Sub X X := Sub.refl _
  unfold rectolaw11_Edits_p at hp
  refine enter_ Tryd.func22 rfl 41 [(0, (.slice aa1 a.length ca2)), (1, (.slice ab4 b.length cb5))] (by kernel_rfl) (fun Qe hQ => ?_)
  replace hp := hp (Sl.len ha3)
  replace hp := hp (Sl.len hb6)
  refine seq_ (fun _ K7 => ?_)
  refine reg_ ?_
  refine sq (o_pv (.bool false) rfl (by kernel_rfl) ?_)
  refine nil_ ?_
  refine then_normal (K7 _ _ _ _ ?_)
  refine seq_ (fun _ K8 => ?_)
  refine seq_ (fun _ K9 => ?_)
  refine reg_ ?_
  refine sq (o_pv (.slice aa1 a.length ca2) rfl (by kernel_rfl) ?_)
  refine sq (o_pv (.int .i64 (a.length : Int)) rfl (by kernel_rfl) ?_)
  refine sq (o_pv (.slice ab4 b.length cb5) rfl (by kernel_rfl) ?_)
  refine sq (o_pv (.int .i64 (b.length : Int)) rfl (by kernel_rfl) ?_)
  refine sq (o_pv (.bool (!decide ((a.length : Int) = (b.length : Int)))) rfl (by kernel_rfl) ?_)
  refine nil_ ?_
  refine then_normal (K9 _ _ _ _ ?_)
  refine cond_nd ((a.length : Int) = (b.length : Int)) (by kernel_rfl) (fun h10 => ?_) (fun h10 => ?_)
  ·
    replace hp := hp.1 h10
    refine seq_ (fun _ K11 => ?_)
    refine reg_ ?_
    refine sq (o_pv (.bool false) rfl (by kernel_rfl) ?_)
    refine nil_ ?_
    refine then_normal (K11 _ _ _ _ ?_)
    refine wp_ret ?_
    refine then_ret ?_
    refine end_ret hQ (.bool false) (by kernel_rfl) ?_
    exact ⟨false, hp, E0, rfl⟩
  ·
    replace hp := hp.2 h10
    refine wp_skip ?_
    refine then_normal (K8 _ _ _ _ ?_)
    refine seq_ (fun _ K12 => ?_)
    refine seq_ (fun _ K13 => ?_)
    refine reg_ ?_
    refine sq (o_pv (.int .i64 (0 : Int)) rfl (by kernel_rfl) ?_)
    refine nil_ ?_
    refine then_normal (K13 _ _ _ _ ?_)
    refine wp_block ?_
    obtain ⟨I152, m153, hI154, hp⟩ := hp
    refine loop_ 2199023253552 (fun kq lq w156 => ∃ (X157 : List Nat) (i14 : Int), (lq = [(5, (.int .i64 i14))]) ∧ (kq = m153 i14) ∧ (Evo [] w w156) ∧ (Old X157 w156) ∧ (Sub X X157) ∧ (Sl r_diff_Edit X157 w156 aa1 ca2 a) ∧ (Sl r_rectoref11_Edit X157 w156 ab4 cb5 b) ∧ (inR .i64 i14) ∧ (I152 i14)) (m153 (0 : Int)) [(5, (.int .i64 (0 : Int)))] (vs_cons (by kernel_rfl) vs_nil) ⟨X, (0 : Int), rfl, rfl, E0, hXo, hS, ha3, hb6, (by decide : inR .i64 (0 : Int)), hI154⟩ ?_
    rintro _ _ w156 g159 ⟨X157, i14, rfl, rfl, E162, hXo163, hS164, ha165, hb166, ri15, hI155⟩ Kl160 hA161
    replace hp := hp i14 hI155 ri15
    refine seq_ (fun _ K167 => ?_)
    refine seq_ (fun _ K168 => ?_)
    refine reg_ ?_
    refine sq (o_pv (.int .i64 i14) rfl (by kernel_rfl) ?_)
    refine sq (o_pv (.slice aa1 a.length ca2) rfl (by kernel_rfl) ?_)
    refine sq (o_pv (.int .i64 (a.length : Int)) rfl (by kernel_rfl) ?_)
    refine sq (o_pv (.bool (decide (i14 < (a.length : Int)))) rfl (by kernel_rfl) ?_)
    refine nil_ ?_
    refine then_normal (K168 _ _ _ _ ?_)
    refine cond_d (i14 < (a.length : Int)) (by kernel_rfl) (fun h169 => ?_) (fun h169 => ?_)
    ·
      replace hp := hp.1 h169
      refine wp_skip ?_
      refine then_normal (K167 _ _ _ _ ?_)
      refine seq_ (fun _ K170 => ?_)
      refine wp_block ?_
      refine seq_ (fun _ K171 => ?_)
      obtain ⟨k229, hk230, hp⟩ := hp
      refine ground_ ?_
      refine join_ 2199023124480 (fun lq w231 => ∃ (X232 : List Nat) (s228 : Bool), (lq = [(40, (.bool s228))]) ∧ (Evo [] w w231) ∧ (Old X232 w231) ∧ (Sub X X232) ∧ (Sl r_diff_Edit X232 w231 aa1 ca2 a) ∧ (Sl r_rectoref11_Edit X232 w231 ab4 cb5 b) ∧ (k229 s228)) (fun Kj233 hJ234 => ?_) ?_
      ·
        refine reg_drawn (RB w156.heap.size []) 24 (by kernel_rfl) (fun w241 hd242 => ?_)
        have e243 := Evo.of_drew hd242
        have z244 : w241.heap.size = w156.heap.size := by rw [hd242]
        clear hd242
        have s246 := Step.of0 X157 e243
        have er245 := RB.refl w156.heap.size [] w241
        have E247 := (Evo.then0 E162 (Step.evo s246))
        have hXo248 := (Old.step hXo163 s246)
        have hS249 := (Sub.trans hS164 (Step.up s246))
        have ha250 := (Sl.step ha165 s246)
        have hb251 := (Sl.step hb166 s246)
        refine r_take 0 (.slice aa1 a.length ca2) (RB.pre _ _) rfl (by kernel_rfl) (fun _ _ _ h => hQ.panic _ _ _ _ _ h) (.inl ⟨rfl, fun wq hq => (by kernel_rfl)⟩) ?_
        refine r_take 1 (.int .i64 i14) (RB.pre _ _) rfl (by kernel_rfl) (fun _ _ _ h => hQ.panic _ _ _ _ _ h) (.inl ⟨rfl, fun wq hq => (by kernel_rfl)⟩) ?_
        obtain ⟨h252, hp⟩ := hp
        obtain ⟨b253, o254, cs255, ha256, nx257, lt258, ok259, hc260⟩ := Sl.atI ha250 i14 h252
        obtain ⟨rfl, reOp261, zeLine262⟩ := r_diff_Edit_open ok259
        replace hp := hp reOp261
        replace hp := hp zeLine262
        refine r_take 2 (.pointer (some ⟨b253, o254 + i14.toNat * 2, none⟩)) (RB.pre _ _) rfl (by kernel_rfl) (fun _ _ _ h => hQ.panic _ _ _ _ _ h) (.inl ⟨rfl, fun wq hq => (x_ixA (m := a.length) (c := ca2) (k := .i64) (i := i14) Tryd.underlying33 Tryd.sizeOf48 (by rw [← ha256]; kernel_rfl) (by kernel_rfl) h252)⟩) ?_
        refine r_take 3 (.pointer (some ⟨b253, o254 + i14.toNat * 2, none⟩)) (RB.pre _ _) rfl (by kernel_rfl) (fun _ _ _ h => hQ.panic _ _ _ _ _ h) (.inl ⟨rfl, fun wq hq => (by kernel_rfl)⟩) ?_
        refine r_take 4 (.int .i64 ((lget a i14).Op)) (RB.pre _ _) rfl (by kernel_rfl) (fun _ _ _ h => hQ.panic _ _ _ _ _ h) (.inl ⟨rfl, fun wq hq => (x_load1 (by kernel_rfl) Tryd.isAgg3 ((CellsAt.rb hc260 (RB.trans er245 hq) (Nat.lt_of_lt_of_eq lt258 z244) (fun h => by cases h)) 0 _ rfl))⟩) ?_
        refine r_take 5 (.slice ab4 b.length cb5) (RB.pre _ _) rfl (by kernel_rfl) (fun _ _ _ h => hQ.panic _ _ _ _ _ h) (.inl ⟨rfl, fun wq hq => (by kernel_rfl)⟩) ?_
        refine r_take 6 (.int .i64 i14) (RB.pre _ _) rfl (by kernel_rfl) (fun _ _ _ h => hQ.panic _ _ _ _ _ h) (.inl ⟨rfl, fun wq hq => (by kernel_rfl)⟩) ?_
        obtain ⟨h263, hp⟩ := hp
        obtain ⟨b264, o265, cs266, ha267, nx268, lt269, ok270, hc271⟩ := Sl.atI hb251 i14 h263
        obtain ⟨rfl, reOp272, zeLine273⟩ := r_rectoref11_Edit_open ok270
        replace hp := hp reOp272
        replace hp := hp zeLine273
        refine r_take 7 (.pointer (some ⟨b264, o265 + i14.toNat * 2, none⟩)) (RB.pre _ _) rfl (by kernel_rfl) (fun _ _ _ h => hQ.panic _ _ _ _ _ h) (.inl ⟨rfl, fun wq hq => (x_ixA (m := b.length) (c := cb5) (k := .i64) (i := i14) Tryd.underlying25 Tryd.sizeOf54 (by rw [← ha267]; kernel_rfl) (by kernel_rfl) h263)⟩) ?_
        refine r_take 8 (.pointer (some ⟨b264, o265 + i14.toNat * 2, none⟩)) (RB.pre _ _) rfl (by kernel_rfl) (fun _ _ _ h => hQ.panic _ _ _ _ _ h) (.inl ⟨rfl, fun wq hq => (by kernel_rfl)⟩) ?_
        refine r_take 9 (.int .i64 ((lget b i14).Op)) (RB.pre _ _) rfl (by kernel_rfl) (fun _ _ _ h => hQ.panic _ _ _ _ _ h) (.inl ⟨rfl, fun wq hq => (x_load1 (by kernel_rfl) Tryd.isAgg3 ((CellsAt.rb hc271 (RB.trans er245 hq) (Nat.lt_of_lt_of_eq lt269 z244) (fun h => by cases h)) 0 _ rfl))⟩) ?_
        by_cases h274 : ((lget a i14).Op) = ((lget b i14).Op)
        ·
          replace hp := hp.1 h274
          refine r_take 10 (.bool false) (RB.pre _ _) rfl (by kernel_rfl) (fun _ _ _ h => hQ.panic _ _ _ _ _ h) (.inl ⟨rfl, fun wq hq => (x_ndf (p := ((lget a i14).Op) = ((lget b i14).Op)) (by kernel_rfl) h274)⟩) ?_
          refine r_take 11 (.bool false) (RB.pre _ _) rfl (by kernel_rfl) (fun _ _ _ h => hQ.panic _ _ _ _ _ h) (.inl ⟨rfl, fun wq hq => (by kernel_rfl)⟩) ?_
          refine r_take 12 (.slice aa1 a.length ca2) (RB.pre _ _) rfl (by kernel_rfl) (fun _ _ _ h => hQ.panic _ _ _ _ _ h) (.inl ⟨(by kernel_rfl), fun wq hq => (by kernel_rfl)⟩) ?_
          refine r_take 13 (.int .i64 i14) (RB.pre _ _) rfl (by kernel_rfl) (fun _ _ _ h => hQ.panic _ _ _ _ _ h) (.inl ⟨(by kernel_rfl), fun wq hq => (by kernel_rfl)⟩) ?_
          obtain ⟨h275, hp⟩ := hp
          obtain ⟨b276, o277, cs278, ha279, nx280, lt281, ok282, hc283⟩ := Sl.atI ha250 i14 h275
          obtain ⟨rfl, reOp284, zeLine285⟩ := r_diff_Edit_open ok282
          replace hp := hp reOp284
          replace hp := hp zeLine285
          refine r_take 14 (.pointer (some ⟨b276, o277 + i14.toNat * 2, none⟩)) (RB.pre _ _) rfl (by kernel_rfl) (fun _ _ _ h => hQ.panic _ _ _ _ _ h) (.inl ⟨(by kernel_rfl), fun wq hq => (x_ixA (m := a.length) (c := ca2) (k := .i64) (i := i14) Tryd.underlying33 Tryd.sizeOf48 (by rw [← ha279]; kernel_rfl) (by kernel_rfl) h275)⟩) ?_
          refine r_take 15 (.pointer (some ⟨b276, o277 + i14.toNat * 2 + 1, none⟩)) (RB.pre _ _) rfl (by kernel_rfl) (fun _ _ _ h => hQ.panic _ _ _ _ _ h) (.inl ⟨(by kernel_rfl), fun wq hq => (by kernel_rfl)⟩) ?_
          refine r_take 16 (.string ((lget a i14).Line)) (RB.pre _ _) rfl (by kernel_rfl) (fun _ _ _ h => hQ.panic _ _ _ _ _ h) (.inl ⟨(by kernel_rfl), fun wq hq => (x_load1 (by kernel_rfl) Tryd.isAgg9 ((CellsAt.rb hc283 (RB.trans er245 hq) (Nat.lt_of_lt_of_eq lt281 z244) (fun h => by cases h)) 1 _ rfl))⟩) ?_
          refine r_take 17 (.slice ab4 b.length cb5) (RB.pre _ _) rfl (by kernel_rfl) (fun _ _ _ h => hQ.panic _ _ _ _ _ h) (.inl ⟨(by kernel_rfl), fun wq hq => (by kernel_rfl)⟩) ?_
          refine r_take 18 (.int .i64 i14) (RB.pre _ _) rfl (by kernel_rfl) (fun _ _ _ h => hQ.panic _ _ _ _ _ h) (.inl ⟨(by kernel_rfl), fun wq hq => (by kernel_rfl)⟩) ?_
          obtain ⟨h286, hp⟩ := hp
          obtain ⟨b287, o288, cs289, ha290, nx291, lt292, ok293, hc294⟩ := Sl.atI hb251 i14 h286
          obtain ⟨rfl, reOp295, zeLine296⟩ := r_rectoref11_Edit_open ok293
          replace hp := hp reOp295
          replace hp := hp zeLine296
          refine r_take 19 (.pointer (some ⟨b287, o288 + i14.toNat * 2, none⟩)) (RB.pre _ _) rfl (by kernel_rfl) (fun _ _ _ h => hQ.panic _ _ _ _ _ h) (.inl ⟨(by kernel_rfl), fun wq hq => (x_ixA (m := b.length) (c := cb5) (k := .i64) (i := i14) Tryd.underlying25 Tryd.sizeOf54 (by rw [← ha290]; kernel_rfl) (by kernel_rfl) h286)⟩) ?_
          refine r_take 20 (.pointer (some ⟨b287, o288 + i14.toNat * 2 + 1, none⟩)) (RB.pre _ _) rfl (by kernel_rfl) (fun _ _ _ h => hQ.panic _ _ _ _ _ h) (.inl ⟨(by kernel_rfl), fun wq hq => (by kernel_rfl)⟩) ?_
          refine r_take 21 (.string ((lget b i14).Line)) (RB.pre _ _) rfl (by kernel_rfl) (fun _ _ _ h => hQ.panic _ _ _ _ _ h) (.inl ⟨(by kernel_rfl), fun wq hq => (x_load1 (by kernel_rfl) Tryd.isAgg9 ((CellsAt.rb hc294 (RB.trans er245 hq) (Nat.lt_of_lt_of_eq lt292 z244) (fun h => by cases h)) 1 _ rfl))⟩) ?_
          refine r_take 22 (.bool (!decide (((lget a i14).Line : ByteArray) = (lget b i14).Line))) (RB.pre _ _) rfl (by kernel_rfl) (fun _ _ _ h => hQ.panic _ _ _ _ _ h) (.inl ⟨(by kernel_rfl), fun wq hq => (x_strne (by kernel_rfl) (by kernel_rfl))⟩) ?_
          refine r_take 23 (.bool (!decide (((lget a i14).Line : ByteArray) = (lget b i14).Line))) (RB.pre _ _) rfl (by kernel_rfl) (fun _ _ _ h => hQ.panic _ _ _ _ _ h) (.inl ⟨rfl, fun wq hq => (by kernel_rfl)⟩) ?_
          refine r_done (by kernel_rfl) ?_
          refine then_normal (hJ234 _ _ _ ⟨[(40, (.bool (!decide (((lget a i14).Line : ByteArray) = (lget b i14).Line))))], fit_mk (fun _ _ => rfl) (by kernel_rfl) (vs_cons (by kernel_rfl) vs_nil), ?_⟩)
          exact ⟨X157, (!decide (((lget a i14).Line : ByteArray) = (lget b i14).Line)), rfl, E247, hXo248, hS249, ha250, hb251, hp⟩
        ·
          replace hp := hp.2 h274
          refine r_take 10 (.bool true) (RB.pre _ _) rfl (by kernel_rfl) (fun _ _ _ h => hQ.panic _ _ _ _ _ h) (.inl ⟨rfl, fun wq hq => (x_ndt (p := ((lget a i14).Op) = ((lget b i14).Op)) (by kernel_rfl) h274)⟩) ?_
          refine r_take 11 (.bool true) (RB.pre _ _) rfl (by kernel_rfl) (fun _ _ _ h => hQ.panic _ _ _ _ _ h) (.inl ⟨rfl, fun wq hq => (by kernel_rfl)⟩) ?_
          refine r_take 12 undef (RB.pre _ _) rfl (by kernel_rfl) (fun _ _ _ h => hQ.panic _ _ _ _ _ h) (.inr ⟨by kernel_rfl, rfl⟩) ?_
          refine r_take 13 undef (RB.pre _ _) rfl (by kernel_rfl) (fun _ _ _ h => hQ.panic _ _ _ _ _ h) (.inr ⟨by kernel_rfl, rfl⟩) ?_
          refine r_take 14 undef (RB.pre _ _) rfl (by kernel_rfl) (fun _ _ _ h => hQ.panic _ _ _ _ _ h) (.inr ⟨by kernel_rfl, rfl⟩) ?_
          refine r_take 15 undef (RB.pre _ _) rfl (by kernel_rfl) (fun _ _ _ h => hQ.panic _ _ _ _ _ h) (.inr ⟨by kernel_rfl, rfl⟩) ?_
          refine r_take 16 undef (RB.pre _ _) rfl (by kernel_rfl) (fun _ _ _ h => hQ.panic _ _ _ _ _ h) (.inr ⟨by kernel_rfl, rfl⟩) ?_
          refine r_take 17 undef (RB.pre _ _) rfl (by kernel_rfl) (fun _ _ _ h => hQ.panic _ _ _ _ _ h) (.inr ⟨by kernel_rfl, rfl⟩) ?_
          refine r_take 18 undef (RB.pre _ _) rfl (by kernel_rfl) (fun _ _ _ h => hQ.panic _ _ _ _ _ h) (.inr ⟨by kernel_rfl, rfl⟩) ?_
          refine r_take 19 undef (RB.pre _ _) rfl (by kernel_rfl) (fun _ _ _ h => hQ.panic _ _ _ _ _ h) (.inr ⟨by kernel_rfl, rfl⟩) ?_
          refine r_take 20 undef (RB.pre _ _) rfl (by kernel_rfl) (fun _ _ _ h => hQ.panic _ _ _ _ _ h) (.inr ⟨by kernel_rfl, rfl⟩) ?_
          refine r_take 21 undef (RB.pre _ _) rfl (by kernel_rfl) (fun _ _ _ h => hQ.panic _ _ _ _ _ h) (.inr ⟨by kernel_rfl, rfl⟩) ?_
          refine r_take 22 undef (RB.pre _ _) rfl (by kernel_rfl) (fun _ _ _ h => hQ.panic _ _ _ _ _ h) (.inr ⟨by kernel_rfl, rfl⟩) ?_
          refine r_take 23 (.bool true) (RB.pre _ _) rfl (by kernel_rfl) (fun _ _ _ h => hQ.panic _ _ _ _ _ h) (.inl ⟨rfl, fun wq hq => (by kernel_rfl)⟩) ?_
          refine r_done (by kernel_rfl) ?_
          refine then_normal (hJ234 _ _ _ ⟨[(40, (.bool true))], fit_mk (fun _ _ => rfl) (by kernel_rfl) (vs_cons (by kernel_rfl) vs_nil), ?_⟩)
          exact ⟨X157, true, rfl, E247, hXo248, hS249, ha250, hb251, hp⟩
      ·
        rintro _ w231 g297 ⟨X232, s228, rfl, E236, hXo237, hS238, ha239, hb240, hv235⟩
        replace hp := hk230 s228 hv235
        refine then_normal (K171 _ _ _ _ ?_)
        refine cond_b s228 (by kernel_rfl) (fun h298 => ?_) (fun h298 => ?_)
        ·
          replace hp := hp.1 h298
          refine seq_ (fun _ K299 => ?_)
          refine reg_ ?_
          refine sq (o_pv (.bool false) rfl (by kernel_rfl) ?_)
          refine nil_ ?_
          refine then_normal (K299 _ _ _ _ ?_)
          refine wp_ret ?_
          refine blk_ret ?_
          refine then_ret ?_
          refine then_ret ?_
          refine blk_ret ?_
          refine then_ret ?_
          refine end_ret hQ (.bool false) (by kernel_rfl) ?_
          exact ⟨false, hp, E236, rfl⟩
        ·
          replace hp := hp.2 h298
          refine wp_skip ?_
          refine blk_normal ?_
          refine then_normal (K170 _ _ _ _ ?_)
          refine reg_ ?_
          refine sq (o_pv (.int .i64 i14) rfl (by kernel_rfl) ?_)
          obtain ⟨h300, hp⟩ := hp
          refine sq (o_pv (.int .i64 (i14 + (1 : Int))) rfl (x_add2 (k := .i64) (a := i14) (b := (1 : Int)) (i14 + (1 : Int)) (by kernel_rfl) (by kernel_rfl) (wrap_inR h300)) ?_)
          refine sq (o_pv (.int .i64 (i14 + (1 : Int))) rfl (by kernel_rfl) ?_)
          refine nil_ ?_
          refine then_normal (hA161 _ _ _ ⟨_, [(5, (.int .i64 (i14 + (1 : Int))))], hp.2, fit_mk (AgB.nest (AgB.look (AgB.mix _ _ _) (by kernel_rfl)) (by kernel_rfl) (by kernel_rfl)) (by kernel_rfl) (vs_cons (by kernel_rfl) vs_nil), ?_⟩)
          exact ⟨X232, (i14 + (1 : Int)), rfl, rfl, E236, hXo237, hS238, ha239, hb240, h300, hp.1⟩
    ·
      replace hp := hp.2 h169
      refine wp_exit ?_
      refine then_exit ?_
      refine then_exit ?_
      refine blk_exit ?_
      refine then_normal (K12 _ _ _ _ ?_)
      refine seq_ (fun _ K301 => ?_)
      refine reg_ ?_
      refine sq (o_pv (.bool true) rfl (by kernel_rfl) ?_)
      refine nil_ ?_
      refine then_normal (K301 _ _ _ _ ?_)
      refine wp_ret ?_
      refine end_ret hQ (.bool true) (by kernel_rfl) ?_
      exact ⟨true, hp, E162, rfl⟩

end Go.Proofs.YtnnbnljofklieaaDoor
