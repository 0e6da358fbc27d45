/- The plain law of PatchAny. -/
import Derived.Test.YtnnbnljofklieaaDoorPqI
namespace Go.Proofs.YtnnbnljofklieaaDoor
open Go
/-! pieces that are there are done -/
def dLn (l : List S_diff_Edit) : List ByteArray := (l.filter fun e => !decide (e.Op = 3)).map S_diff_Edit.Line
def aLn (l : List S_diff_Edit) : List ByteArray := (l.filter fun e => !decide (e.Op = 2)).map S_diff_Edit.Line
theorem dLn_len (l : List S_diff_Edit) : (dLn l).length = dels l := List.length_map _
theorem aLn_len (l : List S_diff_Edit) : (aLn l).length = adds l := List.length_map _
theorem dLn_app (a b : List S_diff_Edit) : dLn (a ++ b) = dLn a ++ dLn b := by unfold dLn; rw [List.filter_append, List.map_append]
theorem aLn_app (a b : List S_diff_Edit) : aLn (a ++ b) = aLn a ++ aLn b := by unfold aLn; rw [List.filter_append, List.map_append]
theorem dels_app (a b : List S_diff_Edit) : dels (a ++ b) = dels a + dels b := by unfold dels; rw [List.filter_append, List.length_append]
theorem adds_app (a b : List S_diff_Edit) : adds (a ++ b) = adds a + adds b := by unfold adds; rw [List.filter_append, List.length_append]
theorem okB_app (a b : List S_diff_Edit) : okB (a ++ b) = (okB a && okB b) := List.all_append
theorem dLn_cons (e : S_diff_Edit) (r : List S_diff_Edit) : dLn (e :: r) = if e.Op = 3 then dLn r else e.Line :: dLn r := by
  unfold dLn
  by_cases h : e.Op = 3
  · rw [if_pos h, List.filter_cons_of_neg (by simp [h])]
  · rw [if_neg h, List.filter_cons_of_pos (by simp [h])]; rfl
theorem fitsB_of (a : List ByteArray) : ∀ (l : List S_diff_Edit) (i : Nat) (r : List ByteArray), a.drop i = dLn l ++ r → fitsB a (i : Int) l = true := by
  intro l
  induction l with
  | nil => intro i r _; rfl
  | cons e l ih =>
    intro i r h
    rw [dLn_cons] at h
    rw [fitsB]
    by_cases h3 : e.Op = 3
    · rw [if_pos h3] at h ⊢; exact ih i r h
    · rw [if_neg h3] at h ⊢
      have hi : i < a.length := by
        have := congrArg List.length h
        rw [List.length_drop] at this
        simp at this; omega
      rw [List.drop_eq_getElem_cons hi, List.cons_append] at h
      injection h with h1 h2
      rw [lget_lt hi, decide_eq_true h1, Bool.true_and]
      exact ih (i + 1) r h2
def Fits : List ByteArray → List ByteArray → Nat → Nat → List S_patch_Hunk → Prop
  | A, B, _, _, [] => A = B
  | A, B, i, j, h :: H => ∃ p A' B', A = p ++ dLn h.Lines ++ A' ∧ B = p ++ aLn h.Lines ++ B' ∧ h.At = ((i + p.length : Nat) : Int) ∧ h.To = ((j + p.length : Nat) : Int) ∧ okB h.Lines = true ∧ h.Del = (dels h.Lines : Int) ∧ h.Add = (adds h.Lines : Int) ∧ Fits A' B' (i + p.length + dels h.Lines) (j + p.length + adds h.Lines) H
theorem apl_fits (a : List ByteArray) : ∀ (H : List S_patch_Hunk) (A B : List ByteArray) (i j k : Nat) (out : List ByteArray), a.drop i = A → out.length = j → i ≤ a.length → Fits A B i j H → apl a H k out (i : Int) = (out ++ B, none) := by
  intro H
  induction H with
  | nil =>
    intro A B i j k out hA _ _ hf
    have hf : A = B := hf
    rw [apl, Int.toNat_natCast, hA, hf]
  | cons h H ih =>
    rintro A B i j k out hA hj hi ⟨p, A', B', e1, e2, e3, e4, e5, e6, e7, hf⟩
    have hl1 := congrArg List.length e1
    have hl2 := congrArg List.length hA
    rw [List.length_drop] at hl2
    rw [List.length_append, List.length_append, dLn_len] at hl1
    have hd : a.drop (i + p.length) = dLn h.Lines ++ A' := by rw [← List.drop_drop, hA, e1, List.append_assoc, List.drop_left]
    have hform : formC h (i : Int) ((out.length : Int) - (i : Int)) = 0 := by
      unfold formC
      rw [if_neg (by rw [e5]; decide), if_neg (by rw [e3, e4, e6, e7]; omega)]
    have hfit : fitsC a h = 0 := by
      unfold fitsC
      rw [if_neg (by rw [e3, e6]; omega), if_pos]
      rw [e3]; exact fitsB_of a h.Lines _ A' hd
    have hc : codeC a h (i : Int) ((out.length : Int) - (i : Int)) = 0 := by unfold codeC; rw [if_pos hform]; exact hfit
    have hmid : (a.take h.At.toNat).drop i = p := by
      rw [e3, Int.toNat_natCast, List.drop_take, hA, e1, Nat.add_sub_cancel_left, List.append_assoc, List.take_left]
    rw [apl, if_pos hc, Int.toNat_natCast, hmid, e3, e6, show ((i + p.length : Nat) : Int) + (dels h.Lines : Int) = ((i + p.length + dels h.Lines : Nat) : Int) from rfl]
    have had : adL h = aLn h.Lines := rfl
    rw [had, ih A' B' (i + p.length + dels h.Lines) (j + p.length + adds h.Lines) (k + 1) _ ?_ ?_ ?_ hf, e2]
    · simp only [List.append_assoc]
    · rw [← List.drop_drop, hd, ← dLn_len, List.drop_left]
    · rw [List.length_append, List.length_append, aLn_len, hj]
    · omega
/-! turned -/
theorem tst_lines {l : List S_diff_Edit} (ho : okB l = true) : ∀ k, k ≤ l.length → dLn (tst l k).1 = aLn (l.take k) ∧ dLn (tst l k).2 = [] ∧ aLn (tst l k).1 ++ aLn (tst l k).2 = dLn (l.take k) ∧ okB (tst l k).1 = true ∧ okB (tst l k).2 = true := by
  intro k
  induction k with
  | zero => intro _; exact ⟨rfl, rfl, rfl, rfl, rfl⟩
  | succ k ih =>
    intro hk
    obtain ⟨h1, h2, h3, h4, h5⟩ := ih (by omega)
    have hkl : k < l.length := by omega
    rw [take_lget hkl, aLn_app, dLn_app]
    have sd : ∀ e : S_diff_Edit, dLn [e] = if e.Op = 3 then [] else [e.Line] := fun e => by rw [dLn_cons]; rfl
    have sa : ∀ e : S_diff_Edit, aLn [e] = if e.Op = 2 then [] else [e.Line] := fun e => by
      unfold aLn; by_cases h : e.Op = 2 <;> simp [h]
    have so : ∀ e : S_diff_Edit, okB [e] = opOk e := fun e => by unfold okB; simp
    rcases okB_op ho hkl with e | e | e
    · rw [tst_1 e]; dsimp only
      refine ⟨?_, rfl, ?_, ?_, rfl⟩
      · rw [dLn_app, dLn_app, h1, h2, sd, sa]; simp [e]
      · rw [aLn_app, aLn_app, h3, sa, sd]; simp [e, aLn]
      · rw [okB_app, okB_app, h4, h5, so]; unfold opOk; simp [e]
    · rw [tst_2 e]; dsimp only
      refine ⟨?_, ?_, ?_, h4, ?_⟩
      · rw [h1, sa, if_pos e, List.append_nil]
      · rw [dLn_app, h2, sd]; rfl
      · rw [aLn_app, ← List.append_assoc, h3, sa, sd]; simp [e]
      · rw [okB_app, h5, so]; rfl
    · rw [tst_3 e]; dsimp only
      refine ⟨?_, h2, ?_, ?_, h5⟩
      · rw [dLn_app, h1, sd, sa]; simp [e]
      · rw [aLn_app, sa, if_pos rfl, List.append_nil, h3, sd, if_pos e, List.append_nil]
      · rw [okB_app, h4, so]; rfl
theorem turnL_lines {l : List S_diff_Edit} (ho : okB l = true) : dLn (turnL l) = aLn l ∧ aLn (turnL l) = dLn l ∧ okB (turnL l) = true := by
  obtain ⟨h1, h2, h3, h4, h5⟩ := tst_lines ho l.length (Nat.le_refl _)
  rw [List.take_length] at h1 h3
  unfold turnL
  rw [dLn_app, aLn_app, okB_app, h1, h2, h3, h4, h5]
  exact ⟨by simp, rfl, rfl⟩
theorem Fits.turn : ∀ (H : List S_patch_Hunk) (A B : List ByteArray) (i j : Nat), Fits A B i j H → Fits B A j i (H.map turnH) := by
  intro H
  induction H with
  | nil => intro A B i j h; exact Eq.symm h
  | cons h H ih =>
    rintro A B i j ⟨p, A', B', e1, e2, e3, e4, e5, e6, e7, hf⟩
    obtain ⟨t1, t2, t3⟩ := turnL_lines e5
    have d1 : dels (turnL h.Lines) = adds h.Lines := by rw [← dLn_len, t1, aLn_len]
    have d2 : adds (turnL h.Lines) = dels h.Lines := by rw [← aLn_len, t2, dLn_len]
    refine ⟨p, B', A', ?_, ?_, e4, e3, t3, ?_, ?_, ?_⟩
    · show B = p ++ dLn (turnL h.Lines) ++ B'; rw [t1]; exact e2
    · show A = p ++ aLn (turnL h.Lines) ++ A'; rw [t2]; exact e1
    · show h.Add = (dels (turnL h.Lines) : Int); rw [d1]; exact e7
    · show h.Del = (adds (turnL h.Lines) : Int); rw [d2]; exact e6
    · show Fits B' A' (j + p.length + dels (turnL h.Lines)) (i + p.length + adds (turnL h.Lines)) (H.map turnH)
      rw [d1, d2]; exact ih A' B' _ _ hf
/-! the pieces cut out are there -/
theorem keep_lines {l : List S_diff_Edit} (h : ∀ e ∈ l, e.Op = 1) : dLn l = aLn l ∧ dels l = l.length ∧ adds l = l.length := by
  have h1 : (l.filter fun e => !decide (e.Op = 3)) = l := List.filter_eq_self.2 fun e he => by rw [h e he]; rfl
  have h2 : (l.filter fun e => !decide (e.Op = 2)) = l := List.filter_eq_self.2 fun e he => by rw [h e he]; rfl
  unfold dLn aLn dels adds; rw [h1, h2]; exact ⟨rfl, rfl, rfl⟩
theorem seg_keep {M : List S_diff_Edit} {r lo f : Nat} (h : ∀ k, lo ≤ k → k < f → ¬ mkd M r M.length k) : ∀ e ∈ (M.take f).drop lo, e.Op = 1 := by
  intro e he
  obtain ⟨q, hq, rfl⟩ := List.mem_iff_getElem.1 he
  rw [List.length_drop, List.length_take] at hq
  have hk : lo + q < M.length := by omega
  rw [List.getElem_drop, List.getElem_take]
  by_cases h1 : (M[lo + q]).Op = 1
  · exact h1
  · exact absurd ⟨hk, lo + q, hk, hk, by rw [lget_lt hk]; exact h1, by omega, by omega⟩ (h (lo + q) (by omega) (by omega))
theorem take_seg (M : List S_diff_Edit) {lo f : Nat} (h : lo ≤ f) : M.take f = M.take lo ++ (M.take f).drop lo := by
  have := (List.take_append_drop lo (M.take f)).symm
  rwa [List.take_take, Nat.min_eq_left h] at this
theorem drop_seg (M : List S_diff_Edit) {lo f : Nat} (h : lo ≤ f) : M.drop lo = (M.take f).drop lo ++ M.drop f := by
  have := congrArg (List.drop lo) (List.take_append_drop f M).symm
  rcases Nat.lt_or_ge lo M.length with g | g
  · rwa [List.drop_append_of_le_length (by rw [List.length_take]; omega)] at this
  · rw [List.drop_of_length_le g, List.drop_of_length_le (by rw [List.length_take]; omega), List.drop_of_length_le (by omega)]; rfl
theorem seg_fits {M : List S_diff_Edit} {r : Nat} (ho : okB M = true) : ∀ (R : List (Nat × Nat)) (lo : Nat), Seg (mkd M r M.length) M.length lo R → Fits (dLn (M.drop lo)) (aLn (M.drop lo)) (dels (M.take lo)) (adds (M.take lo)) (R.map (hC M)) := by
  intro R
  induction R with
  | nil =>
    rintro lo ⟨_, h⟩
    have hk := seg_keep (f := M.length) h
    rw [List.take_length] at hk
    exact (keep_lines hk).1
  | cons x R ih =>
    obtain ⟨f, t⟩ := x
    rintro lo ⟨h1, h2, h3, h4, h5⟩
    obtain ⟨k1, k2, k3⟩ := keep_lines (seg_keep h4)
    have hf := ih t h5
    have e1 := take_seg M h1
    have e2 := take_seg M (Nat.le_of_lt h2)
    have d1 : M.drop lo = (M.take f).drop lo ++ ((M.take t).drop f ++ M.drop t) := by rw [← drop_seg M (Nat.le_of_lt h2), ← drop_seg M h1]
    have n1 : dels (M.take f) = dels (M.take lo) + dels ((M.take f).drop lo) := by rw [← dels_app, ← e1]
    have n2 : adds (M.take f) = adds (M.take lo) + adds ((M.take f).drop lo) := by rw [← adds_app, ← e1]
    have n3 : dels (M.take t) = dels (M.take f) + dels ((M.take t).drop f) := by rw [← dels_app, ← e2]
    have n4 : adds (M.take t) = adds (M.take f) + adds ((M.take t).drop f) := by rw [← adds_app, ← e2]
    have pl : (dLn ((M.take f).drop lo)).length = dels ((M.take f).drop lo) := dLn_len _
    rw [List.map_cons, show hC M (f, t) = hunkC M (f : Int) (t : Int) from rfl, hunkC_eq ho]
    refine ⟨dLn ((M.take f).drop lo), dLn (M.drop t), aLn (M.drop t), ?_, ?_, ?_, ?_, okB_drop (okB_take ho t) f, rfl, rfl, ?_⟩
    · rw [d1, dLn_app, dLn_app, List.append_assoc]
    · rw [k1, d1, aLn_app, aLn_app, List.append_assoc]
    · show (dels (M.take f) : Int) = _; rw [pl, n1]
    · show (adds (M.take f) : Int) = _; rw [pl, n2, k2, k3]
    · show Fits _ _ (dels (M.take lo) + (dLn ((M.take f).drop lo)).length + dels ((M.take t).drop f)) (adds (M.take lo) + (dLn ((M.take f).drop lo)).length + adds ((M.take t).drop f)) _
      rw [pl, ← n1, ← n3, k2, ← k3, ← n2, ← n4]; exact hf
/-! how small all is -/
theorem Few_p2 {a b : List ByteArray} {Q : Bool → Prop} (h1 : (∀ k : Nat, k < a.length → (lget a (k : Int)).size ≤ 300) → (∀ k : Nat, k < b.length → (lget b (k : Int)).size ≤ 300) → Q true) (h2 : Q false) : rectolaw11_Few_p a b Q := by
  unfold rectolaw11_Few_p; simp only [inR_i64]; intro _ _
  refine ⟨⟨fun _ => trivial, fun _ => ⟨fun _ => trivial, fun _ => ⟨fun ha => ⟨fun hb => ⟨?_, trivial⟩, fun _ => trivial⟩, fun _ => trivial⟩⟩⟩, fun _ => h2, fun _ => ?_⟩
  · have : (a.length : Int) * (b.length : Int) ≤ 256 * 256 := Int.mul_le_mul ha hb (by omega) (by omega)
    have h0 : 0 ≤ (a.length : Int) * (b.length : Int) := Int.mul_nonneg (by omega) (by omega)
    omega
  refine ⟨fun i => ∃ k : Nat, i = k ∧ k ≤ a.length ∧ ∀ q : Nat, q < k → (lget a (q : Int)).size ≤ 300, fun i => a.length - i.toNat, ⟨0, rfl, Nat.zero_le _, fun q hq => by omega⟩, ?_⟩
  rintro _ ⟨k, rfl, hk, hs⟩ _
  refine ⟨fun hlt => ⟨inL_nat.2 (by omega), fun _ => ⟨fun _ => h2, fun hn => ⟨⟨by omega, by omega⟩, ⟨k + 1, rfl, by omega, fun q hq => ?_⟩, by dsimp only; omega⟩⟩⟩, fun hge => ?_⟩
  · rcases Nat.lt_or_ge q k with g | g
    · exact hs q g
    · rw [show q = k by omega]; omega
  refine ⟨fun i => ∃ k : Nat, i = k ∧ k ≤ b.length ∧ ∀ q : Nat, q < k → (lget b (q : Int)).size ≤ 300, fun i => b.length - i.toNat, ⟨0, rfl, Nat.zero_le _, fun q hq => by omega⟩, ?_⟩
  rintro _ ⟨k2, rfl, hk2, hs2⟩ _
  refine ⟨fun hlt => ⟨inL_nat.2 (by omega), fun _ => ⟨fun _ => h2, fun hn => ⟨⟨by omega, by omega⟩, ⟨k2 + 1, rfl, by omega, fun q hq => ?_⟩, by dsimp only; omega⟩⟩⟩, fun hge2 => h1 (fun q hq => hs q (by omega)) (fun q hq => hs2 q (by omega))⟩
  rcases Nat.lt_or_ge q k2 with g | g
  · exact hs2 q g
  · rw [show q = k2 by omega]; omega
theorem few_p2 {a b : List ByteArray} {Q : Bool → Prop} (h1 : a.length ≤ 50 → b.length ≤ 50 → (∀ x ∈ a, x.size ≤ 300) → (∀ x ∈ b, x.size ≤ 300) → Q true) (h2 : Q false) : rectolaw12_few_p a b Q := by
  have mem : ∀ l : List ByteArray, (∀ k : Nat, k < l.length → (lget l (k : Int)).size ≤ 300) → ∀ x ∈ l, x.size ≤ 300 := fun l h x hx => by
    obtain ⟨q, hq, rfl⟩ := List.mem_iff_getElem.1 hx
    have := h q hq; rwa [lget_lt hq] at this
  unfold rectolaw12_few_p; intro _ _
  refine ⟨fun r => (r = true → a.length ≤ 50 ∧ b.length ≤ 50 ∧ (∀ x ∈ a, x.size ≤ 300) ∧ (∀ x ∈ b, x.size ≤ 300)), ?_, fun ha => ⟨fun hb => Few_p2 (fun g1 g2 _ => ⟨by omega, by omega, mem a g1, mem b g2⟩) (fun hx => (by cases hx)), fun _ hx => (by cases hx)⟩, fun _ hx => (by cases hx)⟩
  intro r hr
  cases r with
  | true => obtain ⟨g1, g2, g3, g4⟩ := hr rfl; exact h1 g1 g2 g3 g4
  | false => exact h2
def toE (e : PEd) : S_diff_Edit := ⟨e.op, e.line⟩
theorem To_p {L : List PEd} {Q : List S_diff_Edit → Prop} (hl : L.length ≤ 1000000) (h : Q (L.map toE)) : rectolaw11_To_p (L.map toR) Q := by
  unfold rectolaw11_To_p; simp only [inR_i64]; intro _
  have hlen : (L.map toR).length = L.length := List.length_map ..
  refine ⟨fun o i => ∃ k : Nat, i = k ∧ k ≤ L.length ∧ o = (L.take k).map toE, fun _ i => (L.length - i).toNat, ⟨0, rfl, by omega, rfl⟩, ?_⟩
  rintro _ _ ⟨k, rfl, hk, rfl⟩ _ _
  refine ⟨fun hlt => ?_, fun hge => ?_⟩
  · have hkl : k < L.length := by rw [hlen] at hlt; omega
    have hin : inL (L.map toR) (k : Int) := inL_nat.2 (by omega)
    rw [lget_map toR hkl]
    refine ⟨hin, fun _ _ => ⟨hin, fun _ _ => ⟨?_, by omega, ⟨k + 1, rfl, hkl, ?_⟩, by dsimp only; omega⟩⟩⟩
    · rw [List.length_map, List.length_take]; show (_ + 1) * 24 ≤ _; omega
    · rw [List.take_succ_eq_append_getElem hkl, List.map_append]; rfl
  · rw [List.take_of_length_le (by rw [hlen] at hge; omega)]; exact h
theorem rEqual_p {a b : List ByteArray} {Q : Bool → Prop} (h : Q (decide (a = b))) : rectoref11_Equal_p a b Q := by
  unfold rectoref11_Equal_p; simp only [inR_i64]; intro _ _
  refine ⟨fun hn => ?_, fun hl => ?_⟩
  · rw [decide_eq_false (by rintro rfl; exact hn rfl)] at h; exact h
  refine ⟨fun i => ∃ k : Nat, i = k ∧ k ≤ a.length ∧ a.take k = b.take k, fun i => a.length - i.toNat, ⟨0, rfl, Nat.zero_le _, rfl⟩, ?_⟩
  rintro _ ⟨k, rfl, hk, hab⟩ _
  refine ⟨fun hlt => ?_, fun hge => ?_⟩
  · have hka : k < a.length := by omega
    have hkb : k < b.length := by omega
    refine ⟨inL_nat.2 hka, fun _ => ⟨inL_nat.2 hkb, fun _ => ⟨fun hne => ?_, fun heq => ⟨⟨by omega, by omega⟩, ⟨k + 1, rfl, hka, by rw [take_lget hka, take_lget hkb, hab, heq]⟩, by dsimp only; omega⟩⟩⟩⟩
    rw [decide_eq_false (by rintro rfl; exact hne rfl)] at h; exact h
  · rw [List.take_of_length_le (by omega), List.take_of_length_le (by omega)] at hab
    rw [decide_eq_true hab] at h; exact h
theorem ed_dLn (a b : List ByteArray) : dLn ((ed a b).map toE) = a := by
  have h := ed_notAdd a b
  unfold notAdd at h
  unfold dLn
  rw [List.filter_map, List.map_map]
  refine Eq.trans ?_ h
  congr 1
  refine List.filter_congr fun e _ => ?_
  show (!decide (e.op = 3)) = decide (e.op ≠ 3)
  by_cases g : e.op = 3 <;> simp [g]
theorem ed_aLn (a b : List ByteArray) : aLn ((ed a b).map toE) = b := by
  have h := ed_notDel a b
  unfold notDel at h
  unfold aLn
  rw [List.filter_map, List.map_map]
  refine Eq.trans ?_ h
  congr 1
  refine List.filter_congr fun e _ => ?_
  show (!decide (e.op = 2)) = decide (e.op ≠ 2)
  by_cases g : e.op = 2 <;> simp [g]
theorem mem_lines {M : List S_diff_Edit} (ho : okB M = true) {e : S_diff_Edit} (he : e ∈ M) : e.Line ∈ dLn M ∨ e.Line ∈ aLn M := by
  unfold dLn aLn
  by_cases h : e.Op = 3
  · exact .inr (List.mem_map.2 ⟨e, List.mem_filter.2 ⟨he, by rw [h]; rfl⟩, rfl⟩)
  · exact .inl (List.mem_map.2 ⟨e, List.mem_filter.2 ⟨he, by simp [h]⟩, rfl⟩)
theorem PatchAny_p {a b : List ByteArray} {around : Int} {Q : Bool → Prop} (h : Q true) : rectolaw12_PatchAny_p a b around Q := by
  unfold rectolaw12_PatchAny_p; intro _ _ _
  refine known12_p ⟨fun hx => (by cases hx), fun _ => few_p2 (fun ha hb sa sb => ⟨fun hx => (by cases hx), fun _ => ?_⟩) ⟨fun _ => h, fun hx => (by cases hx)⟩⟩
  have he := ed_len a b
  obtain ⟨r, hr⟩ : ∃ r : Nat, min (max around (0 : Int)) (16 : Int) = (r : Int) := ⟨(min (max around (0 : Int)) (16 : Int)).toNat, by omega⟩
  have hr16 : r ≤ 16 := by omega
  have hlen : ((ed a b).map toE).length = (ed a b).length := List.length_map _
  have hml : ((ed a b).map toE).length ≤ 100 := by omega
  have ho : okB ((ed a b).map toE) = true := by
    unfold okB; rw [List.all_eq_true]
    intro x hx
    obtain ⟨e, he, rfl⟩ := List.mem_map.1 hx
    unfold opOk toE
    rcases ed_ops a b e he with g | g | g <;> simp [g]
  have hre : (ed a b).map toR = ((ed a b).map toE).map toRE := by rw [List.map_map]; rfl
  have hdl := ed_dLn a b
  have hal := ed_aLn a b
  have hsz : ∀ e ∈ (ed a b).map toE, e.Line.size ≤ 300 := fun e he => by
    rcases mem_lines ho he with g | g
    · rw [hdl] at g; exact sa _ g
    · rw [hal] at g; exact sb _ g
  refine rLines_p (fun hx => absurd hx (by omega)) (fun _ hx => absurd hx (by omega)) (fun _ _ _ _ _ => To_p (by omega) (fun _ => ?_))
  rw [hre]
  generalize (ed a b).map toE = M at *
  refine pHunks_p hr hr16 (by omega) (fun R hR hRl _ => rHunks_p hr hr16 ho (by omega) (fun R' hR' _ => ?_))
  obtain rfl : R = R' := hR.uniq hR'
  rw [show (R.reverse.map fun p => toRH (hC M p)) = (R.reverse.map (hC M)).map toRH by rw [List.map_map]; rfl]
  have hseg := RevR.seg (n := M.length) (S := []) hR (Nat.le_refl _) ⟨Nat.le_refl _, fun k x y => by omega⟩
  rw [List.append_nil] at hseg
  have hfit := seg_fits ho _ 0 hseg
  rw [List.drop_zero, hdl, hal] at hfit
  have hHl : (R.reverse.map (hC M)).length ≤ 1000 := by rw [List.length_map, List.length_reverse]; omega
  have hx : ∀ x ∈ R.reverse.map (hC M), (x.Lines.length ≤ 100 ∧ okB x.Lines = true ∧ (0 ≤ x.At ∧ x.At ≤ 100) ∧ (0 ≤ x.To ∧ x.To ≤ 100)) ∧ ∀ e ∈ x.Lines, e.Line.size ≤ 300 := by
    intro x hx
    obtain ⟨⟨f, t⟩, _, rfl⟩ := List.mem_map.1 hx
    rw [show hC M (f, t) = hunkC M (f : Int) (t : Int) from rfl, hunkC_eq ho]
    have g1 := dels_le (M.take f)
    have g2 := adds_le (M.take f)
    have g3 : (M.take f).length ≤ M.length := by rw [List.length_take]; omega
    have g4 : ((M.take t).drop f).length ≤ M.length := by rw [List.length_drop, List.length_take]; omega
    refine ⟨⟨by dsimp only; omega, okB_drop (okB_take ho t) f, ⟨by dsimp only; omega, by dsimp only; omega⟩, ⟨by dsimp only; omega, by dsimp only; omega⟩⟩, fun e he => hsz e (List.mem_of_mem_take (List.mem_of_mem_drop he))⟩
  generalize R.reverse.map (hC M) = H at *
  have hsm : smallH H := ⟨hHl, fun k hk => by
    obtain ⟨⟨g1, _, g2, g3⟩, _⟩ := hx _ (lget_mem (inL_nat.2 hk))
    exact ⟨by omega, ⟨by omega, by omega⟩, ⟨by omega, by omega⟩⟩⟩
  have hsm2 : smallH (H.map turnH) := ⟨by rw [List.length_map]; exact hHl, fun k hk => by
    have hk : k < H.length := by rwa [List.length_map] at hk
    obtain ⟨⟨g1, _, g2, g3⟩, _⟩ := hx _ (lget_mem (inL_nat.2 hk))
    rw [lgetM turnH hk]
    refine ⟨?_, ⟨?_, ?_⟩, ⟨?_, ?_⟩⟩
    · show (turnL _).length ≤ _; rw [turnL_len]; omega
    · show _ ≤ (lget H (k : Int)).To; omega
    · show (lget H (k : Int)).To ≤ _; omega
    · show _ ≤ (lget H (k : Int)).At; omega
    · show (lget H (k : Int)).At ≤ _; omega⟩
  have hokT : okT H := ⟨hHl, fun k hk => by
    obtain ⟨⟨g1, _⟩, g2⟩ := hx _ (lget_mem (inL_nat.2 hk))
    exact ⟨by omega, fun j hj => g2 _ (lget_mem (inL_nat.2 hj))⟩⟩
  have hap1 : apl a H 0 [] 0 = (b, none) := apl_fits a H a b 0 0 0 [] rfl rfl (Nat.zero_le _) hfit
  have hap2 : apl b (H.map turnH) 0 [] 0 = (a, none) := apl_fits b (H.map turnH) b a 0 0 0 [] rfl rfl (Nat.zero_le _) (Fits.turn H a b 0 0 hfit)
  have hll : ∀ x ∈ H, x.Lines.length ≤ 1000 := fun x hm => by have := (hx x hm).1.1; omega
  refine ⟨fun s => s = false, ?_, ?_⟩
  · rintro _ rfl
    refine ⟨fun hx => (by cases hx), fun _ => Apply_p (by omega) hsm (fun _ => pTurned_p hHl hll (fun _ => Apply_p (by omega) hsm2 (fun _ => ⟨fun s => s = true, by rintro _ rfl; exact h, ?_⟩)))⟩
    rw [hap1, hap2]
    exact ⟨fun _ => ⟨fun _ => rEqual_p ⟨fun _ => rEqual_p (decide_eq_true rfl), fun hx => absurd hx (by rw [decide_eq_true rfl]; decide)⟩, fun hx => absurd rfl hx⟩, fun hx => absurd rfl hx⟩
  · refine same_p (by omega) (fun x hm => by have := hll x hm; omega) ⟨fun _ => Text_p hokT (fun _ => rText_p hokT (fun _ => ⟨fun _ => pTurned_p hHl hll (fun _ => rTurned_p hHl (fun x hm => ⟨hll x hm, (hx x hm).1.2.1⟩) (fun _ => ?_)), fun hx => absurd rfl hx⟩)), fun hx => (by cases hx)⟩
    refine same_p (by rw [List.length_map]; omega) (fun x hm => ?_) rfl
    obtain ⟨y, hy, rfl⟩ := List.mem_map.1 hm
    show (turnL y.Lines).length ≤ _
    rw [turnL_len]; have := hll y hy; omega
end Go.Proofs.YtnnbnljofklieaaDoor
