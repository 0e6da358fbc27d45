/- Plain laws of chapter 12: pieces held against each other, in words, turned. -/
import Derived.Test.YtnnbnljofklieaaDoorPqH
namespace Go.Proofs.YtnnbnljofklieaaDoor
open Go
theorem Edits_p {l : List S_diff_Edit} {Q : Bool → Prop} (hl : l.length ≤ 1000000) (h : Q true) : rectolaw11_Edits_p l (l.map toRE) Q := by
  have hlen : (l.map toRE).length = l.length := List.length_map _
  unfold rectolaw11_Edits_p; simp only [inR_i64]; rw [hlen]; intro _ _
  refine ⟨fun hx => absurd rfl hx, fun _ => ⟨fun i => ∃ k : Nat, i = k ∧ k ≤ l.length, fun i => l.length - i.toNat, ⟨0, rfl, Nat.zero_le _⟩, ?_⟩⟩
  rintro _ ⟨k, rfl, hk⟩ _
  refine ⟨fun hlt => ?_, fun _ => h⟩
  have hkl : k < l.length := by omega
  have hin1 : inL l (k : Int) := inL_nat.2 hkl
  have hin2 : inL (l.map toRE) (k : Int) := inL_nat.2 (by rw [hlen]; exact hkl)
  rw [lgetM toRE hkl]
  refine ⟨fun b => b = false, ?_, hin1, fun _ _ => ⟨hin2, fun _ _ => ⟨fun _ => ⟨hin1, fun _ _ => ⟨hin2, fun _ _ => ?_⟩⟩, fun hx => absurd rfl hx⟩⟩⟩
  · rintro _ rfl; exact ⟨fun hx => (by cases hx), fun _ => ⟨by omega, ⟨k + 1, rfl, hkl⟩, by dsimp only; omega⟩⟩
  · show (!decide ((lget l (k : Int)).Line = (lget l (k : Int)).Line)) = false; simp
theorem same_p {H : List S_patch_Hunk} {Q : Bool → Prop} (hl : H.length ≤ 1000000) (hb : ∀ x ∈ H, x.Lines.length ≤ 1000000) (h : Q true) : rectolaw12_same_p H (H.map toRH) Q := by
  have hlen : (H.map toRH).length = H.length := List.length_map _
  unfold rectolaw12_same_p; simp only [inR_i64]; rw [hlen]; intro _ _
  refine ⟨fun hx => absurd rfl hx, fun _ => ⟨fun i => ∃ k : Nat, i = k ∧ k ≤ H.length, fun i => H.length - i.toNat, ⟨0, rfl, Nat.zero_le _⟩, ?_⟩⟩
  rintro _ ⟨k, rfl, hk⟩ _
  refine ⟨fun hlt => ?_, fun _ => h⟩
  have hkl : k < H.length := by omega
  have a1 : inL H (k : Int) := inL_nat.2 hkl
  have a2 : inL (H.map toRH) (k : Int) := inL_nat.2 (by rw [hlen]; exact hkl)
  rw [lgetM toRH hkl]
  refine ⟨fun b => b = false, ?_, a1, fun _ _ _ _ _ => ⟨a2, fun _ _ _ _ _ => ⟨fun _ => ⟨a1, fun _ _ _ _ _ => ⟨a2, fun _ _ _ _ _ => ⟨fun _ => ⟨a1, fun _ _ _ _ _ => ⟨a2, fun _ _ _ _ _ => ⟨fun _ => ⟨a1, fun _ _ _ _ _ => ⟨a2, fun _ _ _ _ _ => ⟨fun _ => ⟨a1, fun _ _ _ _ _ => ⟨a2, fun _ _ _ _ _ => ?_⟩⟩, fun hx => absurd rfl hx⟩⟩⟩, fun hx => absurd rfl hx⟩⟩⟩, fun hx => absurd rfl hx⟩⟩⟩, fun hx => absurd rfl hx⟩⟩⟩
  · rintro _ rfl; exact ⟨fun hx => (by cases hx), fun _ => ⟨by omega, ⟨k + 1, rfl, hkl⟩, by dsimp only; omega⟩⟩
  · exact Edits_p (hb _ (lget_mem a1)) rfl
/-! in words -/
theorem ended_p {s : ByteArray} {Q : ByteArray → Prop} (hs : s.size ≤ 1000000000) (h : Q (mkB (LL s ++ (if s = ByteArray.mk #[] ∨ ¬ bsub s ((s.size : Int) - 1) s.size = ByteArray.mk #[10] then [10] else [])))) : rectoref11_ended_p s Q := by
  have hm : maxLen = 9223372036854775807 := rfl
  unfold rectoref11_ended_p; simp only [inR_i64]; intro _
  refine ⟨⟨fun h1 => ⟨⟨by omega, by omega⟩, ⟨by omega, by omega⟩, trivial⟩, fun _ => trivial⟩, fun hc => ?_, fun hc => ?_⟩
  · have h0 : s.size ≠ 0 := by omega
    have h1 := (last_bsub h0).2 ((last_bget h0).1 hc.2)
    rw [if_neg (by rintro (hx | hx); exact h0 (size_zero.2 hx); exact hx h1), List.append_nil, mkB_LL] at h
    exact h
  · refine ⟨by rw [cat_size]; show _ + 1 ≤ _; omega, ?_⟩
    have e : s ++ ByteArray.mk #[10] = mkB (LL s ++ [10]) := LL_inj.2 (by rw [LL_cat, LL_mkB])
    rw [e]
    rw [if_pos] at h
    · exact h
    · by_cases h0 : s.size = 0
      · exact .inl (size_zero.1 h0)
      · exact .inr fun hx => hc ⟨by omega, (last_bget h0).2 ((last_bsub h0).1 hx)⟩
theorem mkB_cat (a b : List UInt8) : mkB a ++ mkB b = mkB (a ++ b) := LL_inj.2 (by rw [LL_cat, LL_mkB, LL_mkB, LL_mkB])
theorem rText_p {h : List S_patch_Hunk} {Q : ByteArray → Prop} (hh : okT h) (hq : Q (mkB (h.flatMap hkL))) : rectoref11_HunkText_p (h.map toRH) Q := by
  have hh1 := hh.1
  have hlen : (h.map toRH).length = h.length := List.length_map _
  have hm : maxLen = 9223372036854775807 := rfl
  unfold rectoref11_HunkText_p; rw [hlen]; intro _
  refine ⟨fun s i => ∃ k : Nat, i = k ∧ k ≤ h.length ∧ s = mkB ((h.take k).flatMap hkL) ∧ s.size ≤ 320000 * k, fun _ i => h.length - i.toNat, ⟨0, rfl, Nat.zero_le _, rfl, Nat.zero_le _⟩, ?_⟩
  rintro s _ ⟨k, rfl, hk, hs, hsl⟩ _ _
  refine ⟨fun hlt => ?_, fun hge => ?_⟩
  · have hkl : k < h.length := by omega
    obtain ⟨b1, b2⟩ := hh.2 k hkl
    have hfn := flatN hkL hkl
    rw [lgetM toRH hkl]
    generalize hx : lget h (k : Int) = x at *
    have hll : (toRH x).Lines.length = x.Lines.length := List.length_map _
    have c1 : (ByteArray.mk #[64, 64, 32, 45]).size = 4 := rfl
    have c2 : (ByteArray.mk #[44]).size = 1 := rfl
    have c3 : (ByteArray.mk #[32, 43]).size = 2 := rfl
    have c4 : (ByteArray.mk #[32, 64, 64, 10]).size = 4 := rfl
    have e1 := cat_size
    refine ⟨inL_nat.2 (by rw [hlen]; exact hkl), fun i1 i2 i3 i4 _ => ?_⟩
    have t1 := decB_size i1
    have t2 := decB_size i2
    have t3 := decB_size i3
    have t4 := decB_size i4
    refine ⟨by rw [e1]; omega, rDecimal_p i1 (fun _ => ⟨by simp only [e1]; omega, by simp only [e1]; omega, rDecimal_p i2 (fun _ => ⟨by simp only [e1]; omega, by simp only [e1]; omega, rDecimal_p i3 (fun _ => ⟨by simp only [e1]; omega, by simp only [e1]; omega, rDecimal_p i4 (fun _ => ⟨by simp only [e1]; omega, by simp only [e1]; omega, ?_⟩)⟩)⟩)⟩)⟩
    rw [hll]
    refine ⟨fun s2 i => ∃ j : Nat, i = j ∧ j ≤ x.Lines.length ∧ s2 = mkB ((h.take k).flatMap hkL ++ (([64, 64, 32, 45] ++ Lib.itoa x.At ++ [44] ++ Lib.itoa x.Del ++ [32, 43] ++ Lib.itoa x.To ++ [44] ++ Lib.itoa x.Add ++ [32, 64, 64, 10]) ++ (x.Lines.take j).flatMap edL)) ∧ s2.size ≤ 320000 * k + 200 + 310 * j, fun _ i => x.Lines.length - i.toNat, ⟨0, rfl, Nat.zero_le _, ?_, ?_⟩, ?_⟩
    · refine LL_inj.2 ?_
      rw [LL_mkB]
      simp only [LL_cat, hs, LL_mkB, List.take_zero, List.flatMap_nil, List.append_nil, List.append_assoc]
      rfl
    · simp only [e1]
      have q1 : (decB (toRH x).At).size ≤ 21 := t1
      have q2 : (decB (toRH x).Del).size ≤ 21 := t2
      have q3 : (decB (toRH x).To).size ≤ 21 := t3
      have q4 : (decB (toRH x).Add).size ≤ 21 := t4
      omega
    rintro s2 _ ⟨j, rfl, hj, hs2, hsl2⟩ _ _
    refine ⟨fun hlt => ?_, fun hge => ?_⟩
    · have hjl : j < x.Lines.length := by omega
      have hfe := flatN edL hjl
      have hsz := b2 j hjl
      have hge2 : lget (toRH x).Lines (j : Int) = toRE (lget x.Lines (j : Int)) := lgetM toRE hjl
      have hin : inL (toRH x).Lines (j : Int) := inL_nat.2 (by rw [hll]; exact hjl)
      rw [hge2]
      generalize hy : lget x.Lines (j : Int) = y at *
      have hel := edL_len hsz
      have hsg : ∀ b : ByteArray, b = (if y.Op = 2 then ByteArray.mk #[45] else if y.Op = 3 then ByteArray.mk #[43] else ByteArray.mk #[32]) → b.size = 1 := by rintro _ rfl; split; rfl; split <;> rfl
      refine ⟨hin, fun _ _ => ⟨fun b => b = (if y.Op = 2 then ByteArray.mk #[45] else if y.Op = 3 then ByteArray.mk #[43] else ByteArray.mk #[32]), ?_, fun h2 => ?_, fun n2 => ⟨fun h3 => ?_, fun n3 => ?_⟩⟩⟩
      · intro b hb _
        have hbs := hsg b hb
        refine ⟨by rw [e1]; omega, hin, fun _ _ => ended_p (show y.Line.size ≤ _ by omega) (fun _ => ?_)⟩
        have efin : (s2 ++ b) ++ mkB (LL y.Line ++ (if y.Line = ByteArray.mk #[] ∨ ¬ bsub y.Line ((y.Line.size : Int) - 1) y.Line.size = ByteArray.mk #[10] then [10] else [])) = mkB ((h.take k).flatMap hkL ++ (([64, 64, 32, 45] ++ Lib.itoa x.At ++ [44] ++ Lib.itoa x.Del ++ [32, 43] ++ Lib.itoa x.To ++ [44] ++ Lib.itoa x.Add ++ [32, 64, 64, 10]) ++ (x.Lines.take (j + 1)).flatMap edL)) := by
          refine LL_inj.2 ?_
          rw [LL_cat, LL_cat, hs2, LL_mkB, LL_mkB, LL_mkB, hfe, hb]
          unfold edL
          simp only [List.append_assoc]
        have esz : ((s2 ++ b) ++ mkB (LL y.Line ++ (if y.Line = ByteArray.mk #[] ∨ ¬ bsub y.Line ((y.Line.size : Int) - 1) y.Line.size = ByteArray.mk #[10] then [10] else []))).size ≤ s2.size + 310 := by
          have h9 : s2.size + (edL y).length ≤ s2.size + 310 := by omega
          refine Nat.le_trans (Nat.le_of_eq ?_) h9
          rw [e1, e1, mkB_size, hb]
          unfold edL
          rw [List.length_append, List.length_append, List.length_append, ← LL_len (if y.Op = 2 then ByteArray.mk #[45] else if y.Op = 3 then ByteArray.mk #[43] else ByteArray.mk #[32])]
          omega
        refine ⟨Nat.le_trans esz (by rw [hm]; omega), inR_i64.2 ⟨by omega, by omega⟩, ⟨j + 1, rfl, hjl, efin, Nat.le_trans esz (by omega)⟩, by dsimp only; omega⟩
      · have h2 : y.Op = 2 := h2
        show ByteArray.mk #[45] = _
        rw [if_pos h2]
      · have n2 : ¬ y.Op = 2 := n2
        have h3 : y.Op = 3 := h3
        show ByteArray.mk #[43] = _
        rw [if_neg n2, if_pos h3]
      · have n2 : ¬ y.Op = 2 := n2
        have n3 : ¬ y.Op = 3 := n3
        show ByteArray.mk #[32] = _
        rw [if_neg n2, if_neg n3]
    · have : j = x.Lines.length := by omega
      subst this
      rw [List.take_length] at hs2
      exact ⟨inR_i64.2 ⟨by omega, by omega⟩, ⟨k + 1, rfl, hkl, by rw [hs2, hfn]; rfl, by omega⟩, by dsimp only; omega⟩
  · have : k = h.length := by omega
    subst this
    rw [List.take_length] at hs
    rw [hs]; exact hq
/-! turned -/
def tst (l : List S_diff_Edit) : Nat → List S_diff_Edit × List S_diff_Edit
  | 0 => ([], [])
  | k + 1 => if (lget l (k : Int)).Op = 2 then ((tst l k).1, (tst l k).2 ++ [⟨3, (lget l (k : Int)).Line⟩]) else if (lget l (k : Int)).Op = 3 then ((tst l k).1 ++ [⟨2, (lget l (k : Int)).Line⟩], (tst l k).2) else ((tst l k).1 ++ (tst l k).2 ++ [⟨(lget l (k : Int)).Op, (lget l (k : Int)).Line⟩], [])
def turnL (l : List S_diff_Edit) : List S_diff_Edit := (tst l l.length).1 ++ (tst l l.length).2
def turnH (x : S_patch_Hunk) : S_patch_Hunk := ⟨x.To, x.Add, x.At, x.Del, turnL x.Lines⟩
theorem tst_2 {l : List S_diff_Edit} {k : Nat} (h : (lget l (k : Int)).Op = 2) : tst l (k + 1) = ((tst l k).1, (tst l k).2 ++ [⟨3, (lget l (k : Int)).Line⟩]) := by rw [tst, if_pos h]
theorem tst_3 {l : List S_diff_Edit} {k : Nat} (h : (lget l (k : Int)).Op = 3) : tst l (k + 1) = ((tst l k).1 ++ [⟨2, (lget l (k : Int)).Line⟩], (tst l k).2) := by rw [tst, if_neg (by omega), if_pos h]
theorem tst_1 {l : List S_diff_Edit} {k : Nat} (h : (lget l (k : Int)).Op = 1) : tst l (k + 1) = ((tst l k).1 ++ (tst l k).2 ++ [⟨(lget l (k : Int)).Op, (lget l (k : Int)).Line⟩], []) := by rw [tst, if_neg (by omega), if_neg (by omega)]
theorem tst_len (l : List S_diff_Edit) : ∀ k, (tst l k).1.length + (tst l k).2.length = k := by
  intro k
  induction k with
  | zero => rfl
  | succ k ih =>
    rw [tst]; split
    · simp; omega
    · split
      · simp; omega
      · simp; omega
theorem turnL_len (l : List S_diff_Edit) : (turnL l).length = l.length := by unfold turnL; rw [List.length_append, tst_len]
theorem pTurned_p {h : List S_patch_Hunk} {Q : List S_patch_Hunk → Prop} (hl : h.length ≤ 1000) (hb : ∀ x ∈ h, x.Lines.length ≤ 1000) (hq : Q (h.map turnH)) : patch_Turned_p h Q := by
  unfold patch_Turned_p; simp only [inR_i64]; intro _
  refine ⟨fun out s => ∃ k : Nat, s = k ∧ k ≤ h.length ∧ out = (h.take k).map turnH, fun _ s => h.length - s.toNat, ⟨0, rfl, Nat.zero_le _, rfl⟩, ?_⟩
  rintro out _ ⟨k, rfl, hk, ho⟩ _ _
  have hol : out.length = k := by rw [ho, List.length_map, List.length_take]; omega
  refine ⟨fun hlt => ?_, fun hge => ?_⟩
  · have hkl : k < h.length := by omega
    have hin : inL h (k : Int) := inL_nat.2 hkl
    refine ⟨hin, fun _ _ _ _ _ => turned_p (tst (lget h (k : Int)).Lines) (hb _ (lget_mem hin)) rfl (fun j _ => by rw [tst]) rfl (fun _ => ⟨by show (out.length + 1) * 56 ≤ _; omega, ?_⟩)⟩
    rintro _ rfl
    refine ⟨by omega, ⟨k + 1, rfl, hkl, ?_⟩, by dsimp only; omega⟩
    rw [take_lget hkl, List.map_append, ← ho]; rfl
  · have : k = h.length := by omega
    subst this
    rw [List.take_length] at ho
    unfold slices_Clip_patch_Hunk_patch_Hunk_p
    exact fun _ => ⟨by omega, fun _ => by rw [ho]; exact hq⟩
def dA (l : List S_diff_Edit) : List S_diff_Edit := (l.filter fun e => decide (e.Op = 3)).map fun e => ⟨2, e.Line⟩
def aD (l : List S_diff_Edit) : List S_diff_Edit := (l.filter fun e => decide (e.Op = 2)).map fun e => ⟨3, e.Line⟩
theorem dA_snoc (l : List S_diff_Edit) (e : S_diff_Edit) : dA (l ++ [e]) = dA l ++ (if e.Op = 3 then [⟨2, e.Line⟩] else []) := by
  unfold dA; rw [List.filter_append, List.map_append]
  by_cases h : e.Op = 3 <;> simp [h]
theorem aD_snoc (l : List S_diff_Edit) (e : S_diff_Edit) : aD (l ++ [e]) = aD l ++ (if e.Op = 2 then [⟨3, e.Line⟩] else []) := by
  unfold aD; rw [List.filter_append, List.map_append]
  by_cases h : e.Op = 2 <;> simp [h]
theorem dA_len (l : List S_diff_Edit) : (dA l).length ≤ l.length := by unfold dA; rw [List.length_map]; exact List.length_filter_le _ _
theorem aD_len (l : List S_diff_Edit) : (aD l).length ≤ l.length := by unfold aD; rw [List.length_map]; exact List.length_filter_le _ _
theorem okB_op {l : List S_diff_Edit} (h : okB l = true) {k : Nat} (hk : k < l.length) : (lget l (k : Int)).Op = 1 ∨ (lget l (k : Int)).Op = 2 ∨ (lget l (k : Int)).Op = 3 := by
  have := List.all_eq_true.1 h _ (lget_mem (inL_nat.2 hk))
  unfold opOk at this
  simp only [Bool.or_eq_true, decide_eq_true_eq] at this
  omega
theorem tst_run {l : List S_diff_Edit} (ho : okB l = true) {k : Nat} (h0 : (tst l k).2 = []) : ∀ q, k + q ≤ l.length → (∀ d, k ≤ d → d < k + q → ¬ (lget l (d : Int)).Op = 1) → tst l (k + q) = ((tst l k).1 ++ dA ((l.take (k + q)).drop k), aD ((l.take (k + q)).drop k)) := by
  intro q
  induction q with
  | zero =>
    intro _ _
    have e : (l.take (k + 0)).drop k = [] := by rw [List.drop_eq_nil_iff, List.length_take]; omega
    rw [e]
    show tst l k = _
    have : tst l k = ((tst l k).1, (tst l k).2) := rfl
    rw [this, h0]; simp [dA, aD]
  | succ q ih =>
    intro hq hd
    have h1 := ih (by omega) (fun d a b => hd d a (by omega))
    have hn := hd (k + q) (by omega) (by omega)
    have hk : k + q < l.length := by omega
    rw [show k + (q + 1) = (k + q) + 1 by omega, seg_next (by omega) hk, dA_snoc, aD_snoc]
    rcases okB_op ho hk with e | e | e
    · exact absurd e hn
    · rw [tst_2 e, h1, if_neg (by omega), if_pos e]; simp
    · rw [tst_3 e, h1, if_pos e, if_neg (by omega)]; simp
theorem rTurned_p {h : List S_patch_Hunk} {Q : List S_rectoref11_Hunk → Prop} (hl : h.length ≤ 1000) (hb : ∀ x ∈ h, x.Lines.length ≤ 1000 ∧ okB x.Lines = true) (hq : Q ((h.map turnH).map toRH)) : rectoref11_Turned_p (h.map toRH) Q := by
  have hlen : (h.map toRH).length = h.length := List.length_map _
  unfold rectoref11_Turned_p; rw [hlen]; simp only [inR_i64]; intro _
  refine ⟨fun out i => ∃ k : Nat, i = k ∧ k ≤ h.length ∧ out = ((h.take k).map turnH).map toRH, fun _ i => h.length - i.toNat, ⟨0, rfl, Nat.zero_le _, rfl⟩, ?_⟩
  rintro out _ ⟨k, rfl, hk, ho⟩ _ _
  have hol : out.length = k := by rw [ho, List.length_map, List.length_map, List.length_take]; omega
  refine ⟨fun hlt => ?_, fun hge => ?_⟩
  · have hkl : k < h.length := by omega
    have hin : inL (h.map toRH) (k : Int) := inL_nat.2 (by rw [hlen]; exact hkl)
    obtain ⟨hx1, hx2⟩ := hb _ (lget_mem (inL_nat.2 hkl))
    have htk := take_lget hkl
    rw [lgetM toRH hkl]
    generalize lget h (k : Int) = x at *
    have hll : (toRH x).Lines.length = x.Lines.length := List.length_map _
    have hget : ∀ j : Nat, j < x.Lines.length → lget (toRH x).Lines (j : Int) = toRE (lget x.Lines (j : Int)) := fun j hj => lgetM toRE hj
    refine ⟨hin, fun _ _ _ _ _ => ⟨hin, fun _ _ _ _ _ => ⟨hin, fun _ _ _ _ _ => ⟨hin, fun _ _ _ _ _ => ⟨hin, fun _ _ _ _ _ => ?_⟩⟩⟩⟩⟩
    rw [hll]
    refine ⟨fun i f => ∃ j : Nat, i = j ∧ j ≤ x.Lines.length ∧ f = ((tst x.Lines j).1 ++ (tst x.Lines j).2).map toRE ∧ (j < x.Lines.length → ¬ (lget x.Lines (j : Int)).Op = 1 → (tst x.Lines j).2 = []), fun i _ => x.Lines.length - i.toNat, ⟨0, rfl, Nat.zero_le _, rfl, fun _ _ => rfl⟩, ?_⟩
    rintro _ f ⟨j, rfl, hj, hf, hz⟩ _ _
    have hfl : f.length = j := by rw [hf, List.length_map, List.length_append, tst_len]
    refine ⟨fun hlt => ?_, fun hge => ?_⟩
    · have hjl : j < x.Lines.length := by omega
      have hin2 : inL (toRH x).Lines (j : Int) := inL_nat.2 (by rw [hll]; exact hjl)
      rw [hget j hjl]
      refine ⟨hin2, fun _ _ => ⟨fun h1 => ⟨hin2, fun _ _ => ⟨by show (f.length + 1) * 24 ≤ _; omega, by omega, ⟨j + 1, rfl, hjl, ?_, fun _ _ => ?_⟩, by dsimp only; omega⟩⟩, fun n1 => ?_⟩⟩
      · rw [tst_1 h1, hf]; simp only [List.append_nil, List.map_append]; rfl
      · rw [tst_1 h1]
      have n1 : ¬ (lget x.Lines (j : Int)).Op = 1 := n1
      have h0 := hz hjl n1
      refine ⟨fun i => ∃ q : Nat, i = ((j + q : Nat) : Int) ∧ j + q ≤ x.Lines.length ∧ ∀ d, j ≤ d → d < j + q → ¬ (lget x.Lines (d : Int)).Op = 1, fun i => (x.Lines.length - i).toNat, ⟨0, rfl, hj, fun d a b => by omega⟩, ?_⟩
      rintro _ ⟨q, rfl, hq1, hq2⟩ _
      refine ⟨fun b => (b = true → j + q < x.Lines.length ∧ ¬ (lget x.Lines ((j + q : Nat) : Int)).Op = 1) ∧ (b = false → 0 < q ∧ (j + q < x.Lines.length → (lget x.Lines ((j + q : Nat) : Int)).Op = 1)), ?_, fun hlt2 => ?_, fun hge2 => ⟨fun hx => (by cases hx), fun _ => ⟨by omega, fun hx => absurd hx (by omega)⟩⟩⟩
      · rintro b ⟨hb1, hb2⟩
        refine ⟨fun hb => ?_, fun hb => ?_⟩
        · obtain ⟨g1, g2⟩ := hb1 hb
          refine ⟨by omega, ⟨q + 1, by omega, by omega, fun d a c => ?_⟩, by dsimp only; omega⟩
          rcases Nat.lt_or_ge d (j + q) with g | g
          · exact hq2 d a g
          · rw [show d = j + q by omega]; exact g2
        · obtain ⟨g1, g2⟩ := hb2 hb
          have hrun := tst_run hx2 h0 q hq1 hq2
          refine ⟨fun i f2 => ∃ p : Nat, i = ((j + p : Nat) : Int) ∧ p ≤ q ∧ f2 = f ++ (dA ((x.Lines.take (j + p)).drop j)).map toRE, fun i _ => (j + q - i).toNat, ⟨0, rfl, by omega, ?_⟩, ?_⟩
          · have e : (x.Lines.take (j + 0)).drop j = [] := by rw [List.drop_eq_nil_iff, List.length_take]; omega
            rw [e]; simp [dA]
          rintro _ f2 ⟨p, rfl, hp, hf2⟩ _ _
          have hd1 := dA_len ((x.Lines.take (j + p)).drop j)
          have hd2 : ((x.Lines.take (j + p)).drop j).length ≤ x.Lines.length := by rw [List.length_drop, List.length_take]; omega
          have hf2l : f2.length ≤ 2000 := by rw [hf2, List.length_append, List.length_map]; omega
          refine ⟨fun hlt3 => ?_, fun hge3 => ?_⟩
          · have hpl : j + p < x.Lines.length := by omega
            have hin3 : inL (toRH x).Lines ((j + p : Nat) : Int) := inL_nat.2 (by rw [hll]; exact hpl)
            have hsn := seg_next (M := x.Lines) (show j ≤ j + p by omega) hpl
            rw [hget _ hpl]
            refine ⟨fun f3 => f3 = f ++ (dA ((x.Lines.take (j + p + 1)).drop j)).map toRE, ?_, hin3, fun _ _ => ⟨fun e3 => ⟨hin3, fun _ _ => ⟨by show (f2.length + 1) * 24 ≤ _; omega, ?_⟩⟩, fun n3 => ?_⟩⟩
            · rintro f3 hf3 _
              exact ⟨by omega, ⟨p + 1, by omega, by omega, hf3⟩, by dsimp only; omega⟩
            · have e3 : (lget x.Lines ((j + p : Nat) : Int)).Op = 3 := e3
              rw [hsn, dA_snoc, if_pos e3, List.map_append, ← List.append_assoc, ← hf2]; rfl
            · have n3 : ¬ (lget x.Lines ((j + p : Nat) : Int)).Op = 3 := n3
              rw [hsn, dA_snoc, if_neg n3, List.append_nil]; exact hf2
          · have : p = q := by omega
            subst this
            refine ⟨fun i f4 => ∃ p2 : Nat, i = ((j + p2 : Nat) : Int) ∧ p2 ≤ p ∧ f4 = f2 ++ (aD ((x.Lines.take (j + p2)).drop j)).map toRE, fun i _ => (j + p - i).toNat, ⟨0, rfl, by omega, ?_⟩, ?_⟩
            · have e : (x.Lines.take (j + 0)).drop j = [] := by rw [List.drop_eq_nil_iff, List.length_take]; omega
              rw [e]; simp [aD]
            rintro _ f4 ⟨p2, rfl, hp2, hf4⟩ _ _
            have hd3 := aD_len ((x.Lines.take (j + p2)).drop j)
            have hd4 : ((x.Lines.take (j + p2)).drop j).length ≤ x.Lines.length := by rw [List.length_drop, List.length_take]; omega
            have hf4l : f4.length ≤ 3000 := by rw [hf4, List.length_append, List.length_map]; omega
            refine ⟨fun hlt4 => ?_, fun hge4 => ?_⟩
            · have hpl : j + p2 < x.Lines.length := by omega
              have hin3 : inL (toRH x).Lines ((j + p2 : Nat) : Int) := inL_nat.2 (by rw [hll]; exact hpl)
              have hsn := seg_next (M := x.Lines) (show j ≤ j + p2 by omega) hpl
              rw [hget _ hpl]
              refine ⟨fun f3 => f3 = f2 ++ (aD ((x.Lines.take (j + p2 + 1)).drop j)).map toRE, ?_, hin3, fun _ _ => ⟨fun e3 => ⟨hin3, fun _ _ => ⟨by show (f4.length + 1) * 24 ≤ _; omega, ?_⟩⟩, fun n3 => ?_⟩⟩
              · rintro f3 hf3 _
                exact ⟨by omega, ⟨p2 + 1, by omega, by omega, hf3⟩, by dsimp only; omega⟩
              · have e3 : (lget x.Lines ((j + p2 : Nat) : Int)).Op = 2 := e3
                rw [hsn, aD_snoc, if_pos e3, List.map_append, ← List.append_assoc, ← hf4]; rfl
              · have n3 : ¬ (lget x.Lines ((j + p2 : Nat) : Int)).Op = 2 := n3
                rw [hsn, aD_snoc, if_neg n3, List.append_nil]; exact hf4
            · have : p2 = p := by omega
              subst this
              refine ⟨⟨j + p2, rfl, hq1, ?_, fun hx hn => absurd (g2 hx) hn⟩, by dsimp only; omega⟩
              rw [hrun, hf4, hf2, hf, h0]
              simp
      · have hql : j + q < x.Lines.length := by omega
        have hin3 : inL (toRH x).Lines ((j + q : Nat) : Int) := inL_nat.2 (by rw [hll]; exact hql)
        rw [hget _ hql]
        refine ⟨hin3, fun _ _ => ⟨fun hx => ⟨hql, fun h1 => ?_⟩, fun hx => ?_⟩⟩
        · have h1' : (toRE (lget x.Lines ((j + q : Nat) : Int))).Op = 1 := h1
          rw [decide_eq_true h1'] at hx; cases hx
        · have h1 : (lget x.Lines ((j + q : Nat) : Int)).Op = 1 := by
            simp at hx; exact hx
          refine ⟨?_, fun _ => h1⟩
          rcases Nat.eq_zero_or_pos q with g | g
          · subst g; exact absurd h1 n1
          · exact g
    · have : j = x.Lines.length := by omega
      subst this
      refine ⟨by show (out.length + 1) * 56 ≤ _; omega, ?_⟩
      rintro _ rfl
      refine ⟨by omega, ⟨k + 1, rfl, hkl, ?_⟩, by dsimp only; omega⟩
      rw [htk, List.map_append, List.map_append, ← ho, hf]; rfl
  · have : k = h.length := by omega
    subst this
    rw [List.take_length] at ho
    rw [ho]; exact hq
end Go.Proofs.YtnnbnljofklieaaDoor
