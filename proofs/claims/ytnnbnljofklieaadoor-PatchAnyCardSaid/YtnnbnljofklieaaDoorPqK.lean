/- Plain laws of chapter 12: what is known; any pieces on any text. -/
import Derived.Test.YtnnbnljofklieaaDoorPqA
namespace Go.Proofs.YtnnbnljofklieaaDoor
open Go
theorem wStr_p {b : S_strings_Builder} {s : ByteArray} {Q : S_strings_Builder → Int → PErr → Prop} (hb : b.buf.length + s.size ≤ 1000000000) (h : Q ⟨true, b.buf ++ bytesL s⟩ (s.size : Int) .nil) : strings_Builder_WriteString_p b s Q := by
  unfold strings_Builder_WriteString_p strings_Builder_copyCheck_p
  refine fun _ _ => ⟨fun _ _ => ⟨by show b.buf.length + s.size ≤ _; omega, h⟩, fun hx => ⟨fun hx2 => (by rw [hx] at hx2; cases hx2), fun _ _ => ⟨by omega, ?_⟩⟩⟩
  have : b = ⟨true, b.buf⟩ := by cases b; simp at hx; rw [hx]
  rw [this]; exact h
theorem sign_p {op : Int} {Q : ByteArray → Prop} (h : Q (if op = 2 then ByteArray.mk #[45] else if op = 3 then ByteArray.mk #[43] else ByteArray.mk #[32])) : patch_sign_p op Q := by
  unfold patch_sign_p; intro _
  refine ⟨fun h2 => ?_, fun n2 => ⟨fun h3 => ?_, fun n3 => ?_⟩⟩
  · rw [if_pos h2] at h; exact h
  · rw [if_neg n2, if_pos h3] at h; exact h
  · rw [if_neg n2, if_neg n3] at h; exact h
theorem Whole_p {s : ByteArray} {Q : Bool → Prop} (hs : s.size ≤ 1000000000) (h0 : s ≠ ByteArray.mk #[]) (h : Q (decide (bsub s ((s.size : Int) - 1) s.size = ByteArray.mk #[10]))) : lines_Whole_p s Q := by
  have h1 : ((ByteArray.mk #[10]).size : Int) = 1 := rfl
  have hsz : s.size ≠ 0 := fun h => h0 (size_zero.1 h)
  unfold lines_Whole_p strings_HasSuffix_p internal_stringslite_HasSuffix_p; simp only [inR_i64]; intro _
  refine ⟨fun b => b = decide (bsub s ((s.size : Int) - 1) s.size = ByteArray.mk #[10]), by rintro _ rfl; exact h, fun hx => absurd hx h0, fun _ _ _ _ _ => ⟨⟨fun _ => ⟨⟨by omega, by omega⟩, ⟨by omega, by omega, by omega⟩, trivial⟩, fun hx => absurd (by omega) hx⟩, ?_⟩⟩
  rw [h1]
  exact decide_eq_decide.2 ⟨fun hx => hx.2, fun hx => ⟨by omega, hx⟩⟩
def edL (e : S_diff_Edit) : List UInt8 := LL (if e.Op = 2 then ByteArray.mk #[45] else if e.Op = 3 then ByteArray.mk #[43] else ByteArray.mk #[32]) ++ LL e.Line ++ (if e.Line = ByteArray.mk #[] ∨ ¬ bsub e.Line ((e.Line.size : Int) - 1) e.Line.size = ByteArray.mk #[10] then [10] else [])
def hkL (x : S_patch_Hunk) : List UInt8 := ([64, 64, 32, 45] ++ Lib.itoa x.At ++ [44] ++ Lib.itoa x.Del ++ [32, 43] ++ Lib.itoa x.To ++ [44] ++ Lib.itoa x.Add ++ [32, 64, 64, 10]) ++ x.Lines.flatMap edL
def bL (l : List UInt8) : List Int := l.map fun b => (b.toNat : Int)
theorem bL_app (a b : List UInt8) : bL (a ++ b) = bL a ++ bL b := List.map_append
theorem bL_len (a : List UInt8) : (bL a).length = a.length := List.length_map _
theorem bL_LL (s : ByteArray) : bytesL s = bL (LL s) := rfl
theorem flatN {α β : Type} [Inhabited α] (g : α → List β) {l : List α} {k : Nat} (h : k < l.length) : (l.take (k + 1)).flatMap g = (l.take k).flatMap g ++ g (lget l (k : Int)) := by
  rw [take_lget h, List.flatMap_append]; simp
theorem strOf_bL (l : List UInt8) : strOfNums (bL l) = mkB l := by
  unfold strOfNums bL mkB
  rw [List.map_map]
  have : (fun n : Int => UInt8.ofNat n.toNat) ∘ (fun b : UInt8 => (b.toNat : Int)) = id := by funext b; simp
  rw [this, List.map_id]
def okT (h : List S_patch_Hunk) : Prop := h.length ≤ 1000 ∧ ∀ k : Nat, k < h.length → (lget h (k : Int)).Lines.length ≤ 1000 ∧ ∀ j : Nat, j < (lget h (k : Int)).Lines.length → (lget (lget h (k : Int)).Lines (j : Int)).Line.size ≤ 300
theorem itoa_le {n : Int} (h : inR .i64 n) : (Lib.itoa n).length ≤ 21 := by rw [← LL_decB]; exact decB_size h
theorem edL_len {e : S_diff_Edit} (h : e.Line.size ≤ 300) : (edL e).length ≤ 310 := by
  unfold edL
  rw [List.length_append, List.length_append, LL_len e.Line]
  have h1 : (LL (if e.Op = 2 then ByteArray.mk #[45] else if e.Op = 3 then ByteArray.mk #[43] else ByteArray.mk #[32])).length = 1 := by split; rfl; split <;> rfl
  have h2 : (if e.Line = ByteArray.mk #[] ∨ ¬ bsub e.Line ((e.Line.size : Int) - 1) e.Line.size = ByteArray.mk #[10] then ([10] : List UInt8) else []).length ≤ 1 := by split <;> simp
  omega
theorem Text_p {h : List S_patch_Hunk} {Q : ByteArray → Prop} (hh : okT h) (hq : Q (mkB (h.flatMap hkL))) : patch_Text_p h Q := by
  have hh1 := hh.1
  have hm : maxLen = 9223372036854775807 := rfl
  unfold patch_Text_p strconv_Itoa_p; intro _
  refine ⟨fun s o => ∃ k : Nat, s = k ∧ k ≤ h.length ∧ o.buf = bL ((h.take k).flatMap hkL) ∧ o.buf.length ≤ 320000 * k, fun s _ => h.length - s.toNat, ⟨0, rfl, Nat.zero_le _, rfl, Nat.zero_le _⟩, ?_⟩
  rintro _ o ⟨k, rfl, hk, ho, hol⟩ _
  refine ⟨fun hlt => ?_, fun hge => ?_⟩
  · have hkl : k < h.length := by omega
    obtain ⟨b1, b2⟩ := hh.2 k hkl
    have hfn := flatN hkL hkl
    generalize hx : lget h (k : Int) = x at *
    refine ⟨inL_nat.2 hkl, fun i1 i2 i3 i4 _ => ?_⟩
    have t1 := itoa_le i1
    have t2 := itoa_le i2
    have t3 := itoa_le i3
    have t4 := itoa_le i4
    have c1 : (ByteArray.mk #[64, 64, 32, 45]).size = 4 := rfl
    have c2 : (ByteArray.mk #[44]).size = 1 := rfl
    have c3 : (ByteArray.mk #[32, 43]).size = 2 := rfl
    have c4 : (ByteArray.mk #[32, 64, 64, 10]).size = 4 := rfl
    have s1 : ∀ n : Int, (ByteArray.mk (Lib.itoa n).toArray).size = (Lib.itoa n).length := fun n => rfl
    have e1 := cat_size
    refine fun _ => ⟨by simp only [e1, s1]; omega, by simp only [e1, s1]; omega, fun _ => ⟨by simp only [e1, s1]; omega, by simp only [e1, s1]; omega, fun _ => ⟨by simp only [e1, s1]; omega, by simp only [e1, s1]; omega, fun _ => ⟨by simp only [e1, s1]; omega, by simp only [e1, s1]; omega, ?_⟩⟩⟩⟩
    refine wStr_p (by simp only [e1, s1]; omega) (fun _ => ?_)
    refine ⟨fun s o2 => ∃ j : Nat, s = j ∧ j ≤ x.Lines.length ∧ o2.buf = bL ((h.take k).flatMap hkL ++ (([64, 64, 32, 45] ++ Lib.itoa x.At ++ [44] ++ Lib.itoa x.Del ++ [32, 43] ++ Lib.itoa x.To ++ [44] ++ Lib.itoa x.Add ++ [32, 64, 64, 10]) ++ (x.Lines.take j).flatMap edL)) ∧ o2.buf.length ≤ 320000 * k + 200 + 310 * j, fun s _ => x.Lines.length - s.toNat, ⟨0, rfl, Nat.zero_le _, ?_, ?_⟩, ?_⟩
    · show o.buf ++ bytesL _ = _
      rw [ho, bL_LL, ← bL_app]
      simp only [LL_cat, List.take_zero, List.flatMap_nil, List.append_nil]
    · show (o.buf ++ bytesL _).length ≤ _
      rw [List.length_append, bytesL_len]; simp only [e1, s1]; omega
    rintro _ o2 ⟨j, rfl, hj, ho2, hol2⟩ _
    refine ⟨fun hlt => ?_, fun hge => ?_⟩
    · have hjl : j < x.Lines.length := by omega
      have hfe := flatN edL hjl
      have hsz := b2 j hjl
      generalize hy : lget x.Lines (j : Int) = y at *
      have hel := edL_len hsz
      have hsg : ∀ b : ByteArray, b = (if y.Op = 2 then ByteArray.mk #[45] else if y.Op = 3 then ByteArray.mk #[43] else ByteArray.mk #[32]) → b.size = 1 := by rintro _ rfl; split; rfl; split <;> rfl
      refine ⟨fun o3 => ∃ j2 : Nat, j2 = j + 1 ∧ o3.buf = bL ((h.take k).flatMap hkL ++ (([64, 64, 32, 45] ++ Lib.itoa x.At ++ [44] ++ Lib.itoa x.Del ++ [32, 43] ++ Lib.itoa x.To ++ [44] ++ Lib.itoa x.Add ++ [32, 64, 64, 10]) ++ (x.Lines.take (j + 1)).flatMap edL)), ?_, inL_nat.2 hjl, fun _ _ => sign_p (fun _ => ?_)⟩
      · rintro o3 ⟨_, rfl, h3⟩
        refine ⟨inR_i64.2 ⟨by omega, by omega⟩, ⟨j + 1, rfl, hjl, h3, ?_⟩, by dsimp only; omega⟩
        have e2 := congrArg List.length h3
        have e3 := congrArg List.length ho2
        rw [hfe] at e2
        simp only [bL_len, List.length_append] at e2 e3; omega
      have hs1 := hsg _ rfl
      refine ⟨by rw [e1]; omega, wStr_p (by rw [e1]; omega) (fun _ => ?_)⟩
      refine ⟨fun b => b = decide (y.Line = ByteArray.mk #[] ∨ ¬ bsub y.Line ((y.Line.size : Int) - 1) y.Line.size = ByteArray.mk #[10]), ?_, fun h0 => (decide_eq_true (.inl h0)).symm, fun h0 => Whole_p (by omega) h0 ?_⟩
      · rintro b rfl
        refine ⟨fun hb => wStr_p ?_ (fun _ => ⟨_, rfl, ?_⟩), fun hb => ⟨_, rfl, ?_⟩⟩
        · show (o2.buf ++ bytesL _).length + 1 ≤ _
          rw [List.length_append, bytesL_len, e1]; omega
        · show (o2.buf ++ bytesL _) ++ bytesL _ = _
          rw [ho2, hfe, bL_LL, bL_LL, ← bL_app, ← bL_app, LL_cat]
          unfold edL; rw [if_pos (of_decide_eq_true hb)]
          simp only [List.append_assoc]
        · show o2.buf ++ bytesL _ = _
          rw [ho2, hfe, bL_LL, ← bL_app, LL_cat]
          unfold edL; rw [if_neg (of_decide_eq_false hb)]
          simp only [List.append_assoc, List.append_nil]
      · show (!decide _) = _
        rw [← decide_not]; exact decide_eq_decide.2 ⟨fun hx => .inr hx, fun hx => hx.resolve_left h0⟩
    · have : j = x.Lines.length := by omega
      subst this
      rw [List.take_length] at ho2
      exact ⟨inR_i64.2 ⟨by omega, by omega⟩, ⟨k + 1, rfl, hkl, by rw [ho2, hfn]; rfl, by omega⟩, by dsimp only; omega⟩
  · have : k = h.length := by omega
    subst this
    rw [List.take_length] at ho
    unfold strings_Builder_String_p
    refine fun _ _ => ?_
    rw [ho, strOf_bL]; exact hq
theorem turned_p {l : List S_diff_Edit} {Q : List S_diff_Edit → Prop} {r : List S_diff_Edit} (st : Nat → List S_diff_Edit × List S_diff_Edit) (hl : l.length ≤ 1000) (h0 : st 0 = ([], []))
    (hs : ∀ k, k < l.length → st (k + 1) = if (lget l (k : Int)).Op = 2 then ((st k).1, (st k).2 ++ [⟨3, (lget l (k : Int)).Line⟩]) else if (lget l (k : Int)).Op = 3 then ((st k).1 ++ [⟨2, (lget l (k : Int)).Line⟩], (st k).2) else ((st k).1 ++ (st k).2 ++ [⟨(lget l (k : Int)).Op, (lget l (k : Int)).Line⟩], []))
    (hr : r = (st l.length).1 ++ (st l.length).2) (h : Q r) : patch_turned_p l Q := by
  unfold patch_turned_p; simp only [inR_i64]; intro _
  refine ⟨fun out ad s => ∃ k : Nat, s = k ∧ k ≤ l.length ∧ st k = (out, ad) ∧ out.length + ad.length ≤ k, fun _ _ s => l.length - s.toNat, ⟨0, rfl, Nat.zero_le _, h0, Nat.zero_le _⟩, ?_⟩
  rintro out ad _ ⟨k, rfl, hk, hst, hle⟩ _ _ _
  refine ⟨fun hlt => ?_, fun hge => ?_⟩
  · have hkl : k < l.length := by omega
    have hs1 := hs k hkl
    rw [hst] at hs1
    dsimp only at hs1
    generalize lget l (k : Int) = y at *
    refine ⟨fun o a => st (k + 1) = (o, a) ∧ o.length + a.length ≤ k + 1, ?_, inL_nat.2 hkl, fun _ _ => ⟨fun o a f => st (k + 1) = (o ++ [⟨f, y.Line⟩], a) ∧ o.length + a.length ≤ k, ?_, fun e2 => ?_, fun n2 => ⟨fun e3 => ?_, fun n3 => ?_⟩⟩⟩
    · rintro o a ⟨h1, h2⟩ _ _
      exact ⟨⟨by omega, by omega⟩, ⟨k + 1, rfl, hkl, h1, h2⟩, by dsimp only; omega⟩
    · rintro o a f ⟨h1, h2⟩ _ _ _
      have : ([(⟨f, y.Line⟩ : S_diff_Edit)]).length = 1 := rfl
      exact ⟨by omega, h1, by rw [List.length_append]; omega⟩
    · rw [if_pos e2] at hs1
      have : ([(⟨3, y.Line⟩ : S_diff_Edit)]).length = 1 := rfl
      exact ⟨by omega, hs1, by rw [List.length_append]; omega⟩
    · rw [if_neg n2, if_pos e3] at hs1; exact ⟨hs1, hle⟩
    · rw [if_neg n2, if_neg n3] at hs1; exact ⟨by omega, hs1, by rw [List.length_append]; simp; omega⟩
  · have : k = l.length := by omega
    subst this
    rw [hst] at hr
    unfold slices_Clip_diff_Edit_diff_Edit_p
    have hlen : (out ++ ad).length ≤ 1000 := by rw [List.length_append]; omega
    refine ⟨by omega, fun _ => ⟨⟨by omega, by omega⟩, fun _ => ?_⟩⟩
    dsimp only at hr; rw [hr] at h; exact h
def cntC (l : List S_diff_Edit) : Int × Int := if okB l = true then ((dels l : Int), (adds l : Int)) else (0, 0)
def hunkC (l : List S_diff_Edit) (i j : Int) : S_patch_Hunk := ⟨(cntC (l.take i.toNat)).1, (cntC ((l.take j.toNat).drop i.toNat)).1, (cntC (l.take i.toNat)).2, (cntC ((l.take j.toNat).drop i.toNat)).2, (l.take j.toNat).drop i.toNat⟩
theorem cntC_p {l : List S_diff_Edit} {Q : Int → Int → Bool → Prop} (hl : l.length ≤ 1000000) (h : ∀ b, Q (cntC l).1 (cntC l).2 b) : patch_counts_p l Q := by
  refine counts_p hl (fun hok => ?_) (fun hok => ?_)
  · have := h true; unfold cntC at this; rw [if_pos hok] at this; exact this
  · have := h false; unfold cntC at this; rw [if_neg (by rw [hok]; decide)] at this; exact this
theorem phunk_p {l : List S_diff_Edit} {i j : Int} {Q : S_patch_Hunk → Prop} (hl : l.length ≤ 1000000) (hb : 0 ≤ i ∧ i ≤ j ∧ j ≤ (l.length : Int)) (h : Q (hunkC l i j)) : patch_hunk_p l i j Q := by
  unfold patch_hunk_p; intro _ _ _
  have h1 : (l.take i.toNat).length ≤ l.length := by rw [List.length_take]; omega
  have h2 : ((l.take j.toNat).drop i.toNat).length ≤ l.length := by rw [List.length_drop, List.length_take]; omega
  refine ⟨⟨hb.1, by omega⟩, cntC_p (by omega) fun _ _ _ => ⟨hb, cntC_p (by omega) fun _ _ _ => ⟨hb, ?_⟩⟩⟩
  unfold slices_Clone_diff_Edit_diff_Edit_p slices_Clip_diff_Edit_diff_Edit_p
  exact fun _ => ⟨by omega, fun _ _ => ⟨⟨by omega, by omega⟩, fun _ => h⟩⟩
def L4 : List S_diff_Edit := [⟨1, ByteArray.mk #[97, 10]⟩, ⟨2, ByteArray.mk #[98, 10]⟩, ⟨3, ByteArray.mk #[99, 10]⟩, ⟨1, ByteArray.mk #[100, 10]⟩]
def H4 : List S_patch_Hunk := [⟨1, 1, 1, 1, [⟨2, ByteArray.mk #[98, 10]⟩, ⟨3, ByteArray.mk #[99, 10]⟩]⟩]
theorem Hunks4_p {Q : List S_patch_Hunk → Prop} (h : Q H4) : patch_Hunks_p L4 0 Q := by
  have hmm : min (max (0 : Int) (0 : Int)) (16 : Int) = 0 := by decide
  have hl : L4.length = 4 := rfl
  unfold patch_Hunks_p; simp only [inR_i64, hmm]; intro _ _
  refine ⟨fun out i j s => out = [] ∧ ((s = 0 ∧ i = 0 ∧ j = -1) ∨ (s = 1 ∧ i = 0 ∧ j = -1) ∨ (s = 2 ∧ i = 1 ∧ j = 2) ∨ (s = 3 ∧ i = 1 ∧ j = 3) ∨ (s = 4 ∧ i = 1 ∧ j = 3)), fun _ _ _ s => 4 - s.toNat, ⟨rfl, .inl ⟨rfl, rfl, rfl⟩⟩, ?_⟩
  rintro _ i j s ⟨rfl, hst⟩ _ _ _ _
  rw [hl]
  refine ⟨fun hlt => ⟨fun o i2 j2 => o = [] ∧ ((s = 0 ∧ i2 = 0 ∧ j2 = -1) ∨ (s = 1 ∧ i2 = 1 ∧ j2 = 2) ∨ (s = 2 ∧ i2 = 1 ∧ j2 = 3) ∨ (s = 3 ∧ i2 = 1 ∧ j2 = 3)), ?_, ⟨by omega, by omega⟩, fun _ _ => ⟨fun h1 => ?_, fun n1 => ⟨by omega, by omega, by omega, fun o i2 => o = [] ∧ ((s = 1 ∧ i2 = 1) ∨ (s = 2 ∧ i2 = 1)), ?_, ?_, ?_⟩⟩⟩, fun hge => ?_⟩
  · rintro o i2 j2 ⟨rfl, h2⟩ _ _ _
    refine ⟨by omega, ⟨rfl, by omega⟩, by dsimp only; omega⟩
  · rcases hst with ⟨rfl, rfl, rfl⟩ | ⟨rfl, rfl, rfl⟩ | ⟨rfl, rfl, rfl⟩ | ⟨rfl, rfl, rfl⟩ | ⟨rfl, rfl, rfl⟩
    · exact ⟨rfl, by omega⟩
    · exact absurd h1 (by decide)
    · exact absurd h1 (by decide)
    · exact ⟨rfl, by omega⟩
    · omega
  · rintro o i2 ⟨rfl, h2⟩ _ _
    refine ⟨rfl, ?_⟩
    rcases h2 with ⟨rfl, rfl⟩ | ⟨rfl, rfl⟩
    · exact .inr (.inl ⟨rfl, rfl, by decide⟩)
    · exact .inr (.inr (.inl ⟨rfl, rfl, by decide⟩))
  · intro hj
    rcases hst with ⟨rfl, rfl, rfl⟩ | ⟨rfl, rfl, rfl⟩ | ⟨rfl, rfl, rfl⟩ | ⟨rfl, rfl, rfl⟩ | ⟨rfl, rfl, rfl⟩
    · exact absurd rfl n1
    · exact ⟨rfl, .inl ⟨rfl, by decide⟩⟩
    · omega
    · omega
    · omega
  · intro hj
    rcases hst with ⟨rfl, rfl, rfl⟩ | ⟨rfl, rfl, rfl⟩ | ⟨rfl, rfl, rfl⟩ | ⟨rfl, rfl, rfl⟩ | ⟨rfl, rfl, rfl⟩
    · omega
    · omega
    · exact ⟨fun hx => absurd hx (by decide), fun _ => ⟨rfl, .inr ⟨rfl, rfl⟩⟩⟩
    · exact absurd rfl n1
    · omega
  · have : s = 4 ∧ i = 1 ∧ j = 3 := by omega
    obtain ⟨rfl, rfl, rfl⟩ := this
    have h4 : hunkC L4 1 3 = ⟨1, 1, 1, 1, [⟨2, ByteArray.mk #[98, 10]⟩, ⟨3, ByteArray.mk #[99, 10]⟩]⟩ := rfl
    refine ⟨fun o => o = H4, ?_, fun _ => phunk_p (by decide) (by decide) (fun _ _ _ _ _ => ⟨by decide, ?_⟩), fun hx => absurd (by decide) hx⟩
    · rintro _ rfl _
      unfold slices_Clip_patch_Hunk_patch_Hunk_p
      exact fun _ => ⟨by decide, fun _ => h⟩
    · rw [h4]; rfl
theorem Turned4_p {Q : List S_patch_Hunk → Prop} (h : Q [⟨1, 1, 1, 1, [⟨2, ByteArray.mk #[99, 10]⟩, ⟨3, ByteArray.mk #[98, 10]⟩]⟩]) : patch_Turned_p H4 Q := by
  unfold patch_Turned_p; simp only [inR_i64]; intro _
  have hl : H4.length = 1 := rfl
  rw [hl]
  refine ⟨fun out s => (s = 0 ∧ out = []) ∨ (s = 1 ∧ out = [⟨1, 1, 1, 1, [⟨2, ByteArray.mk #[99, 10]⟩, ⟨3, ByteArray.mk #[98, 10]⟩]⟩]), fun _ s => 1 - s.toNat, .inl ⟨rfl, rfl⟩, ?_⟩
  rintro _ _ (⟨rfl, rfl⟩ | ⟨rfl, rfl⟩) _ _
  · refine ⟨fun _ => ⟨by decide, fun _ _ _ _ _ => ?_⟩, fun hx => absurd (by decide) hx⟩
    refine turned_p (r := [⟨2, ByteArray.mk #[99, 10]⟩, ⟨3, ByteArray.mk #[98, 10]⟩]) (fun k => match k with | 0 => ([], []) | 1 => ([], [⟨3, ByteArray.mk #[98, 10]⟩]) | _ => ([⟨2, ByteArray.mk #[99, 10]⟩], [⟨3, ByteArray.mk #[98, 10]⟩])) (by decide) rfl ?_ rfl (fun _ => ⟨by decide, ?_⟩)
    · intro k hk
      have hk : k < 2 := hk
      match k, hk with
      | 0, _ => rfl
      | 1, _ => rfl
    · rintro _ rfl
      exact ⟨by decide, .inr ⟨rfl, rfl⟩, by decide⟩
  · refine ⟨fun hx => absurd hx (by decide), fun _ => ?_⟩
    unfold slices_Clip_patch_Hunk_patch_Hunk_p
    exact fun _ => ⟨by decide, fun _ => h⟩
theorem H4_small : smallH H4 := by
  refine ⟨by decide, fun k hk => ?_⟩
  have hk : k < 1 := hk
  match k, hk with
  | 0, _ => exact by decide
theorem H4_okT : okT H4 := by
  refine ⟨by decide, fun k hk => ?_⟩
  have hk : k < 1 := hk
  match k, hk with
  | 0, _ => exact ⟨by decide, fun j hj => (by
      have hj : j < 2 := hj
      match j, hj with
      | 0, _ => exact by decide
      | 1, _ => exact by decide)⟩
theorem known12_p {Q : Bool → Prop} (h : Q true) : rectolaw12_known_p Q := by
  unfold rectolaw12_known_p
  refine Hunks4_p (fun _ => Apply_p (by decide) H4_small (fun _ => Apply_p (by decide) H4_small (fun _ => Turned4_p (fun _ => ?_))))
  have a1 : apl [ByteArray.mk #[97, 10], ByteArray.mk #[98, 10], ByteArray.mk #[100, 10]] H4 0 [] 0 = ([ByteArray.mk #[97, 10], ByteArray.mk #[99, 10], ByteArray.mk #[100, 10]], none) := by decide +kernel
  have a2 : (apl [] H4 0 [] 0).2 = some (0, 4) := by decide +kernel
  rw [a1, a2]
  refine ⟨fun b => b = true, by rintro _ rfl; exact h, ⟨fun _ => ⟨by decide, fun _ _ _ _ _ => ⟨fun _ => ⟨by decide, fun _ _ _ _ _ => ⟨fun _ => ⟨by decide, fun _ _ _ _ _ => ⟨fun _ => ⟨fun _ => ⟨fun _ => ⟨fun _ => ⟨by decide, fun _ => ⟨fun _ => ⟨fun _ => ⟨by decide, fun _ _ _ _ _ => ⟨fun _ => ⟨by decide, fun _ _ _ _ _ => ⟨by decide, fun _ _ => ⟨fun _ => ?_, fun hx => absurd rfl hx⟩⟩⟩, fun hx => absurd rfl hx⟩⟩, fun hx => absurd rfl hx⟩, fun hx => absurd rfl hx⟩⟩, fun hx => absurd rfl hx⟩, fun hx => absurd rfl hx⟩, fun hx => absurd rfl hx⟩, fun hx => absurd rfl hx⟩⟩, fun hx => absurd rfl hx⟩⟩, fun hx => absurd rfl hx⟩⟩, fun hx => absurd rfl hx⟩⟩
  refine Text_p H4_okT (fun _ => ?_)
  have : mkB (H4.flatMap hkL) = ByteArray.mk #[64, 64, 32, 45, 49, 44, 49, 32, 43, 49, 44, 49, 32, 64, 64, 10, 45, 98, 10, 43, 99, 10] := by decide +kernel
  rw [this]; exact decide_eq_true rfl
theorem Few_p {a b : List ByteArray} {Q : Bool → Prop} (h1 : Q true) (h2 : Q false) : rectolaw11_Few_p a b Q := by
  unfold rectolaw11_Few_p; simp only [inR_i64]; intro _ _
  refine ⟨⟨fun _ => trivial, fun _ => ⟨fun _ => trivial, fun _ => ⟨fun ha => ⟨fun hb => ⟨?_, trivial⟩, fun _ => trivial⟩, fun _ => trivial⟩⟩⟩, fun _ => h2, fun _ => ?_⟩
  · have : (a.length : Int) * (b.length : Int) ≤ 256 * 256 := Int.mul_le_mul ha hb (by omega) (by omega)
    have h0 : 0 ≤ (a.length : Int) * (b.length : Int) := Int.mul_nonneg (by omega) (by omega)
    omega
  refine ⟨fun i => 0 ≤ i, fun i => a.length - i.toNat, Int.le_refl _, fun i hi _ => ⟨fun hlt => ⟨⟨hi, hlt⟩, fun _ => ⟨fun _ => h2, fun _ => ⟨⟨by omega, by omega⟩, by omega, by dsimp only; omega⟩⟩⟩, fun _ => ?_⟩⟩
  exact ⟨fun i => 0 ≤ i, fun i => b.length - i.toNat, Int.le_refl _, fun i hi _ => ⟨fun hlt => ⟨⟨hi, hlt⟩, fun _ => ⟨fun _ => h2, fun _ => ⟨⟨by omega, by omega⟩, by omega, by dsimp only; omega⟩⟩⟩, fun _ => h1⟩⟩
theorem few_p {a b : List ByteArray} {Q : Bool → Prop} (h1 : a.length ≤ 50 → b.length ≤ 50 → Q true) (h2 : Q false) : rectolaw12_few_p a b Q := by
  unfold rectolaw12_few_p; intro _ _
  refine ⟨fun r => (r = true → a.length ≤ 50 ∧ b.length ≤ 50), ?_, fun ha => ⟨fun hb => Few_p (fun _ => ⟨by omega, by omega⟩) (fun hx => (by cases hx)), fun _ hx => (by cases hx)⟩, fun _ hx => (by cases hx)⟩
  intro r hr
  cases r with
  | true => exact h1 (hr rfl).1 (hr rfl).2
  | false => exact h2
end Go.Proofs.YtnnbnljofklieaaDoor
