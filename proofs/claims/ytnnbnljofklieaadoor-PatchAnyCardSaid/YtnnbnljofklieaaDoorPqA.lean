/- Plain laws of chapter 12: pieces, done. -/
import Derived.Test.YtnnbnljofklieaaDoorPq8
import Derived.Test.YtnnbnljofklieaaDoorPqT
namespace Go.Proofs.YtnnbnljofklieaaDoor
open Go
theorem lgetM {α β : Type} [Inhabited α] [Inhabited β] (f : β → α) {L : List β} {k : Nat} (h : k < L.length) : lget (L.map f) (k : Int) = f (lget L (k : Int)) := by rw [lget_map f h, lget_lt h]
theorem dropL {α : Type} [Inhabited α] {L : List α} {k : Nat} (h : k < L.length) : L.drop k = lget L (k : Int) :: L.drop (k + 1) := by rw [lget_lt h]; exact List.drop_eq_getElem_cons h
theorem cntN {α : Type} [Inhabited α] (p : α → Bool) {l : List α} {k : Nat} (hk : k < l.length) : ((l.take (k + 1)).filter p).length = ((l.take k).filter p).length + (if p (lget l (k : Int)) = true then 1 else 0) := by
  rw [take_lget hk, List.filter_append, List.length_append]
  by_cases h : p (lget l (k : Int)) = true
  · rw [if_pos h, List.filter_cons_of_pos h]; rfl
  · rw [if_neg h, List.filter_cons_of_neg h]; rfl
def opOk (e : S_diff_Edit) : Bool := decide (e.Op = 1) || decide (e.Op = 2) || decide (e.Op = 3)
def okB (l : List S_diff_Edit) : Bool := l.all opOk
def dels (l : List S_diff_Edit) : Nat := (l.filter fun e => !decide (e.Op = 3)).length
def adds (l : List S_diff_Edit) : Nat := (l.filter fun e => !decide (e.Op = 2)).length
theorem okB_next {l : List S_diff_Edit} {k : Nat} (hk : k < l.length) : okB (l.take (k + 1)) = (okB (l.take k) && opOk (lget l (k : Int))) := by rw [take_lget hk]; unfold okB; rw [List.all_append]; simp
theorem okB_bad {l : List S_diff_Edit} {k : Nat} (hk : k < l.length) (h : opOk (lget l (k : Int)) = false) : okB l = false := by
  rw [← List.take_append_drop (k + 1) l]; unfold okB; rw [List.all_append, show (l.take (k + 1)).all opOk = okB (l.take (k + 1)) from rfl, okB_next hk, h]; simp
theorem dels_next {l : List S_diff_Edit} {k : Nat} (hk : k < l.length) : dels (l.take (k + 1)) = dels (l.take k) + (if (lget l (k : Int)).Op = 3 then 0 else 1) := by
  unfold dels; rw [cntN _ hk]
  by_cases h : (lget l (k : Int)).Op = 3 <;> simp [h]
theorem adds_next {l : List S_diff_Edit} {k : Nat} (hk : k < l.length) : adds (l.take (k + 1)) = adds (l.take k) + (if (lget l (k : Int)).Op = 2 then 0 else 1) := by
  unfold adds; rw [cntN _ hk]
  by_cases h : (lget l (k : Int)).Op = 2 <;> simp [h]
theorem dels_le (l : List S_diff_Edit) : dels l ≤ l.length := List.length_filter_le _ _
theorem adds_le (l : List S_diff_Edit) : adds l ≤ l.length := List.length_filter_le _ _
theorem dels_mono (l : List S_diff_Edit) (k : Nat) : dels (l.take k) ≤ dels l := by
  have := congrArg dels (List.take_append_drop k l)
  unfold dels at this ⊢; rw [List.filter_append, List.length_append] at this; omega
theorem counts_p {l : List S_diff_Edit} {Q : Int → Int → Bool → Prop} (hl : l.length ≤ 1000000) (h1 : okB l = true → Q (dels l : Int) (adds l : Int) true) (h2 : okB l = false → Q 0 0 false) : patch_counts_p l Q := by
  unfold patch_counts_p; simp only [inR_i64]; intro _
  refine ⟨fun d a s => ∃ k : Nat, s = k ∧ k ≤ l.length ∧ okB (l.take k) = true ∧ d = (dels (l.take k) : Int) ∧ a = (adds (l.take k) : Int), fun _ _ s => l.length - s.toNat, ⟨0, rfl, Nat.zero_le _, rfl, rfl, rfl⟩, ?_⟩
  rintro _ _ _ ⟨k, rfl, hk, hok, rfl, rfl⟩ _ _ _
  have b1 := dels_le (l.take k)
  have b2 := adds_le (l.take k)
  rw [List.length_take] at b1 b2
  refine ⟨fun hlt => ?_, fun hge => ?_⟩
  · have hkl : k < l.length := by omega
    have hd := dels_next hkl
    have ha := adds_next hkl
    have ho := okB_next hkl
    rw [hok, Bool.true_and] at ho
    refine ⟨fun d a => okB (l.take (k + 1)) = true ∧ d = (dels (l.take (k + 1)) : Int) ∧ a = (adds (l.take (k + 1)) : Int), ?_, inL_nat.2 hkl, fun _ _ => ⟨fun a => ((lget l (k : Int)).Op = 1 ∨ (lget l (k : Int)).Op = 2) ∧ a = (adds (l.take (k + 1)) : Int), ?_, ?_⟩⟩
    · rintro _ _ ⟨h3, rfl, rfl⟩ _ _
      exact ⟨⟨by omega, by omega⟩, ⟨k + 1, rfl, hkl, h3, rfl, rfl⟩, by dsimp only; omega⟩
    · rintro _ ⟨h3, rfl⟩ _
      have h4 : ¬ (lget l (k : Int)).Op = 3 := by omega
      rw [if_neg h4] at hd
      refine ⟨⟨by omega, by omega⟩, ?_, by omega, rfl⟩
      rw [ho]; unfold opOk; rcases h3 with h3 | h3 <;> simp [h3]
    · refine ⟨fun e1 => ⟨⟨by omega, by omega⟩, .inl e1, ?_⟩, fun n1 => ⟨fun e2 => ⟨.inr e2, ?_⟩, fun n2 => ⟨fun e3 => ⟨⟨by omega, by omega⟩, ?_, ?_, ?_⟩, fun n3 => h2 (okB_bad hkl ?_)⟩⟩⟩
      · rw [if_neg (by omega)] at ha; omega
      · rw [if_pos e2] at ha; omega
      · rw [ho]; unfold opOk; simp [e3]
      · rw [if_pos e3] at hd; omega
      · rw [if_neg (by omega)] at ha; omega
      · unfold opOk; simp [n1, n2, n3]
  · have : k = l.length := by omega
    subst this; rw [List.take_length] at hok ⊢
    exact h1 hok
def formC (h : S_patch_Hunk) (e s : Int) : Int := if okB h.Lines = false then 2 else if (¬ ((dels h.Lines : Int) = h.Del)) ∨ (¬ ((adds h.Lines : Int) = h.Add)) ∨ h.At < 0 ∨ h.To < 0 ∨ h.At < e ∨ (¬ (h.To - s = h.At)) then 1 else 0
theorem form_p {h : S_patch_Hunk} {e s : Int} {Q : Int → Prop} (hl : h.Lines.length ≤ 1000000) (ht : -4398046511104 ≤ h.To ∧ h.To ≤ 4398046511104) (hs : -4398046511104 ≤ s ∧ s ≤ 4398046511104) (hq : Q (formC h e s)) : patch_form_p h e s Q := by
  unfold patch_form_p; intro _ _ _ _ _ _ _
  refine counts_p hl (fun hok => ?_) (fun hok => ?_)
  · refine fun _ _ => ⟨fun hx => (by cases hx), fun _ => ⟨⟨fun _ => ⟨fun _ => ⟨fun _ => trivial, fun _ => ⟨fun _ => trivial, fun _ => ⟨fun _ => trivial, fun _ => ⟨inR_i64.2 ⟨by omega, by omega⟩, trivial⟩⟩⟩⟩, fun _ => trivial⟩, fun _ => trivial⟩, fun hc => ?_, fun hc => ?_⟩⟩
    · unfold formC at hq; rw [if_neg (by rw [hok]; decide), if_pos hc] at hq; exact hq
    · unfold formC at hq; rw [if_neg (by rw [hok]; decide), if_neg hc] at hq; exact hq
  · refine fun _ _ => ⟨fun _ => ?_, fun hx => (by cases hx)⟩
    unfold formC at hq; rw [if_pos hok] at hq; exact hq
def fitsB (a : List ByteArray) : Int → List S_diff_Edit → Bool
  | _, [] => true
  | i, e :: r => if e.Op = 3 then fitsB a i r else decide (lget a i = e.Line) && fitsB a (i + 1) r
def fitsC (a : List ByteArray) (h : S_patch_Hunk) : Int := if h.At > (a.length : Int) ∨ h.Del > (a.length : Int) - h.At then 4 else if fitsB a h.At h.Lines = true then 0 else 9
theorem fits_p {a : List ByteArray} {h : S_patch_Hunk} {Q : Int → Prop} (ha : a.length ≤ 1000000) (hl : h.Lines.length ≤ 1000000) (h0 : 0 ≤ h.At) (hd : h.Del = (dels h.Lines : Int)) (hq : Q (fitsC a h)) : patch_fits_p a h Q := by
  unfold patch_fits_p; simp only [inR_i64]; intro _ _ _ _ _ _
  have hdl := dels_le h.Lines
  refine ⟨⟨fun _ => trivial, fun _ => ⟨⟨by omega, by omega⟩, trivial⟩⟩, fun hc => ?_, fun hc => ?_⟩
  · unfold fitsC at hq; rw [if_pos hc] at hq; exact hq
  unfold fitsC at hq; rw [if_neg hc] at hq
  refine ⟨fun i s => ∃ k : Nat, s = k ∧ k ≤ h.Lines.length ∧ i = h.At + (dels (h.Lines.take k) : Int) ∧ fitsB a h.At h.Lines = fitsB a i (h.Lines.drop k), fun _ s => h.Lines.length - s.toNat, ⟨0, rfl, Nat.zero_le _, by simp [dels], rfl⟩, ?_⟩
  rintro _ _ ⟨k, rfl, hk, rfl, hf⟩ _ _
  have hm1 := dels_mono h.Lines (k + 1)
  have hm := dels_mono h.Lines k
  refine ⟨fun hlt => ?_, fun hge => ?_⟩
  · have hkl : k < h.Lines.length := by omega
    have hdn := dels_next hkl
    rw [dropL hkl, fitsB] at hf
    refine ⟨fun i => i = h.At + (dels (h.Lines.take (k + 1)) : Int) ∧ fitsB a h.At h.Lines = fitsB a i (h.Lines.drop (k + 1)), ?_, inL_nat.2 hkl, fun _ _ => ⟨fun e3 => ?_, fun n3 => ?_⟩⟩
    · rintro _ ⟨rfl, h4⟩ _
      exact ⟨⟨by omega, by omega⟩, ⟨k + 1, rfl, hkl, rfl, h4⟩, by dsimp only; omega⟩
    · rw [if_pos e3] at hf hdn; exact ⟨by omega, hf⟩
    · rw [if_neg n3] at hf hdn
      refine ⟨⟨by omega, by omega⟩, fun _ => ⟨fun hne => ?_, fun heq => ⟨⟨by omega, by omega⟩, by omega, ?_⟩⟩⟩
      · rw [decide_eq_false hne, Bool.false_and] at hf
        rw [hf] at hq; exact hq
      · rw [decide_eq_true heq, Bool.true_and] at hf; exact hf
  · have : k = h.Lines.length := by omega
    subst this
    rw [List.drop_length] at hf
    rw [hf] at hq; exact hq
def codeC (a : List ByteArray) (h : S_patch_Hunk) (e s : Int) : Int := if formC h e s = 0 then fitsC a h else formC h e s
theorem code_zero {a : List ByteArray} {h : S_patch_Hunk} {e s : Int} (hc : codeC a h e s = 0) : okB h.Lines = true ∧ (dels h.Lines : Int) = h.Del ∧ (adds h.Lines : Int) = h.Add ∧ 0 ≤ h.At ∧ 0 ≤ h.To ∧ e ≤ h.At ∧ h.To - s = h.At ∧ h.At ≤ (a.length : Int) ∧ h.Del ≤ (a.length : Int) - h.At ∧ fitsB a h.At h.Lines = true := by
  unfold codeC at hc
  by_cases hf : formC h e s = 0
  · rw [if_pos hf] at hc
    unfold formC at hf
    split at hf
    · cases hf
    · rename_i hok
      split at hf
      · cases hf
      · rename_i hn
        unfold fitsC at hc
        split at hc
        · cases hc
        · rename_i hn2
          split at hc
          · rename_i hfb
            exact ⟨by simpa using hok, by omega, by omega, by omega, by omega, by omega, by omega, by omega, by omega, hfb⟩
          · cases hc
  · rw [if_neg hf] at hc; exact absurd hc hf
theorem form_zero {h : S_patch_Hunk} {e s : Int} (hf : formC h e s = 0) : 0 ≤ h.At ∧ h.Del = (dels h.Lines : Int) := by
  unfold formC at hf
  split at hf
  · cases hf
  · split at hf
    · cases hf
    · rename_i hn; exact ⟨by omega, by omega⟩
def adL (h : S_patch_Hunk) : List ByteArray := (h.Lines.filter fun e => !decide (e.Op = 2)).map S_diff_Edit.Line
def hunkB : ByteArray := ByteArray.mk #[104, 117, 110, 107]
def apl (a : List ByteArray) : List S_patch_Hunk → Nat → List ByteArray → Int → List ByteArray × Option (Nat × Int)
  | [], _, out, e => (out ++ a.drop e.toNat, none)
  | x :: r, k, out, e => if codeC a x e ((out.length : Int) - e) = 0 then apl a r (k + 1) ((out ++ (a.take x.At.toNat).drop e.toNat) ++ adL x) (x.At + x.Del) else ([], some (k, codeC a x e ((out.length : Int) - e)))
def eOf : Option (Nat × Int) → PErr
  | none => .nil
  | some (k, c) => .fault hunkB (k : Int) c
def smallH (h : List S_patch_Hunk) : Prop := h.length ≤ 1000 ∧ ∀ k : Nat, k < h.length → (lget h (k : Int)).Lines.length ≤ 1000 ∧ (-1099511627776 ≤ (lget h (k : Int)).At ∧ (lget h (k : Int)).At ≤ 1099511627776) ∧ (-1099511627776 ≤ (lget h (k : Int)).To ∧ (lget h (k : Int)).To ≤ 1099511627776)
theorem adL_take {l : List S_diff_Edit} {k : Nat} (hk : k < l.length) : ((l.take (k + 1)).filter fun e => !decide (e.Op = 2)).map S_diff_Edit.Line = ((l.take k).filter fun e => !decide (e.Op = 2)).map S_diff_Edit.Line ++ (if (lget l (k : Int)).Op = 2 then [] else [(lget l (k : Int)).Line]) := by
  rw [take_lget hk, List.filter_append, List.map_append]
  by_cases h : (lget l (k : Int)).Op = 2 <;> simp [h]
theorem midL (a : List ByteArray) (x e : Int) (h : 0 ≤ e ∧ e ≤ x ∧ x ≤ (a.length : Int)) : (((a.take x.toNat).drop e.toNat).length : Int) = x - e := by rw [List.length_drop, List.length_take]; omega
theorem Apply_p {a : List ByteArray} {h : List S_patch_Hunk} {Q : List ByteArray → PErr → Prop} (ha : a.length ≤ 1000000) (hh : smallH h) (hq : Q (apl a h 0 [] 0).1 (eOf (apl a h 0 [] 0).2)) : patch_Apply_p a h Q := by
  unfold patch_Apply_p; simp only [inR_i64]; intro _ _
  refine ⟨fun out e s => ∃ k : Nat, s = k ∧ k ≤ h.length ∧ apl a h 0 [] 0 = apl a (h.drop k) k out e ∧ 0 ≤ e ∧ e ≤ (a.length : Int) ∧ (out.length : Int) ≤ e + 1000 * k, fun _ _ s => h.length - s.toNat, ⟨0, rfl, Nat.zero_le _, rfl, Int.le_refl _, by omega, by simp⟩, ?_⟩
  rintro out e _ ⟨k, rfl, hk, hap, he0, hea, hol⟩ _ _ _
  have hh1 := hh.1
  refine ⟨fun hlt => ?_, fun hge => ?_⟩
  · have hkl : k < h.length := by omega
    obtain ⟨b1, b2, b3⟩ := hh.2 k hkl
    rw [dropL hkl, apl] at hap
    generalize hx : lget h (k : Int) = x at *
    have hdl := dels_le x.Lines
    refine ⟨inL_nat.2 hkl, fun _ _ _ _ _ => ⟨⟨by omega, by omega⟩, ?_⟩⟩
    refine form_p (by omega) (by omega) (by omega) (fun _ => ?_)
    refine ⟨fun c => c = codeC a x e ((out.length : Int) - e), ?_, fun hf => ?_, fun hf => ?_⟩
    · rintro _ rfl _
      refine ⟨fun hne => ?_, fun hz => ?_⟩
      · rw [if_neg hne] at hap; rw [hap] at hq; exact hq
      · rw [if_pos hz] at hap
        obtain ⟨z1, z2, z3, z4, z5, z6, z7, z8, z9, z10⟩ := code_zero hz
        have hml := midL a x.At e ⟨he0, z6, z8⟩
        refine ⟨⟨he0, z6, z8⟩, by omega, fun o s => ∃ j : Nat, s = j ∧ j ≤ x.Lines.length ∧ o = (out ++ (a.take x.At.toNat).drop e.toNat) ++ ((x.Lines.take j).filter fun e => !decide (e.Op = 2)).map S_diff_Edit.Line ∧ o.length ≤ out.length + ((a.take x.At.toNat).drop e.toNat).length + j, fun _ s => x.Lines.length - s.toNat, ⟨0, rfl, Nat.zero_le _, by simp, by simp⟩, ?_⟩
        rintro o _ ⟨j, rfl, hj, ho, hjl⟩ _ _
        refine ⟨fun hlt => ?_, fun hge => ?_⟩
        · have hjl2 : j < x.Lines.length := by omega
          have hat := adL_take hjl2
          refine ⟨fun o2 => o2 = (out ++ (a.take x.At.toNat).drop e.toNat) ++ ((x.Lines.take (j + 1)).filter fun e => !decide (e.Op = 2)).map S_diff_Edit.Line ∧ o2.length ≤ out.length + ((a.take x.At.toNat).drop e.toNat).length + (j + 1), ?_, inL_nat.2 hjl2, fun _ _ => ⟨fun n2 => ?_, fun e2 => ?_⟩⟩
          · rintro o2 ⟨h4, h5⟩ _
            exact ⟨⟨by omega, by omega⟩, ⟨j + 1, rfl, hjl2, h4, h5⟩, by dsimp only; omega⟩
          · rw [if_neg n2] at hat
            have : ([(lget x.Lines (j : Int)).Line]).length = 1 := rfl
            refine ⟨by omega, ?_, ?_⟩
            · rw [hat, ← List.append_assoc, ← ho]
            · rw [List.length_append]; omega
          · rw [if_pos e2, List.append_nil] at hat
            exact ⟨by rw [hat]; exact ho, by omega⟩
        · have : j = x.Lines.length := by omega
          subst this
          rw [List.take_length] at ho
          refine ⟨⟨by omega, by omega⟩, ⟨by omega, by omega⟩, ⟨k + 1, rfl, hkl, ?_, by omega, by omega, by omega⟩, by dsimp only; omega⟩
          rw [hap, ho]; rfl
    · obtain ⟨f1, f2⟩ := form_zero hf
      refine fits_p ha (by omega) f1 f2 (fun _ => ?_)
      show fitsC a x = _; unfold codeC; rw [if_pos hf]
    · show formC x e _ = _; unfold codeC; rw [if_neg hf]
  · have : k = h.length := by omega
    subst this
    rw [List.drop_length, apl] at hap
    have hdl : (a.drop e.toNat).length ≤ a.length := by rw [List.length_drop]; omega
    refine ⟨⟨he0, hea⟩, by omega, ?_⟩
    unfold slices_Clip_string_string_p
    refine fun _ => ⟨⟨by omega, by omega⟩, fun _ => ?_⟩
    rw [hap] at hq; exact hq
end Go.Proofs.YtnnbnljofklieaaDoor
