/- The plain law of PatchMoved. -/
import Derived.Test.YtkmenljohhngjaaDoorPmK
import Derived.Test.YtkmenljohhngjaaDoorPmE
namespace Go.Proofs.YtkmenljohhngjaaDoor
open Go
def toE (e : PEd) : S_diff_Edit := ⟨e.op, e.line⟩
theorem To_p {L : List PEd} {Q : List S_diff_Edit → Prop} (hl : L.length ≤ 1000000) (h : Q (L.map toE)) : rectolaw11_To_p (L.map toR) Q := by
  unfold rectolaw11_To_p; simp only [inR_i64]; intro _
  have hlen : (L.map toR).length = L.length := List.length_map ..
  refine ⟨fun o i => ∃ k : Nat, i = k ∧ k ≤ L.length ∧ o = (L.take k).map toE, fun _ i => (L.length - i).toNat, ⟨0, rfl, by omega, rfl⟩, ?_⟩
  rintro _ _ ⟨k, rfl, hk, rfl⟩ _ _
  refine ⟨fun hlt => ?_, fun hge => ?_⟩
  · have hkl : k < L.length := by rw [hlen] at hlt; omega
    have hin : inL (L.map toR) (k : Int) := inL_nat.2 (by omega)
    rw [lget_map toR hkl]
    refine ⟨hin, fun _ _ => ⟨hin, fun _ _ => ⟨?_, by omega, ⟨k + 1, rfl, hkl, ?_⟩, by dsimp only; omega⟩⟩⟩
    · rw [List.length_map, List.length_take]; show (_ + 1) * 24 ≤ _; omega
    · rw [List.take_succ_eq_append_getElem hkl, List.map_append]; rfl
  · rw [List.take_of_length_le (by rw [hlen] at hge; omega)]; exact h
theorem cntC_le (l : List S_diff_Edit) : 0 ≤ (cntC l).1 ∧ (cntC l).1 ≤ l.length ∧ 0 ≤ (cntC l).2 ∧ (cntC l).2 ≤ l.length := by
  unfold cntC
  have h1 := dels_le l; have h2 := adds_le l
  split
  · dsimp only; omega
  · dsimp only; omega
def okH (x : S_patch_Hunk) : Prop := x.Lines.length ≤ 1000 ∧ (-1099511627776 ≤ x.At ∧ x.At ≤ 1099511627776) ∧ (-1099511627776 ≤ x.To ∧ x.To ≤ 1099511627776)
theorem hunkC_ok {l : List S_diff_Edit} (hl : l.length ≤ 1000) (i j : Int) : okH (hunkC l i j) := by
  have h1 := cntC_le (l.take i.toNat)
  have h2 : (l.take i.toNat).length ≤ l.length := by rw [List.length_take]; omega
  have h3 : ((l.take j.toNat).drop i.toNat).length ≤ l.length := by rw [List.length_drop, List.length_take]; omega
  unfold hunkC
  exact ⟨by show ((l.take j.toNat).drop i.toNat).length ≤ 1000; omega, ⟨by dsimp only; omega, by dsimp only; omega⟩, ⟨by dsimp only; omega, by dsimp only; omega⟩⟩
theorem Hunks_small {l : List S_diff_Edit} {Q : List S_patch_Hunk → Prop} (hl : l.length ≤ 500) (h : ∀ H, smallH H → Q H) : patch_Hunks_p l 0 Q := by
  have hmm : min (max (0 : Int) (0 : Int)) (16 : Int) = 0 := by decide
  unfold patch_Hunks_p; simp only [inR_i64, hmm]; intro _ _
  have small : ∀ out : List S_patch_Hunk, out.length ≤ 1000 → (∀ x ∈ out, okH x) → smallH out := fun out h1 h2 => ⟨h1, fun k hk => h2 _ (lget_mem (inL_nat.2 hk))⟩
  refine ⟨fun out i j s => 0 ≤ s ∧ s ≤ l.length ∧ (out.length : Int) ≤ s ∧ (∀ x ∈ out, okH x) ∧ (j = -1 ∨ (0 ≤ i ∧ i ≤ j ∧ j ≤ s)), fun _ _ _ s => (l.length - s).toNat, ⟨Int.le_refl _, by omega, by simp, (fun x hx => by cases hx), .inl rfl⟩, ?_⟩
  rintro out i j s ⟨h0, hs, hol, hok, hij⟩ _ _ _ _
  refine ⟨fun hlt => ⟨fun o2 i2 j2 => (o2.length : Int) ≤ s + 1 ∧ (∀ x ∈ o2, okH x) ∧ (j2 = -1 ∨ (0 ≤ i2 ∧ i2 ≤ j2 ∧ j2 ≤ s + 1)), ?_, ⟨by omega, by omega⟩, fun _ _ => ⟨fun h1 => ⟨by omega, hok, by omega⟩, fun n1 => ⟨by omega, by omega, by omega, fun o2 i2 => (o2.length : Int) ≤ s + 1 ∧ (∀ x ∈ o2, okH x) ∧ 0 ≤ i2 ∧ i2 ≤ s, ?_, fun h2 => ⟨by omega, hok, by omega, by omega⟩, fun h2 => ⟨fun h3 => ?_, fun h3 => ⟨by omega, hok, by omega, by omega⟩⟩⟩⟩⟩, fun hge => ?_⟩
  · rintro o2 i2 j2 ⟨g1, g2, g3⟩ _ _ _
    exact ⟨by omega, ⟨by omega, by omega, g1, g2, g3⟩, by dsimp only; omega⟩
  · rintro o2 i2 ⟨g1, g2, g3, g4⟩ _ _
    exact ⟨g1, g2, .inr ⟨g3, by omega, by omega⟩⟩
  · refine phunk_p (by omega) ⟨by omega, by omega, by omega⟩ (fun _ _ _ _ _ => ⟨by show (out.length + 1) * 56 ≤ _; omega, ?_, ?_, by omega, by omega⟩)
    · rw [List.length_append]; show ((out.length + 1 : Nat) : Int) ≤ _; omega
    · intro x hx
      rcases List.mem_append.1 hx with hx | hx
      · exact hok x hx
      · simp at hx; rw [hx]; exact hunkC_ok (by omega) _ _
  · refine ⟨fun o2 => o2.length ≤ 1000 ∧ ∀ x ∈ o2, okH x, ?_, fun h2 => ?_, fun h2 => ⟨by omega, hok⟩⟩
    · rintro o2 ⟨g1, g2⟩ _
      unfold slices_Clip_patch_Hunk_patch_Hunk_p
      exact fun _ => ⟨⟨by omega, by omega⟩, fun _ => h _ (small o2 g1 g2)⟩
    · refine phunk_p (by omega) ⟨by omega, by omega, by omega⟩ (fun _ _ _ _ _ => ⟨by show (out.length + 1) * 56 ≤ _; omega, ?_, ?_⟩)
      · rw [List.length_append]; show out.length + 1 ≤ _; omega
      · intro x hx
        rcases List.mem_append.1 hx with hx | hx
        · exact hok x hx
        · simp at hx; rw [hx]; exact hunkC_ok (by omega) _ _
theorem apl_code (a : List ByteArray) : ∀ (l : List S_patch_Hunk) (k : Nat) (out : List ByteArray) (e : Int) (j : Nat) (c : Int), (apl a l k out e).2 = some (j, c) → c ≠ 0 := by
  intro l
  induction l with
  | nil => intro k out e j c hx; rw [apl] at hx; cases hx
  | cons x r ih =>
    intro k out e j c hx
    rw [apl] at hx
    split at hx
    · exact ih _ _ _ _ _ hx
    · rename_i hn
      injection hx with hx; injection hx with h1 h2; subst h2
      exact hn
theorem PatchMoved_p {a b : List ByteArray} {Q : Bool → Prop} (h : Q true) : rectolaw12_PatchMoved_p a b Q := by
  unfold rectolaw12_PatchMoved_p; intro _ _
  refine known12_p ⟨fun hx => (by cases hx), fun _ => ⟨fun s => s = true ∨ (a.length ≤ 50 ∧ b.length ≤ 50), ?_, few_p (fun ha hb => ⟨fun _ => rEqual_p (.inr ⟨ha, hb⟩), fun hx => (by cases hx)⟩) ⟨fun hx => (by cases hx), fun _ => .inl rfl⟩⟩⟩
  intro s hs
  refine ⟨fun _ => h, fun hf => ?_⟩
  obtain ⟨ha, hb⟩ : a.length ≤ 50 ∧ b.length ≤ 50 := by
    rcases hs with hs | hs
    · rw [hs] at hf; cases hf
    · exact hs
  have he := ed_len a b
  refine rLines_p (fun hx => absurd hx (by omega)) (fun _ hx => absurd hx (by omega)) (fun _ _ _ _ _ => To_p (by omega) (fun _ => Hunks_small (by rw [List.length_map]; omega) fun H hH _ => ?_))
  have hla : ([(ByteArray.mk #[122, 122, 10])] ++ a).length ≤ 1000000 := by rw [List.length_append]; show 1 + _ ≤ _; omega
  refine ⟨by show (1 + _) * 16 ≤ _; omega, Apply_p hla hH (fun _ => ⟨by show (1 + _) * 16 ≤ _; omega, rOfH_p hH (fun _ => rApply_p hla hH (fun _ _ _ => ⟨fun r => r = true, by rintro _ rfl; exact h, fun _ => rEqual_p (decide_eq_true rfl), fun hx => absurd ?_ hx⟩))⟩)⟩
  cases ho : (apl ([(ByteArray.mk #[122, 122, 10])] ++ a) H 0 [] 0).2 with
  | none => rfl
  | some kc =>
    obtain ⟨k, c⟩ := kc
    have := apl_code _ _ _ _ _ _ _ ho
    show false = decide (c = 0)
    rw [decide_eq_false this]
end Go.Proofs.YtkmenljohhngjaaDoor
