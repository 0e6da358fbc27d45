/- The laws of the difference of two rows of lines: plain proofs over their predicates. -/
import Derived.Test.YtmepomdpjlbaaaaD3
import Derived.Test.YtmepomdpjlbaaaaP11
namespace Go.Proofs.Ytmepomdpjlbaaaa
open Go
theorem ed_known : ed [ByteArray.mk #[97], ByteArray.mk #[98]] [ByteArray.mk #[97], ByteArray.mk #[99]] = [⟨1, ByteArray.mk #[97]⟩, ⟨2, ByteArray.mk #[98]⟩, ⟨3, ByteArray.mk #[99]⟩] := by
  simp [ed, lcs]
theorem lcs_known : lcs [ByteArray.mk #[97], ByteArray.mk #[98]] [ByteArray.mk #[97], ByteArray.mk #[99]] = 1 := by
  simp [lcs]
theorem known11_p {Q : Bool → Prop} (h : Q true) : rectolaw11_known_p Q := by
  unfold rectolaw11_known_p
  refine Lines_p (by simp) (by simp) fun _ _ _ => ?_
  refine Matches_p (by simp) (by simp) fun _ _ _ => ?_
  refine Common_p (by simp) (by simp) fun _ _ _ => ?_
  rw [ed_known, lcs_known]
  refine ⟨fun c => c = true, by rintro _ rfl; exact h, ?_⟩
  refine ⟨fun _ => ⟨fun _ => ⟨fun _ => ⟨fun _ => ⟨by decide, fun _ _ => ⟨fun _ => ⟨by decide, fun _ _ => ⟨fun _ => ⟨by decide, fun _ _ => ⟨fun _ => ⟨by decide, fun _ _ => ⟨fun _ => ⟨fun _ => ⟨by decide, fun _ _ _ => ⟨fun _ => ⟨fun _ => ?_, fun h => absurd rfl h⟩, fun h => absurd rfl h⟩⟩, fun h => absurd rfl h⟩, fun h => absurd rfl h⟩⟩, fun h => absurd rfl h⟩⟩, fun h => absurd rfl h⟩⟩, fun h => absurd rfl h⟩⟩, fun h => absurd rfl h⟩, fun h => absurd rfl h⟩, fun h => absurd rfl h⟩, fun h => absurd rfl h⟩
  exact Cost_p (l := [⟨1, ByteArray.mk #[97]⟩, ⟨2, ByteArray.mk #[98]⟩, ⟨3, ByteArray.mk #[99]⟩]) (by decide) fun _ => rfl

theorem notAdd_snoc (l : List PEd) (e : PEd) : notAdd (l ++ [e]) = if e.op = 3 then notAdd l else notAdd l ++ [e.line] := by
  unfold notAdd; rw [List.filter_append]; by_cases h : e.op = 3 <;> simp [h]
theorem notDel_snoc (l : List PEd) (e : PEd) : notDel (l ++ [e]) = if e.op = 2 then notDel l else notDel l ++ [e.line] := by
  unfold notDel; rw [List.filter_append]; by_cases h : e.op = 2 <;> simp [h]
theorem notAdd_le (l : List PEd) : (notAdd l).length ≤ l.length := by unfold notAdd; rw [List.length_map]; exact List.length_filter_le _ _
theorem notDel_le (l : List PEd) : (notDel l).length ≤ l.length := by unfold notDel; rw [List.length_map]; exact List.length_filter_le _ _

theorem DiffDone_p {A B : List ByteArray} {Q : Bool → Prop} (h : Q true) : rectolaw11_DiffDone_p A B Q := by
  unfold rectolaw11_DiffDone_p
  simp only [inR_i64]
  intro _ _
  refine known11_p ⟨fun h => by simp at h, fun _ => Few_p (fun hA3 hB3 => ⟨fun h => by simp at h, fun _ => ?_⟩) ⟨fun _ => h, fun h => by simp at h⟩⟩
  refine Lines_p (fun hA _ => ⟨fun _ => ?_, fun h => by simp [PErr.isNil] at h⟩) (fun hA hB _ => ⟨fun _ => ?_, fun h => by simp [PErr.isNil] at h⟩) fun hA hB _ => ⟨fun h => by simp [PErr.isNil] at h, fun _ => ?_⟩
  · rwa [decide_eq_true (Or.inl (by omega))]
  · rwa [decide_eq_true (Or.inr (by omega))]
  have hl := ed_len A B
  have ha := ed_notAdd A B
  have hd := ed_notDel A B
  generalize ed A B = l at hl ha hd
  have hlen : (l.map toE).length = l.length := by simp
  refine ⟨fun x y i => ∃ k : Nat, i = k ∧ k ≤ l.length ∧ x = notAdd (l.take k) ∧ y = notDel (l.take k), fun _ _ i => ((l.map toE).length - i).toNat, ⟨0, rfl, by omega, by simp [notAdd], by simp [notDel]⟩, ?_⟩
  rintro _ _ _ ⟨k, rfl, hk, rfl, rfl⟩ _ _ _
  have b1 := notAdd_le (l.take k)
  have b2 := notDel_le (l.take k)
  rw [List.length_take] at b1 b2
  refine ⟨fun hi => ?_, fun hi => ?_⟩
  · have hk' : k < l.length := by omega
    have t1 := notAdd_snoc (l.take k) l[k]
    have t2 := notDel_snoc (l.take k) l[k]
    rw [← List.take_succ_eq_append_getElem hk'] at t1 t2
    rw [lget_map toE hk']
    have hin : inL (l.map toE) (k : Int) := inL_nat.2 (by simpa using hk')
    refine ⟨fun x y => x = notAdd (l.take (k + 1)) ∧ y = notDel (l.take (k + 1)), ?_, hin, fun _ _ => ?_⟩
    · rintro _ _ ⟨rfl, rfl⟩ _ _
      exact ⟨by omega, ⟨k + 1, rfl, by omega, rfl, rfl⟩, by dsimp only; omega⟩
    refine ⟨fun x => x = notAdd (l.take (k + 1)), ?_, fun h3 => ⟨hin, fun _ _ => ⟨by simp; omega, ?_⟩⟩, fun h3 => ?_⟩
    · rintro _ rfl _
      refine ⟨hin, fun _ _ => ⟨fun h2 => ⟨hin, fun _ _ => ⟨by simp; omega, rfl, ?_⟩⟩, fun h2 => ⟨rfl, ?_⟩⟩⟩
      · have h2 : ¬ l[k].op = 2 := h2
        rw [t2, if_neg h2]; rfl
      · have h2 : l[k].op = 2 := h2
        rw [t2, if_pos h2]
    · have h3 : ¬ l[k].op = 3 := h3
      rw [t1, if_neg h3]; rfl
    · have h3 : l[k].op = 3 := h3
      rw [t1, if_pos h3]
  · rw [List.take_of_length_le (by omega), ha, hd]
    refine ⟨fun c => c = true, by rintro _ rfl; exact h, ?_⟩
    exact EqualR_p (by simpa using EqualR_p (by simp))

theorem DiffTurned_p {A B : List ByteArray} {Q : Bool → Prop} (h : Q true) : rectolaw11_DiffTurned_p A B Q := by
  unfold rectolaw11_DiffTurned_p
  simp only [inR_i64]
  intro _ _
  refine known11_p ⟨fun h => by simp at h, fun _ => ?_⟩
  refine ⟨fun c => c = true ∨ A.length ≤ 256 ∧ B.length ≤ 256, ?_, Few_p (fun _ _ => ⟨fun _ => ⟨fun _ => Or.inl rfl, fun hA => ?_⟩, fun h => by simp at h⟩) ⟨fun h => by simp at h, fun _ => Or.inl rfl⟩⟩
  · intro c hc
    refine ⟨fun _ => h, fun hf => ?_⟩
    obtain ⟨hA, hB⟩ := hc.resolve_left (by rw [hf]; simp)
    refine Lines_p (fun h => by omega) (fun _ h => by omega) fun _ _ _ => Lines_p (fun h => by omega) (fun _ h => by omega) fun _ _ _ => Common_p (fun h => by omega) (fun _ h => by omega) fun _ _ _ => ?_
    have l1 := ed_len A B
    have l2 := ed_len B A
    have hc := ed_cost A B
    have hm := cost_comm A B
    have hz := cost_zero A B
    have hle := lcs_le A B
    refine ⟨fun c => c = true, by rintro _ rfl; exact h, ?_⟩
    refine ⟨fun _ => ⟨fun _ => ⟨fun _ => ?_, fun h => absurd rfl h⟩, fun h => absurd rfl h⟩, fun h => absurd rfl h⟩
    refine Cost_p (by omega) fun _ => Cost_p (by omega) fun _ => ⟨fun _ => Cost_p (by omega) fun _ => ⟨by omega, by omega, by omega, fun _ => Cost_p (by omega) fun _ => EqualR_p ?_, fun h => absurd (by omega) h⟩, fun h => absurd (by omega) h⟩
    have : decide ((((cost (ed A B)) : Nat) : Int) = 0) = decide (A = B) := by rw [decide_eq_decide, ← hz]; omega
    simpa using this
  · by_cases hB : (B.length : Int) > 256
    · exact Or.inl (decide_eq_true hB)
    · exact Or.inr ⟨by omega, by omega⟩

theorem two_size (c : UInt8) (n : Int) : (ByteArray.mk #[c] ++ strOfNums [n]).size ≤ maxLen := by
  rw [ByteArray.size_append, strOfNums_size]; unfold maxLen; simp [ByteArray.size]
theorem DiffLeast_p {C : List ByteArray} {A B : List Int} {Q : Bool → Prop} (h : Q true) : rectolaw11_DiffLeast_p C A B Q := by
  unfold rectolaw11_DiffLeast_p
  simp only [inR_i64]
  intro _ _ _
  refine known11_p ⟨fun h => by simp at h, fun _ => ⟨fun _ => h, fun hn => ?_⟩⟩
  have hC : C.length ≤ 20 := by omega
  refine ⟨fun x y i => ∃ k : Nat, i = k ∧ k ≤ C.length ∧ (C.take k).Sublist x ∧ (C.take k).Sublist y ∧ x.length ≤ 3 * k ∧ y.length ≤ 3 * k, fun _ _ i => (C.length - i).toNat, ⟨0, rfl, by omega, by simp, by simp, by simp, by simp⟩, ?_⟩
  rintro x y _ ⟨k, rfl, hk, hx, hy, lx, ly⟩ _ _ _
  refine ⟨fun hi => ?_, fun hi => ?_⟩
  · have hk' : k < C.length := by omega
    have hin : inL C (k : Int) := inL_nat.2 hk'
    refine ⟨hin, fun _ => ⟨fun _ => h, fun _ => ?_⟩⟩
    have inner : ∀ (c : UInt8) (D : List Int) (x : List ByteArray) (K : List ByteArray → Prop), (C.take k).Sublist x → x.length ≤ 3 * k → ((k : Int) < D.length) → (∀ x', (C.take k).Sublist x' → x'.length ≤ 3 * k + 2 → K x') →
        ∃ (I : List ByteArray → Int → Prop) (m : List ByteArray → Int → Nat), I x 0 ∧ ∀ (x' : List ByteArray) (q : Int), I x' q → x'.length ≤ 9223372036854775807 → (-9223372036854775808 ≤ q ∧ q ≤ 9223372036854775807) → inL D k ∧ (inR .u8 (lget D k) →
          ((q < lget D k % 3 → (-9223372036854775808 ≤ 48 + q ∧ 48 + q ≤ 9223372036854775807) ∧ (ByteArray.mk #[c] ++ strOfNums [iwrap .u8 (48 + q)]).size ≤ maxLen ∧ (x'.length + [ByteArray.mk #[c] ++ strOfNums [iwrap .u8 (48 + q)]].length) * 16 ≤ 140737488355328 ∧ (-9223372036854775808 ≤ q + 1 ∧ q + 1 ≤ 9223372036854775807) ∧
            I (x' ++ [ByteArray.mk #[c] ++ strOfNums [iwrap .u8 (48 + q)]]) (q + 1) ∧ m (x' ++ [ByteArray.mk #[c] ++ strOfNums [iwrap .u8 (48 + q)]]) (q + 1) < m x' q) ∧ (¬ q < lget D k % 3 → K x'))) := by
      intro c D x K hx hlx hD hK
      refine ⟨fun x' q => 0 ≤ q ∧ q ≤ 2 ∧ (C.take k).Sublist x' ∧ x'.length ≤ 3 * k + q.toNat, fun _ q => (3 - q).toNat, ⟨by omega, by omega, hx, by omega⟩, ?_⟩
      rintro x' q ⟨h0, h2, hs, hl⟩ _ _
      refine ⟨inL_nat.2 (by omega), fun _ => ⟨fun hq => ?_, fun hq => hK x' hs (by omega)⟩⟩
      exact ⟨by omega, two_size _ _, by simp; omega, by omega, ⟨by omega, by omega, hs.trans (List.sublist_append_left _ _), by simp; omega⟩, by dsimp only; omega⟩
    refine ⟨fun x' => (C.take k).Sublist x' ∧ x'.length ≤ 3 * k + 2, ?_, fun hA => inner 120 A x _ hx lx hA fun x' h1 h2 => ⟨h1, h2⟩, fun _ => ⟨hx, by omega⟩⟩
    rintro x' ⟨hx', lx'⟩ _
    refine ⟨fun y' => (C.take k).Sublist y' ∧ y'.length ≤ 3 * k + 2, ?_, fun hB => inner 121 B y _ hy ly hB fun y' h1 h2 => ⟨h1, h2⟩, fun _ => ⟨hy, by omega⟩⟩
    rintro y' ⟨hy', ly'⟩ _
    refine ⟨hin, fun _ => ⟨by simp; omega, hin, fun _ => ⟨by simp; omega, by omega, ⟨k + 1, rfl, by omega, ?_, ?_, by simp; omega, by simp; omega⟩, by dsimp only; omega⟩⟩⟩
    · rw [take_lget hk']; exact hx'.append (List.Sublist.refl _)
    · rw [take_lget hk']; exact hy'.append (List.Sublist.refl _)
  · rw [List.take_of_length_le (by omega)] at hx hy
    refine Common_p (fun h => by omega) (fun _ h => by omega) fun _ _ _ => Common_p (fun h => by omega) (fun _ h => by omega) fun _ _ _ => ?_
    have h1 := lcs_least x y C hx hy
    have h2 := lcs_comm x y
    rwa [decide_eq_true ⟨rfl, rfl, by omega, by omega⟩]
end Go.Proofs.Ytmepomdpjlbaaaa
