/- The law of chapter 10 on two texts beside each other: what its functions compute answers as the statement says. -/
import Derived.Test.YtjejeipdndddpaaL1
import Derived.Test.YtjejeipdndddpaaLines
namespace Go.Proofs.Ytjejeipdndddpaa
open Go
theorem strs_Clip_p {s : List ByteArray} {Q : List ByteArray → Prop} (h : Q s) : slices_Clip_string_string_p s Q := by
  unfold slices_Clip_string_string_p; intro _; exact ⟨⟨by omega, by omega⟩, h⟩
theorem Split_p {s : ByteArray} {Q : List ByteArray → Prop} (hs : s.size ≤ 1000000) (h : Q (Sp s)) : lines_Split_p s Q := by
  unfold lines_Split_p; simp only [inR_i64]; intro _
  refine ⟨fun s' out => out ++ Sp s' = Sp s, fun s' _ => s'.size, by simp, ?_⟩
  intro s' out hI hs' _
  have hlen : out.length + (Sp s').length ≤ 1000000 := by
    have := congrArg List.length hI; rw [List.length_append] at this; have := Sp_len s; omega
  refine ⟨fun hne => ?_, fun he => ?_⟩
  · have h0 : s'.size ≠ 0 := fun h0 => hne (size_zero.1 h0)
    unfold maxLen at hs'
    refine ⟨10, rfl, fun _ => ?_⟩
    intro _
    refine ⟨fun i => ∃ k : Nat, i = k ∧ k < s'.size ∧ Sp s' = bsub s' 0 ((k : Int) + 1) :: Sp (bsub s' ((k : Int) + 1) s'.size), ?_, ?_, ?_⟩
    · rintro _ ⟨k, rfl, hk, hc⟩ _
      rw [hc] at hI hlen
      refine ⟨⟨by omega, by omega⟩, ⟨by omega, by omega, by omega⟩, ?_, ⟨by omega, by omega⟩, ⟨by omega, by omega, by omega⟩, ?_, ?_⟩
      · simp at hlen ⊢; omega
      · simpa using hI
      · show (bsub s' ((k : Int) + 1) s'.size).size < s'.size
        rw [← LL_len, LL_sub, List.length_drop]
        have := List.length_take_le' ((s'.size : Nat) : Int).toNat (LL s')
        rw [LL_len] at this; omega
    · intro hn
      refine ⟨⟨by omega, by omega⟩, s'.size - 1, by omega, by omega, ?_⟩
      refine Sp_cut s' _ (by omega) (.inr (by omega)) (fun j _ => ?_)
      refine Lib.indexByte_none ?_ j
      have h1 : -1 ≤ Lib.indexByte (LL s') 10 := Lib.indexByte_ge _ _
      have h2 : Lib.indexByte (LL s') 10 < 0 := hn
      show Lib.indexByte (LL s') 10 = -1
      omega
    · intro hn
      obtain ⟨k, hk⟩ := nat_of (Int.not_lt.1 hn)
      obtain ⟨h1, h2⟩ := Lib.indexByte_some hk
      have hk2 : k < s'.size := by
        rw [← LL_len]; exact (List.getElem?_eq_some_iff.1 h1).1
      exact ⟨k, hk, hk2, Sp_cut s' k hk2 (.inl h1) h2⟩
  · subst he
    rw [Sp_nil, List.append_nil] at hI
    refine strs_Clip_p ?_
    intro _; rw [hI]; exact h
theorem lJoin_p {l : List ByteArray} {Q : ByteArray → Prop} (h1 : l.length ≤ 140737488355328) (h2 : (joinS l (ByteArray.mk #[])).size ≤ 140737488355328) (h : Q (joinS l (ByteArray.mk #[]))) : lines_Join_p l Q := by
  unfold lines_Join_p strings_Join_p; intro _; exact ⟨h1, h2, fun _ => h⟩
theorem HasSuffix1_p {s : ByteArray} {Q : Bool → Prop} (h : Q (decide ((LL s).getLast? = some 10))) : strings_HasSuffix_p s (ByteArray.mk #[10]) Q := by
  unfold strings_HasSuffix_p internal_stringslite_HasSuffix_p; simp only [inR_i64]; intro h1 _ _ _
  unfold maxLen at h1
  have e : ((ByteArray.mk #[10]).size : Int) = 1 := rfl
  rw [e]
  refine ⟨⟨fun _ => ⟨⟨by omega, by omega⟩, ⟨by omega, by omega, by omega⟩, trivial⟩, fun _ => trivial⟩, ?_⟩
  rw [show decide ((s.size : Int) ≥ 1 ∧ bsub s ((s.size : Int) - 1) s.size = ByteArray.mk #[10]) = decide ((LL s).getLast? = some 10) from ?_]
  · exact h
  · refine decide_eq_decide.2 ?_
    by_cases h0 : s.size = 0
    · rw [size_zero] at h0; subst h0
      constructor
      · rintro ⟨h, _⟩; exact absurd h (by decide)
      · intro h; cases h
    · rw [last_bsub h0]; constructor
      · exact fun h => h.2
      · exact fun h => ⟨by omega, h⟩
theorem Whole_p {s : ByteArray} {Q : Bool → Prop} (h : Q (decide (wholeL (LL s)))) : lines_Whole_p s Q := by
  unfold lines_Whole_p; intro _
  refine ⟨fun b => b = decide (wholeL (LL s)), ?_, ?_, ?_⟩
  · rintro _ rfl; exact h
  · rintro rfl; rfl
  · intro hne
    refine HasSuffix1_p (decide_eq_decide.2 ⟨Or.inr, fun h => h.resolve_left fun h0 => hne (by rw [LL_inj, h0])⟩)
theorem Prefix_p {a b : List ByteArray} {Q : Int → Prop} (h : Q (npre a b)) : lines_Prefix_p a b Q := by
  unfold lines_Prefix_p; simp only [inR_i64]; intro _ _
  refine ⟨fun i => ∃ k : Nat, i = k ∧ k ≤ npre a b, fun i => a.length - i.toNat, ⟨0, rfl, Nat.zero_le _⟩, ?_⟩
  rintro _ ⟨k, rfl, hk⟩ _
  have hat := npre_at a b k hk
  have hle := npre_le a b
  refine ⟨fun c => c = decide (k < npre a b), ?_, ?_, ?_⟩
  · rintro _ rfl
    refine ⟨fun hc => ?_, fun hc => ?_⟩
    · have := of_decide_eq_true hc
      exact ⟨⟨by omega, by omega⟩, ⟨k + 1, rfl, by omega⟩, by dsimp only; omega⟩
    · have := of_decide_eq_false hc
      rw [show k = npre a b from by omega]; exact h
  · intro h1
    refine ⟨fun h2 => ⟨inL_nat.2 (by omega), fun _ => ⟨inL_nat.2 (by omega), fun _ => decide_eq_decide.2 ?_⟩⟩, fun h2 => (decide_eq_false fun h3 => ?_).symm⟩
    · rw [← hat]; exact ⟨fun h3 => ⟨by omega, by omega, h3⟩, fun h3 => h3.2.2⟩
    · have := hat.2 h3; omega
  · intro h1; refine (decide_eq_false fun h3 => ?_).symm; have := hat.2 h3; omega
theorem Suffix_p {a b : List ByteArray} {Q : Int → Prop} (h : Q (npre a.reverse b.reverse)) : lines_Suffix_p a b Q := by
  unfold lines_Suffix_p; simp only [inR_i64]; intro _ _
  refine ⟨fun i => ∃ k : Nat, i = k ∧ k ≤ npre a.reverse b.reverse, fun i => a.length - i.toNat, ⟨0, rfl, Nat.zero_le _⟩, ?_⟩
  rintro _ ⟨k, rfl, hk⟩ _
  have hat := npre_at a.reverse b.reverse k hk
  have hle := npre_le a.reverse b.reverse
  rw [List.length_reverse] at hle hat; rw [List.length_reverse] at hat
  refine ⟨fun c => c = decide (k < npre a.reverse b.reverse), ?_, ?_, ?_⟩
  · rintro _ rfl
    refine ⟨fun hc => ?_, fun hc => ?_⟩
    · have := of_decide_eq_true hc
      exact ⟨⟨by omega, by omega⟩, ⟨k + 1, rfl, by omega⟩, by dsimp only; omega⟩
    · have := of_decide_eq_false hc
      rw [show k = npre a.reverse b.reverse from by omega]; exact h
  · intro h1
    refine ⟨fun h2 => ⟨⟨by omega, by omega⟩, ⟨by omega, by omega⟩, ⟨by omega, by omega⟩, fun _ => ⟨⟨by omega, by omega⟩, ⟨by omega, by omega⟩, ⟨by omega, by omega⟩, fun _ => decide_eq_decide.2 ?_⟩⟩, fun h2 => (decide_eq_false fun h3 => ?_).symm⟩
    · rw [← hat, lget_rev (by omega), lget_rev (by omega)]; exact ⟨fun h3 => ⟨by omega, by omega, h3⟩, fun h3 => h3.2.2⟩
    · have := hat.2 h3; omega
  · intro h1; refine (decide_eq_false fun h3 => ?_).symm; have := hat.2 h3; omega
theorem sEqual_p {a b : List ByteArray} {Q : Bool → Prop} (h : Q (decide (a = b))) : slices_Equal_string_string_p a b Q := by
  unfold slices_Equal_string_string_p; simp only [inR_i64]; intro _ _
  refine ⟨fun hl => ?_, fun hl => ?_⟩
  · rwa [decide_eq_false (fun he => hl (by rw [he]))] at h
  have hl' : a.length = b.length := by omega
  refine ⟨fun i => ∃ k : Nat, i = k ∧ k ≤ a.length ∧ a.take k = b.take k, fun i => a.length - i.toNat, ⟨0, rfl, Nat.zero_le _, rfl⟩, ?_⟩
  rintro _ ⟨k, rfl, hk, ht⟩ _
  refine ⟨fun hlt => ?_, fun hge => ?_⟩
  · refine ⟨inL_nat.2 (by omega), fun _ => ⟨inL_nat.2 (by omega), fun _ => ⟨fun hn => ?_, fun he => ⟨⟨by omega, by omega⟩, ⟨k + 1, rfl, by omega, (take_eq_step hl' (by omega) ht).1 he⟩, by dsimp only; omega⟩⟩⟩⟩
    rwa [decide_eq_false (fun he => hn (by rw [he]))] at h
  · rw [show k = a.length from by omega, List.take_length, hl', List.take_length] at ht
    rwa [decide_eq_true ht] at h
theorem rEqual_p {a b : List ByteArray} {Q : Bool → Prop} (h : Q (decide (a = b))) : rectoref11_Equal_p a b Q := by
  unfold rectoref11_Equal_p; simp only [inR_i64]; intro _ _
  refine ⟨fun hl => ?_, fun hl => ?_⟩
  · rwa [decide_eq_false (fun he => hl (by rw [he]))] at h
  have hl' : a.length = b.length := by omega
  refine ⟨fun i => ∃ k : Nat, i = k ∧ k ≤ a.length ∧ a.take k = b.take k, fun i => a.length - i.toNat, ⟨0, rfl, Nat.zero_le _, rfl⟩, ?_⟩
  rintro _ ⟨k, rfl, hk, ht⟩ _
  refine ⟨fun hlt => ?_, fun hge => ?_⟩
  · refine ⟨inL_nat.2 (by omega), fun _ => ⟨inL_nat.2 (by omega), fun _ => ⟨fun hn => ?_, fun he => ⟨⟨by omega, by omega⟩, ⟨k + 1, rfl, by omega, (take_eq_step hl' (by omega) ht).1 he⟩, by dsimp only; omega⟩⟩⟩⟩
    rwa [decide_eq_false (fun he => hn (by rw [he]))] at h
  · rw [show k = a.length from by omega, List.take_length, hl', List.take_length] at ht
    rwa [decide_eq_true ht] at h
theorem Equal_p {a b : List ByteArray} {Q : Bool → Prop} (h : Q (decide (a = b))) : lines_Equal_p a b Q := by
  unfold lines_Equal_p; intro _ _; exact sEqual_p h
theorem known10_p {Q : Bool → Prop} (h : Q true) : rectolaw10_known_p Q := by
  unfold rectolaw10_known_p
  refine Split_p (by decide) ?_
  rw [show Sp (ByteArray.mk #[97, 10, 10, 98]) = [ByteArray.mk #[97, 10], ByteArray.mk #[10], ByteArray.mk #[98]] from rfl]
  intro _
  refine ⟨fun b => b = true, by rintro _ rfl; exact h, fun _ => ⟨by decide, fun _ => ⟨fun _ => ⟨by decide, fun _ => ⟨fun _ => ?_, fun h => absurd rfl h⟩⟩, fun h => absurd rfl h⟩⟩, fun h => absurd rfl h⟩
  refine lJoin_p (by decide) (by decide) (fun _ => ⟨fun _ => ?_, fun h => absurd rfl h⟩)
  refine Whole_p ⟨fun h => absurd h (by decide), fun _ => ?_⟩
  refine Whole_p ⟨fun _ => ⟨⟨by decide, by decide⟩, ?_⟩, fun h => absurd h (by decide)⟩
  refine Prefix_p (fun _ => ⟨fun _ => ?_, fun h => absurd rfl h⟩)
  refine Suffix_p (fun _ => ⟨fun _ => ?_, fun h => absurd rfl h⟩)
  exact Equal_p (decide_eq_true rfl)
theorem whole_tail {x : UInt8} {l : List UInt8} (h : wholeL (x :: l)) : wholeL l := by
  rcases h with h | h
  · cases h
  · cases l with
    | nil => exact .inl rfl
    | cons y l => exact .inr (by simpa using h)
theorem splitL_ne {l : List UInt8} (h : l ≠ []) : splitL l ≠ [] := by
  cases l with
  | nil => exact absurd rfl h
  | cons x l =>
    unfold splitL
    split
    · simp
    · split <;> simp
theorem splitL_cons (c : UInt8) (r : List UInt8) : splitL (c :: r) = if c = 10 then [10] :: splitL r else match splitL r with | [] => [[c]] | l :: ls => (c :: l) :: ls := rfl
theorem splitL_cat : ∀ (a b : List UInt8), wholeL a → splitL (a ++ b) = splitL a ++ splitL b
  | [], b, _ => rfl
  | x :: a, b, h => by
    have ih := splitL_cat a b (whole_tail h)
    rw [List.cons_append, splitL_cons x (a ++ b), splitL_cons x a]
    by_cases hx : x = 10
    · rw [if_pos hx, if_pos hx, ih]; rfl
    · rw [if_neg hx, if_neg hx, ih]
      have hne : a ≠ [] := fun h0 => by
        subst h0
        rcases h with h | h
        · cases h
        · simp at h; exact hx h
      cases hs : splitL a with
      | nil => exact absurd hs (splitL_ne hne)
      | cons y r => rfl
theorem Sp_cat {a b : ByteArray} (h : wholeL (LL a)) : Sp (a ++ b) = Sp a ++ Sp b := by
  unfold Sp; rw [LL_cat, splitL_cat _ _ h, List.map_append]
theorem LinesTexts_p {a b : ByteArray} {Q : Bool → Prop} (h : Q true) : rectolaw10_LinesTexts_p a b Q := by
  unfold rectolaw10_LinesTexts_p; intro _ _
  refine known10_p ⟨fun hn => absurd hn (by decide), fun _ => ?_⟩
  refine ⟨fun s => s = true ∨ (s = false ∧ wholeL (LL a) ∧ a.size ≤ 300 ∧ b.size ≤ 300), ?_, fun _ => .inl rfl, fun h1 => ⟨fun _ => .inl rfl, fun h2 => Whole_p ?_⟩⟩
  · rintro _ (rfl | ⟨rfl, hw, h1, h2⟩)
    · exact ⟨fun _ => h, fun hn => absurd hn (by decide)⟩
    refine ⟨fun hn => absurd hn (by decide), fun _ => ?_⟩
    have hl : (a ++ b).size = a.size + b.size := ByteArray.size_append
    refine ⟨by rw [hl]; unfold maxLen; omega, Split_p (by rw [hl]; omega) fun _ => Split_p (by omega) fun _ => Split_p (by omega) fun _ => ⟨?_, ?_⟩⟩
    · have := Sp_len a; have := Sp_len b; omega
    · refine rEqual_p ?_
      rw [Sp_cat hw, decide_eq_true rfl]; exact h
  · by_cases hw : wholeL (LL a)
    · rw [decide_eq_true hw]; exact .inr ⟨rfl, hw, by omega, by omega⟩
    · rw [decide_eq_false hw]; exact .inl rfl
end Go.Proofs.Ytjejeipdndddpaa
