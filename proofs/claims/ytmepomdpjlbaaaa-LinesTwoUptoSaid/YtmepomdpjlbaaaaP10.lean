/- The plain law of chapter 10: what its functions compute answers as the statements say. -/
import Derived.Test.YtmepomdpjlbaaaaL2
import Derived.Test.YtmepomdpjlbaaaaLines
namespace Go.Proofs.Ytmepomdpjlbaaaa
open Go
theorem strs_Clip_p {s : List ByteArray} {Q : List ByteArray → Prop} (h : Q s) : slices_Clip_string_string_p s Q := by
  unfold slices_Clip_string_string_p; intro _; exact ⟨⟨by omega, by omega⟩, h⟩
theorem Split_p {s : ByteArray} {Q : List ByteArray → Prop} (hs : s.size ≤ 1000000) (h : Q (Sp s)) : lines_Split_p s Q := by
  unfold lines_Split_p; simp only [inR_i64]; intro _
  refine ⟨fun s' out => out ++ Sp s' = Sp s, fun s' _ => s'.size, by simp, ?_⟩
  intro s' out hI hs' _
  have hlen : out.length + (Sp s').length ≤ 1000000 := by
    have := congrArg List.length hI; rw [List.length_append] at this; have := Sp_len s; omega
  refine ⟨fun hne => ?_, fun he => ?_⟩
  · have h0 : s'.size ≠ 0 := fun h0 => hne (size_zero.1 h0)
    unfold maxLen at hs'
    refine ⟨10, rfl, fun _ => ?_⟩
    intro _
    refine ⟨fun i => ∃ k : Nat, i = k ∧ k < s'.size ∧ Sp s' = bsub s' 0 ((k : Int) + 1) :: Sp (bsub s' ((k : Int) + 1) s'.size), ?_, ?_, ?_⟩
    · rintro _ ⟨k, rfl, hk, hc⟩ _
      rw [hc] at hI hlen
      refine ⟨⟨by omega, by omega⟩, ⟨by omega, by omega, by omega⟩, ?_, ⟨by omega, by omega⟩, ⟨by omega, by omega, by omega⟩, ?_, ?_⟩
      · simp at hlen ⊢; omega
      · simpa using hI
      · show (bsub s' ((k : Int) + 1) s'.size).size < s'.size
        rw [← LL_len, LL_sub, List.length_drop]
        have := List.length_take_le' ((s'.size : Nat) : Int).toNat (LL s')
        rw [LL_len] at this; omega
    · intro hn
      refine ⟨⟨by omega, by omega⟩, s'.size - 1, by omega, by omega, ?_⟩
      refine Sp_cut s' _ (by omega) (.inr (by omega)) (fun j _ => ?_)
      refine Lib.indexByte_none ?_ j
      have h1 : -1 ≤ Lib.indexByte (LL s') 10 := Lib.indexByte_ge _ _
      have h2 : Lib.indexByte (LL s') 10 < 0 := hn
      show Lib.indexByte (LL s') 10 = -1
      omega
    · intro hn
      obtain ⟨k, hk⟩ := nat_of (Int.not_lt.1 hn)
      obtain ⟨h1, h2⟩ := Lib.indexByte_some hk
      have hk2 : k < s'.size := by
        rw [← LL_len]; exact (List.getElem?_eq_some_iff.1 h1).1
      exact ⟨k, hk, hk2, Sp_cut s' k hk2 (.inl h1) h2⟩
  · subst he
    rw [Sp_nil, List.append_nil] at hI
    refine strs_Clip_p ?_
    intro _; rw [hI]; exact h
theorem rSplit_p {s : ByteArray} {Q : List ByteArray → Prop} (hs : s.size ≤ 1000000) (h : Q (Sp s)) : rectoref11_Split_p s Q := by
  unfold rectoref11_Split_p; simp only [inR_i64]; intro _
  refine ⟨fun out from_ i => ∃ a k : Nat, from_ = a ∧ i = k ∧ a ≤ k ∧ k ≤ s.size ∧ out ++ Sp (bsub s a s.size) = Sp s ∧ ∀ j, a ≤ j → j < k → (LL s)[j]? ≠ some 10, fun _ _ i => s.size - i.toNat, ?_, ?_⟩
  · refine ⟨0, 0, rfl, rfl, Nat.le_refl _, Nat.zero_le _, ?_, fun j _ h => absurd h (by omega)⟩
    rw [List.nil_append]
    congr 1
    rw [LL_inj, LL_tail]; rfl
  rintro out _ _ ⟨a, k, rfl, rfl, hak, hks, hI, hno⟩ _ _ _
  have hsub : LL (bsub s (a : Int) s.size) = (LL s).drop a := by rw [LL_tail]; rfl
  have hsz : (bsub s (a : Int) s.size).size = s.size - a := by rw [← LL_len, hsub, List.length_drop, LL_len]
  have hlen : out.length + (Sp (bsub s (a : Int) s.size)).length ≤ 1000000 := by
    have := congrArg List.length hI; rw [List.length_append] at this; have := Sp_len s; omega
  have cut : ∀ m : Nat, a ≤ m → m < s.size → ((LL s)[m]? = some 10 ∨ m + 1 = s.size) → (∀ j, a ≤ j → j < m → (LL s)[j]? ≠ some 10) →
      Sp (bsub s (a : Int) s.size) = bsub s (a : Int) ((m : Int) + 1) :: Sp (bsub s ((m : Int) + 1) s.size) := by
    intro m h1 h2 h3 h4
    have := Sp_cut (bsub s (a : Int) s.size) (m - a) (by omega) (by rw [hsub, List.getElem?_drop, show a + (m - a) = m from by omega, hsz]; rcases h3 with h3 | h3; exact .inl h3; exact .inr (by omega))
      (fun j hj => by rw [hsub, List.getElem?_drop]; exact h4 _ (by omega) (by omega))
    have e1 : bsub (bsub s (a : Int) s.size) 0 (((m - a : Nat) : Int) + 1) = bsub s (a : Int) ((m : Int) + 1) := by
      rw [LL_inj, LL_sub _ 0, hsub, LL_sub, show (((m - a : Nat) : Int) + 1).toNat = m + 1 - a from by omega, show ((m : Int) + 1).toNat = m + 1 from by omega]
      show ((LL s).drop a).take (m + 1 - a) = ((LL s).take (m + 1)).drop a
      rw [List.drop_take]
    have e2 : bsub (bsub s (a : Int) s.size) (((m - a : Nat) : Int) + 1) (bsub s (a : Int) s.size).size = bsub s ((m : Int) + 1) s.size := by
      rw [LL_inj, LL_tail _ (((m - a : Nat) : Int) + 1), hsub, LL_tail, List.drop_drop]
      congr 1; omega
    rw [this, e1, e2]
  refine ⟨fun hlt => ?_, fun hge => ?_⟩
  · have hk : k < s.size := by omega
    have hb : bget s (k : Int) = 10 ↔ (LL s)[k]? = some 10 := by
      rw [bget_LL, show (k : Int).toNat = k from rfl, List.getD, List.getElem?_eq_getElem (by rw [LL_len]; exact hk)]
      simp only [Option.getD_some, Option.some.injEq]
      constructor
      · intro h; exact UInt8.toNat_inj.1 (by exact_mod_cast h)
      · intro h; rw [h]; rfl
    refine ⟨fun out' f' => ∃ a' : Nat, f' = a' ∧ a' ≤ k + 1 ∧ out' ++ Sp (bsub s a' s.size) = Sp s ∧ ∀ j, a' ≤ j → j < k + 1 → (LL s)[j]? ≠ some 10, ?_, ⟨by omega, by omega⟩, ?_, ?_⟩
    · rintro out' _ ⟨a', rfl, h1, h2, h3⟩ _ _
      exact ⟨⟨by omega, by omega⟩, ⟨a', k + 1, rfl, rfl, h1, by omega, h2, h3⟩, by dsimp only; omega⟩
    · intro he
      have hc := cut k hak hk (.inl (hb.1 he)) hno
      rw [hc] at hI hlen
      refine ⟨⟨by omega, by omega⟩, ⟨by omega, by omega, by omega⟩, ?_, ⟨by omega, by omega⟩, k + 1, rfl, Nat.le_refl _, ?_, fun j _ _ => absurd ‹j < k + 1› (by omega)⟩
      · simp at hlen ⊢; omega
      · simpa using hI
    · intro he
      exact ⟨a, rfl, by omega, hI, fun j h1 h2 => by
        rcases Nat.lt_or_ge j k with h3 | h3
        · exact hno j h1 h3
        · rw [show j = k from by omega]; exact fun h => he (hb.2 h)⟩
  · have hk : k = s.size := by omega
    subst hk
    refine ⟨fun out' => out' = Sp s, ?_, ?_, ?_⟩
    · rintro _ rfl _; exact h
    · intro hlt
      have hc := cut (s.size - 1) (by omega) (by omega) (.inr (by omega)) (fun j h1 h2 => hno j h1 (by omega))
      have e : ((s.size - 1 : Nat) : Int) + 1 = (s.size : Int) := by omega
      rw [e] at hc
      have e2 : Sp (bsub s (s.size : Int) s.size) = [] := by
        have : bsub s (s.size : Int) s.size = ByteArray.mk #[] := size_zero.1 (by rw [← LL_len, LL_sub, List.length_drop]; have := List.length_take_le ((s.size : Nat) : Int).toNat (LL s); omega)
        rw [this]; rfl
      rw [e2] at hc
      rw [hc] at hI hlen
      refine ⟨⟨by omega, by omega, by omega⟩, ?_, hI⟩
      simp at hlen ⊢; omega
    · intro hge
      have : Sp (bsub s (a : Int) s.size) = [] := by
        have : bsub s (a : Int) s.size = ByteArray.mk #[] := size_zero.1 (by omega)
        rw [this]; rfl
      rw [this, List.append_nil] at hI; exact hI
theorem lJoin_p {l : List ByteArray} {Q : ByteArray → Prop} (h1 : l.length ≤ 140737488355328) (h2 : (joinS l (ByteArray.mk #[])).size ≤ 140737488355328) (h : Q (joinS l (ByteArray.mk #[]))) : lines_Join_p l Q := by
  unfold lines_Join_p strings_Join_p; intro _; exact ⟨h1, h2, fun _ => h⟩
theorem HasSuffix1_p {s : ByteArray} {Q : Bool → Prop} (h : Q (decide ((LL s).getLast? = some 10))) : strings_HasSuffix_p s (ByteArray.mk #[10]) Q := by
  unfold strings_HasSuffix_p internal_stringslite_HasSuffix_p; simp only [inR_i64]; intro h1 _ _ _
  unfold maxLen at h1
  have e : ((ByteArray.mk #[10]).size : Int) = 1 := rfl
  rw [e]
  refine ⟨⟨fun _ => ⟨⟨by omega, by omega⟩, ⟨by omega, by omega, by omega⟩, trivial⟩, fun _ => trivial⟩, ?_⟩
  rw [show decide ((s.size : Int) ≥ 1 ∧ bsub s ((s.size : Int) - 1) s.size = ByteArray.mk #[10]) = decide ((LL s).getLast? = some 10) from ?_]
  · exact h
  · refine decide_eq_decide.2 ?_
    by_cases h0 : s.size = 0
    · rw [size_zero] at h0; subst h0
      constructor
      · rintro ⟨h, _⟩; exact absurd h (by decide)
      · intro h; cases h
    · rw [last_bsub h0]; constructor
      · exact fun h => h.2
      · exact fun h => ⟨by omega, h⟩
theorem Whole_p {s : ByteArray} {Q : Bool → Prop} (h : Q (decide (wholeL (LL s)))) : lines_Whole_p s Q := by
  unfold lines_Whole_p; intro _
  refine ⟨fun b => b = decide (wholeL (LL s)), ?_, ?_, ?_⟩
  · rintro _ rfl; exact h
  · rintro rfl; rfl
  · intro hne
    refine HasSuffix1_p (decide_eq_decide.2 ⟨Or.inr, fun h => h.resolve_left fun h0 => hne (by rw [LL_inj, h0])⟩)
theorem texts_p {a : List ByteArray} {Q : Bool → Prop} (h : Q true) : rectolaw1_Texts_p a a Q := by
  unfold rectolaw1_Texts_p rectolaw1_texts_p; simp only [inR_i64]; intro _ _ _ _
  refine ⟨fun h => absurd trivial h, fun _ => ?_⟩
  refine ⟨fun i => ∃ k : Nat, i = k, fun i => a.length - i.toNat, ⟨0, rfl⟩, ?_⟩
  rintro _ ⟨k, rfl⟩ _
  refine ⟨fun hlt => ?_, fun _ => h⟩
  have hi : inL a (k : Int) := inL_nat.2 (by omega)
  refine ⟨hi, fun _ => ⟨hi, fun _ => ⟨fun h => absurd trivial h, fun _ => ⟨⟨by omega, by omega⟩, ⟨k + 1, rfl⟩, by dsimp only; omega⟩⟩⟩⟩
theorem Prefix_p {a b : List ByteArray} {Q : Int → Prop} (h : Q (npre a b)) : lines_Prefix_p a b Q := by
  unfold lines_Prefix_p; simp only [inR_i64]; intro _ _
  refine ⟨fun i => ∃ k : Nat, i = k ∧ k ≤ npre a b, fun i => a.length - i.toNat, ⟨0, rfl, Nat.zero_le _⟩, ?_⟩
  rintro _ ⟨k, rfl, hk⟩ _
  have hat := npre_at a b k hk
  have hle := npre_le a b
  refine ⟨fun c => c = decide (k < npre a b), ?_, ?_, ?_⟩
  · rintro _ rfl
    refine ⟨fun hc => ?_, fun hc => ?_⟩
    · have := of_decide_eq_true hc
      exact ⟨⟨by omega, by omega⟩, ⟨k + 1, rfl, by omega⟩, by dsimp only; omega⟩
    · have := of_decide_eq_false hc
      rw [show k = npre a b from by omega]; exact h
  · intro h1
    refine ⟨fun h2 => ⟨inL_nat.2 (by omega), fun _ => ⟨inL_nat.2 (by omega), fun _ => decide_eq_decide.2 ?_⟩⟩, fun h2 => (decide_eq_false fun h3 => ?_).symm⟩
    · rw [← hat]; exact ⟨fun h3 => ⟨by omega, by omega, h3⟩, fun h3 => h3.2.2⟩
    · have := hat.2 h3; omega
  · intro h1; refine (decide_eq_false fun h3 => ?_).symm; have := hat.2 h3; omega
theorem Suffix_p {a b : List ByteArray} {Q : Int → Prop} (h : Q (npre a.reverse b.reverse)) : lines_Suffix_p a b Q := by
  unfold lines_Suffix_p; simp only [inR_i64]; intro _ _
  refine ⟨fun i => ∃ k : Nat, i = k ∧ k ≤ npre a.reverse b.reverse, fun i => a.length - i.toNat, ⟨0, rfl, Nat.zero_le _⟩, ?_⟩
  rintro _ ⟨k, rfl, hk⟩ _
  have hat := npre_at a.reverse b.reverse k hk
  have hle := npre_le a.reverse b.reverse
  rw [List.length_reverse] at hle hat; rw [List.length_reverse] at hat
  refine ⟨fun c => c = decide (k < npre a.reverse b.reverse), ?_, ?_, ?_⟩
  · rintro _ rfl
    refine ⟨fun hc => ?_, fun hc => ?_⟩
    · have := of_decide_eq_true hc
      exact ⟨⟨by omega, by omega⟩, ⟨k + 1, rfl, by omega⟩, by dsimp only; omega⟩
    · have := of_decide_eq_false hc
      rw [show k = npre a.reverse b.reverse from by omega]; exact h
  · intro h1
    refine ⟨fun h2 => ⟨⟨by omega, by omega⟩, ⟨by omega, by omega⟩, ⟨by omega, by omega⟩, fun _ => ⟨⟨by omega, by omega⟩, ⟨by omega, by omega⟩, ⟨by omega, by omega⟩, fun _ => decide_eq_decide.2 ?_⟩⟩, fun h2 => (decide_eq_false fun h3 => ?_).symm⟩
    · rw [← hat, lget_rev (by omega), lget_rev (by omega)]; exact ⟨fun h3 => ⟨by omega, by omega, h3⟩, fun h3 => h3.2.2⟩
    · have := hat.2 h3; omega
  · intro h1; refine (decide_eq_false fun h3 => ?_).symm; have := hat.2 h3; omega
theorem sEqual_p {a b : List ByteArray} {Q : Bool → Prop} (h : Q (decide (a = b))) : slices_Equal_string_string_p a b Q := by
  unfold slices_Equal_string_string_p; simp only [inR_i64]; intro _ _
  refine ⟨fun hl => ?_, fun hl => ?_⟩
  · rwa [decide_eq_false (fun he => hl (by rw [he]))] at h
  have hl' : a.length = b.length := by omega
  refine ⟨fun i => ∃ k : Nat, i = k ∧ k ≤ a.length ∧ a.take k = b.take k, fun i => a.length - i.toNat, ⟨0, rfl, Nat.zero_le _, rfl⟩, ?_⟩
  rintro _ ⟨k, rfl, hk, ht⟩ _
  refine ⟨fun hlt => ?_, fun hge => ?_⟩
  · refine ⟨inL_nat.2 (by omega), fun _ => ⟨inL_nat.2 (by omega), fun _ => ⟨fun hn => ?_, fun he => ⟨⟨by omega, by omega⟩, ⟨k + 1, rfl, by omega, (take_eq_step hl' (by omega) ht).1 he⟩, by dsimp only; omega⟩⟩⟩⟩
    rwa [decide_eq_false (fun he => hn (by rw [he]))] at h
  · rw [show k = a.length from by omega, List.take_length, hl', List.take_length] at ht
    rwa [decide_eq_true ht] at h
theorem rEqual_p {a b : List ByteArray} {Q : Bool → Prop} (h : Q (decide (a = b))) : rectoref11_Equal_p a b Q := by
  unfold rectoref11_Equal_p; simp only [inR_i64]; intro _ _
  refine ⟨fun hl => ?_, fun hl => ?_⟩
  · rwa [decide_eq_false (fun he => hl (by rw [he]))] at h
  have hl' : a.length = b.length := by omega
  refine ⟨fun i => ∃ k : Nat, i = k ∧ k ≤ a.length ∧ a.take k = b.take k, fun i => a.length - i.toNat, ⟨0, rfl, Nat.zero_le _, rfl⟩, ?_⟩
  rintro _ ⟨k, rfl, hk, ht⟩ _
  refine ⟨fun hlt => ?_, fun hge => ?_⟩
  · refine ⟨inL_nat.2 (by omega), fun _ => ⟨inL_nat.2 (by omega), fun _ => ⟨fun hn => ?_, fun he => ⟨⟨by omega, by omega⟩, ⟨k + 1, rfl, by omega, (take_eq_step hl' (by omega) ht).1 he⟩, by dsimp only; omega⟩⟩⟩⟩
    rwa [decide_eq_false (fun he => hn (by rw [he]))] at h
  · rw [show k = a.length from by omega, List.take_length, hl', List.take_length] at ht
    rwa [decide_eq_true ht] at h
theorem Equal_p {a b : List ByteArray} {Q : Bool → Prop} (h : Q (decide (a = b))) : lines_Equal_p a b Q := by
  unfold lines_Equal_p; intro _ _; exact sEqual_p h
theorem known10_p {Q : Bool → Prop} (h : Q true) : rectolaw10_known_p Q := by
  unfold rectolaw10_known_p
  refine Split_p (by decide) ?_
  rw [show Sp (ByteArray.mk #[97, 10, 10, 98]) = [ByteArray.mk #[97, 10], ByteArray.mk #[10], ByteArray.mk #[98]] from rfl]
  intro _
  refine ⟨fun b => b = true, by rintro _ rfl; exact h, fun _ => ⟨by decide, fun _ => ⟨fun _ => ⟨by decide, fun _ => ⟨fun _ => ?_, fun h => absurd rfl h⟩⟩, fun h => absurd rfl h⟩⟩, fun h => absurd rfl h⟩
  refine lJoin_p (by decide) (by decide) (fun _ => ⟨fun _ => ?_, fun h => absurd rfl h⟩)
  refine Whole_p ⟨fun h => absurd h (by decide), fun _ => ?_⟩
  refine Whole_p ⟨fun _ => ⟨⟨by decide, by decide⟩, ?_⟩, fun h => absurd h (by decide)⟩
  refine Prefix_p (fun _ => ⟨fun _ => ?_, fun h => absurd rfl h⟩)
  refine Suffix_p (fun _ => ⟨fun _ => ?_, fun h => absurd rfl h⟩)
  exact Equal_p (decide_eq_true rfl)
theorem LinesAny_p {s : ByteArray} {Q : Bool → Prop} (h : Q true) : rectolaw10_LinesAny_p s Q := by
  unfold rectolaw10_LinesAny_p; simp only [inR_i64]; intro hm
  refine known10_p ⟨fun h => absurd h (by decide), fun _ => ⟨fun _ => h, fun hs => ?_⟩⟩
  have hs' : s.size ≤ 1000000 := by omega
  refine Split_p hs' (fun _ => ?_)
  refine ⟨fun i => ∃ k : Nat, i = k, fun i => (Sp s).length - i.toNat, ⟨0, rfl⟩, ?_⟩
  rintro _ ⟨k, rfl⟩ _
  have hn := Sp_len s
  refine ⟨fun hlt => ?_, fun _ => ?_⟩
  · have hi : inL (Sp s) (k : Int) := inL_nat.2 (by omega)
    have hx := lget_mem hi
    have hsz : (lget (Sp s) (k : Int)).size ≤ 1000000 := Nat.le_trans (Sp_in_le hx) hs'
    have hone : ∀ {Q' : Bool → Prop}, Q' false → lines_Split_p (lget (Sp s) (k : Int)) (fun r => r.length ≤ 9223372036854775807 → Q' (!decide ((r.length : Int) = 1))) := by
      intro Q' hq
      refine Split_p hsz (fun _ => ?_)
      rw [Sp_in hx]; exact hq
    refine ⟨fun b => b = false, ?_, hi, fun _ => ⟨fun he => absurd he (Sp_in_ne hx), fun _ => ⟨hi, fun _ => Whole_p ⟨fun _ => ⟨hi, fun _ => hone (Q' := fun b => b = false) rfl⟩, fun hw => ⟨⟨by omega, by omega⟩, fun hlt2 => ?_, fun _ => ⟨hi, fun _ => hone (Q' := fun b => b = false) rfl⟩⟩⟩⟩⟩⟩
    · rintro _ rfl
      exact ⟨fun h => absurd h (by decide), fun _ => ⟨⟨by omega, by omega⟩, ⟨k + 1, rfl⟩, by dsimp only; omega⟩⟩
    · exact absurd (Sp_whole (by omega)) (of_decide_eq_false hw)
  · refine ⟨fun b => b = true, by rintro _ rfl; exact h, ?_⟩
    refine rSplit_p hs' (fun _ => texts_p ⟨fun _ => ?_, fun h => absurd h (by decide)⟩)
    refine lJoin_p (by omega) (by rw [joinS_Sp]; omega) (fun _ => ⟨fun _ => ?_, fun h => absurd (joinS_Sp s) h⟩)
    refine Whole_p ⟨fun he => ?_, fun hne => ⟨⟨by omega, by omega⟩, ?_, ?_⟩⟩
    · exact decide_eq_true (decide_eq_true (.inl (by rw [he])))
    · have : s.size ≠ 0 := fun h0 => hne (size_zero.1 h0)
      omega
    · have h0 : s.size ≠ 0 := fun h0 => hne (size_zero.1 h0)
      refine decide_eq_true (decide_eq_decide.2 ?_)
      rw [last_bget h0]
      exact ⟨fun h => h.resolve_left fun hl => hne (by rw [LL_inj, hl]), .inr⟩
theorem rJoin_p {l : List ByteArray} {Q : ByteArray → Prop} (h2 : (l.map LL).flatten.length ≤ 140737488355328) (h : Q (joinS l (ByteArray.mk #[]))) : rectoref11_Join_p l Q := by
  unfold rectoref11_Join_p; simp only [inR_i64]; intro _
  refine ⟨fun s i => ∃ k : Nat, i = k ∧ k ≤ l.length ∧ LL s = ((l.take k).map LL).flatten, fun _ i => l.length - i.toNat, ⟨0, rfl, Nat.zero_le _, rfl⟩, ?_⟩
  rintro s _ ⟨k, rfl, hk, hs⟩ _ _
  refine ⟨fun hlt => ?_, fun hge => ?_⟩
  · have hkl : k < l.length := by omega
    have e : LL (s ++ lget l (k : Int)) = ((l.take (k + 1)).map LL).flatten := by
      rw [LL_cat, hs, take_lget hkl, List.map_append, List.flatten_append]; simp
    have hsz : (s ++ lget l (k : Int)).size ≤ 140737488355328 := by
      rw [← LL_len, e]
      refine Nat.le_trans ?_ h2
      have : (l.map LL).flatten = ((l.take (k + 1)).map LL).flatten ++ ((l.drop (k + 1)).map LL).flatten := by
        rw [← List.flatten_append, ← List.map_append, List.take_append_drop]
      rw [this, List.length_append]; omega
    exact ⟨inL_nat.2 hkl, fun _ => ⟨Nat.le_trans hsz (by decide), ⟨by omega, by omega⟩, ⟨k + 1, rfl, hkl, e⟩, by dsimp only; omega⟩⟩
  · have : s = joinS l (ByteArray.mk #[]) := by
      rw [joinS_nil, LL_inj, LL_mkB, hs, show k = l.length from by omega, List.take_length]
    rw [this]; exact h
theorem flat_len (l : List ByteArray) : (l.map LL).flatten.length ≤ (l.map fun x => x.size + 1).sum := by
  induction l with
  | nil => simp
  | cons x l ih => simp only [List.map_cons, List.flatten_cons, List.length_append, List.sum_cons, LL_len]; omega
theorem LinesTwo_p {a b : List ByteArray} {Q : Bool → Prop} (hB : ((a.map fun x => (x.size + 1)).sum + 1) + ((b.map fun x => (x.size + 1)).sum + 1) ≤ 1048576) (h : Q true) : rectolaw10_LinesTwo_p a b Q := by
  have hf := flat_len a
  unfold rectolaw10_LinesTwo_p; simp only [inR_i64]; intro _ _
  refine known10_p ⟨fun h => absurd h (by decide), fun _ => ⟨fun _ => h, fun hs => ?_⟩⟩
  refine ⟨fun i => ∃ k : Nat, i = k ∧ k ≤ npre a b, fun i => a.length - i.toNat, ⟨0, rfl, Nat.zero_le _⟩, ?_⟩
  rintro _ ⟨k, rfl, hk⟩ _
  have hat := npre_at a b k hk
  have hle := npre_le a b
  refine ⟨fun c => c = decide (k < npre a b), ?_, ?_, ?_⟩
  · rintro _ rfl
    refine ⟨fun hc => ?_, fun hc => ?_⟩
    · have := of_decide_eq_true hc
      exact ⟨⟨by omega, by omega⟩, ⟨k + 1, rfl, by omega⟩, by dsimp only; omega⟩
    have hkn : k = npre a b := by have := of_decide_eq_false hc; omega
    subst hkn
    clear hat hc
    refine ⟨fun i => ∃ k : Nat, i = k ∧ k ≤ npre a.reverse b.reverse, fun i => a.length - i.toNat, ⟨0, rfl, Nat.zero_le _⟩, ?_⟩
    rintro _ ⟨k, rfl, hk⟩ _
    have hat := npre_at a.reverse b.reverse k hk
    have hle := npre_le a.reverse b.reverse
    rw [List.length_reverse] at hle hat; rw [List.length_reverse] at hat
    refine ⟨fun c => c = decide (k < npre a.reverse b.reverse), ?_, ?_, ?_⟩
    · rintro _ rfl
      refine ⟨fun hc => ?_, fun hc => ?_⟩
      · have := of_decide_eq_true hc
        exact ⟨⟨by omega, by omega⟩, ⟨k + 1, rfl, by omega⟩, by dsimp only; omega⟩
      have hkn : k = npre a.reverse b.reverse := by have := of_decide_eq_false hc; omega
      subst hkn
      refine ⟨fun b => b = true, by rintro _ rfl; exact h, ?_⟩
      refine Prefix_p (fun _ => ⟨fun _ => ?_, fun h => absurd rfl h⟩)
      refine Suffix_p (fun _ => ⟨fun _ => ?_, fun h => absurd rfl h⟩)
      refine Equal_p (rEqual_p ⟨fun _ => ?_, fun h => absurd rfl h⟩)
      refine lJoin_p (by omega) ?_ (fun _ => rJoin_p (by omega) (fun _ => decide_eq_true rfl))
      rw [joinS_nil, mkB_size]; omega
    · intro h1
      refine ⟨fun h2 => ⟨⟨by omega, by omega⟩, ⟨by omega, by omega⟩, ⟨by omega, by omega⟩, fun _ => ⟨⟨by omega, by omega⟩, ⟨by omega, by omega⟩, ⟨by omega, by omega⟩, fun _ => decide_eq_decide.2 ?_⟩⟩, fun h2 => (decide_eq_false fun h3 => ?_).symm⟩
      · rw [← hat, lget_rev (by omega), lget_rev (by omega)]; exact ⟨fun h3 => ⟨by omega, by omega, h3⟩, fun h3 => h3.2.2⟩
      · have := hat.2 h3; omega
    · intro h1; refine (decide_eq_false fun h3 => ?_).symm; have := hat.2 h3; omega
  · intro h1
    refine ⟨fun h2 => ⟨inL_nat.2 (by omega), fun _ => ⟨inL_nat.2 (by omega), fun _ => decide_eq_decide.2 ?_⟩⟩, fun h2 => (decide_eq_false fun h3 => ?_).symm⟩
    · rw [← hat]; exact ⟨fun h3 => ⟨by omega, by omega, h3⟩, fun h3 => h3.2.2⟩
    · have := hat.2 h3; omega
  · intro h1; refine (decide_eq_false fun h3 => ?_).symm; have := hat.2 h3; omega
end Go.Proofs.Ytmepomdpjlbaaaa
