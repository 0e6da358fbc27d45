/- What an error tells: its words, what it is. -/
import Derived.Test.YtkmenljohhngjaaDoorDf7
import Derived.Test.YtkmenljohhngjaaDoorBits
import Derived.Test.YtkmenljohhngjaaDoorLines
import Derived.Lib.ItoaLen
namespace Go.Proofs.YtkmenljohhngjaaDoor
open Go
def decB (n : Int) : ByteArray := ⟨(Lib.itoa n).toArray⟩
theorem LL_decB (n : Int) : LL (decB n) = Lib.itoa n := rfl
theorem decB_size {n : Int} (h : inR .i64 n) : (decB n).size ≤ 21 := by
  rw [inR_i64] at h
  have := Lib.itoa_length_le n (by omega) (by omega)
  rw [← LL_len]; exact this
theorem digC (k : Nat) : LL (strOfNums [iwrap .u8 ((48 : Int) + ((k : Int) % (10 : Int)))]) = [UInt8.ofNat (48 + k % 10)] := by
  have h : iwrap .u8 ((48 : Int) + ((k : Int) % (10 : Int))) = ((48 + k % 10 : Nat) : Int) := by unfold iwrap; rw [wrap_u8_mod]; omega
  rw [h]; unfold strOfNums
  show [UInt8.ofNat ((48 + k % 10 : Nat) : Int).toNat] = _
  rw [Int.toNat_natCast]
theorem decDigits_low {k : Nat} (h : k < 10) : Lib.decDigits k = [UInt8.ofNat (48 + k % 10)] := by rw [Lib.decDigits_one h, Nat.mod_eq_of_lt h]
theorem decDigits_high {k : Nat} (h : ¬ k < 10) : Lib.decDigits k = Lib.decDigits (k / 10) ++ [UInt8.ofNat (48 + k % 10)] := by rw [Lib.decDigits, dif_neg h]
theorem rDecimal0 {R : Int → (ByteArray → Prop) → Prop} {m : Nat} {Q : ByteArray → Prop} (hm : m < 9223372036854775808) (h : Q (decB (m : Int))) : rectoref3_Decimal_p0 R (m : Int) Q := by
  have hlen : (Lib.decDigits m).length ≤ 20 := by rw [Lib.decDigits_length]; exact Lib.nDigits_le20 m (by omega)
  have hfin : ∀ s : ByteArray, LL s = Lib.decDigits m → Q s := fun s hs => by
    have : s = decB (m : Int) := LL_inj.2 (by rw [LL_decB, Lib.itoa_nonneg, hs])
    rw [this]; exact h
  unfold rectoref3_Decimal_p0; simp only [inR_i64]; intro _
  refine ⟨fun hneg => absurd hneg (by omega), fun _ => ⟨by omega, ⟨by omega, by omega⟩, fun n s => ∃ k : Nat, n = k ∧ k ≤ m ∧ ((k < 10 ∧ LL s = Lib.decDigits m) ∨ (¬ k < 10 ∧ Lib.decDigits (k / 10) ++ LL s = Lib.decDigits m)), fun n _ => n.toNat, ⟨m, rfl, Nat.le_refl _, ?_⟩, ?_⟩⟩
  · rw [digC]
    by_cases hk : m < 10
    · exact .inl ⟨hk, (decDigits_low hk).symm⟩
    · exact .inr ⟨hk, (decDigits_high hk).symm⟩
  rintro _ s ⟨k, rfl, hk, hs⟩ _ _
  refine ⟨fun hge => ?_, fun hlt => ?_⟩
  · have hk10 : ¬ k < 10 := by omega
    rcases hs with ⟨h1, _⟩ | ⟨_, hs⟩
    · omega
    have e : (k : Int) / (10 : Int) = ((k / 10 : Nat) : Int) := by omega
    have hn : LL (strOfNums [iwrap .u8 ((48 : Int) + (((k / 10 : Nat) : Int) % (10 : Int)))] ++ s) = UInt8.ofNat (48 + k / 10 % 10) :: LL s := by rw [LL_cat, digC]; rfl
    rw [e]
    refine ⟨by omega, by omega, ⟨by omega, by omega⟩, ?_, ⟨k / 10, rfl, by omega, ?_⟩, by dsimp only; omega⟩
    · rw [← LL_len, hn]
      have := congrArg List.length hs
      rw [List.length_append] at this
      have h2 : 1 ≤ (Lib.decDigits (k / 10)).length := by rw [Lib.decDigits_length]; exact Lib.nDigits_pos _
      have : (LL s).length + 1 ≤ 20 := by omega
      exact Nat.le_trans (m := 20) (by rw [List.length_cons]; exact this) (by decide)
    · rw [hn]
      by_cases h1 : k / 10 < 10
      · exact .inl ⟨h1, by rw [← hs, decDigits_low h1]; rfl⟩
      · exact .inr ⟨h1, by rw [← hs, decDigits_high h1, List.append_assoc]; rfl⟩
  · rcases hs with ⟨_, hs⟩ | ⟨h1, _⟩
    · exact hfin s hs
    · omega
theorem rDecimal_p {n : Int} {Q : ByteArray → Prop} (hn : inR .i64 n) (h : Q (decB n)) : rectoref3_Decimal_p n Q := by
  have hr := hn
  rw [inR_i64] at hn
  by_cases hneg : n < 0
  · by_cases hmin : n = -9223372036854775808
    · subst hmin
      refine ⟨1, ?_⟩
      unfold rectoref3_Decimal_pk rectoref3_Decimal_p0
      exact fun _ => ⟨fun _ => ⟨fun _ => (by have e : decB (-9223372036854775808) = ByteArray.mk #[45, 57, 50, 50, 51, 51, 55, 50, 48, 51, 54, 56, 53, 52, 55, 55, 53, 56, 48, 56] := by decide +kernel
                                             rw [← e]; exact h), fun hne => absurd rfl hne⟩, fun hx => absurd (by decide) hx⟩
    · obtain ⟨m, hm⟩ : ∃ m : Nat, 0 - n = (m : Int) := ⟨(0 - n).toNat, by omega⟩
      have hn2 : n = -(m : Int) := by omega
      refine ⟨2, ?_⟩
      unfold rectoref3_Decimal_pk rectoref3_Decimal_p0
      simp only [inR_i64]
      refine fun _ => ⟨fun _ => ⟨fun hx => absurd hx hmin, fun _ => ⟨⟨by omega, by omega⟩, ?_⟩⟩, fun hx => absurd hneg hx⟩
      rw [hm]
      have e : (ByteArray.mk #[45]) ++ decB (m : Int) = decB n := by
        refine LL_inj.2 ?_
        rw [LL_cat, LL_decB, LL_decB, Lib.itoa_nonneg, hn2, Lib.itoa_neg m (by omega)]; rfl
      unfold rectoref3_Decimal_pk
      refine rDecimal0 (by omega) (fun _ => ⟨?_, ?_⟩)
      · rw [e]; exact Nat.le_trans (decB_size hr) (by decide)
      · rw [e]; exact h
  · obtain ⟨m, rfl⟩ : ∃ m : Nat, n = (m : Int) := ⟨n.toNat, by omega⟩
    refine ⟨1, ?_⟩
    unfold rectoref3_Decimal_pk
    exact rDecimal0 (by omega) h
/-! words -/
def errT : List ByteArray := [(ByteArray.mk #[111, 107]), (ByteArray.mk #[97, 114, 103]), (ByteArray.mk #[102, 111, 114, 109]), (ByteArray.mk #[115, 104, 111, 114, 116]), (ByteArray.mk #[108, 111, 110, 103]), (ByteArray.mk #[110, 97, 109, 101]), (ByteArray.mk #[116, 119, 105, 99, 101]), (ByteArray.mk #[115, 116, 97, 116, 101]), (ByteArray.mk #[100, 105, 114, 116, 121]), (ByteArray.mk #[99, 111, 110, 102, 108, 105, 99, 116]), (ByteArray.mk #[115, 97, 109, 101]), (ByteArray.mk #[119, 97, 121]), (ByteArray.mk #[115, 117, 109]), (ByteArray.mk #[100, 111, 119, 110]), (ByteArray.mk #[113, 117, 111, 116, 97])]
def errW (e : Int) : ByteArray := if e < 0 ∨ e ≥ 15 then ByteArray.mk #[101, 114, 114, 111, 114] else lget errT e
theorem errT_size : ∀ k : Nat, k < 15 → (lget errT (k : Int)).size ≤ 8 := by decide
theorem errW_size (e : Int) : (errW e).size ≤ 8 := by
  unfold errW; split
  · decide
  · obtain ⟨k, rfl⟩ : ∃ k : Nat, e = (k : Int) := ⟨e.toNat, by omega⟩
    exact errT_size k (by omega)
theorem rWord_p {e : Int} {Q : ByteArray → Prop} (h : Q (errW e)) : rectoref3_Word_p e Q := by
  unfold rectoref3_Word_p; intro _
  have hl : ((errT.length : Nat) : Int) = 15 := rfl
  refine ⟨fun hx => ?_, fun hx => ?_⟩
  · change e < 0 ∨ e ≥ ((errT.length : Nat) : Int) at hx
    rw [hl] at hx; unfold errW at h; rw [if_pos hx] at h; exact h
  · change ¬ (e < 0 ∨ e ≥ ((errT.length : Nat) : Int)) at hx
    rw [hl] at hx; unfold errW at h; rw [if_neg hx] at h
    exact ⟨show inL errT e from ⟨by omega, by rw [hl]; omega⟩, fun _ => h⟩
theorem eErr_p {e : Int} {Q : ByteArray → Prop} (h : Q (errW e)) : api_Errno_Error_p e Q := by
  unfold api_Errno_Error_p; intro _
  iterate 15 refine ⟨fun hx => (by subst hx; exact h), fun _ => ?_⟩
  have : errW e = ByteArray.mk #[101, 114, 114, 111, 114] := by unfold errW; exact if_pos (by omega)
  rw [this] at h; exact h
def wordsP (l : List S_rectoref3_Part) : ByteArray := l.foldl (fun s x => (((s ++ x.Word) ++ (ByteArray.mk #[32])) ++ decB x.At) ++ (ByteArray.mk #[58, 32])) (ByteArray.mk #[])
theorem wordsP_next {l : List S_rectoref3_Part} {k : Nat} (hk : k < l.length) : wordsP (l.take (k + 1)) = (((wordsP (l.take k) ++ (lget l (k : Int)).Word) ++ (ByteArray.mk #[32])) ++ decB (lget l (k : Int)).At) ++ (ByteArray.mk #[58, 32]) := by
  rw [take_lget hk]; unfold wordsP; rw [List.foldl_append]; rfl
theorem cat_size (a b : ByteArray) : (a ++ b).size = a.size + b.size := by simp
theorem rWords_p {v : S_rectoref3_Wrong} {Q : ByteArray → Prop} (hp : ∀ k : Nat, k < v.Parts.length → (lget v.Parts (k : Int)).Word.size ≤ 100000 ∧ inR .i64 (lget v.Parts (k : Int)).At) (hl : v.Parts.length ≤ 1000) (h : Q (wordsP v.Parts ++ errW v.Err)) : rectoref3_Words_p v Q := by
  unfold rectoref3_Words_p; simp only [inR_i64]; intro _ _
  have hm : maxLen = 9223372036854775807 := rfl
  have h32 : (ByteArray.mk #[32]).size = 1 := rfl
  have h58 : (ByteArray.mk #[58, 32]).size = 2 := rfl
  refine ⟨fun s i => ∃ k : Nat, i = k ∧ k ≤ v.Parts.length ∧ s = wordsP (v.Parts.take k) ∧ s.size ≤ 200000 * k, fun _ i => v.Parts.length - i.toNat, ⟨0, rfl, Nat.zero_le _, rfl, Nat.zero_le _⟩, ?_⟩
  rintro s _ ⟨k, rfl, hk, hs, hsz⟩ _ _
  refine ⟨fun hlt => ?_, fun hge => ?_⟩
  · have hkl : k < v.Parts.length := by omega
    obtain ⟨h1, h2⟩ := hp k hkl
    have h3 := decB_size h2
    have e1 := cat_size s (lget v.Parts (k : Int)).Word
    have e2 := cat_size (s ++ (lget v.Parts (k : Int)).Word) (ByteArray.mk #[32])
    have e3 := cat_size ((s ++ (lget v.Parts (k : Int)).Word) ++ ByteArray.mk #[32]) (decB (lget v.Parts (k : Int)).At)
    have e4 := cat_size (((s ++ (lget v.Parts (k : Int)).Word) ++ ByteArray.mk #[32]) ++ decB (lget v.Parts (k : Int)).At) (ByteArray.mk #[58, 32])
    refine ⟨inL_nat.2 hkl, fun _ _ => ⟨by omega, by omega, inL_nat.2 hkl, fun _ _ => rDecimal_p h2 (fun _ => ⟨by omega, by omega, ⟨by omega, by omega⟩, ⟨k + 1, rfl, hkl, by rw [wordsP_next hkl, hs], by omega⟩, by dsimp only; omega⟩)⟩⟩
  · have hkl : k = v.Parts.length := by omega
    subst hkl
    rw [List.take_length] at hs
    have e5 := cat_size s (errW v.Err)
    have := errW_size v.Err
    exact rWord_p (fun _ => ⟨by omega, by rw [hs]; exact h⟩)
/-! what an error is -/
theorem isNo_p {n t : Int} {Q : Bool → Prop} (h : Q (decide (n = t))) : errors_is_p (.no n) t true Q := by
  unfold errors_is_p; intro _
  refine ⟨fun e => e = .no n, fun _ => 0, rfl, ?_⟩
  rintro _ rfl
  refine ⟨fun hx => (by cases hx), fun _ => ⟨fun _ => ?_, fun hx => absurd rfl hx⟩⟩
  intro n2 he _
  injection he with he; subst he
  refine ⟨fun s => s = decide (n = t), ?_, fun _ => rfl, fun hx => absurd rfl hx⟩
  rintro s rfl
  exact ⟨fun hx => (by rw [hx] at h; exact h), fun hx => (by rw [hx] at h; exact h)⟩
theorem Unwrap_p {f : S_api_Fault} {Q : PErr → Prop} (h : Q f.Err) : api_Fault_Unwrap_p f Q := by
  unfold api_Fault_Unwrap_p; first | exact fun _ _ => h | exact h
theorem isFault_p {p : ByteArray} {a n t : Int} {Q : Bool → Prop} (h : Q (decide (n = t))) : errors_is_p (.fault p a n) t true Q := by
  unfold errors_is_p; intro _
  refine ⟨fun e => e = .fault p a n ∨ e = .no n, fun e => cond e.isNo 0 1, .inl rfl, ?_⟩
  rintro _ (rfl | rfl)
  · refine ⟨fun hx => (by cases hx), fun _ => ⟨fun hx => (by cases hx), fun _ => ?_⟩⟩
    intro p2 a2 n2 he _ _ _
    injection he with h1 h2 h3; subst h1; subst h2; subst h3
    exact ⟨True, fun _ => Unwrap_p ⟨fun hx => (by cases hx), fun _ => ⟨.inr rfl, by show 0 < 1; decide⟩⟩, fun _ => trivial, fun _ => trivial⟩
  · refine ⟨fun hx => (by cases hx), fun _ => ⟨fun _ => ?_, fun hx => absurd rfl hx⟩⟩
    intro n2 he _
    injection he with he; subst he
    refine ⟨fun s => s = decide (n = t), ?_, fun _ => rfl, fun hx => absurd rfl hx⟩
    rintro s rfl
    exact ⟨fun hx => (by rw [hx] at h; exact h), fun hx => (by rw [hx] at h; exact h)⟩
theorem IsNo_p {n t : Int} {Q : Bool → Prop} (h : Q (decide (n = t))) : errors_Is_p (.no n) t Q := by
  unfold errors_Is_p; exact fun _ => ⟨fun hx => (by cases hx), fun _ => isNo_p h⟩
theorem IsFault_p {p : ByteArray} {a n t : Int} {Q : Bool → Prop} (h : Q (decide (n = t))) : errors_Is_p (.fault p a n) t Q := by
  unfold errors_Is_p; exact fun _ => ⟨fun hx => (by cases hx), fun _ => isFault_p h⟩
theorem AsFault_p {p : ByteArray} {a n : Int} {c : S_cellFault} {Q : S_cellFault → Bool → Prop} (h : Q ⟨some ⟨p, a, .no n⟩⟩ true) : errors_As_p (.fault p a n) c Q := by
  unfold errors_As_p errors_as_p
  refine ⟨fun hx => (by cases hx), fun _ => ⟨True, 0, trivial, fun _ => ⟨fun hx => (by cases hx), fun _ => ⟨fun hx => (by cases hx), fun _ => ?_⟩⟩⟩⟩
  intro p2 a2 n2 he _ _ _
  injection he with h1 h2 h3; subst h1; subst h2; subst h3
  exact h
def faultB (p : ByteArray) (a n : Int) : ByteArray := (((p ++ (ByteArray.mk #[32])) ++ decB a) ++ (ByteArray.mk #[58, 32])) ++ errW n
theorem fErr_p {p : ByteArray} {a n : Int} {Q : ByteArray → Prop} (hp : p.size ≤ 100000) (ha : inR .i64 a) (h100 : 0 ≤ a ∧ a < 100) (h : Q (faultB p a n)) : api_Fault_Error_p ⟨p, a, .no n⟩ Q := by
  refine ⟨1, ?_⟩
  unfold api_Fault_Error_pk api_Fault_Error_p0
  have hm : maxLen = 9223372036854775807 := rfl
  have h32 : (ByteArray.mk #[32]).size = 1 := rfl
  have h58 : (ByteArray.mk #[58, 32]).size = 2 := rfl
  have h3 := decB_size ha
  have h4 := errW_size n
  have e1 := cat_size p (ByteArray.mk #[32])
  have e2 := cat_size (p ++ ByteArray.mk #[32]) (decB a)
  have e3 := cat_size ((p ++ ByteArray.mk #[32]) ++ decB a) (ByteArray.mk #[58, 32])
  have e4 := cat_size (((p ++ ByteArray.mk #[32]) ++ decB a) ++ ByteArray.mk #[58, 32]) (errW n)
  intro _ _
  refine ⟨fun hx => (by cases hx), fun _ => ⟨by dsimp only; omega, ?_⟩⟩
  dsimp only
  refine ⟨a.toNat, by omega, by omega, ?_⟩
  have eb : (⟨(Lib.decDigits a.toNat).toArray⟩ : ByteArray) = decB a := by
    refine LL_inj.2 ?_
    rw [LL_decB, show a = ((a.toNat : Nat) : Int) from by omega, Lib.itoa_nonneg]; rfl
  rw [eb]
  refine fun _ => ⟨by omega, by omega, fun hx => (by cases hx), fun _ => ⟨fun _ => ?_, fun hx => absurd rfl hx⟩⟩
  intro n2 he _
  injection he with he; subst he
  exact eErr_p fun _ => ⟨by omega, h⟩
theorem words_one (p : ByteArray) (a n : Int) : wordsP [⟨p, a⟩] ++ errW n = faultB p a n := by
  unfold wordsP faultB
  simp only [List.foldl_cons, List.foldl_nil]
  have : ByteArray.mk #[] ++ p = p := LL_inj.2 (by rw [LL_cat]; rfl)
  rw [this]
theorem Tells_nil {Q : Bool → Prop} {v : S_rectoref3_Wrong} (hv : v.Err = 0) (h : Q true) : rectolaw2_Tells_p .nil v Q := by
  unfold rectolaw2_Tells_p; intro _ _; exact ⟨fun _ => h, fun hx => absurd hv hx⟩
theorem Tells_no {Q : Bool → Prop} {n : Int} (hn : n ≠ 0) (hr : inR .i64 n) (h : Q true) : rectolaw2_Tells_p (.no n) ⟨[], n⟩ Q := by
  unfold rectolaw2_Tells_p; intro _ _
  refine ⟨fun hx => absurd hx hn, fun _ => ⟨fun hx => (by cases hx), fun _ => ⟨fun _ => ?_, fun hx => absurd rfl hx⟩⟩⟩
  intro n2 he _
  injection he with he; subst he
  refine ⟨fun s => s = false, ?_, ?_⟩
  · rintro _ rfl
    exact ⟨fun hx => (by cases hx), fun _ => ⟨fun _ => h, fun hx => absurd rfl hx⟩⟩
  · refine eErr_p fun _ => rWords_p (fun k hk => absurd hk (Nat.not_lt_zero _)) (by simp) (fun _ => ⟨fun _ => IsNo_p ?_, fun hx => absurd ?_ hx⟩)
    · show (!decide (n = n)) = false; simp
    · show errW n = ByteArray.mk #[] ++ errW n
      exact LL_inj.2 (by rw [LL_cat]; rfl)
theorem Tells_fault {Q : Bool → Prop} {p : ByteArray} {a n : Int} (hn : n ≠ 0) (hr : inR .i64 n) (hp : p.size ≤ 100000) (ha : inR .i64 a) (h100 : 0 ≤ a ∧ a < 100) (h : Q true) : rectolaw2_Tells_p (.fault p a n) ⟨[⟨p, a⟩], n⟩ Q := by
  unfold rectolaw2_Tells_p; intro _ _
  refine ⟨fun hx => absurd hx hn, fun _ => ⟨fun hx => (by cases hx), fun _ => ⟨fun hx => (by cases hx), fun _ => ?_⟩⟩⟩
  intro p2 a2 n2 he _ _ _
  injection he with h1 h2 h3; subst h1; subst h2; subst h3
  have hin : inL [(⟨p, a⟩ : S_rectoref3_Part)] (0 : Int) := ⟨by decide, by simp⟩
  refine ⟨fun s => s = false, ?_, ?_⟩
  · rintro _ rfl
    refine ⟨fun hx => (by cases hx), fun _ => ⟨fun hx => (by simp at hx), fun _ => ?_⟩⟩
    refine ⟨fun s o => s = false ∧ o = ⟨some ⟨p, a, .no n⟩⟩, ?_, ?_⟩
    · rintro _ _ ⟨rfl, rfl⟩
      refine ⟨fun hx => (by cases hx), fun _ => ⟨fun s => s = true, by rintro _ rfl; exact h, ⟨p, a, .no n⟩, rfl, fun _ _ => ⟨hin, fun _ _ => ⟨fun _ => ⟨hin, fun _ _ => ?_⟩, fun hx => absurd rfl hx⟩⟩⟩⟩
      show decide (a = a) = true; simp
    · exact AsFault_p ⟨fun _ => ⟨rfl, rfl⟩, fun hx => (by cases hx)⟩
  · refine fErr_p hp ha h100 fun _ => rWords_p (fun k hk => ?_) (by simp) (fun _ => ⟨fun _ => IsFault_p ?_, fun hx => absurd ?_ hx⟩)
    · have : k = 0 := by simp at hk; omega
      subst this; exact ⟨hp, ha⟩
    · show (!decide (n = n)) = false; simp
    · exact (words_one p a n).symm
end Go.Proofs.YtkmenljohhngjaaDoor
