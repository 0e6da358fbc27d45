/- Numbers in words. -/
import Derived.Test.YtnnbnljofklieaaDoorPq8
import Derived.Test.YtnnbnljofklieaaDoorBits
import Derived.Test.YtnnbnljofklieaaDoorLines
import Derived.Lib.ItoaLen
namespace Go.Proofs.YtnnbnljofklieaaDoor
open Go
def decB (n : Int) : ByteArray := ⟨(Lib.itoa n).toArray⟩
theorem LL_decB (n : Int) : LL (decB n) = Lib.itoa n := rfl
theorem decB_size {n : Int} (h : inR .i64 n) : (decB n).size ≤ 21 := by
  rw [inR_i64] at h
  have := Lib.itoa_length_le n (by omega) (by omega)
  rw [← LL_len]; exact this
theorem digC (k : Nat) : LL (strOfNums [iwrap .u8 ((48 : Int) + ((k : Int) % (10 : Int)))]) = [UInt8.ofNat (48 + k % 10)] := by
  have h : iwrap .u8 ((48 : Int) + ((k : Int) % (10 : Int))) = ((48 + k % 10 : Nat) : Int) := by unfold iwrap; rw [wrap_u8_mod]; omega
  rw [h]; unfold strOfNums
  show [UInt8.ofNat ((48 + k % 10 : Nat) : Int).toNat] = _
  rw [Int.toNat_natCast]
theorem decDigits_low {k : Nat} (h : k < 10) : Lib.decDigits k = [UInt8.ofNat (48 + k % 10)] := by rw [Lib.decDigits_one h, Nat.mod_eq_of_lt h]
theorem decDigits_high {k : Nat} (h : ¬ k < 10) : Lib.decDigits k = Lib.decDigits (k / 10) ++ [UInt8.ofNat (48 + k % 10)] := by rw [Lib.decDigits, dif_neg h]
theorem rDecimal0 {R : Int → (ByteArray → Prop) → Prop} {m : Nat} {Q : ByteArray → Prop} (hm : m < 9223372036854775808) (h : Q (decB (m : Int))) : rectoref3_Decimal_p0 R (m : Int) Q := by
  have hlen : (Lib.decDigits m).length ≤ 20 := by rw [Lib.decDigits_length]; exact Lib.nDigits_le20 m (by omega)
  have hfin : ∀ s : ByteArray, LL s = Lib.decDigits m → Q s := fun s hs => by
    have : s = decB (m : Int) := LL_inj.2 (by rw [LL_decB, Lib.itoa_nonneg, hs])
    rw [this]; exact h
  unfold rectoref3_Decimal_p0; simp only [inR_i64]; intro _
  refine ⟨fun hneg => absurd hneg (by omega), fun _ => ⟨by omega, ⟨by omega, by omega⟩, fun n s => ∃ k : Nat, n = k ∧ k ≤ m ∧ ((k < 10 ∧ LL s = Lib.decDigits m) ∨ (¬ k < 10 ∧ Lib.decDigits (k / 10) ++ LL s = Lib.decDigits m)), fun n _ => n.toNat, ⟨m, rfl, Nat.le_refl _, ?_⟩, ?_⟩⟩
  · rw [digC]
    by_cases hk : m < 10
    · exact .inl ⟨hk, (decDigits_low hk).symm⟩
    · exact .inr ⟨hk, (decDigits_high hk).symm⟩
  rintro _ s ⟨k, rfl, hk, hs⟩ _ _
  refine ⟨fun hge => ?_, fun hlt => ?_⟩
  · have hk10 : ¬ k < 10 := by omega
    rcases hs with ⟨h1, _⟩ | ⟨_, hs⟩
    · omega
    have e : (k : Int) / (10 : Int) = ((k / 10 : Nat) : Int) := by omega
    have hn : LL (strOfNums [iwrap .u8 ((48 : Int) + (((k / 10 : Nat) : Int) % (10 : Int)))] ++ s) = UInt8.ofNat (48 + k / 10 % 10) :: LL s := by rw [LL_cat, digC]; rfl
    rw [e]
    refine ⟨by omega, by omega, ⟨by omega, by omega⟩, ?_, ⟨k / 10, rfl, by omega, ?_⟩, by dsimp only; omega⟩
    · rw [← LL_len, hn]
      have := congrArg List.length hs
      rw [List.length_append] at this
      have h2 : 1 ≤ (Lib.decDigits (k / 10)).length := by rw [Lib.decDigits_length]; exact Lib.nDigits_pos _
      have : (LL s).length + 1 ≤ 20 := by omega
      exact Nat.le_trans (m := 20) (by rw [List.length_cons]; exact this) (by decide)
    · rw [hn]
      by_cases h1 : k / 10 < 10
      · exact .inl ⟨h1, by rw [← hs, decDigits_low h1]; rfl⟩
      · exact .inr ⟨h1, by rw [← hs, decDigits_high h1, List.append_assoc]; rfl⟩
  · rcases hs with ⟨_, hs⟩ | ⟨h1, _⟩
    · exact hfin s hs
    · omega
theorem rDecimal_p {n : Int} {Q : ByteArray → Prop} (hn : inR .i64 n) (h : Q (decB n)) : rectoref3_Decimal_p n Q := by
  have hr := hn
  rw [inR_i64] at hn
  by_cases hneg : n < 0
  · by_cases hmin : n = -9223372036854775808
    · subst hmin
      refine ⟨1, ?_⟩
      unfold rectoref3_Decimal_pk rectoref3_Decimal_p0
      exact fun _ => ⟨fun _ => ⟨fun _ => (by have e : decB (-9223372036854775808) = ByteArray.mk #[45, 57, 50, 50, 51, 51, 55, 50, 48, 51, 54, 56, 53, 52, 55, 55, 53, 56, 48, 56] := by decide +kernel
                                             rw [← e]; exact h), fun hne => absurd rfl hne⟩, fun hx => absurd (by decide) hx⟩
    · obtain ⟨m, hm⟩ : ∃ m : Nat, 0 - n = (m : Int) := ⟨(0 - n).toNat, by omega⟩
      have hn2 : n = -(m : Int) := by omega
      refine ⟨2, ?_⟩
      unfold rectoref3_Decimal_pk rectoref3_Decimal_p0
      simp only [inR_i64]
      refine fun _ => ⟨fun _ => ⟨fun hx => absurd hx hmin, fun _ => ⟨⟨by omega, by omega⟩, ?_⟩⟩, fun hx => absurd hneg hx⟩
      rw [hm]
      have e : (ByteArray.mk #[45]) ++ decB (m : Int) = decB n := by
        refine LL_inj.2 ?_
        rw [LL_cat, LL_decB, LL_decB, Lib.itoa_nonneg, hn2, Lib.itoa_neg m (by omega)]; rfl
      unfold rectoref3_Decimal_pk
      refine rDecimal0 (by omega) (fun _ => ⟨?_, ?_⟩)
      · rw [e]; exact Nat.le_trans (decB_size hr) (by decide)
      · rw [e]; exact h
  · obtain ⟨m, rfl⟩ : ∃ m : Nat, n = (m : Int) := ⟨n.toNat, by omega⟩
    refine ⟨1, ?_⟩
    unfold rectoref3_Decimal_pk
    exact rDecimal0 (by omega) h
theorem cat_size (a b : ByteArray) : (a ++ b).size = a.size + b.size := by simp
end Go.Proofs.YtnnbnljofklieaaDoor
