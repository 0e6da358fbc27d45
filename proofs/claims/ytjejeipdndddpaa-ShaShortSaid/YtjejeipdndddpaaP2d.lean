/- Chapter 2: the laws, plainly. -/
import Derived.Test.YtjejeipdndddpaaP2c
namespace Go.Proofs.Ytjejeipdndddpaa
open Go
theorem hex_abc : hexS (sumS [97, 98, 99]) = ByteArray.mk #[98, 97, 55, 56, 49, 54, 98, 102, 56, 102, 48, 49, 99, 102, 101, 97, 52, 49, 52, 49, 52, 48, 100, 101, 53, 100, 97, 101, 50, 50, 50, 51, 98, 48, 48, 51, 54, 49, 97, 51, 57, 54, 49, 55, 55, 97, 57, 99, 98, 52, 49, 48, 102, 102, 54, 49, 102, 50, 48, 48, 49, 53, 97, 100] := by
  rw [sum_abc]; decide +kernel
theorem shortS_self (id : List Int) {n : Int} (h0 : 0 ≤ n) (h1 : n ≤ 64) : shortS [id] id n = n := by
  show (if id = id then min (max n 0) 64 else _) = n
  rw [if_pos rfl]; omega
theorem known_p {Q : Bool → Prop} (h : Q true) : rectolaw2_known_p Q := by
  unfold rectolaw2_known_p
  have hok := sumS_ok [97, 98, 99]
  refine Sum_p (by decide) fun _ => String_p hok fun _ => Parse_p hok fun _ => ParseS_p (by decide) fun l p a n _ => ?_
  refine ⟨fun s => s = true, fun s hs => by rw [hs]; exact h, String_p hok fun _ => ⟨fun _ => ⟨fun _ => ⟨fun _ => ⟨fun _ => Shared_p hok hok fun _ => ⟨fun _ => Short_p hok fun _ _ _ => ?_, fun hn => ?_⟩, fun hn => ?_⟩, fun hn => ?_⟩, fun hn => ?_⟩, fun hn => ?_⟩⟩
  · rw [shortS_self _ (by decide) (by decide)]; exact decide_eq_true rfl
  · exact absurd (by rw [shrS_self]; rfl) hn
  · exact absurd rfl hn
  · exact absurd rfl hn
  · exact absurd rfl hn
  · exact absurd hex_abc hn
theorem ShaAny_p {b : List Int} {Q : Bool → Prop} (h : Q true) : rectolaw2_ShaAny_p b Q := by
  unfold rectolaw2_ShaAny_p; intro _
  refine known_p ⟨fun hn => absurd hn (by decide), fun _ => ⟨fun _ => h, fun hb => ?_⟩⟩
  have hok := sumS_ok b
  refine Sum_p (by omega) fun _ => String_p hok fun _ => Parse_p hok fun _ => ?_
  refine ⟨fun s => s = true, fun s hs => by rw [hs]; exact h, rSum_p (by omega) fun _ => ⟨fun _ => String_p hok fun _ => rString_p hok fun _ => ⟨fun _ => ⟨fun _ => decide_eq_true rfl, fun hn => absurd rfl hn⟩, fun hn => absurd rfl hn⟩, fun hn => absurd rfl hn⟩⟩
theorem ShaAgain_p {b : List Int} {Q : Bool → Prop} (h : Q true) : rectolaw2_ShaAgain_p b Q := by
  unfold rectolaw2_ShaAgain_p; intro _
  refine known_p ⟨fun hn => absurd hn (by decide), fun _ => ⟨fun _ => h, fun hb hu => ?_⟩⟩
  have hok := sumS_ok b
  refine Sum_p (by omega) fun _ => ?_
  rw [bytesL_of hu]
  refine Sum_p (by omega) fun _ => ?_
  refine ⟨fun s => s = true, fun s hs => by rw [hs]; exact h, ⟨fun _ => ?_, fun hn => absurd rfl hn⟩⟩
  first
  | refine ⟨fun _ => String_p hok fun _ => ⟨fun _ => Shared_p hok hok fun _ => ⟨fun _ => Short_p hok fun _ _ _ => ?_, fun hn => absurd (by rw [shrS_self]; rfl) hn⟩, fun hn => absurd (by rw [hexS_size]; rfl) hn⟩, fun hn => absurd rfl hn⟩
  | refine fun _ => ⟨fun _ => String_p hok fun _ => ⟨fun _ => Shared_p hok hok fun _ => ⟨fun _ => Short_p hok fun _ _ _ => ?_, fun hn => absurd (by rw [shrS_self]; rfl) hn⟩, fun hn => absurd (by rw [hexS_size]; rfl) hn⟩, fun hn => absurd rfl hn⟩
  have : shortS [sumS b, sumS b] (sumS b) 0 = 0 := by
    show (if sumS b = sumS b then (if sumS b = sumS b then min (max (0 : Int) 0) 64 else _) else _) = (0 : Int)
    rw [if_pos rfl, if_pos rfl]; rfl
  rw [this]; exact decide_eq_true rfl
theorem shortF_mono (id : List Int) : ∀ (l : List (List Int)) (n : Int), n ≤ shortF id l n
  | [], n => Int.le_refl _
  | x :: l, n => by
    unfold shortF
    have := shortF_mono id l (if x = id then n else max n ((shrS x id : Nat) + 1 : Int))
    split at this <;> rename_i h1
    · rw [if_pos h1]; exact this
    · rw [if_neg h1]; omega
theorem shortF_ge (id : List Int) : ∀ (l : List (List Int)) (n : Int), ∀ x ∈ l, x ≠ id → ((shrS x id : Nat) + 1 : Int) ≤ shortF id l n
  | y :: l, n, x, hx, hne => by
    unfold shortF
    rcases List.mem_cons.1 hx with rfl | hx
    · rw [if_neg hne]
      have := shortF_mono id l (max n ((shrS x id : Nat) + 1 : Int)); omega
    · exact shortF_ge id l _ x hx hne
theorem ShaShort_p {all : List (List Int)} {id : List Int} {least : Int} {Q : Bool → Prop} (h : Q true) : rectolaw2_ShaShort_p all id least Q := by
  unfold rectolaw2_ShaShort_p; simp only [inR_i64]; intro _ hid hl
  refine known_p ⟨fun hn => absurd hn (by decide), fun _ => ⟨fun _ => h, fun hall => ?_⟩⟩
  refine ⟨fun l i => ∃ n : Nat, i = n ∧ n ≤ all.length ∧ l = all.take n, fun _ i => all.length - i.toNat, ⟨0, rfl, by omega, by simp⟩, ?_⟩
  rintro _ _ ⟨n, rfl, hn, rfl⟩ _ _
  refine ⟨fun hlt => ?_, fun hge => ?_⟩
  · have hnl : n < all.length := by omega
    rw [← take_lget hnl]
    have hg : lget (all.take (n + 1)) (n : Int) = lget all (n : Int) := by
      rw [lget_nat, lget_nat]; simp [List.getD]
    rw [hg]
    refine ⟨inL_nat.2 hnl, fun hok => ⟨by simp; omega, inL_nat.2 hnl, fun _ => ⟨inL_nat.2 (by simp; omega), fun _ => Shared_p hok hid fun _ => rShared_p hok hid fun _ => ⟨fun hn => absurd rfl hn, fun _ => ?_⟩⟩⟩⟩
    exact ⟨by omega, ⟨n + 1, rfl, by omega, rfl⟩, by first | (dsimp only; omega) | omega⟩
  · have hn2 : n = all.length := by omega
    subst hn2
    rw [List.take_length]
    refine Short_p hid fun h0 h64 _ => ?_
    refine ⟨fun s => s = false, ?_, rShort_p hid fun _ => ⟨fun _ => ⟨fun hx => absurd hx (by omega), fun _ => ?_⟩, fun hn => absurd rfl hn⟩⟩
    · rintro _ rfl
      refine ⟨fun hx => (by cases hx), fun _ => ?_⟩
      refine ⟨fun i => ∃ n : Nat, i = n ∧ n ≤ all.length, fun i => all.length - i.toNat, ⟨0, rfl, by omega⟩, ?_⟩
      rintro _ ⟨n, rfl, hn⟩ _
      refine ⟨fun hlt => ?_, fun _ => h⟩
      have hnl : n < all.length := by omega
      refine ⟨fun s => s = false, ?_, inL_nat.2 hnl, fun hok => ⟨fun _ => rfl, fun hne => ⟨inL_nat.2 hnl, fun _ => Shared_p hok hid fun _ => ?_⟩⟩⟩
      · rintro _ rfl
        exact ⟨fun hx => (by cases hx), fun _ => ⟨by omega, ⟨n + 1, rfl, by omega⟩, by first | (dsimp only; omega) | omega⟩⟩
      · have := shortF_ge id all (min (max least 0) 64) (lget all (n : Int)) (lget_mem (inL_nat.2 hnl)) hne
        have h2 : shortS all id least = shortF id all (min (max least 0) 64) := rfl
        refine decide_eq_false ?_
        omega
    · refine decide_eq_false ?_
      omega
end Go.Proofs.Ytjejeipdndddpaa
