/- The plain law of chapter 1: what its functions compute answers as the statements say. -/
import Derived.Test.YtaolmfepdmgohaaGreatDoorFp11
import Derived.Test.YtaolmfepdmgohaaGreatDoorPath
namespace Go.Proofs.YtaolmfepdmgohaaGreatDoor
open Go
def goodZ (c : Int) : Bool := decide ((97 ≤ c ∧ c ≤ 122) ∨ (48 ≤ c ∧ c ≤ 57) ∨ c = 46 ∨ c = 45 ∨ c = 95)
def partOk (s : ByteArray) : Bool := decide (s ≠ ByteArray.mk #[] ∧ s ≠ ByteArray.mk #[46] ∧ s ≠ ByteArray.mk #[46, 46]) && (bytesL s).all goodZ
def Chk (p : ByteArray) : Int := if p.size > 64 then 4 else if (partsB p 47).all partOk then 0 else 5
def Und (p d : ByteArray) : Bool := if d = ByteArray.mk #[] then !decide (p = ByteArray.mk #[]) else decide ((p.size : Int) > (d.size : Int) + 1 ∧ bsub p 0 d.size = d ∧ bget p d.size = 47)
def Cl (a b : ByteArray) : Bool := if a = ByteArray.mk #[] then false else if b = ByteArray.mk #[] then false else (Und a b || Und b a)
theorem strSplit_p {s : ByteArray} {Q : List ByteArray → Prop} (hs : s.size < 4294967281) (h : Q (partsB s 47)) : strings_Split_p s (ByteArray.mk #[47]) Q := by
  unfold strings_Split_p strings_genSplit_p; intro _ _; exact ⟨47, rfl, rfl, rfl, hs, fun _ => h⟩
theorem good_p {c : Int} {Q : Bool → Prop} (h : Q (goodZ c)) : path_good_p c Q := by
  unfold path_good_p; intro _
  have e : ∀ {P : Prop} [Decidable P], (P ↔ ((97 ≤ c ∧ c ≤ 122) ∨ (48 ≤ c ∧ c ≤ 57) ∨ c = 46 ∨ c = 45 ∨ c = 95)) → Q (decide P) := by
    intro P _ hp; rw [decide_eq_decide.2 hp]; exact h
  have ht : ((97 ≤ c ∧ c ≤ 122) ∨ (48 ≤ c ∧ c ≤ 57) ∨ c = 46 ∨ c = 45 ∨ c = 95) → Q true := fun hp => by
    have := e (P := True) ⟨fun _ => hp, fun _ => trivial⟩; simpa using this
  refine ⟨c = 46 ∨ c = 45 ∨ c = 95, fun hk => ht (by omega), fun h1 => .inl h1, fun h1 => ⟨fun h2 => .inr (.inl h2), fun h2 => ⟨fun h3 => .inr (.inr h3), fun h3 => e (by omega)⟩⟩⟩
theorem part_p {s : ByteArray} {Q : Bool → Prop} (h : Q (partOk s)) : path_part_p s Q := by
  unfold path_part_p; simp only [inR_i64]; intro hm
  refine ⟨fun hb => ?_, fun hb => ?_⟩
  · have : partOk s = false := by unfold partOk; rw [decide_eq_false (fun hc => by rcases hb with h1 | h1 | h1; exact hc.1 h1; exact hc.2.1 h1; exact hc.2.2 h1)]; rfl
    rwa [this] at h
  have hok : decide (s ≠ ByteArray.mk #[] ∧ s ≠ ByteArray.mk #[46] ∧ s ≠ ByteArray.mk #[46, 46]) = true := decide_eq_true ⟨fun h1 => hb (.inl h1), fun h1 => hb (.inr (.inl h1)), fun h1 => hb (.inr (.inr h1))⟩
  unfold partOk at h
  rw [hok, Bool.true_and] at h
  refine ⟨fun i => ∃ k : Nat, i = k ∧ k ≤ (bytesL s).length ∧ ((bytesL s).take k).all goodZ = true, fun i => (bytesL s).length - i.toNat, ⟨0, rfl, Nat.zero_le _, rfl⟩, ?_⟩
  rintro _ ⟨k, rfl, hk, ht⟩ _
  have hmax : (bytesL s).length ≤ 9223372036854775807 := by rw [bytesL_len]; exact hm
  refine ⟨fun hlt => ?_, fun hge => ?_⟩
  · have hkl : k < (bytesL s).length := by omega
    refine ⟨inL_nat.2 hkl, fun _ => good_p ⟨fun hg => ?_, fun hg => ?_⟩⟩
    · have : (bytesL s).all goodZ = false := by
        rw [Bool.eq_false_iff]; intro ha
        rw [List.all_eq_true] at ha
        have := ha _ (lget_mem (inL_nat.2 hkl))
        rw [this] at hg; simp at hg
      rwa [this] at h
    · refine ⟨⟨by omega, by omega⟩, ⟨k + 1, rfl, hkl, ?_⟩, by dsimp only; omega⟩
      rw [take_lget hkl, List.all_append, ht]
      have : goodZ (lget (bytesL s) (k : Int)) = true := by simpa using hg
      simp [this]
  · rw [show k = (bytesL s).length from by omega, List.take_length] at ht
    rwa [ht] at h
theorem Check_p {p : ByteArray} {Q : Int → Prop} (h : Q (Chk p)) : path_Check_p p Q := by
  unfold path_Check_p; simp only [inR_i64]; intro hm
  unfold Chk at h
  refine ⟨fun hb => ?_, fun hb => ?_⟩
  · rwa [if_pos (by omega)] at h
  rw [if_neg (by omega)] at h
  refine strSplit_p (by omega) (fun hl => ?_)
  refine ⟨fun i => ∃ k : Nat, i = k ∧ k ≤ (partsB p 47).length ∧ ((partsB p 47).take k).all partOk = true, fun i => (partsB p 47).length - i.toNat, ⟨0, rfl, Nat.zero_le _, rfl⟩, ?_⟩
  rintro _ ⟨k, rfl, hk, ht⟩ _
  refine ⟨fun hlt => ?_, fun hge => ?_⟩
  · have hkl : k < (partsB p 47).length := by omega
    refine ⟨inL_nat.2 hkl, fun _ => part_p ⟨fun hg => ?_, fun hg => ?_⟩⟩
    · have : (partsB p 47).all partOk = false := by
        rw [Bool.eq_false_iff]; intro ha
        rw [List.all_eq_true] at ha
        have := ha _ (lget_mem (inL_nat.2 hkl))
        rw [this] at hg; simp at hg
      rw [this] at h; exact h
    · refine ⟨⟨by omega, by omega⟩, ⟨k + 1, rfl, hkl, ?_⟩, by dsimp only; omega⟩
      rw [take_lget hkl, List.all_append, ht]
      have : partOk (lget (partsB p 47) (k : Int)) = true := by simpa using hg
      simp [this]
  · rw [show k = (partsB p 47).length from by omega, List.take_length] at ht
    rw [ht] at h; exact h
theorem take_und (p d : ByteArray) (h : d.size < p.size) : bsub p 0 ((d ++ ByteArray.mk #[47]).size : Int) = d ++ ByteArray.mk #[47] ↔ bsub p 0 d.size = d ∧ bget p d.size = 47 := by
  have hsz : ((d ++ ByteArray.mk #[47]).size : Int) = ((d.size + 1 : Nat) : Int) := by rw [ByteArray.size_append]; rfl
  have hlt : d.size < (LL p).length := h
  rw [hsz, LL_inj, LL_sub, LL_cat, LL_inj, LL_sub, bget_LL]
  simp only [Int.toNat_natCast, Int.toNat_zero, List.drop_zero]
  rw [List.take_succ_eq_append_getElem hlt, List.getD, List.getElem?_eq_getElem hlt, Option.getD_some]
  constructor
  · intro h1
    have h2 := List.append_inj h1 (by rw [List.length_take]; exact Nat.min_eq_left (Nat.le_of_lt hlt))
    refine ⟨h2.1, ?_⟩
    have h3 : (LL p)[d.size] = 47 := by simpa [LL] using h2.2
    rw [h3]; rfl
  · rintro ⟨h1, h2⟩
    rw [h1]
    have h3 : (LL p)[d.size] = 47 := UInt8.toNat_inj.1 (by exact_mod_cast h2)
    rw [h3]
theorem Under_p {p d : ByteArray} {Q : Bool → Prop} (hz : d.size ≤ 1000000) (h : Q (Und p d)) : path_Under_p p d Q := by
  unfold path_Under_p strings_HasPrefix_p internal_stringslite_HasPrefix_p; simp only [inR_i64]; intro hm hd
  unfold Und at h
  refine ⟨fun he => ?_, fun he => ?_⟩
  · rwa [if_pos he] at h
  rw [if_neg he] at h
  unfold maxLen at hm hd
  by_cases hgt : (p.size : Int) > (d.size : Int) + 1
  · have hsz : ((d ++ ByteArray.mk #[47]).size) = d.size + 1 := by rw [ByteArray.size_append]; rfl
    refine ⟨fun b => b = decide ((p.size : Int) > (d.size : Int) + 1 ∧ bsub p 0 d.size = d ∧ bget p d.size = 47), by rintro _ rfl; exact h, ⟨by omega, by omega⟩, fun _ => ⟨by unfold maxLen; omega, fun _ _ _ _ => ⟨⟨fun _ => ⟨⟨by omega, by omega, by omega⟩, trivial⟩, fun _ => trivial⟩, decide_eq_decide.2 ?_⟩⟩, fun hn => absurd hgt hn⟩
    rw [take_und p d (by omega)]
    constructor
    · exact fun h1 => ⟨hgt, h1.2⟩
    · exact fun h1 => ⟨by omega, h1.2⟩
  · refine ⟨fun b => b = false, ?_, ⟨by omega, by omega⟩, fun hn => absurd hn hgt, fun _ => rfl⟩
    rintro _ rfl
    rwa [decide_eq_false (fun h1 => hgt h1.1)] at h
theorem Clash_p {a b : ByteArray} {Q : Bool → Prop} (hza : a.size ≤ 1000000) (hzb : b.size ≤ 1000000) (h : Q (Cl a b)) : path_Clash_p a b Q := by
  unfold path_Clash_p; intro _ _
  unfold Cl at h
  refine ⟨fun r => r = Cl a b, by rintro _ rfl; exact h, fun ha => ?_, fun ha => ⟨fun hb => ?_, fun hb => Under_p hzb ⟨fun h1 => ?_, fun h1 => Under_p hza ?_⟩⟩⟩
  · show false = Cl a b; unfold Cl; rw [if_pos ha]
  · show false = Cl a b; unfold Cl; rw [if_neg ha, if_pos hb]
  · show true = Cl a b; unfold Cl; rw [if_neg ha, if_neg hb, h1]; rfl
  · show Und b a = Cl a b; unfold Cl; rw [if_neg ha, if_neg hb, h1]; rfl
theorem Cl_comm (a b : ByteArray) : Cl a b = Cl b a := by
  unfold Cl
  by_cases ha : a = ByteArray.mk #[] <;> by_cases hb : b = ByteArray.mk #[] <;> simp [ha, hb, Bool.or_comm]
end Go.Proofs.YtaolmfepdmgohaaGreatDoor
