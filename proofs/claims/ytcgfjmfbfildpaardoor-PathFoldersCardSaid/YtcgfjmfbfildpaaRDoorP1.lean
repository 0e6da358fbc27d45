/- The plain law of chapter 1: what its functions compute answers as the statements say. -/
import Derived.Test.YtcgfjmfbfildpaaRDoorPa3
import Derived.Test.YtcgfjmfbfildpaaRDoorPath
namespace Go.Proofs.YtcgfjmfbfildpaaRDoor
open Go
def goodZ (c : Int) : Bool := decide ((97 ≤ c ∧ c ≤ 122) ∨ (48 ≤ c ∧ c ≤ 57) ∨ c = 46 ∨ c = 45 ∨ c = 95)
def partOk (s : ByteArray) : Bool := decide (s ≠ ByteArray.mk #[] ∧ s ≠ ByteArray.mk #[46] ∧ s ≠ ByteArray.mk #[46, 46]) && (bytesL s).all goodZ
def Chk (p : ByteArray) : Int := if p.size > 64 then 4 else if (partsB p 47).all partOk then 0 else 5
def Pts (p : ByteArray) : List ByteArray := if p = ByteArray.mk #[] then [] else partsB p 47
def Und (p d : ByteArray) : Bool := if d = ByteArray.mk #[] then !decide (p = ByteArray.mk #[]) else decide ((p.size : Int) > (d.size : Int) + 1 ∧ bsub p 0 d.size = d ∧ bget p d.size = 47)
def Cl (a b : ByteArray) : Bool := if a = ByteArray.mk #[] then false else if b = ByteArray.mk #[] then false else (Und a b || Und b a)
def Cmp (a b : ByteArray) : Int := if sless a b then -1 else if a = b then 0 else 1
theorem strSplit_p {s : ByteArray} {Q : List ByteArray → Prop} (hs : s.size < 4294967281) (h : Q (partsB s 47)) : strings_Split_p s (ByteArray.mk #[47]) Q := by
  unfold strings_Split_p strings_genSplit_p; intro _ _; exact ⟨47, rfl, rfl, rfl, hs, fun _ => h⟩
theorem Parts_p {p : ByteArray} {Q : List ByteArray → Prop} (hs : p.size < 4294967281) (h : Q (Pts p)) : path_Parts_p p Q := by
  unfold path_Parts_p; intro _
  unfold Pts at h
  refine ⟨fun he => ?_, fun he => strSplit_p hs fun _ => ?_⟩
  · rwa [if_pos he] at h
  · rwa [if_neg he] at h
theorem good_p {c : Int} {Q : Bool → Prop} (h : Q (goodZ c)) : path_good_p c Q := by
  unfold path_good_p; intro _
  have e : ∀ {P : Prop} [Decidable P], (P ↔ ((97 ≤ c ∧ c ≤ 122) ∨ (48 ≤ c ∧ c ≤ 57) ∨ c = 46 ∨ c = 45 ∨ c = 95)) → Q (decide P) := by
    intro P _ hp; rw [decide_eq_decide.2 hp]; exact h
  have ht : ((97 ≤ c ∧ c ≤ 122) ∨ (48 ≤ c ∧ c ≤ 57) ∨ c = 46 ∨ c = 45 ∨ c = 95) → Q true := fun hp => by
    have := e (P := True) ⟨fun _ => hp, fun _ => trivial⟩; simpa using this
  refine ⟨c = 46 ∨ c = 45 ∨ c = 95, fun hk => ht (by omega), fun h1 => .inl h1, fun h1 => ⟨fun h2 => .inr (.inl h2), fun h2 => ⟨fun h3 => .inr (.inr h3), fun h3 => e (by omega)⟩⟩⟩
theorem rgood_p {c : Int} {Q : Bool → Prop} (h : Q (goodZ c)) : rectoref1_good_p c Q := by
  unfold rectoref1_good_p; intro _
  have e : ∀ {P : Prop} [Decidable P], (P ↔ ((97 ≤ c ∧ c ≤ 122) ∨ (48 ≤ c ∧ c ≤ 57) ∨ c = 46 ∨ c = 45 ∨ c = 95)) → Q (decide P) := by
    intro P _ hp; rw [decide_eq_decide.2 hp]; exact h
  exact e (by omega)
theorem part_p {s : ByteArray} {Q : Bool → Prop} (h : Q (partOk s)) : path_part_p s Q := by
  unfold path_part_p; simp only [inR_i64]; intro hm
  refine ⟨fun hb => ?_, fun hb => ?_⟩
  · have : partOk s = false := by unfold partOk; rw [decide_eq_false (fun hc => by rcases hb with h1 | h1 | h1; exact hc.1 h1; exact hc.2.1 h1; exact hc.2.2 h1)]; rfl
    rwa [this] at h
  have hok : decide (s ≠ ByteArray.mk #[] ∧ s ≠ ByteArray.mk #[46] ∧ s ≠ ByteArray.mk #[46, 46]) = true := decide_eq_true ⟨fun h1 => hb (.inl h1), fun h1 => hb (.inr (.inl h1)), fun h1 => hb (.inr (.inr h1))⟩
  unfold partOk at h
  rw [hok, Bool.true_and] at h
  refine ⟨fun i => ∃ k : Nat, i = k ∧ k ≤ (bytesL s).length ∧ ((bytesL s).take k).all goodZ = true, fun i => (bytesL s).length - i.toNat, ⟨0, rfl, Nat.zero_le _, rfl⟩, ?_⟩
  rintro _ ⟨k, rfl, hk, ht⟩ _
  have hmax : (bytesL s).length ≤ 9223372036854775807 := by rw [bytesL_len]; exact hm
  refine ⟨fun hlt => ?_, fun hge => ?_⟩
  · have hkl : k < (bytesL s).length := by omega
    refine ⟨inL_nat.2 hkl, fun _ => good_p ⟨fun hg => ?_, fun hg => ?_⟩⟩
    · have : (bytesL s).all goodZ = false := by
        rw [Bool.eq_false_iff]; intro ha
        rw [List.all_eq_true] at ha
        have := ha _ (lget_mem (inL_nat.2 hkl))
        rw [this] at hg; simp at hg
      rwa [this] at h
    · refine ⟨⟨by omega, by omega⟩, ⟨k + 1, rfl, hkl, ?_⟩, by dsimp only; omega⟩
      rw [take_lget hkl, List.all_append, ht]
      have : goodZ (lget (bytesL s) (k : Int)) = true := by simpa using hg
      simp [this]
  · rw [show k = (bytesL s).length from by omega, List.take_length] at ht
    rwa [ht] at h
theorem Check_p {p : ByteArray} {Q : Int → Prop} (h : Q (Chk p)) : path_Check_p p Q := by
  unfold path_Check_p; simp only [inR_i64]; intro hm
  unfold Chk at h
  refine ⟨fun hb => ?_, fun hb => ?_⟩
  · rwa [if_pos (by omega)] at h
  rw [if_neg (by omega)] at h
  refine strSplit_p (by omega) (fun hl => ?_)
  refine ⟨fun i => ∃ k : Nat, i = k ∧ k ≤ (partsB p 47).length ∧ ((partsB p 47).take k).all partOk = true, fun i => (partsB p 47).length - i.toNat, ⟨0, rfl, Nat.zero_le _, rfl⟩, ?_⟩
  rintro _ ⟨k, rfl, hk, ht⟩ _
  refine ⟨fun hlt => ?_, fun hge => ?_⟩
  · have hkl : k < (partsB p 47).length := by omega
    refine ⟨inL_nat.2 hkl, fun _ => part_p ⟨fun hg => ?_, fun hg => ?_⟩⟩
    · have : (partsB p 47).all partOk = false := by
        rw [Bool.eq_false_iff]; intro ha
        rw [List.all_eq_true] at ha
        have := ha _ (lget_mem (inL_nat.2 hkl))
        rw [this] at hg; simp at hg
      rw [this] at h; exact h
    · refine ⟨⟨by omega, by omega⟩, ⟨k + 1, rfl, hkl, ?_⟩, by dsimp only; omega⟩
      rw [take_lget hkl, List.all_append, ht]
      have : partOk (lget (partsB p 47) (k : Int)) = true := by simpa using hg
      simp [this]
  · rw [show k = (partsB p 47).length from by omega, List.take_length] at ht
    rw [ht] at h; exact h
theorem take_und (p d : ByteArray) (h : d.size < p.size) : bsub p 0 ((d ++ ByteArray.mk #[47]).size : Int) = d ++ ByteArray.mk #[47] ↔ bsub p 0 d.size = d ∧ bget p d.size = 47 := by
  have hsz : ((d ++ ByteArray.mk #[47]).size : Int) = ((d.size + 1 : Nat) : Int) := by rw [ByteArray.size_append]; rfl
  have hlt : d.size < (LL p).length := h
  rw [hsz, LL_inj, LL_sub, LL_cat, LL_inj, LL_sub, bget_LL]
  simp only [Int.toNat_natCast, Int.toNat_zero, List.drop_zero]
  rw [List.take_succ_eq_append_getElem hlt, List.getD, List.getElem?_eq_getElem hlt, Option.getD_some]
  constructor
  · intro h1
    have h2 := List.append_inj h1 (by rw [List.length_take]; exact Nat.min_eq_left (Nat.le_of_lt hlt))
    refine ⟨h2.1, ?_⟩
    have h3 : (LL p)[d.size] = 47 := by simpa [LL] using h2.2
    rw [h3]; rfl
  · rintro ⟨h1, h2⟩
    rw [h1]
    have h3 : (LL p)[d.size] = 47 := UInt8.toNat_inj.1 (by exact_mod_cast h2)
    rw [h3]
theorem Under_p {p d : ByteArray} {Q : Bool → Prop} (hz : d.size ≤ 1000000) (h : Q (Und p d)) : path_Under_p p d Q := by
  unfold path_Under_p strings_HasPrefix_p internal_stringslite_HasPrefix_p; simp only [inR_i64]; intro hm hd
  unfold Und at h
  refine ⟨fun he => ?_, fun he => ?_⟩
  · rwa [if_pos he] at h
  rw [if_neg he] at h
  unfold maxLen at hm hd
  by_cases hgt : (p.size : Int) > (d.size : Int) + 1
  · have hsz : ((d ++ ByteArray.mk #[47]).size) = d.size + 1 := by rw [ByteArray.size_append]; rfl
    refine ⟨fun b => b = decide ((p.size : Int) > (d.size : Int) + 1 ∧ bsub p 0 d.size = d ∧ bget p d.size = 47), by rintro _ rfl; exact h, ⟨by omega, by omega⟩, fun _ => ⟨by unfold maxLen; omega, fun _ _ _ _ => ⟨⟨fun _ => ⟨⟨by omega, by omega, by omega⟩, trivial⟩, fun _ => trivial⟩, decide_eq_decide.2 ?_⟩⟩, fun hn => absurd hgt hn⟩
    rw [take_und p d (by omega)]
    constructor
    · exact fun h1 => ⟨hgt, h1.2⟩
    · exact fun h1 => ⟨by omega, h1.2⟩
  · refine ⟨fun b => b = false, ?_, ⟨by omega, by omega⟩, fun hn => absurd hn hgt, fun _ => rfl⟩
    rintro _ rfl
    rwa [decide_eq_false (fun h1 => hgt h1.1)] at h
theorem rUnder_p {p d : ByteArray} {Q : Bool → Prop} (hz : d.size ≤ 1000000) (h : Q (Und p d)) : rectoref1_Under_p p d Q := by
  unfold rectoref1_Under_p; simp only [inR_i64]; intro hm hd
  unfold Und at h
  unfold maxLen at hm hd
  refine ⟨fun he => ?_, fun he => ?_⟩
  · rwa [if_pos he] at h
  rw [if_neg he] at h
  exact ⟨⟨⟨by omega, by omega⟩, fun h1 => ⟨⟨by omega, by omega, by omega⟩, fun _ => ⟨⟨by omega, by omega⟩, trivial⟩, fun _ => trivial⟩, fun _ => trivial⟩, h⟩
theorem Clash_p {a b : ByteArray} {Q : Bool → Prop} (hza : a.size ≤ 1000000) (hzb : b.size ≤ 1000000) (h : Q (Cl a b)) : path_Clash_p a b Q := by
  unfold path_Clash_p; intro _ _
  unfold Cl at h
  refine ⟨fun r => r = Cl a b, by rintro _ rfl; exact h, fun ha => ?_, fun ha => ⟨fun hb => ?_, fun hb => Under_p hzb ⟨fun h1 => ?_, fun h1 => Under_p hza ?_⟩⟩⟩
  · show false = Cl a b; unfold Cl; rw [if_pos ha]
  · show false = Cl a b; unfold Cl; rw [if_neg ha, if_pos hb]
  · show true = Cl a b; unfold Cl; rw [if_neg ha, if_neg hb, h1]; rfl
  · show Und b a = Cl a b; unfold Cl; rw [if_neg ha, if_neg hb, h1]; rfl
theorem rClash_p {a b : ByteArray} {Q : Bool → Prop} (hza : a.size ≤ 1000000) (hzb : b.size ≤ 1000000) (h : Q (Cl a b)) : rectoref1_Clash_p a b Q := by
  unfold rectoref1_Clash_p; intro _ _
  unfold Cl at h
  refine ⟨fun r => r = Cl a b, by rintro _ rfl; exact h, fun ha => ?_, fun ha => ⟨fun hb => ?_, fun hb => rUnder_p hzb ⟨fun h1 => ?_, fun h1 => rUnder_p hza ?_⟩⟩⟩
  · show false = Cl a b; unfold Cl; rw [if_pos ha]
  · show false = Cl a b; unfold Cl; rw [if_neg ha, if_pos hb]
  · show true = Cl a b; unfold Cl; rw [if_neg ha, if_neg hb, h1]; rfl
  · show Und b a = Cl a b; unfold Cl; rw [if_neg ha, if_neg hb, h1]; rfl
theorem Cl_comm (a b : ByteArray) : Cl a b = Cl b a := by
  unfold Cl
  by_cases ha : a = ByteArray.mk #[] <;> by_cases hb : b = ByteArray.mk #[] <;> simp [ha, hb, Bool.or_comm]
theorem Compare_p {a b : ByteArray} {Q : Int → Prop} (h : Q (Cmp a b)) : path_Compare_p a b Q := by
  unfold path_Compare_p cmp_Compare_string_p cmp_isNaN_string_p; intro _ _ _ _ _ _
  unfold Cmp at h
  refine ⟨fun h1 => absurd h1 (by simp), fun _ => ⟨fun h1 => absurd h1 (by simp), fun _ => ⟨fun h1 => fun _ => ?_, fun h1 => ⟨fun h2 => fun _ => ?_, fun h2 => fun _ => ?_⟩⟩⟩⟩
  · rwa [if_pos h1] at h
  · rw [h1] at h h2
    rwa [if_neg (by decide), if_neg (by simpa using h2)] at h
  · rw [h1] at h h2
    rwa [if_neg (by decide), if_pos (by simpa using h2)] at h
theorem rCompare_p {a b : ByteArray} {Q : Int → Prop} (h : Q (Cmp a b)) : rectoref1_Compare_p a b Q := by
  unfold rectoref1_Compare_p; intro _ _
  unfold Cmp at h
  refine ⟨fun h1 => ?_, fun h1 => ⟨fun h2 => ?_, fun h2 => ?_⟩⟩
  · rwa [if_pos h1] at h
  · rwa [if_neg (by rw [h1]; decide), if_pos h2] at h
  · rwa [if_neg (by rw [h1]; decide), if_neg h2] at h
def Par (p : ByteArray) : ByteArray := bsub p 0 (max (Lib.lastIndexByte p 47) 0)
theorem bget_bang (s : ByteArray) (k : Nat) : bget s (k : Int) = ((s.data[k]!).toNat : Int) := by
  unfold bget; rw [Int.toNat_natCast, Array.getElem!_eq_getD]; rfl
theorem last_is {p : ByteArray} {k : Nat} (hk : k < p.size) (h1 : bget p (k : Int) = 47) (h2 : ∀ j : Nat, k < j → j < p.size → bget p (j : Int) ≠ 47) : Lib.lastIndexByte p 47 = k := by
  rcases Lib.lastIndexByte_spec p 47 with ⟨_, h⟩ | ⟨i, hi, h, h3, h4⟩
  · exact absurd (by rw [← bget_bang]; exact h1) (h k hk)
  · rcases Nat.lt_trichotomy i k with hl | hl | hl
    · exact absurd (by rw [← bget_bang]; exact h1) (h4 k hl hk)
    · rw [h, hl]
    · exact absurd (by rw [bget_bang]; exact h3) (h2 i hl hi)
theorem last_not {p : ByteArray} (h2 : ∀ j : Nat, j < p.size → bget p (j : Int) ≠ 47) : Lib.lastIndexByte p 47 = -1 := by
  rcases Lib.lastIndexByte_spec p 47 with ⟨h, _⟩ | ⟨i, hi, h, h3, h4⟩
  · exact h
  · exact absurd (by rw [bget_bang]; exact h3) (h2 i hi)
theorem last_le (p : ByteArray) : -1 ≤ Lib.lastIndexByte p 47 ∧ (Lib.lastIndexByte p 47 < p.size ∨ Lib.lastIndexByte p 47 = -1) := by
  rcases Lib.lastIndexByte_spec p 47 with ⟨h, _⟩ | ⟨i, hi, h, h3, h4⟩
  · rw [h]; exact ⟨by omega, .inr rfl⟩
  · rw [h]; exact ⟨by omega, .inl (by omega)⟩
theorem Parent_p {p : ByteArray} {Q : ByteArray → Prop} (hz : p.size ≤ 1000000) (h : Q (Par p)) : path_Parent_p p Q := by
  unfold path_Parent_p strings_LastIndex_p; intro _
  have hl := last_le p
  refine ⟨47, rfl, by omega, fun _ _ => ⟨⟨by omega, ?_, ?_⟩, h⟩⟩
  · exact Int.le_max_right _ _
  · show max (Lib.lastIndexByte p 47) 0 ≤ _
    omega
theorem rParent_p {p : ByteArray} {Q : ByteArray → Prop} (hz : p.size ≤ 1000000) (h : Q (Par p)) : rectoref1_Parent_p p Q := by
  unfold rectoref1_Parent_p; simp only [inR_i64]; intro _
  refine ⟨⟨by omega, by omega⟩, fun i => ∃ k : Nat, i = (k : Int) - 1 ∧ k ≤ p.size ∧ ∀ j : Nat, k ≤ j → j < p.size → bget p (j : Int) ≠ 47, fun i => (i + 1).toNat, ⟨p.size, rfl, Nat.le_refl _, fun j h1 h2 => absurd h2 (by omega)⟩, ?_⟩
  rintro _ ⟨k, rfl, hk, hn⟩ _
  refine ⟨fun hge => ?_, fun hlt => ?_⟩
  · obtain ⟨m, rfl⟩ : ∃ m : Nat, k = m + 1 := ⟨k - 1, by omega⟩
    have e : ((m + 1 : Nat) : Int) - 1 = (m : Int) := by omega
    rw [e]
    refine ⟨⟨by omega, by omega⟩, fun hb => ⟨⟨by omega, by omega, by omega⟩, ?_⟩, fun hb => ⟨⟨by omega, by omega⟩, ⟨m, rfl, by omega, fun j h1 h2 => ?_⟩, by dsimp only; omega⟩⟩
    · have hl := last_is (p := p) (k := m) (by omega) hb (fun j h1 h2 => hn j (by omega) h2)
      unfold Par at h
      rw [hl, show max ((m : Nat) : Int) 0 = (m : Int) from by omega] at h
      exact h
    · rcases Nat.lt_or_ge m j with h3 | h3
      · exact hn j (by omega) h2
      · rw [show j = m from by omega]; exact hb
  · have hk0 : k = 0 := by omega
    subst hk0
    have hl := last_not (p := p) (fun j h2 => hn j (Nat.zero_le _) h2)
    unfold Par at h
    rw [hl] at h
    have : bsub p 0 (max (-1) 0) = ByteArray.mk #[] := by rw [LL_inj, LL_sub]; rfl
    rwa [this] at h
theorem known1_p {Q : Bool → Prop} (h : Q true) : rectolaw1_known_p Q := by
  unfold rectolaw1_known_p
  have e1 : partsB (ByteArray.mk #[97, 47, 98, 46, 99]) 47 = [ByteArray.mk #[97], ByteArray.mk #[98, 46, 99]] := by rw [partsB_mk]; rfl
  have e2 : partsB (ByteArray.mk #[97, 47, 47, 98]) 47 = [ByteArray.mk #[97], ByteArray.mk #[], ByteArray.mk #[98]] := by rw [partsB_mk]; rfl
  have c1 : Chk (ByteArray.mk #[97, 47, 98, 46, 99]) = 0 := by unfold Chk; rw [if_neg (by decide), e1, if_pos (by decide)]
  have c2 : Chk (ByteArray.mk #[97, 47, 47, 98]) = 5 := by unfold Chk; rw [if_neg (by decide), e2, if_neg (by decide)]
  have e3 : Pts (ByteArray.mk #[97, 47, 98, 46, 99]) = [ByteArray.mk #[97], ByteArray.mk #[98, 46, 99]] := by unfold Pts; rw [if_neg (by decide), e1]
  refine Parts_p (by decide) ?_
  rw [e3]
  intro _
  refine ⟨fun b => b = true, by rintro _ rfl; exact h, ?_⟩
  refine Check_p (fun _ => ⟨fun _ => ?_, fun hn => absurd c1 hn⟩)
  refine Check_p (fun _ => ⟨fun _ => ?_, fun hn => absurd c2 hn⟩)
  refine ⟨fun _ => ⟨by decide, fun _ => ⟨fun _ => ?_, fun hn => absurd rfl hn⟩⟩, fun hn => absurd rfl hn⟩
  have e4 : Par (ByteArray.mk #[97, 47, 98]) = ByteArray.mk #[97] := by decide +kernel
  refine Parent_p (by decide) (fun _ => ⟨fun _ => ?_, fun hn => absurd e4 hn⟩)
  refine Under_p (by decide) ⟨fun _ => ?_, fun hn => absurd hn (by decide)⟩
  refine Under_p (by decide) ⟨fun hn => absurd hn (by decide), fun _ => ?_⟩
  refine Clash_p (by decide) (by decide) ⟨fun _ => ?_, fun hn => absurd hn (by decide)⟩
  refine Clash_p (by decide) (by decide) ⟨fun hn => absurd hn (by decide), fun _ => ?_⟩
  exact Compare_p (fun _ => decide_eq_true (by decide +kernel))
theorem PathTwo_p {a b : ByteArray} {Q : Bool → Prop} (h : Q true) : rectolaw1_PathTwo_p a b Q := by
  unfold rectolaw1_PathTwo_p; intro _ _
  refine known1_p ⟨fun h => absurd h (by decide), fun _ => ⟨fun _ => h, fun hs => ?_⟩⟩
  have ha : a.size ≤ 1000000 := by omega
  have hb : b.size ≤ 1000000 := by omega
  refine Clash_p ha hb ⟨fun r => r = true, by rintro _ rfl; exact h, ?_⟩
  refine Under_p hb (rUnder_p hb ⟨fun _ => ?_, fun hn => absurd rfl hn⟩)
  refine Under_p ha (rUnder_p ha ⟨fun _ => ?_, fun hn => absurd rfl hn⟩)
  refine rClash_p ha hb ⟨fun _ => ?_, fun hn => absurd rfl hn⟩
  refine Clash_p hb ha ⟨fun _ => ?_, fun hn => absurd (Cl_comm a b) hn⟩
  exact Compare_p fun _ => rCompare_p fun _ => decide_eq_true rfl
end Go.Proofs.YtcgfjmfbfildpaaRDoor
