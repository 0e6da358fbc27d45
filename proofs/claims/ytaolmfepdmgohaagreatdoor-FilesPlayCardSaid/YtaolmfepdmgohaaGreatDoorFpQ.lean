/- The document's chapter 1. -/
import Derived.Test.YtaolmfepdmgohaaGreatDoorFpC
namespace Go.Proofs.YtaolmfepdmgohaaGreatDoor
open Go
def Pts (p : ByteArray) : List ByteArray := if p = ByteArray.mk #[] then [] else partsB p 47
theorem rgood_p {c : Int} {Q : Bool → Prop} (h : Q (goodZ c)) : rectoref1_good_p c Q := by
  unfold rectoref1_good_p; intro _
  have e : ∀ {P : Prop} [Decidable P], (P ↔ ((97 ≤ c ∧ c ≤ 122) ∨ (48 ≤ c ∧ c ≤ 57) ∨ c = 46 ∨ c = 45 ∨ c = 95)) → Q (decide P) := by
    intro P _ hp; rw [decide_eq_decide.2 hp]; exact h
  exact e (by omega)
theorem rUnder_p {p d : ByteArray} {Q : Bool → Prop} (hz : d.size ≤ 1000000) (h : Q (Und p d)) : rectoref1_Under_p p d Q := by
  unfold rectoref1_Under_p; simp only [inR_i64]; intro hm hd
  unfold Und at h
  unfold maxLen at hm hd
  refine ⟨fun he => ?_, fun he => ?_⟩
  · rwa [if_pos he] at h
  rw [if_neg he] at h
  exact ⟨⟨⟨by omega, by omega⟩, fun h1 => ⟨⟨by omega, by omega, by omega⟩, fun _ => ⟨⟨by omega, by omega⟩, trivial⟩, fun _ => trivial⟩, fun _ => trivial⟩, h⟩
theorem rClash_p {a b : ByteArray} {Q : Bool → Prop} (hza : a.size ≤ 1000000) (hzb : b.size ≤ 1000000) (h : Q (Cl a b)) : rectoref1_Clash_p a b Q := by
  unfold rectoref1_Clash_p; intro _ _
  unfold Cl at h
  refine ⟨fun r => r = Cl a b, by rintro _ rfl; exact h, fun ha => ?_, fun ha => ⟨fun hb => ?_, fun hb => rUnder_p hzb ⟨fun h1 => ?_, fun h1 => rUnder_p hza ?_⟩⟩⟩
  · show false = Cl a b; unfold Cl; rw [if_pos ha]
  · show false = Cl a b; unfold Cl; rw [if_neg ha, if_pos hb]
  · show true = Cl a b; unfold Cl; rw [if_neg ha, if_neg hb, h1]; rfl
  · show Und b a = Cl a b; unfold Cl; rw [if_neg ha, if_neg hb, h1]; rfl
theorem rgoods_ok {s : ByteArray} (k : Nat) (hk : k < s.size) : bget s (k : Int) = lget (bytesL s) (k : Int) := by
  rw [bget_LL, lget_lt (by rw [bytesL_len]; exact hk)]
  unfold bytesL
  rw [List.getElem_map, List.getD, Int.toNat_natCast, List.getElem?_eq_getElem (by exact hk)]
  rfl
theorem cutL_snoc (c : UInt8) : ∀ (l : List UInt8) (x : UInt8), cutL c (l ++ [x]) = if x = c then cutL c l ++ [[]] else (cutL c l).set ((cutL c l).length - 1) (((cutL c l).getD ((cutL c l).length - 1) []) ++ [x])
  | [], x => by by_cases hx : x = c <;> simp [cutL, hx]
  | y :: r, x => by
    have ih := cutL_snoc c r x
    have hne := cutL_ne c r
    cases hr : cutL c r with
    | nil => exact absurd hr hne
    | cons a l2 =>
      rw [hr] at ih
      by_cases hx : x = c
      · rw [if_pos hx] at ih ⊢
        by_cases hy : y = c
        · simp [cutL, hy, hr, ih]
        · simp [cutL, hy, hr, ih]
      · rw [if_neg hx] at ih ⊢
        by_cases hy : y = c
        · simp only [List.cons_append, cutL, if_pos hy, ih, hr]
          simp
        · simp only [List.cons_append, cutL, if_neg hy, ih, hr]
          cases l2 with
          | nil => simp
          | cons b bs => simp
theorem rParts_p {p : ByteArray} {Q : List ByteArray → Prop} (hz : p.size ≤ 1000000) (h : Q (Pts p)) : rectoref1_Parts_p p Q := by
  unfold rectoref1_Parts_p; simp only [inR_i64]; intro _
  unfold Pts at h
  refine ⟨fun he => ?_, fun he => ?_⟩
  · rwa [if_pos he] at h
  rw [if_neg he] at h
  refine ⟨fun out i => ∃ k : Nat, i = k ∧ k ≤ p.size ∧ out = (cutL 47 ((LL p).take k)).map mkB ∧ out.length ≤ k + 1, fun _ i => p.size - i.toNat, ⟨0, rfl, Nat.zero_le _, rfl, Nat.le_refl _⟩, ?_⟩
  rintro out _ ⟨k, rfl, hk, ho, hlen⟩ _ _
  refine ⟨fun hlt => ?_, fun hge => ?_⟩
  · have hkl : k < p.size := by omega
    have hkL : k < (LL p).length := hkl
    have hb : bget p (k : Int) = (((LL p)[k]).toNat : Int) := by rw [bget_LL, List.getD, Int.toNat_natCast, List.getElem?_eq_getElem hkL]; rfl
    have hsn := cutL_snoc 47 ((LL p).take k) (LL p)[k]
    rw [← List.take_succ_eq_append_getElem hkL] at hsn
    have hne : out ≠ [] := by rw [ho]; simp [cutL_ne]
    have hpos := List.length_pos_iff.2 hne
    have hlast : (out.length : Int) - 1 = ((out.length - 1 : Nat) : Int) := by omega
    have hsz : ∀ x ∈ out, x.size ≤ p.size := by
      intro x hx
      rw [ho] at hx
      obtain ⟨l, hl, rfl⟩ := List.mem_map.1 hx
      rw [mkB_size]
      have : (cutL 47 ((LL p).take k)) = (partsB (mkB ((LL p).take k)) 47).map LL := by rw [partsB_cut, LL_mkB]
      rw [this] at hl
      obtain ⟨y, hy, rfl⟩ := List.mem_map.1 hl
      have := partsB_le y hy
      rw [mkB_size, List.length_take] at this
      rw [LL_len]; have := Nat.min_le_right k (LL p).length; rw [LL_len] at this; omega
    refine ⟨fun out' => out' = (cutL 47 ((LL p).take (k + 1))).map mkB ∧ out'.length ≤ k + 2, ?_, ⟨by omega, by omega⟩, fun h47 => ⟨?_, ?_⟩, fun h47 => ?_⟩
    · rintro out' ⟨h1, h2⟩ _
      exact ⟨⟨by omega, by omega⟩, ⟨k + 1, rfl, hkl, h1, h2⟩, by dsimp only; omega⟩
    · simp; omega
    · have hx : (LL p)[k] = 47 := UInt8.toNat_inj.1 (by rw [hb] at h47; exact_mod_cast h47)
      rw [if_pos hx] at hsn
      rw [hsn, List.map_append, ← ho]
      exact ⟨rfl, by simp; omega⟩
    · have hx : (LL p)[k] ≠ 47 := fun hx => h47 (by rw [hb, hx]; rfl)
      rw [if_neg hx] at hsn
      have hin : inL out ((out.length : Int) - 1) := last_in hne
      have hle := hsz _ (lget_mem hin)
      have hs1 : (bsub p (k : Int) ((k : Int) + 1)) = mkB [(LL p)[k]] := by
        rw [LL_inj, LL_sub, LL_mkB, show ((k : Int) + 1).toNat = k + 1 from by omega, List.take_succ_eq_append_getElem hkL, Int.toNat_natCast]
        rw [List.drop_append_of_le_length (by rw [List.length_take]; omega), List.drop_of_length_le (by rw [List.length_take]; omega)]; rfl
      have hcat : (lget out ((out.length : Int) - 1) ++ bsub p (k : Int) ((k : Int) + 1)).size ≤ p.size + 1 := by
        rw [ByteArray.size_append, hs1, mkB_size]; simp; omega
      refine ⟨⟨by omega, by omega⟩, ⟨by omega, by omega⟩, hin, fun _ => ⟨⟨by omega, by omega⟩, ⟨by omega, by omega, by omega⟩, by unfold maxLen; omega, hin, fun _ => ?_⟩⟩
      rintro _ rfl
      refine ⟨?_, by rw [len_lset]; omega⟩
      rw [hlast, lset_nat, lget_nat, hs1, hsn, List.map_set]
      have hl2 : (cutL 47 ((LL p).take k)).length = out.length := by rw [ho, List.length_map]
      rw [hl2, ← ho]
      congr 1
      rw [LL_inj, LL_cat, LL_mkB, LL_mkB]
      congr 1
      have hlt2 : out.length - 1 < out.length := by omega
      rw [List.getD, List.getElem?_eq_getElem hlt2, Option.getD_some, List.getD, List.getElem?_eq_getElem (by omega), Option.getD_some]
      have : out[out.length - 1] = mkB ((cutL 47 ((LL p).take k))[out.length - 1]'(by omega)) := by
        have : ∀ (L : List ByteArray) (hL : L = (cutL 47 ((LL p).take k)).map mkB) (m : Nat) (hm : m < L.length) (hm2 : m < (cutL 47 ((LL p).take k)).length), L[m] = mkB ((cutL 47 ((LL p).take k))[m]) := by
          intro L hL m hm hm2; subst hL; rw [List.getElem_map]
        exact this out ho _ hlt2 _
      rw [this, LL_mkB]
  · have hk2 : k = (LL p).length := by rw [LL_len]; omega
    rw [hk2, List.take_length, ← partsB_mk] at ho
    rw [ho]; exact h
theorem rCheck_p {p : ByteArray} {Q : Int → Prop} (h : Q (Chk p)) : rectoref1_Check_p p Q := by
  unfold rectoref1_Check_p; simp only [inR_i64]; intro hm
  unfold Chk at h
  refine ⟨fun hb => ?_, fun hb => ?_⟩
  · rwa [if_pos (by omega)] at h
  rw [if_neg (by omega)] at h
  refine rParts_p (by omega) (fun hl => ?_)
  by_cases he : p = ByteArray.mk #[]
  · have : Pts p = [] := by unfold Pts; rw [if_pos he]
    rw [this]
    refine ⟨fun _ => ?_, fun hn => absurd rfl hn⟩
    subst he
    have e1 : partsB (ByteArray.mk #[]) 47 = [ByteArray.mk #[]] := by rw [partsB_mk]; rfl
    rw [e1] at h
    exact h
  have hP : Pts p = partsB p 47 := by unfold Pts; rw [if_neg he]
  rw [hP] at hl ⊢
  have hne : partsB p 47 ≠ [] := by rw [partsB_mk]; simp [cutL_ne]
  have hpos := List.length_pos_iff.2 hne
  refine ⟨fun hz => absurd hz (by omega), fun _ => ?_⟩
  refine ⟨fun i => ∃ k : Nat, i = k ∧ k ≤ (partsB p 47).length ∧ ((partsB p 47).take k).all partOk = true, fun i => (partsB p 47).length - i.toNat, ⟨0, rfl, Nat.zero_le _, rfl⟩, ?_⟩
  rintro _ ⟨k, rfl, hk, ht⟩ _
  refine ⟨fun hlt => ?_, fun hge => ?_⟩
  · have hkl : k < (partsB p 47).length := by omega
    have hin := inL_nat.2 hkl
    generalize hx : lget (partsB p 47) (k : Int) = x
    have bad : partOk x = false → Q 5 := fun hf => by
      have : (partsB p 47).all partOk = false := by
        rw [Bool.eq_false_iff]; intro ha
        rw [List.all_eq_true] at ha
        have := ha _ (lget_mem hin)
        rw [hx, hf] at this; cases this
      rw [this] at h; exact h
    refine ⟨fun b => b = decide (x = ByteArray.mk #[] ∨ x = ByteArray.mk #[46] ∨ x = ByteArray.mk #[46, 46]), ?_, hin, fun hsz => ⟨fun h1 => ?_, fun h1 => ⟨hin, fun _ => ⟨fun h2 => ?_, fun h2 => ⟨hin, fun _ => ?_⟩⟩⟩⟩⟩
    · rintro b rfl
      refine ⟨fun hb => ?_, fun hb => ?_⟩
      · refine bad ?_
        unfold partOk
        rw [decide_eq_false (fun hc => by rcases of_decide_eq_true hb with h1 | h1 | h1; exact hc.1 h1; exact hc.2.1 h1; exact hc.2.2 h1)]; rfl
      · have hno := of_decide_eq_false hb
        have hok : decide (x ≠ ByteArray.mk #[] ∧ x ≠ ByteArray.mk #[46] ∧ x ≠ ByteArray.mk #[46, 46]) = true := decide_eq_true ⟨fun h1 => hno (.inl h1), fun h1 => hno (.inr (.inl h1)), fun h1 => hno (.inr (.inr h1))⟩
        refine ⟨fun i => ∃ m : Nat, i = m ∧ m ≤ x.size ∧ ((bytesL x).take m).all goodZ = true, fun i => x.size - i.toNat, ⟨0, rfl, Nat.zero_le _, rfl⟩, ?_⟩
        rintro _ ⟨m, rfl, hm2, hg⟩ _
        refine ⟨hin, fun hxs => ⟨fun hlt2 => ⟨hin, fun _ => ⟨⟨by omega, by omega⟩, ?_⟩⟩, fun hge2 => ?_⟩⟩
        · have hml : m < (bytesL x).length := by rw [bytesL_len]; omega
          rw [rgoods_ok m (by omega)]
          refine rgood_p ⟨fun hq => bad ?_, fun hq => ?_⟩
          · unfold partOk; rw [hok, Bool.true_and, Bool.eq_false_iff]; intro ha
            rw [List.all_eq_true] at ha
            have := ha _ (lget_mem (inL_nat.2 hml))
            rw [this] at hq; simp at hq
          · unfold maxLen at hxs
            refine ⟨⟨by omega, by omega⟩, ⟨m + 1, rfl, by omega, ?_⟩, by dsimp only; omega⟩
            rw [take_lget hml, List.all_append, hg]
            have : goodZ (lget (bytesL x) (m : Int)) = true := by simpa using hq
            simp [this]
        · have hxok : partOk x = true := by
            unfold partOk; rw [hok, Bool.true_and]
            rwa [show m = (bytesL x).length from by rw [bytesL_len]; omega, List.take_length] at hg
          refine ⟨⟨by omega, by omega⟩, ⟨k + 1, rfl, hkl, ?_⟩, by dsimp only; omega⟩
          rw [take_lget hkl, List.all_append, ht, hx]
          simp [hxok]
    · exact (decide_eq_true (.inl h1)).symm
    · exact (decide_eq_true (.inr (.inl h2))).symm
    · exact decide_eq_decide.2 ⟨fun h3 => .inr (.inr h3), fun h3 => by rcases h3 with h3 | h3 | h3; exact absurd h3 h1; exact absurd h3 h2; exact h3⟩
  · rw [show k = (partsB p 47).length from by omega, List.take_length] at ht
    rw [ht] at h; exact h
end Go.Proofs.YtaolmfepdmgohaaGreatDoor
