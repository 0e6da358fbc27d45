/- The plain law of chapter 1, on: the parts of a path are the path; the folders above it. -/
import Derived.Test.YtcgfjmfbfildpaaRDoorP1b
namespace Go.Proofs.YtcgfjmfbfildpaaRDoor
open Go
/-- parts with strokes between -/
def jn : List (List UInt8) → List UInt8
  | [] => []
  | [l] => l
  | l :: m :: ls => l ++ 47 :: jn (m :: ls)
theorem jn_cons {l : List UInt8} {ls : List (List UInt8)} (h : ls ≠ []) : jn (l :: ls) = l ++ 47 :: jn ls := by
  cases ls with
  | nil => exact absurd rfl h
  | cons m ls => rfl
theorem jn_append : ∀ {ls ms : List (List UInt8)}, ls ≠ [] → ms ≠ [] → jn (ls ++ ms) = jn ls ++ 47 :: jn ms
  | [], _, h, _ => absurd rfl h
  | [l], ms, _, h => by show jn (l :: ms) = _; rw [jn_cons h]; rfl
  | l :: m :: ls, ms, _, h => by
    have := jn_append (ls := m :: ls) (ms := ms) (by simp) h
    show jn (l :: ((m :: ls) ++ ms)) = _
    rw [jn_cons (l := l) (ls := (m :: ls) ++ ms) (by simp), this, jn_cons (l := l) (ls := m :: ls) (by simp)]; simp
theorem jn_cut : ∀ l : List UInt8, jn (cutL 47 l) = l
  | [] => rfl
  | x :: r => by
    have ih := jn_cut r
    have hne := cutL_ne 47 r
    by_cases hx : x = 47
    · subst hx; simp only [cutL, if_pos]; rw [jn_cons hne, ih]; rfl
    · cases hr : cutL 47 r with
      | nil => exact absurd hr hne
      | cons a l2 =>
        rw [hr] at ih
        simp only [cutL, if_neg hx, hr]
        cases l2 with
        | nil => simp only [jn] at ih ⊢; rw [ih]
        | cons b l3 => rw [jn_cons (by simp)] at ih ⊢; rw [List.cons_append, ih]
theorem cut_free (c : UInt8) : ∀ (l : List UInt8), ∀ x ∈ cutL c l, c ∉ x
  | [], x, h => by simp [cutL] at h; subst h; simp
  | y :: r, x, h => by
    have ih := cut_free c r
    by_cases hy : y = c
    · simp only [cutL, if_pos hy, List.mem_cons] at h
      rcases h with rfl | h
      · simp
      · exact ih x h
    · cases hr : cutL c r with
      | nil => exact absurd hr (cutL_ne c r)
      | cons a l2 =>
        simp only [cutL, if_neg hy, hr, List.mem_cons] at h
        rw [hr] at ih
        rcases h with rfl | h
        · have := ih a (by simp)
          simp only [List.mem_cons, not_or]; exact ⟨fun h => hy h.symm, this⟩
        · exact ih x (by simp [h])
theorem cut_one (c : UInt8) (l : List UInt8) (h : c ∉ l) : cutL c l = [l] :=
  cutL_none c l fun _ hj => h (List.mem_of_getElem? hj)
theorem cut_app (c : UInt8) (l r : List UInt8) (h : c ∉ l) : cutL c (l ++ c :: r) = l :: cutL c r := by
  have := cutL_at c (l ++ c :: r) l.length (by simp) (fun j hj hx => by
    rw [List.getElem?_append_left hj] at hx; exact h (List.mem_of_getElem? hx))
  rw [this]; simp
theorem cut_jn : ∀ {ls : List (List UInt8)}, ls ≠ [] → (∀ x ∈ ls, (47 : UInt8) ∉ x) → cutL 47 (jn ls) = ls
  | [], h, _ => absurd rfl h
  | [l], _, h => cut_one 47 l (h l (by simp))
  | l :: m :: ls, _, h => by
    rw [jn_cons (by simp), cut_app 47 l _ (h l (by simp)), cut_jn (by simp) fun x hx => h x (by simp [hx])]
theorem partsB_jn {ls : List (List UInt8)} (h0 : ls ≠ []) (h : ∀ x ∈ ls, (47 : UInt8) ∉ x) : partsB (mkB (jn ls)) 47 = ls.map mkB := by
  rw [partsB_mk, LL_mkB, cut_jn h0 h]
theorem partOk_ne {x : ByteArray} (h : partOk x = true) : x ≠ ByteArray.mk #[] := by
  unfold partOk at h; rw [Bool.and_eq_true] at h; exact (of_decide_eq_true h.1).1
theorem Chk_zero {p : ByteArray} : Chk p = 0 ↔ p.size ≤ 64 ∧ ∀ x ∈ partsB p 47, partOk x = true := by
  unfold Chk
  by_cases h : p.size > 64
  · rw [if_pos h]; constructor
    · intro h; cases h
    · intro h1; omega
  · rw [if_neg h]
    by_cases h2 : (partsB p 47).all partOk = true
    · rw [if_pos h2]; rw [List.all_eq_true] at h2; exact ⟨fun _ => ⟨by omega, h2⟩, fun _ => rfl⟩
    · rw [if_neg h2]; rw [List.all_eq_true] at h2; exact ⟨fun h => (by cases h), fun h3 => absurd h3.2 h2⟩
theorem parts_free {p x : ByteArray} (h : x ∈ partsB p 47) : (47 : UInt8) ∉ LL x := by
  refine cut_free 47 (LL p) _ ?_
  rw [← partsB_cut]; exact List.mem_map.2 ⟨x, h, rfl⟩
theorem parts_one {x : ByteArray} (h : (47 : UInt8) ∉ LL x) : partsB x 47 = [x] := by
  rw [partsB_mk, cut_one 47 _ h]; simp [mkB_LL]
theorem Chk_part {p x : ByteArray} (h : Chk p = 0) (hx : x ∈ partsB p 47) : Chk x = 0 := by
  obtain ⟨h1, h2⟩ := Chk_zero.1 h
  refine Chk_zero.2 ⟨Nat.le_trans (partsB_le x hx) h1, ?_⟩
  rw [parts_one (parts_free hx)]
  intro y hy; simp at hy; subst hy; exact h2 y hx
theorem Pts_part {p x : ByteArray} (h : Chk p = 0) (hx : x ∈ partsB p 47) : Pts x = [x] := by
  unfold Pts
  rw [if_neg (partOk_ne ((Chk_zero.1 h).2 x hx)), parts_one (parts_free hx)]
theorem jn_take {L : List ByteArray} {k : Nat} (hk : k < L.length) (h0 : k ≠ 0) : jn ((L.take (k + 1)).map LL) = jn ((L.take k).map LL) ++ 47 :: LL (lget L (k : Int)) := by
  rw [take_lget hk, List.map_append, jn_append]
  · rfl
  · have : (L.take k).length = k := by rw [List.length_take]; omega
    intro hn
    have h1 := congrArg List.length hn
    rw [List.length_map, this] at h1; exact h0 h1
  · simp
theorem jn_len_le : ∀ (ls : List (List UInt8)) (x : List UInt8), x ∈ ls → x.length ≤ (jn ls).length
  | [], x, h => by simp at h
  | [l], x, h => by simp at h; subst h; exact Nat.le_refl _
  | l :: m :: ls, x, h => by
    rw [jn_cons (by simp)]
    rcases List.mem_cons.1 h with rfl | h
    · simp
    · have := jn_len_le (m :: ls) x h; simp; omega
theorem jn_take_le (L : List ByteArray) (k : Nat) : (jn ((L.take k).map LL)).length ≤ (jn (L.map LL)).length := by
  by_cases h0 : L.take k = []
  · rw [h0]; simp [jn]
  by_cases h1 : L.drop k = []
  · have : L.take k = L := by have := List.take_append_drop k L; rw [h1, List.append_nil] at this; exact this
    rw [this]; exact Nat.le_refl _
  · have : L.map LL = (L.take k).map LL ++ (L.drop k).map LL := by rw [← List.map_append, List.take_append_drop]
    rw [this, jn_append (by simpa using h0) (by simpa using h1)]; simp
theorem jn_Pts (p : ByteArray) : jn ((Pts p).map LL) = LL p := by
  unfold Pts
  split
  · rename_i h; rw [h]; rfl
  · rw [partsB_cut, jn_cut]
theorem PathParts_p {p : ByteArray} {Q : Bool → Prop} (h : Q true) : rectolaw1_PathParts_p p Q := by
  unfold rectolaw1_PathParts_p; simp only [inR_i64]; intro _
  refine known1_p ⟨fun h => absurd h (by decide), fun _ => ⟨fun _ => h, fun hs => ?_⟩⟩
  have hz : p.size ≤ 1000000 := by omega
  have hj := jn_Pts p
  have hmem : ∀ {x : ByteArray}, x ∈ Pts p → x ∈ partsB p 47 := by
    intro x hx; unfold Pts at hx; split at hx
    · simp at hx
    · exact hx
  refine Parts_p (by omega) (fun hlen => ?_)
  refine ⟨fun s i => ∃ k : Nat, i = k ∧ k ≤ (Pts p).length ∧ LL s = jn (((Pts p).take k).map LL), fun _ i => (Pts p).length - i.toNat, ⟨0, rfl, Nat.zero_le _, rfl⟩, ?_⟩
  rintro s _ ⟨k, rfl, hk, hS⟩ _ _
  have hle := jn_take_le (Pts p) k
  rw [← hS, hj, LL_len, LL_len] at hle
  refine ⟨fun hlt => ?_, fun hge => ?_⟩
  · have hkl : k < (Pts p).length := by omega
    have hin := inL_nat.2 hkl
    have hx := hmem (lget_mem hin)
    have hle2 := jn_take_le (Pts p) (k + 1)
    refine ⟨fun s2 => LL s2 ++ LL (lget (Pts p) (k : Int)) = jn (((Pts p).take (k + 1)).map LL), ?_, fun hpos => ⟨?_, ?_⟩, fun hpos => ?_⟩
    · intro s2 hs2 _
      have hcat : LL (s2 ++ lget (Pts p) (k : Int)) = jn (((Pts p).take (k + 1)).map LL) := by rw [LL_cat]; exact hs2
      have hsz : (s2 ++ lget (Pts p) (k : Int)).size ≤ p.size := by
        rw [← LL_len, hcat]; rw [hj, LL_len] at hle2; exact hle2
      refine ⟨hin, fun _ => ⟨by unfold maxLen; omega, ?_⟩⟩
      refine ⟨fun b => b = false, ?_, ?_⟩
      · rintro _ rfl
        exact ⟨fun h => absurd h (by decide), fun _ => ⟨⟨by omega, by omega⟩, ⟨k + 1, rfl, hkl, hcat⟩, by dsimp only; omega⟩⟩
      · refine rCheck_p (fun _ => ⟨fun h0 => ⟨hin, fun _ => Check_p (fun _ => ⟨fun _ => ⟨hin, fun _ => Parts_p ?_ (fun _ => ?_)⟩, fun hn => absurd (Chk_part h0 hx) hn⟩)⟩, fun _ => rfl⟩)
        · have := partsB_le _ hx; omega
        · rw [Pts_part h0 hx]; rfl
    · rw [ByteArray.size_append]; unfold maxLen
      show s.size + 1 ≤ _
      omega
    · show LL (s ++ ByteArray.mk #[47]) ++ _ = _
      rw [jn_take hkl (by omega), LL_cat, hS]; simp [LL]
    · show LL s ++ _ = _
      have : k = 0 := by omega
      subst this
      rw [hS, take_lget hkl]; rfl
  · rw [show decide ((s : ByteArray) = p) = true from decide_eq_true ?_]
    · exact h
    · rw [LL_inj, hS, show k = (Pts p).length from by omega, List.take_length, hj]
end Go.Proofs.YtcgfjmfbfildpaaRDoor
