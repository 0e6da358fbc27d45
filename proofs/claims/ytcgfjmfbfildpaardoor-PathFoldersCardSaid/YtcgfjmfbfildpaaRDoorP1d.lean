/- The plain law of chapter 1, on: the folders above a path. -/
import Derived.Test.YtcgfjmfbfildpaaRDoorP1c
namespace Go.Proofs.YtcgfjmfbfildpaaRDoor
open Go
theorem Par_jn {p : ByteArray} {ls : List (List UInt8)} (h0 : ls ≠ []) (hf : ∀ x ∈ ls, (47 : UInt8) ∉ x) (hp : LL p = jn ls) : LL (Par p) = jn (ls.take (ls.length - 1)) := by
  obtain ⟨init, l, rfl⟩ : ∃ init l, ls = init ++ [l] := ⟨ls.dropLast, ls.getLast h0, (List.dropLast_concat_getLast h0).symm⟩
  have hl : (47 : UInt8) ∉ l := hf l (by simp)
  rw [List.length_append, List.length_singleton, Nat.add_sub_cancel, List.take_left]
  have hsz : p.size = (LL p).length := rfl
  unfold Par
  by_cases hi : init = []
  · subst hi
    have hn : Lib.lastIndexByte p 47 = -1 := last_not fun j hj => by
      intro h47
      rw [bget_LL, Int.toNat_natCast, hp] at h47
      have hjl : j < l.length := by rw [hsz, hp] at hj; exact hj
      rw [show (jn ([] ++ [l])) = l from rfl, List.getD, List.getElem?_eq_getElem hjl, Option.getD_some] at h47
      refine hl ?_
      have : l[j] = 47 := UInt8.toNat_inj.1 (by exact_mod_cast h47)
      rw [← this]; exact List.getElem_mem _
    rw [hn, LL_sub]; rfl
  · have hj : LL p = jn init ++ 47 :: l := by rw [hp, jn_append hi (by simp)]; rfl
    have hlen : p.size = (jn init).length + (l.length + 1) := by rw [hsz, hj]; simp
    have hk : Lib.lastIndexByte p 47 = (jn init).length := by
      refine last_is (by omega) ?_ (fun j h1 h2 => ?_)
      · rw [bget_LL, Int.toNat_natCast, hj]; simp [List.getD]
      · intro h47
        rw [bget_LL, Int.toNat_natCast, hj] at h47
        have hjl : j - ((jn init).length + 1) < l.length := by omega
        have : (jn init ++ 47 :: l)[j]? = some l[j - ((jn init).length + 1)] := by
          rw [List.getElem?_append_right (by omega), show j - (jn init).length = (j - ((jn init).length + 1)) + 1 from by omega, List.getElem?_cons_succ, List.getElem?_eq_getElem hjl]
        rw [List.getD, this, Option.getD_some] at h47
        refine hl ?_
        have : l[j - ((jn init).length + 1)] = 47 := UInt8.toNat_inj.1 (by exact_mod_cast h47)
        rw [← this]; exact List.getElem_mem _
    rw [hk, LL_sub, hj, show (max ((jn init).length : Int) 0).toNat = (jn init).length from by omega]
    simp
theorem jn_ne {ls : List (List UInt8)} (h0 : ls ≠ []) (h : ∀ x ∈ ls, x ≠ []) : jn ls ≠ [] := by
  cases ls with
  | nil => exact absurd rfl h0
  | cons l ls =>
    have hl := h l (by simp)
    cases ls with
    | nil => exact hl
    | cons m ls => rw [jn_cons (by simp)]; simp
theorem LL_ne {p : ByteArray} (h : p ≠ ByteArray.mk #[]) : LL p ≠ [] := fun h1 => h (by rw [LL_inj]; exact h1)
theorem PathFolders_p {p : ByteArray} {Q : Bool → Prop} (h : Q true) : rectolaw1_PathFolders_p p Q := by
  unfold rectolaw1_PathFolders_p; simp only [inR_i64]; intro _
  refine known1_p ⟨fun h => absurd h (by decide), fun _ => Check_p (fun _ => ⟨fun _ => h, fun h0 => ?_⟩)⟩
  obtain ⟨hs, hok⟩ := Chk_zero.1 h0
  have hz : p.size ≤ 1000000 := by omega
  obtain ⟨ls, hls⟩ : ∃ ls, ls = cutL 47 (LL p) := ⟨_, rfl⟩
  have hparts : partsB p 47 = ls.map mkB := by rw [partsB_mk, hls]
  have hfree : ∀ x ∈ ls, (47 : UInt8) ∉ x := fun x hx => cut_free 47 (LL p) x (by rw [← hls]; exact hx)
  have hgood : ∀ x ∈ ls, partOk (mkB x) = true := fun x hx => hok _ (by rw [hparts]; exact List.mem_map.2 ⟨x, hx, rfl⟩)
  have hne : ∀ x ∈ ls, x ≠ [] := fun x hx hx0 => by
    have := partOk_ne (hgood x hx); rw [hx0] at this; exact this rfl
  have hl0 : ls ≠ [] := by rw [hls]; exact cutL_ne 47 _
  have hp : LL p = jn ls := by rw [hls, jn_cut]
  have hpe : p ≠ ByteArray.mk #[] := fun he => by
    have := jn_ne hl0 hne; rw [← hp, he] at this; exact this rfl
  have hPts : Pts p = ls.map mkB := by unfold Pts; rw [if_neg hpe, hparts]
  have hpos := List.length_pos_iff.2 hl0
  refine Parts_p (by omega) (fun hlen => Parent_p hz (fun _ => ?_))
  rw [hPts] at hlen ⊢
  rw [List.length_map] at hlen
  refine ⟨fun n d => ∃ k : Nat, k < ls.length ∧ n = (k : Int) + 1 ∧ LL d = jn (ls.take k), fun n _ => n.toNat, ⟨ls.length - 1, by omega, by rw [List.length_map]; omega, Par_jn hl0 hfree hp⟩, ?_⟩
  rintro _ d ⟨k, hk, rfl, hd⟩ hn hdz
  refine ⟨fun hde => ?_, fun hde => ?_⟩
  · have hk0 : k ≠ 0 := fun h0 => by subst h0; exact hde (by rw [LL_inj, hd]; rfl)
    have htl : (ls.take k).length = k := by rw [List.length_take]; omega
    have hdl : (ls.drop k).length = ls.length - k := List.length_drop
    have ht0 : ls.take k ≠ [] := fun h1 => by rw [h1] at htl; simp at htl; omega
    have hd0 : ls.drop k ≠ [] := fun h1 => by rw [h1] at hdl; simp at hdl; omega
    have hcat : LL p = LL d ++ 47 :: jn (ls.drop k) := by rw [hd, ← jn_append ht0 hd0, List.take_append_drop, hp]
    have hrest := List.length_pos_iff.2 (jn_ne hd0 fun x hx => hne x (List.drop_subset _ _ hx))
    have hsz : p.size = d.size + 1 + (jn (ls.drop k)).length := by
      show (LL p).length = (LL d).length + 1 + _
      rw [hcat]; simp; omega
    have hdz : d.size ≤ 1000000 := by omega
    have hdparts : partsB d 47 = (ls.take k).map mkB := by
      rw [partsB_mk, hd, cut_jn ht0 fun x hx => hfree x (List.take_subset _ _ hx)]
    have hdc : Chk d = 0 := Chk_zero.2 ⟨by omega, fun x hx => by
      rw [hdparts] at hx; obtain ⟨y, hy, rfl⟩ := List.mem_map.1 hx
      exact hgood y (List.take_subset _ _ hy)⟩
    have hund : Und p d = true := by
      unfold Und; rw [if_neg hde]
      refine decide_eq_true ⟨by omega, ?_, ?_⟩
      · rw [LL_inj, LL_sub, hcat]; simp only [Int.toNat_natCast, Int.toNat_zero, List.drop_zero]
        exact List.take_left' rfl
      · rw [bget_LL, Int.toNat_natCast, hcat, List.getD, List.getElem?_append_right (by show (LL d).length ≤ d.size; exact Nat.le_refl _)]
        show ((Option.getD (47 :: jn (ls.drop k))[d.size - d.size]? 0).toNat : Int) = 47
        rw [Nat.sub_self]; rfl
    have hcl : Cl p d = true := by unfold Cl; rw [if_neg hpe, if_neg hde, hund]; rfl
    have hdP : Pts d = (ls.take k).map mkB := by unfold Pts; rw [if_neg hde, hdparts]
    refine ⟨⟨by omega, by omega⟩, fun b => b = false, ?_, ?_⟩
    · rintro _ rfl
      refine ⟨fun hb => (by cases hb), fun _ => Parent_p hdz (fun _ => ⟨⟨k - 1, by omega, by omega, ?_⟩, by dsimp only; omega⟩)⟩
      have := Par_jn ht0 (fun x hx => hfree x (List.take_subset _ _ hx)) hd
      rw [List.length_take, Nat.min_eq_left (by omega), List.take_take, Nat.min_eq_left (by omega)] at this
      exact this
    · refine ⟨fun hlt => absurd hlt (by omega), fun _ => Check_p (fun _ => ⟨fun _ => Under_p hdz ⟨fun _ => Clash_p hz hdz ⟨fun _ => Parts_p (by omega) (fun _ => ?_), fun hf => (by rw [hcl] at hf; cases hf)⟩, fun hf => (by rw [hund] at hf; cases hf)⟩, fun hn => absurd hdc hn⟩)⟩
      rw [hdP, List.length_map, List.length_take, Nat.min_eq_left (by omega)]
      rw [decide_eq_true (by omega)]; rfl
  · have hk0 : k = 0 := by
      rcases Nat.eq_zero_or_pos k with h1 | h1
      · exact h1
      · refine absurd ?_ (jn_ne (ls := ls.take k) (fun h2 => by
          have htl : (ls.take k).length = k := by rw [List.length_take]; omega
          rw [h2] at htl; simp at htl; omega) fun x hx => hne x (List.take_subset _ _ hx))
        rw [← hd, hde]
    subst hk0
    have hund : Und p (ByteArray.mk #[]) = true := by unfold Und; rw [if_pos rfl, decide_eq_false hpe]; rfl
    have hpp : Und p p = false := by unfold Und; rw [if_neg hpe, decide_eq_false]; omega
    have hcl : Cl p p = false := by unfold Cl; rw [if_neg hpe, if_neg hpe, hpp]; rfl
    refine ⟨fun b => b = true, by rintro _ rfl; exact h, fun _ => Under_p (by decide) ⟨fun _ => Clash_p hz hz ?_, fun hf => (by rw [hund] at hf; cases hf)⟩, fun hn => absurd (by omega) hn⟩
    rw [hcl]; rfl
end Go.Proofs.YtcgfjmfbfildpaaRDoor
