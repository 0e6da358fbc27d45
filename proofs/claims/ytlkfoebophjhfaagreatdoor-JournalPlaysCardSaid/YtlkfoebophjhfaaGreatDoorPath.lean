/- Plain laws of paths. No program stands here. -/
import Derived.Test.YtlkfoebophjhfaaGreatDoorLines
import Derived.Test.YtlkfoebophjhfaaGreatDoorLibS
namespace Go.Proofs.YtlkfoebophjhfaaGreatDoor
open Go
/-- the parts between bytes c, by the list alone -/
def cutL (c : UInt8) : List UInt8 → List (List UInt8)
  | [] => [[]]
  | x :: r => if x = c then [] :: cutL c r else match cutL c r with | [] => [[x]] | l :: ls => (x :: l) :: ls
theorem cutL_ne (c : UInt8) : ∀ l, cutL c l ≠ []
  | [] => by simp [cutL]
  | x :: r => by
    unfold cutL; split
    · simp
    · split <;> simp
theorem cutL_at (c : UInt8) : ∀ (l : List UInt8) (k : Nat), l[k]? = some c → (∀ j, j < k → l[j]? ≠ some c) → cutL c l = l.take k :: cutL c (l.drop (k + 1))
  | [], k, h, _ => by simp at h
  | x :: r, 0, h, _ => by simp at h; subst h; simp [cutL]
  | x :: r, k + 1, h, hn => by
    have hx : x ≠ c := by have := hn 0 (by omega); simpa using this
    have := cutL_at c r k (by simpa using h) (fun j hj => by have := hn (j + 1) (by omega); simpa using this)
    simp [cutL, hx, this]
theorem cutL_none (c : UInt8) : ∀ (l : List UInt8), (∀ j : Nat, l[j]? ≠ some c) → cutL c l = [l]
  | [], _ => rfl
  | x :: r, hn => by
    have hx : x ≠ c := by have := hn 0; simpa using this
    have := cutL_none c r (fun j => by have := hn (j + 1); simpa using this)
    simp [cutL, hx, this]
theorem splitK_cut (c : UInt8) : ∀ (n : Nat) (l : List UInt8), l.length ≤ n → Lib.splitK [c] 0 (l.count c) l = cutL c l
  | n, l, hn => by
    by_cases hi : Lib.indexByte l c = -1
    · have h0 := Lib.indexByte_none hi
      have hc : l.count c = 0 := by
        rw [List.count_eq_zero]
        intro hm
        obtain ⟨j, hj, hx⟩ := List.getElem_of_mem hm
        exact h0 j (by rw [List.getElem?_eq_getElem hj, hx])
      rw [hc, cutL_none c l h0]; rfl
    · have hge := Lib.indexByte_ge l c
      obtain ⟨i, hi2⟩ := nat_of (show 0 ≤ Lib.indexByte l c by omega)
      obtain ⟨h1, h2⟩ := Lib.indexByte_some hi2
      have hil : i < l.length := (List.getElem?_eq_some_iff.1 h1).1
      have hl : l = l.take i ++ c :: l.drop (i + 1) := by
        have hd : l.drop i = c :: l.drop (i + 1) := by
          rw [List.drop_eq_getElem_cons hil]
          rw [List.getElem?_eq_getElem hil] at h1; injection h1 with h1; rw [h1]
        rw [← hd, List.take_append_drop]
      have hcount : l.count c = (l.drop (i + 1)).count c + 1 := by
        have ht : (l.take i).count c = 0 := by
          rw [List.count_eq_zero]
          intro hm
          obtain ⟨j, hj, hx⟩ := List.getElem_of_mem hm
          rw [List.length_take] at hj
          refine h2 j (by omega) ?_
          rw [List.getElem_take] at hx
          rw [List.getElem?_eq_getElem (by omega), hx]
        conv => lhs; rw [hl]
        rw [List.count_append, ht, List.count_cons_self]; omega
      have hlen : (l.drop (i + 1)).length ≤ n - 1 := by rw [List.length_drop]; omega
      cases n with
      | zero => omega
      | succ n =>
        have ih := splitK_cut c n (l.drop (i + 1)) (by simpa using hlen)
        rw [hcount, Lib.splitK, Lib.index_one, if_neg (by simpa using hi), hi2, cutL_at c l i h1 h2]
        simp only [Int.toNat_natCast, List.length_cons, List.length_nil, Nat.add_zero, Nat.zero_add]
        rw [ih]
theorem partsB_cut (s : ByteArray) (c : UInt8) : (partsB s c).map LL = cutL c (LL s) := by
  unfold partsB
  have h1 := Lib.splitB_data (ByteArray.mk #[c]) 0 (Lib.countB s (ByteArray.mk #[c])) s
  have h2 : Lib.countB s (ByteArray.mk #[c]) = (LL s).count c := by
    show Lib.count s.data.toList [c] = _
    rw [Lib.count_one]
  rw [h2] at h1 ⊢
  rw [show (ByteArray.mk #[c]).data.toList = [c] from rfl] at h1
  exact h1.trans (splitK_cut c _ (LL s) (Nat.le_refl _))
theorem partsB_mk (s : ByteArray) (c : UInt8) : partsB s c = (cutL c (LL s)).map mkB := by
  rw [← partsB_cut, List.map_map, show (mkB ∘ LL) = id from funext mkB_LL, List.map_id]
end Go.Proofs.YtlkfoebophjhfaaGreatDoor
