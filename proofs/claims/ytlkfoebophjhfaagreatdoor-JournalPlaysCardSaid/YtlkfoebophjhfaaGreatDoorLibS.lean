/- strings.Split and its like at a separator of one byte, out of the library's proved functions. It speaks of any program; nothing of the claim's own program stands here. -/
import Derived.Test.YtlkfoebophjhfaaGreatDoorLib
import Derived.Shelf.Strings.SplitCore
import Derived.Shelf.Strings.Search3
import Derived.Shelf.Strings.Count
import Derived.Lib.SplitLaws
import Derived.Lib.LastIndexByte
namespace Go.Proofs.YtlkfoebophjhfaaGreatDoor
open Go Go.RowKit Go.Shelf
/-- the parts between the bytes c -/
def partsB (s : ByteArray) (c : UInt8) : List ByteArray := Lib.splitB (ByteArray.mk #[c]) 0 (Lib.countB s (ByteArray.mk #[c])) s
theorem genSplit_one {P : Program} {ρ : Ren} (L : Lays.n221 P ρ) (hi9 : (P.info? (ρ.t 9)).map (fun i => (i.zero, i.size, i.bytes)) = some (some (.string ByteArray.empty), 1, 16)) (s : ByteArray) (c : UInt8) (w : World) (hs : s.size < 4294967281) :
    Calls P (ρ.f 221) #[.string s, .string (ByteArray.mk #[c]), .int .i64 0, .int .i64 (-1)] w fun e w' =>
      e = .returned (.slice (some ⟨w.heap.size, 0, none⟩) (partsB s c).length (partsB s c).length) ∧ w' = w.alloc (.cells ((partsB s c).map Value.string).toArray (ρ.t 9)) := by
  have h1 : 1 ≤ (ByteArray.mk #[c]).size := Nat.le_refl 1
  have hle := Lib.countB_le (ByteArray.mk #[c]) h1 s.size s (Nat.le_refl _)
  have hlen := Lib.splitB_all (ByteArray.mk #[c]) h1 0 _ s rfl
  have k := Any.strings_genSplit_core L hi9 s (ByteArray.mk #[c]) 0 (-1) (Lib.countB s (ByteArray.mk #[c]) + 1) w hs h1 (Nat.zero_le _)
    (fun x cs _ => (Any.strings_Index_one { L with } x c _).mono fun e w' ⟨he, hw⟩ => ⟨by
      rw [he]
      show _ = Ending.returned (Value.int .i64 (Lib.index x.data.toList [c]))
      rw [Lib.index_one], hw⟩)
    ((Any.strings_Count_one { L with } s c w).mono fun e w' ⟨he, hw⟩ => ⟨by
      rw [he]
      show _ = Ending.returned (Value.int .i64 ((Lib.count s.data.toList [c] : Nat) : Int))
      rw [Lib.count_one]
      rfl, hw⟩)
    (by decide) (by decide) (by rw [if_pos (by decide)]; omega)
  rw [Nat.add_sub_cancel, hlen] at k
  have e2 : Lib.cellsOf (Lib.splitB (ByteArray.mk #[c]) 0 (Lib.countB s (ByteArray.mk #[c])) s) (Lib.countB s (ByteArray.mk #[c]) + 1) = ((Lib.splitB (ByteArray.mk #[c]) 0 (Lib.countB s (ByteArray.mk #[c])) s).map Value.string).toArray := by rw [← hlen]; exact Lib.cellsOf_full _
  rw [e2] at k
  unfold partsB
  rw [hlen]
  exact k
theorem flat_of_strs {X : List Nat} {w : World} : ∀ (L : List ByteArray), (∀ x ∈ L, x.size ≤ maxLen) → Flat rStr X w (L.map Value.string) L
  | [], _ => rfl
  | x :: L, h => Flat.cons1 (rStr_mk (h x (by simp))) (flat_of_strs L fun y hy => h y (by simp [hy]))
theorem splitB_le (sep : ByteArray) (save : Nat) : ∀ (k : Nat) (s : ByteArray), ∀ x ∈ Lib.splitB sep save k s, x.size ≤ s.size
  | 0, s, x, h => by simp [Lib.splitB] at h; subst h; exact Nat.le_refl _
  | k + 1, s, x, h => by
    unfold Lib.splitB at h
    split at h
    · simp at h; subst h; exact Nat.le_refl _
    · rcases List.mem_cons.1 h with rfl | h
      · rw [ByteArray.size_extract]; omega
      · have := splitB_le sep save k _ x h; rw [ByteArray.size_extract] at this; omega
theorem partsB_le {s : ByteArray} {c : UInt8} : ∀ x ∈ partsB s c, x.size ≤ s.size := splitB_le _ _ _ _
theorem partsB_len {s : ByteArray} {c : UInt8} : (partsB s c).length ≤ s.size + 1 := by
  have h1 : 1 ≤ (ByteArray.mk #[c]).size := Nat.le_refl 1
  have hle := Lib.countB_le (ByteArray.mk #[c]) h1 s.size s (Nat.le_refl _)
  have hlen := Lib.splitB_all (ByteArray.mk #[c]) h1 0 _ s rfl
  unfold partsB; omega
theorem parts_sl {X : List Nat} {w : World} {s : ByteArray} {c : UInt8} {t : TypeId} (hX : Old X w) (hs : s.size < 4294967281) :
    Evo [] w (w.alloc (.cells ((partsB s c).map Value.string).toArray t)) ∧ Sl rStr X (w.alloc (.cells ((partsB s c).map Value.string).toArray t)) (some ⟨w.heap.size, 0, none⟩) (partsB s c).length (partsB s c) := by
  refine ⟨Evo.alloc _ _, ?_⟩
  have hb : w.heap.size ∉ X := fun h => absurd (hX _ h) (Nat.lt_irrefl _)
  have hk := Blk.new w ((partsB s c).map Value.string).toArray t
  have := partsB_len (s := s) (c := c)
  exact Blk.flat (by simpa using hk) hb (flat_of_strs _ fun x hx => Nat.le_trans (partsB_le x hx) (by unfold maxLen; omega)) _ rfl (by unfold maxLen; omega)
end Go.Proofs.YtlkfoebophjhfaaGreatDoor
