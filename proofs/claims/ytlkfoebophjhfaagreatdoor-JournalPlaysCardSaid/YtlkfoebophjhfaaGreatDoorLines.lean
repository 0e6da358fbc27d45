/- Plain laws of texts cut at their lines. No program stands here. -/
import Derived.Test.YtlkfoebophjhfaaGreatDoorPure
import Derived.Test.YtlkfoebophjhfaaGreatDoorLib
namespace Go.Proofs.YtlkfoebophjhfaaGreatDoor
open Go
abbrev LL (s : ByteArray) : List UInt8 := s.data.toList
def mkB (l : List UInt8) : ByteArray := ByteArray.mk l.toArray
theorem LL_mkB (l : List UInt8) : LL (mkB l) = l := by simp [LL, mkB]
theorem mkB_LL (s : ByteArray) : mkB (LL s) = s := by simp [LL, mkB]
theorem LL_inj {s t : ByteArray} : s = t ↔ LL s = LL t := ⟨fun h => by rw [h], fun h => by rw [← mkB_LL s, h, mkB_LL]⟩
theorem LL_len (s : ByteArray) : (LL s).length = s.size := rfl
theorem mkB_size (l : List UInt8) : (mkB l).size = l.length := by simp [mkB, ByteArray.size]
theorem LL_sub (s : ByteArray) (a b : Int) : LL (bsub s a b) = ((LL s).take b.toNat).drop a.toNat := by
  unfold bsub LL
  simp [ByteArray.data_extract, List.drop_take]
theorem bget_LL (s : ByteArray) (i : Int) : bget s i = (((LL s).getD i.toNat 0).toNat : Int) := by
  unfold bget LL; simp [Array.getD_eq_getD_getElem?]
theorem LL_cat (s t : ByteArray) : LL (s ++ t) = LL s ++ LL t := by simp [LL]
def wholeL (l : List UInt8) : Prop := l = [] ∨ l.getLast? = some 10
instance (l : List UInt8) : Decidable (wholeL l) := by unfold wholeL; infer_instance
end Go.Proofs.YtlkfoebophjhfaaGreatDoor
