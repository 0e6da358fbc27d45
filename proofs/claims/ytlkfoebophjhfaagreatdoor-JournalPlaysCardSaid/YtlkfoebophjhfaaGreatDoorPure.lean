/- Plain laws for what the predicates ask: rows looked at by Go's numbers. No program stands here. -/
import Derived.Test.YtlkfoebophjhfaaGreatDoorAux
namespace Go.Proofs.YtlkfoebophjhfaaGreatDoor
open Go
theorem lget_nat {α : Type} [Inhabited α] (L : List α) (k : Nat) : lget L (k : Int) = L.getD k default := by unfold lget; simp
theorem lget_lt {α : Type} [Inhabited α] {L : List α} {k : Nat} (h : k < L.length) : lget L (k : Int) = L[k] := by rw [lget_nat]; simp [List.getD, List.getElem?_eq_getElem h]
theorem lget_zero {α : Type} [Inhabited α] (x : α) (L : List α) : lget (x :: L) 0 = x := rfl
theorem lset_nat {α : Type} (L : List α) (k : Nat) (v : α) : lset L (k : Int) v = L.set k v := by unfold lset; simp
theorem inL_nat {α : Type} {L : List α} {k : Nat} : inL L (k : Int) ↔ k < L.length := by unfold inL; omega
theorem take_lget {α : Type} [Inhabited α] {L : List α} {k : Nat} (h : k < L.length) : L.take (k + 1) = L.take k ++ [lget L (k : Int)] := by rw [lget_lt h, List.take_succ_eq_append_getElem h]
theorem len_lset {α : Type} (L : List α) (i : Int) (v : α) : (lset L i v).length = L.length := by simp [lset]
instance {α : Type} {L : List α} {i : Int} : Decidable (inL L i) := by unfold inL; infer_instance
theorem lget_mem {α : Type} [Inhabited α] {L : List α} {i : Int} (h : inL L i) : lget L i ∈ L := by rw [← lget_eq h]; exact List.getElem_mem _
theorem last_in {α : Type} {L : List α} (h : L ≠ []) : inL L ((L.length : Int) - 1) := by
  have := List.length_pos_iff.2 h; unfold inL; omega
theorem nat_of {i : Int} (h : 0 ≤ i) : ∃ k : Nat, i = k := ⟨i.toNat, by omega⟩
end Go.Proofs.YtlkfoebophjhfaaGreatDoor
