/- Arrays of numbers: in blocks, and as values. It speaks of any program; nothing of the claim's own program stands here. -/
import Derived.Test.YtlkfoebophjhfaaGreatDoorBits
import Derived.ChangeKeysEq
namespace Go.Proofs.YtlkfoebophjhfaaGreatDoor
open Go
def okArr (k : IntKind) (m : Nat) (e : List Int) : Prop := e.length = m ∧ ∀ x ∈ e, inR k x
theorem okArr.len {k : IntKind} {m : Nat} {e : List Int} (h : okArr k m e) : e.length = m := h.1
theorem map_set {k : IntKind} {e : List Int} {i v : Int} (h : inL e i) : (e.map (Value.int k)).take i.toNat ++ [.int k v] ++ (e.map (Value.int k)).drop (i.toNat + 1) = (lset e i v).map (Value.int k) := by
  unfold lset
  rw [List.map_set, List.set_eq_take_append_cons_drop, if_pos (by simpa using h.lt)]
  simp
section
variable {P : Program} {ops : Array Oper} {Q : Exit → Act → World → Prop} {n : Nat} {f : Nat → Value} {u : List (Nat × Value)} {w : World} {next : Act → World → Prop}
variable {dst : Option Tmp} {ty : TypeId} {pos : String} {aft : Array Edge} {gd : Option (Nat × Bool)}
/-! two arrays held against each other -/
end
/-! a row that is written out, of data of more than one cell -/
end Go.Proofs.YtlkfoebophjhfaaGreatDoor
