/- Rows known whole, written by copy, append, clear; a row of zero values that is grown out of nothing. It speaks of any program; nothing of the claim's own program stands here. -/
import Derived.Test.YtlkfoebophjhfaaGreatDoorStEq
import Derived.Lib.AppendZerosOnto
namespace Go.Proofs.YtlkfoebophjhfaaGreatDoor
open Go
section
variable {P : Program} {w : World}
end
section
variable {P : Program} {ops : Array Oper} {Q : Exit → Act → World → Prop} {n : Nat} {f : Nat → Value} {u : List (Nat × Value)} {w : World} {next : Act → World → Prop}
variable {dst : Option Tmp} {ty : TypeId} {pos : String} {aft : Array Edge} {gd : Option (Nat × Bool)}
end
section
variable {α : Type} {R : Rep α} {X X' F G : List Nat} {w w' : World} {B b n c : Nat} {cs : List Value} {ty : TypeId} {a : Option Addr} {L : List α}
/-- What is kept when a row that is ours is only read from here on. -/
theorem OB.rel (h : OB [] B X w b cs ty) (o : Nat) (xs : List Value) (hc : ∀ j v, xs[j]? = some v → cs[o + j]? = some v) (hf : Flat R X w xs L) (h1 : L.length ≤ c) (h2 : c ≤ maxLen) :
    ∃ X1, Sub X1 X ∧ Sl R X1 w (some ⟨b, o, none⟩) c L ∧ (∀ l, Ap l [b] → Sub l X → Sub l X1) := by
  refine ⟨X.filter fun x => decide (x ≠ b), fun x hx => (List.mem_filter.1 hx).1, ⟨h1, h2, .inr ⟨b, o, xs, rfl, fun hm => ?_, h.2.1.lt, fun j v hj => ?_, hf.sub fun x hx => .inl (List.mem_filter.1 hx).1⟩⟩, fun l hl hs x hx => List.mem_filter.2 ⟨hs x hx, ?_⟩⟩
  · have := (List.mem_filter.1 hm).2; simp at this
  · rw [h.2.1.cell]; exact hc j v hj
  · have := hl x hx; simp at this; simpa using this
end
end Go.Proofs.YtlkfoebophjhfaaGreatDoor
