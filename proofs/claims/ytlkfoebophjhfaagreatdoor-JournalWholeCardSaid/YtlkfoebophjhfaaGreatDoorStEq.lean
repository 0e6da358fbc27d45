/- Structs held against each other. It speaks of any program; nothing of the claim's own program stands here. -/
import Derived.Test.YtlkfoebophjhfaaGreatDoorMapR
import Derived.Laws.StructEq
namespace Go.Proofs.YtlkfoebophjhfaaGreatDoor
open Go
section
variable {P : Program} {w : World} {d : Nat} {xs ys : Array Value} {f : Field} {fs : List Field} {q : Prop} [Decidable q]
end
section
variable {P : Program} {n : Nat} {f : Nat → Value} {u : List (Nat × Value)} {w : World}
variable {dst : Option Tmp} {ty : TypeId} {pos : String} {aft : Array Edge} {gd : Option (Nat × Bool)}
end
/-- An element of a slice that is ours: what it points to is read only. -/
theorem OS.atX {α : Type} [Inhabited α] {R : Rep α} {X G : List Nat} {w : World} {B n c : Nat} {ty : TypeId} {a : Option Addr} {L : List α} (h : OS R G B X w ty a n c L) (i : Int) (hi : inL L i) :
    ∃ b o cs, a = some ⟨b, o, none⟩ ∧ b ∉ ([] : List Nat) ∧ b < w.heap.size ∧ R.ok X w cs (lget L i) ∧ CellsAt w b (o + i.toNat * R.n) cs := by
  have hlt := hi.lt
  obtain ⟨_, ⟨_, _, xs, ho, hx⟩, _⟩ := h
  rcases ho.2 with ⟨_, h2⟩ | ⟨g, cap, cur, hv, _, hg, _, _, _, _⟩
  · omega
  · injection hv with e1 e2 e3; subst e1
    obtain ⟨cs, h1, h2⟩ := hx.get i.toNat hlt
    rw [lget_eq hi] at h1
    refine ⟨g, 0, cs, rfl, (fun h => by cases h), (Array.getElem?_eq_some_iff.1 hg).1, h1, fun j u hj => ?_⟩
    have := ho.cells (g := g) rfl _ u (h2 j u hj)
    have hadd : (⟨g, 0, none⟩ : Addr).add (i.toNat * R.n + j) = ⟨g, 0 + i.toNat * R.n + j, none⟩ := by unfold Addr.add; split <;> simp_all
    rwa [hadd] at this
theorem new_of {B : Nat} {w : World} {m : List Nat} (hw : B ≤ w.heap.size) (n : ∀ l, Old l w → Ap l m) : ∀ x ∈ m, B ≤ x := fun x hx => by
  rcases Nat.lt_or_ge x B with h | h
  · exact absurd hx (n [x] (fun b hb => by simp at hb; subst hb; omega) x (by simp))
  · exact h
end Go.Proofs.YtlkfoebophjhfaaGreatDoor
