/- Errors by what they are; methods by an interface; types that are asked for; variables of a package that are only read. It speaks of any program; nothing of the claim's own program stands here. -/
import Derived.Test.YtlkfoebophjhfaaGreatDoorFull
import Derived.Laws.Externs
import Derived.Stop.Asserts
import Derived.LaidEql
namespace Go.Proofs.YtlkfoebophjhfaaGreatDoor
open Go
section
variable {tE tP tF : TypeId} {X : List Nat} {w : World} {v : Value}
end
section
variable {P : Program} {ops : Array Oper} {Q : Exit → Act → World → Prop} {n : Nat} {f : Nat → Value} {u : List (Nat × Value)} {w : World} {next : Act → World → Prop}
variable {dst : Option Tmp} {ty : TypeId} {pos : String} {aft : Array Edge} {gd : Option (Nat × Bool)}
end
/-! a variable of a package, that is only read -/
def GV (X : List Nat) (w : World) (g : Nat) (cs : List Value) : Prop := g ∉ X ∧ ∃ t fr, w.heap[g]? = some (.cells cs.toArray t fr)
section
variable {X X' F : List Nat} {w w' : World} {g : Nat} {cs : List Value}
theorem GV.lt (h : GV X w g cs) : g < w.heap.size := by obtain ⟨_, t, fr, h⟩ := h; exact (Array.getElem?_eq_some_iff.1 h).1
theorem GV.step (h : GV X w g cs) (s : Step X w F X' w') : GV X' w' g cs := by
  have hl := h.lt
  obtain ⟨h1, t, fr, h2⟩ := h
  exact ⟨fun hm => by rcases s.new g hm with h3 | h3; exact h1 h3; omega, t, fr, (s.evo.keep g hl (fun hm => h1 (s.sub g hm))).trans h2⟩
theorem GV.less (h : GV X w g cs) (s : Sub X' X) : GV X' w g cs := ⟨fun hm => h.1 (s g hm), h.2⟩
theorem GV.cell (h : GV X w g cs) (o : Nat) {v : Value} (hv : cs[o]? = some v) : w.cell? ⟨g, o, none⟩ = some v := by
  obtain ⟨_, t, fr, h⟩ := h; simp [World.cell?, h, hv]
theorem GV.of_var {P : Program} {nm : String} {cs : List Value} (hg : P.globalNamed nm = some g) (h : w.var? P nm = some cs.toArray) : GV [] w g cs := by
  unfold World.var? at h
  rw [hg] at h
  simp only [Option.bind_some] at h
  split at h
  · rename_i c t fr hk
    injection h with h
    exact ⟨fun h => (by cases h), t, fr, by rw [← h]; exact hk⟩
  · cases h
theorem GV.var {P : Program} {nm : String} (hg : P.globalNamed nm = some g) (h : GV X w g cs) : w.var? P nm = some cs.toArray := by
  obtain ⟨_, t, fr, h⟩ := h
  unfold World.var?
  rw [hg]
  simp only [Option.bind_some]
  rw [h]
end
end Go.Proofs.YtlkfoebophjhfaaGreatDoor
