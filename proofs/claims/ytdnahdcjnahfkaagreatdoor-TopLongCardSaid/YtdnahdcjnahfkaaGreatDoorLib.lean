/- What the library's proved functions hand back, told in the words of the walks. It speaks of any program; nothing of the claim's own program stands here. -/
import Derived.Test.YtdnahdcjnahfkaaGreatDoorOps3
import Derived.Lib.Bytealg
import Derived.Lib.IndexLaws
import Derived.Lib.Join
import Derived.Below
namespace Go.Proofs.YtdnahdcjnahfkaaGreatDoor
open Go Go.RowKit
theorem Evo_of_Below {w w' : World} (h : Below w.heap.size w w') : Evo [] w w' := ⟨h.os, h.tape, h.output, h.size, fun k hk _ => h.block k hk⟩
theorem indexByte_lt : ∀ (l : List UInt8) (c : UInt8), Lib.indexByte l c < l.length ∨ Lib.indexByte l c = -1
  | [], c => Or.inr rfl
  | b :: l, c => by
    unfold Lib.indexByte
    split
    · exact Or.inl (by simp)
    · split
      · exact Or.inr rfl
      · rename_i hn
        rcases indexByte_lt l c with h | h
        · exact Or.inl (by simp; omega)
        · exact absurd (by simpa using h) hn
theorem indexByte_inR {s : ByteArray} {c : UInt8} (hs : s.size ≤ maxLen) : inR .i64 (Lib.indexByte s.data.toList c) := by
  have h1 := Lib.indexByte_ge s.data.toList c
  have h2 := indexByte_lt s.data.toList c
  have h3 : s.data.toList.length = s.size := rfl
  unfold maxLen at hs
  rw [inR_i64]; omega
def joinS (l : List ByteArray) (sep : ByteArray) : ByteArray := ⟨(Lib.join (l.map (·.data.toList)) sep.data.toList).toArray⟩
theorem joinS_size (l : List ByteArray) (sep : ByteArray) : (joinS l sep).size = (Lib.join (l.map (·.data.toList)) sep.data.toList).length := by unfold joinS; simp [ByteArray.size]
theorem flat_strs {X : List Nat} {w : World} : ∀ {L : List ByteArray} {xs : List Value}, Flat rStr X w xs L → ∀ (j : Nat) (x : ByteArray), L[j]? = some x → xs[j]? = some (.string x)
  | [], _, _, j, x, h => by simp at h
  | d :: L, xs, hf, j, x, h => by
    obtain ⟨cs, r, rfl, hk, hr⟩ := hf
    obtain ⟨rfl, _⟩ := hk
    cases j with
    | zero => simp at h; subst h; rfl
    | succ j => simp at h; simpa using flat_strs hr j x h
theorem strs_at {X : List Nat} {w : World} {a : Option Addr} {c : Nat} {L : List ByteArray} (h : Sl rStr X w a c L) (h0 : L ≠ []) :
    ∃ b o, a = some ⟨b, o, none⟩ ∧ b < w.heap.size ∧ ∀ (j : Nat) x, L[j]? = some x → w.cell? ⟨b, o + j, none⟩ = some (.string x) := by
  obtain ⟨_, _, h3⟩ := h
  rcases h3 with ⟨h3, _⟩ | ⟨b, o, xs, rfl, _, hl, hc, hf⟩
  · exact absurd h3 h0
  · exact ⟨b, o, rfl, hl, fun j x hj => hc j _ (flat_strs hf j x hj)⟩
end Go.Proofs.YtdnahdcjnahfkaaGreatDoor
