/- More laws of operations: a text's bytes appended; arrays. It speaks of any program; nothing of the claim's own program stands here. -/
import Derived.Test.YtaolmfepdmgohaaGreatDoorObj
import Derived.Lib.AppendStr
namespace Go.Proofs.YtaolmfepdmgohaaGreatDoor
open Go
section
variable {P : Program} {w : World}
end
section
variable {P : Program} {ops : Array Oper} {Q : Exit → Act → World → Prop} {n : Nat} {f : Nat → Value} {u : List (Nat × Value)} {w : World} {next : Act → World → Prop}
variable {dst : Option Tmp} {ty : TypeId} {pos : String} {aft : Array Edge} {gd : Option (Nat × Bool)}
end
/-! a pointer held against nil -/
section
variable {P : Program} {n : Nat} {f : Nat → Value} {u : List (Nat × Value)} {w : World} {dst : Option Tmp} {ty : TypeId} {pos : String} {aft : Array Edge} {gd : Option (Nat × Bool)}
theorem equal_ptr_nil {t e : TypeId} (a : Addr) (ht : P.underlying t = some (.pointer e)) : (Op.equal t (.pointer (some a)) (.pointer none)).run P w = .ok false w := by
  have h : ∀ d : Nat, (Op.equalIn (d + 1) t (.pointer (some a)) (.pointer none)).run P w = .ok false w := fun d => by simp [Op.equalIn, run_underlying ht]
  simp only [Op.equal, Op.maxDepth]
  exact h 9999
theorem x_pnil_eq {t t' : TypeId} {x y : Operand} {e : TypeId} {a : Addr} (ht : P.underlying t = some (.pointer e)) (hx : evf n f u x = .pointer (some a)) (hy : evf n f u y = .pointer none) :
    (execOp (evf n f u) ⟨dst, .binOp .eql t x y t', ty, pos, aft, gd⟩).run P w = .ok (.value (.bool false)) w := by
  simp [execOp, hx, hy, eqGuard, binOp, equal_ptr_nil a ht]
end
end Go.Proofs.YtaolmfepdmgohaaGreatDoor
