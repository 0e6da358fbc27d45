/- Texts that are written piece by piece; a pointer that an object has to itself; types that are asked for. It speaks of any program; nothing of the claim's own program stands here. -/
import Derived.Test.YtlkfoebophjhfaaGreatDoorErr
import Derived.Lib.UnsafeStr
import Derived.Lib.Builder
import Derived.Lib.ItoaLen
namespace Go.Proofs.YtlkfoebophjhfaaGreatDoor
open Go
section
variable {P : Program} {ops : Array Oper} {Q : Exit → Act → World → Prop} {n : Nat} {f : Nat → Value} {u : List (Nat × Value)} {w : World} {next : Act → World → Prop}
variable {dst : Option Tmp} {ty : TypeId} {pos : String} {aft : Array Edge} {gd : Option (Nat × Bool)}
theorem Blk.shape {b : Nat} {cs : List Value} {t : TypeId} (h : Blk w b cs t) : w.shape? b = some (t, cs.length) := by
  unfold World.shape?; rw [h]; simp
/-! values that are asked for their types -/
open Go.Extern
end
end Go.Proofs.YtlkfoebophjhfaaGreatDoor
