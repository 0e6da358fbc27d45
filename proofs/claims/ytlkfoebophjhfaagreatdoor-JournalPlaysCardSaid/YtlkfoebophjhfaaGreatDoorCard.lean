/- A world in which a program's package-level variables hold what a row lists; for the witness of a card. It speaks of any program; nothing of the claim's own program stands here. -/
import Derived.Test.YtlkfoebophjhfaaGreatDoorMem
import Derived.Deep.DeepHandedRow
import Derived.Lib.LaidTab
import Derived.LaidHandle
import Derived.Test.YtlkfoebophjhfaaGreatDoorErr
namespace Go.Proofs.YtlkfoebophjhfaaGreatDoor
open Go
/-- The cells of a datum that is made of numbers, bools, texts, structs and arrays alone. -/
def dataCells : Nat → DataW Unit → List Value
  | 0, _ => []
  | _ + 1, .lit (.int k v) => [.int k v]
  | _ + 1, .lit (.bool b) => [.bool b]
  | _ + 1, .lit (.string l) => [.string ⟨l.toArray⟩]
  | n + 1, .agg ds => ds.flatMap (dataCells n)
  | _ + 1, _ => []
def layIn (P : Program) : World → List (String × DataW Unit) → World
  | w, [] => w
  | w, (n, d) :: r => layIn P (match P.globalNamed n with | some g => { w with heap := w.heap.modify g fun | .cells _ t fr => .cells (dataCells 4 d).toArray t fr | o => o } | none => w) r
theorem laidMet_tail {P : Program} {x : String × DataW Unit} {r : List (String × DataW Unit)} {W : World} (h : laidMet P (x :: r) W) : laidMet P r W := by
  obtain ⟨n, d⟩ := x
  obtain ⟨ps, ⟨g, t, cs, fuel, p, q, hg, ht, hv, hd, hq, rfl⟩, hn, hc⟩ := h
  exact ⟨q, hq, (List.nodup_append.1 hn).2.1, fun b off hm => hc b off (List.mem_append_right _ hm)⟩
end Go.Proofs.YtlkfoebophjhfaaGreatDoor
