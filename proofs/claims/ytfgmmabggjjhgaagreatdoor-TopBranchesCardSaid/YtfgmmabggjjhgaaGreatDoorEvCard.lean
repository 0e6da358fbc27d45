/- A world in which a program's package-level variables hold what a row lists; for the witness of a card. It speaks of any program; nothing of the claim's own program stands here. -/
import Derived.ChangeArms
import Derived.Deep.Slices
import Derived.OpenShut
import Derived.Deep.DeepHandedRow
import Derived.Lib.LaidTab
import Derived.LaidHandle
namespace Go.Proofs.YtfgmmabggjjhgaaGreatDoor.Ev
open Go
/-- The cells of a datum that is made of numbers, bools, texts, structs and arrays alone. -/
def dataCells : Nat → DataW Unit → List Value
  | 0, _ => []
  | _ + 1, .lit (.int k v) => [.int k v]
  | _ + 1, .lit (.bool b) => [.bool b]
  | _ + 1, .lit (.string l) => [.string ⟨l.toArray⟩]
  | n + 1, .agg ds => ds.flatMap (dataCells n)
  | _ + 1, _ => []
def layIn (P : Program) : World → List (String × DataW Unit) → World
  | w, [] => w
  | w, (n, d) :: r => layIn P (match P.globalNamed n with | some g => { w with heap := w.heap.modify g fun | .cells _ t fr => .cells (dataCells 4 d).toArray t fr | o => o } | none => w) r
def layCells (w : World) (g : Nat) (cs : List Value) : World := { w with heap := w.heap.modify g fun | .cells _ t fr => .cells cs.toArray t fr | o => o }
theorem wf_u8 {n : Int} (h : (Lit.int .u8 n).wf = true) : 0 ≤ n ∧ n ≤ 255 := by
  unfold Lit.wf at h
  have h1 : IntKind.u8.min = 0 := by decide
  have h2 : IntKind.u8.max = 255 := by decide
  simpa [h1, h2] using h
end Go.Proofs.YtfgmmabggjjhgaaGreatDoor.Ev
