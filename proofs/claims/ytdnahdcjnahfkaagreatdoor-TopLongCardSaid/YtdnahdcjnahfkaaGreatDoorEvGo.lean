/- No function of the program starts a goroutine. -/
import Derived.ChangeArms
import Derived.Deep.Slices
import Derived.OpenShut
import Derived.Deep.DeepHandedRow
import Derived.Lib.LaidTab
import Derived.LaidHandle
import Derived.Test.YtdnahdcjnahfkaaGreatDoorRows
import Derived.Test.YtdnahdcjnahfkaaGreatDoorChecked
import Derived.JoinedCond
import Derived.SevenTiedAt
namespace Go.Proofs.YtdnahdcjnahfkaaGreatDoor.Ev
open Go
/-- The cells of a datum that is made of numbers, bools, texts, structs and arrays alone. -/
def dataCells : Nat → DataW Unit → List Value
  | 0, _ => []
  | _ + 1, .lit (.int k v) => [.int k v]
  | _ + 1, .lit (.bool b) => [.bool b]
  | _ + 1, .lit (.string l) => [.string ⟨l.toArray⟩]
  | n + 1, .agg ds => ds.flatMap (dataCells n)
  | _ + 1, _ => []
def layIn (P : Program) : World → List (String × DataW Unit) → World
  | w, [] => w
  | w, (n, d) :: r => layIn P (match P.globalNamed n with | some g => { w with heap := w.heap.modify g fun | .cells _ t fr => .cells (dataCells 4 d).toArray t fr | o => o } | none => w) r
def layCells (w : World) (g : Nat) (cs : List Value) : World := { w with heap := w.heap.modify g fun | .cells _ t fr => .cells cs.toArray t fr | o => o }
theorem wf_u8 {n : Int} (h : (Lit.int .u8 n).wf = true) : 0 ≤ n ∧ n ≤ 255 := by
  unfold Lit.wf at h
  have h1 : IntKind.u8.min = 0 := by decide
  have h2 : IntKind.u8.max = 255 := by decide
  simpa [h1, h2] using h
end Go.Proofs.YtdnahdcjnahfkaaGreatDoor.Ev
namespace Go.Proofs.YtdnahdcjnahfkaaGreatDoor.Ev
open Go Go.Proofs
theorem goes_any : Tryz.pinned.checked.prog.funcs.any Func.goes = false := by kernel_rfl
theorem goes_none (P : Program) (h : P.funcs.any Func.goes = false) (f : FuncId) : P.goes f = false := by
  have h2 : ∀ g : Nat, (P.funcs[g]?).any Func.goes = false := fun g => by
    cases e : P.funcs[g]? with
    | none => rfl
    | some fn =>
      rw [Array.any_eq_false] at h
      obtain ⟨hg, hfn⟩ := Array.getElem?_eq_some_iff.1 e
      have := h g hg
      rw [hfn] at this
      simpa using this
  unfold Program.goes
  rw [h, Bool.and_false, Bool.or_false]
  simp [h2]
theorem goesFrom_none (P : Program) (h : P.funcs.any Func.goes = false) (n : String) : P.goesFrom n = false := by
  unfold Program.goesFrom
  cases P.funcNamed n with
  | none => rfl
  | some f => exact goes_none P h f
theorem goesBy_none (P : Program) (c : OpenClaim) (hs : c.start = .entering) (h : P.funcs.any Func.goes = false) : false = c.goesBy P := by
  unfold OpenClaim.goesBy Program.goesAt
  rw [hs, goesFrom_none P h]; rfl
end Go.Proofs.YtdnahdcjnahfkaaGreatDoor.Ev
