/- A world in which a program's package-level variables hold what a row lists; for the witness of a card. It speaks of any program; nothing of the claim's own program stands here. -/
import Derived.Test.YtnnbnljofklieaaDoorMem
import Derived.Deep.DeepHandedRow
import Derived.Lib.LaidTab
import Derived.LaidHandle
import Derived.Test.YtnnbnljofklieaaDoorErr
namespace Go.Proofs.YtnnbnljofklieaaDoor
open Go
/-- The cells of a datum that is made of numbers, bools, texts, structs and arrays alone. -/
def dataCells : Nat → DataW Unit → List Value
  | 0, _ => []
  | _ + 1, .lit (.int k v) => [.int k v]
  | _ + 1, .lit (.bool b) => [.bool b]
  | _ + 1, .lit (.string l) => [.string ⟨l.toArray⟩]
  | n + 1, .agg ds => ds.flatMap (dataCells n)
  | _ + 1, _ => []
def layIn (P : Program) : World → List (String × DataW Unit) → World
  | w, [] => w
  | w, (n, d) :: r => layIn P (match P.globalNamed n with | some g => { w with heap := w.heap.modify g fun | .cells _ t fr => .cells (dataCells 4 d).toArray t fr | o => o } | none => w) r
def layCells (w : World) (g : Nat) (cs : List Value) : World := { w with heap := w.heap.modify g fun | .cells _ t fr => .cells cs.toArray t fr | o => o }
theorem laidMet_tail {P : Program} {x : String × DataW Unit} {r : List (String × DataW Unit)} {W : World} (h : laidMet P (x :: r) W) : laidMet P r W := by
  obtain ⟨n, d⟩ := x
  obtain ⟨ps, ⟨g, t, cs, fuel, p, q, hg, ht, hv, hd, hq, rfl⟩, hn, hc⟩ := h
  exact ⟨q, hq, (List.nodup_append.1 hn).2.1, fun b off hm => hc b off (List.mem_append_right _ hm)⟩
/-- What the condition gives a walk: a variable that holds a type. -/
theorem gv_handle {P : Program} {n : String} {d : DataW Unit} {W : World} {nm : List UInt8} {rt ty g : Nat} (hd : d.handleName? = some nm) (hf : d.funcsIn? = none) (hr : (P.cutTypes.find? (·.1 == "internal/reflectlite.rtype")).map (·.2) = some rt)
    (h1 : ((List.range P.types.size).filter fun t => P.rowNamed t nm) = [ty]) (hg : P.globalNamed n = some g) (h : handlesMet P [(n, d)] W) : GV [] W g [.iface rt (.agg #[typeHandle P ty])] := by
  have h' := h _ (List.mem_singleton.2 rfl)
  simp only [hf] at h'
  obtain ⟨name, u, ty', e1, e2, e3, e4, e5⟩ := h'
  obtain rfl := Option.some.inj (hd.symm.trans e1)
  obtain rfl := Option.some.inj (hr.symm.trans e2)
  have hm : ty' ∈ (List.range P.types.size).filter fun t => P.rowNamed t nm := List.mem_filter.2 ⟨List.mem_range.2 e3, e4⟩
  rw [h1] at hm
  obtain rfl := List.mem_singleton.1 hm
  exact GV.of_var hg (by simpa using e5)
end Go.Proofs.YtnnbnljofklieaaDoor
