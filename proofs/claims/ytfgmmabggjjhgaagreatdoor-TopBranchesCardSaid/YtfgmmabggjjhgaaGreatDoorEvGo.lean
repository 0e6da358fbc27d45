/- No function of the program starts a goroutine. -/
import Derived.Test.YtfgmmabggjjhgaaGreatDoorRows
import Derived.Test.YtfgmmabggjjhgaaGreatDoorChecked
import Derived.JoinedCond
import Derived.SevenTiedAt
namespace Go.Proofs.YtfgmmabggjjhgaaGreatDoor.Ev
open Go Go.Proofs
theorem goes_any : Tryz.pinned.checked.prog.funcs.any Func.goes = false := by kernel_rfl
theorem goes_none (P : Program) (h : P.funcs.any Func.goes = false) (f : FuncId) : P.goes f = false := by
  have h2 : ∀ g : Nat, (P.funcs[g]?).any Func.goes = false := fun g => by
    cases e : P.funcs[g]? with
    | none => rfl
    | some fn =>
      rw [Array.any_eq_false] at h
      obtain ⟨hg, hfn⟩ := Array.getElem?_eq_some_iff.1 e
      have := h g hg
      rw [hfn] at this
      simpa using this
  unfold Program.goes
  rw [h, Bool.and_false, Bool.or_false]
  simp [h2]
theorem goesFrom_none (P : Program) (h : P.funcs.any Func.goes = false) (n : String) : P.goesFrom n = false := by
  unfold Program.goesFrom
  cases P.funcNamed n with
  | none => rfl
  | some f => exact goes_none P h f
theorem goesBy_none (P : Program) (c : OpenClaim) (hs : c.start = .entering) (h : P.funcs.any Func.goes = false) : false = c.goesBy P := by
  unfold OpenClaim.goesBy Program.goesAt
  rw [hs, goesFrom_none P h]; rfl
end Go.Proofs.YtfgmmabggjjhgaaGreatDoor.Ev
