/- TopEdit: true in every world, by its cases. -/
import Derived.Test.YtjfcnililofepaaGreatDoorEvLTopEdit0
import Derived.Test.YtjfcnililofepaaGreatDoorEvLTopEdit1
namespace Go.Proofs.YtjfcnililofepaaGreatDoor
open Go Go.Proofs
theorem topEdit_calls (a : Bool) (w : World) : Calls Tryz.prog 10 #[.bool a] w (Ev.Ret fun v w' => v = .bool true ∧ Ev.Keeps w w') := by
  let E : Ev.Env := Ev.envOf [] (by simp)
  cases a with
  | true =>
    have hF : Ev.Facts.Of ⟨[], false⟩ E := ⟨fun x hx => (by simp at hx), fun h => (by cases h)⟩
    exact Ev.run_true hF (by kernel_rfl) Ev.TopEdit.fl_of (Ev.TopEdit.ol_of hF) Ev.TopEdit.ml_of Ev.TopEdit.has Ev.TopEdit.run0 (vs := [.bool true]) (Ev.VRs.cons (by simp only [Ev.VR]) (Ev.VRs.nil)) w
  | false =>
    have hF : Ev.Facts.Of ⟨[], false⟩ E := ⟨fun x hx => (by simp at hx), fun h => (by cases h)⟩
    exact Ev.run_true hF (by kernel_rfl) Ev.TopEdit.fl_of (Ev.TopEdit.ol_of hF) Ev.TopEdit.ml_of Ev.TopEdit.has Ev.TopEdit.run1 (vs := [.bool false]) (Ev.VRs.cons (by simp only [Ev.VR]) (Ev.VRs.nil)) w
end Go.Proofs.YtjfcnililofepaaGreatDoor
