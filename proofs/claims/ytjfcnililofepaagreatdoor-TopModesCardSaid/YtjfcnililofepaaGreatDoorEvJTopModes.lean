/- TopModes: true in every world, by its cases. -/
import Derived.Test.YtjfcnililofepaaGreatDoorEvLTopModes0
import Derived.Test.YtjfcnililofepaaGreatDoorEvLTopModes1
namespace Go.Proofs.YtjfcnililofepaaGreatDoor
open Go Go.Proofs
theorem topModes_calls (a : Bool) (w : World) : Calls Tryz.prog 11 #[.bool a] w (Ev.Ret fun v w' => v = .bool true ∧ Ev.Keeps w w') := by
  let E : Ev.Env := Ev.envOf [] (by simp)
  cases a with
  | true =>
    have hF : Ev.Facts.Of ⟨[], false⟩ E := ⟨fun x hx => (by simp at hx), fun h => (by cases h)⟩
    exact Ev.run_true hF (by kernel_rfl) Ev.TopModes.fl_of (Ev.TopModes.ol_of hF) Ev.TopModes.ml_of Ev.TopModes.has Ev.TopModes.run0 (vs := [.bool true]) (Ev.VRs.cons (by simp only [Ev.VR]) (Ev.VRs.nil)) w
  | false =>
    have hF : Ev.Facts.Of ⟨[], false⟩ E := ⟨fun x hx => (by simp at hx), fun h => (by cases h)⟩
    exact Ev.run_true hF (by kernel_rfl) Ev.TopModes.fl_of (Ev.TopModes.ol_of hF) Ev.TopModes.ml_of Ev.TopModes.has Ev.TopModes.run1 (vs := [.bool false]) (Ev.VRs.cons (by simp only [Ev.VR]) (Ev.VRs.nil)) w
end Go.Proofs.YtjfcnililofepaaGreatDoor
