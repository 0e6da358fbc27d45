/- TopMerges: true in every world, by its cases. -/
import Derived.Test.YtfgmmabggjjhgaaGreatDoorEvLTopMerges0
import Derived.Test.YtfgmmabggjjhgaaGreatDoorEvLTopMerges1
namespace Go.Proofs.YtfgmmabggjjhgaaGreatDoor
open Go Go.Proofs
theorem topMerges_calls (a : Nat) (ha : a ≤ 255) (b : Nat) (hb : b ≤ 255) (c : Bool) (w : World) : Calls Tryz.prog 8 #[.int .u8 (a : Int), .int .u8 (b : Int), .bool c] w (Ev.Ret fun v w' => v = .bool true ∧ Ev.Keeps w w') := by
  let E : Ev.Env := Ev.envOf [a, b] (by simp; omega)
  cases c with
  | true =>
    have hF : Ev.Facts.Of ⟨[], false⟩ E := ⟨fun x hx => (by simp at hx), fun h => (by cases h)⟩
    exact Ev.run_true hF (by kernel_rfl) Ev.TopMerges.fl_of (Ev.TopMerges.ol_of (wf := fun i => i) hF (fun i => rfl)) Ev.TopMerges.ml_of Ev.TopMerges.has Ev.TopMerges.run0 (vs := [.int .u8 (a : Int), .int .u8 (b : Int), .bool true]) (Ev.VRs.cons (by simp only [Ev.VR]; rfl) (Ev.VRs.cons (by simp only [Ev.VR]; rfl) (Ev.VRs.cons (by simp only [Ev.VR]) (Ev.VRs.nil)))) w
  | false =>
    have hF : Ev.Facts.Of ⟨[], false⟩ E := ⟨fun x hx => (by simp at hx), fun h => (by cases h)⟩
    exact Ev.run_true hF (by kernel_rfl) Ev.TopMerges.fl_of (Ev.TopMerges.ol_of (wf := fun i => i) hF (fun i => rfl)) Ev.TopMerges.ml_of Ev.TopMerges.has Ev.TopMerges.run1 (vs := [.int .u8 (a : Int), .int .u8 (b : Int), .bool false]) (Ev.VRs.cons (by simp only [Ev.VR]; rfl) (Ev.VRs.cons (by simp only [Ev.VR]; rfl) (Ev.VRs.cons (by simp only [Ev.VR]) (Ev.VRs.nil)))) w
end Go.Proofs.YtfgmmabggjjhgaaGreatDoor
