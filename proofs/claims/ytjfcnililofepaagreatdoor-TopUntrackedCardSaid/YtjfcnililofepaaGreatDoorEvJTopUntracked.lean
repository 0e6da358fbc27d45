/- TopUntracked: true in every world, by its cases. -/
import Derived.Test.YtjfcnililofepaaGreatDoorEvLTopUntracked0
import Derived.Test.YtjfcnililofepaaGreatDoorEvLTopUntracked1
namespace Go.Proofs.YtjfcnililofepaaGreatDoor
open Go Go.Proofs
theorem topUntracked_calls (a : Nat) (ha : a ≤ 255) (b : Bool) (w : World) : Calls Tryz.prog 14 #[.int .u8 (a : Int), .bool b] w (Ev.Ret fun v w' => v = .bool true ∧ Ev.Keeps w w') := by
  let E : Ev.Env := Ev.envOf [a] (by simp; omega)
  cases b with
  | true =>
    have hF : Ev.Facts.Of ⟨[], false⟩ E := ⟨fun x hx => (by simp at hx), fun h => (by cases h)⟩
    exact Ev.run_true hF (by kernel_rfl) Ev.TopUntracked.fl_of (Ev.TopUntracked.ol_of hF (fun i => rfl)) Ev.TopUntracked.ml_of Ev.TopUntracked.has Ev.TopUntracked.run0 (vs := [.int .u8 (a : Int), .bool true]) (Ev.VRs.cons (by simp only [Ev.VR]; rfl) (Ev.VRs.cons (by simp only [Ev.VR]) (Ev.VRs.nil))) w
  | false =>
    have hF : Ev.Facts.Of ⟨[], false⟩ E := ⟨fun x hx => (by simp at hx), fun h => (by cases h)⟩
    exact Ev.run_true hF (by kernel_rfl) Ev.TopUntracked.fl_of (Ev.TopUntracked.ol_of hF (fun i => rfl)) Ev.TopUntracked.ml_of Ev.TopUntracked.has Ev.TopUntracked.run1 (vs := [.int .u8 (a : Int), .bool false]) (Ev.VRs.cons (by simp only [Ev.VR]; rfl) (Ev.VRs.cons (by simp only [Ev.VR]) (Ev.VRs.nil))) w
end Go.Proofs.YtjfcnililofepaaGreatDoor
