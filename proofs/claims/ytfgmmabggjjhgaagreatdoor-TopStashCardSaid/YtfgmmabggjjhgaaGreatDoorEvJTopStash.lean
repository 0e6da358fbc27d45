/- TopStash: true in every world, by its cases. -/
import Derived.Test.YtfgmmabggjjhgaaGreatDoorEvLTopStash0
namespace Go.Proofs.YtfgmmabggjjhgaaGreatDoor
open Go Go.Proofs
theorem topStash_calls (a : Nat) (ha : a ≤ 255) (b : Nat) (hb : b ≤ 255) (w : World) : Calls Tryz.prog 4 #[.int .u8 (a : Int), .int .u8 (b : Int)] w (Ev.Ret fun v w' => v = .bool true ∧ Ev.Keeps w w') := by
  let E : Ev.Env := Ev.envOf [a, b] (by simp; omega)
  have hF : Ev.Facts.Of ⟨[], false⟩ E := ⟨fun x hx => (by simp at hx), fun h => (by cases h)⟩
  exact Ev.run_true hF (by kernel_rfl) Ev.TopStash.fl_of (Ev.TopStash.ol_of (wf := fun i => i) hF (fun i => rfl)) Ev.TopStash.ml_of Ev.TopStash.has Ev.TopStash.run0 (vs := [.int .u8 (a : Int), .int .u8 (b : Int)]) (Ev.VRs.cons (by simp only [Ev.VR]; rfl) (Ev.VRs.cons (by simp only [Ev.VR]; rfl) (Ev.VRs.nil))) w
end Go.Proofs.YtfgmmabggjjhgaaGreatDoor
