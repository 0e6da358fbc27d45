/- TopPick: true in every world, by its cases. -/
import Derived.Test.YtfgmmabggjjhgaaGreatDoorEvLTopPick0
import Derived.Test.YtfgmmabggjjhgaaGreatDoorEvLTopPick1
namespace Go.Proofs.YtfgmmabggjjhgaaGreatDoor
open Go Go.Proofs
theorem topPick_calls (a : Nat) (ha : a ≤ 255) (b : Nat) (hb : b ≤ 255) (w : World) : Calls Tryz.prog 7 #[.int .u8 (a : Int), .int .u8 (b : Int)] w (Ev.Ret fun v w' => v = .bool true ∧ Ev.Keeps w w') := by
  by_cases hs : a % 26 = b % 26
  · let E : Ev.Env := Ev.envSame a b ha hb
    have hF : Ev.Facts.Of ⟨[], false⟩ E := ⟨fun x hx => (by cases hx), fun h => (by cases h)⟩
    exact Ev.run_true hF (by kernel_rfl) Ev.TopPick.fl_of (Ev.TopPick.ol_of (wf := fun _ => 0) hF (Ev.envSame_letter hs)) Ev.TopPick.ml_of Ev.TopPick.has Ev.TopPick.run0 (vs := [.int .u8 (a : Int), .int .u8 (b : Int)]) (Ev.VRs.cons (by simp only [Ev.VR]; rfl) (Ev.VRs.cons (by simp only [Ev.VR]; rfl) (Ev.VRs.nil))) w
  · let E : Ev.Env := Ev.envOf [a, b] (by simp; omega)
    have hF : Ev.Facts.Of ⟨[], true⟩ E := ⟨fun x hx => (by cases hx), fun _ => Ev.envOf_apart hs⟩
    exact Ev.run_true hF (by kernel_rfl) Ev.TopPick.fl_of (Ev.TopPick.ol_of (wf := fun i => i) hF (fun i => rfl)) Ev.TopPick.ml_of Ev.TopPick.has Ev.TopPick.run1 (vs := [.int .u8 (a : Int), .int .u8 (b : Int)]) (Ev.VRs.cons (by simp only [Ev.VR]; rfl) (Ev.VRs.cons (by simp only [Ev.VR]; rfl) (Ev.VRs.nil))) w
end Go.Proofs.YtfgmmabggjjhgaaGreatDoor
