/- TopRevert: true in every world, by its cases. -/
import Derived.Test.YtjfcnililofepaaGreatDoorEvLTopRevert0
import Derived.Test.YtjfcnililofepaaGreatDoorEvLTopRevert1
import Derived.Test.YtjfcnililofepaaGreatDoorEvLTopRevert2
import Derived.Test.YtjfcnililofepaaGreatDoorEvLTopRevert3
namespace Go.Proofs.YtjfcnililofepaaGreatDoor
open Go Go.Proofs
theorem topRevert_calls (a : Nat) (ha : a ≤ 255) (b : Nat) (hb : b ≤ 255) (w : World) : Calls Tryz.prog 4 #[.int .u8 (a : Int), .int .u8 (b : Int)] w (Ev.Ret fun v w' => v = .bool true ∧ Ev.Keeps w w') := by
  let E : Ev.Env := Ev.envOf [a, b] (by simp; omega)
  have hm := Nat.mod_lt b (show 0 < 4 by omega)
  rcases (by omega : b % 4 = 0 ∨ b % 4 = 1 ∨ b % 4 = 2 ∨ b % 4 = 3) with hr | hr | hr | hr
  · have hF : Ev.Facts.Of ⟨[(1, 4, 0)], false⟩ E := ⟨fun x hx => (by simp at hx; subst hx; exact hr), fun h => (by cases h)⟩
    exact Ev.run_true hF (by kernel_rfl) Ev.TopRevert.fl_of (Ev.TopRevert.ol_of hF (fun i => rfl)) Ev.TopRevert.ml_of Ev.TopRevert.has Ev.TopRevert.run0 (vs := [.int .u8 (a : Int), .int .u8 (b : Int)]) (Ev.VRs.cons (by simp only [Ev.VR]; rfl) (Ev.VRs.cons (by simp only [Ev.VR]; rfl) (Ev.VRs.nil))) w
  · have hF : Ev.Facts.Of ⟨[(1, 4, 1)], false⟩ E := ⟨fun x hx => (by simp at hx; subst hx; exact hr), fun h => (by cases h)⟩
    exact Ev.run_true hF (by kernel_rfl) Ev.TopRevert.fl_of (Ev.TopRevert.ol_of hF (fun i => rfl)) Ev.TopRevert.ml_of Ev.TopRevert.has Ev.TopRevert.run1 (vs := [.int .u8 (a : Int), .int .u8 (b : Int)]) (Ev.VRs.cons (by simp only [Ev.VR]; rfl) (Ev.VRs.cons (by simp only [Ev.VR]; rfl) (Ev.VRs.nil))) w
  · have hF : Ev.Facts.Of ⟨[(1, 4, 2)], false⟩ E := ⟨fun x hx => (by simp at hx; subst hx; exact hr), fun h => (by cases h)⟩
    exact Ev.run_true hF (by kernel_rfl) Ev.TopRevert.fl_of (Ev.TopRevert.ol_of hF (fun i => rfl)) Ev.TopRevert.ml_of Ev.TopRevert.has Ev.TopRevert.run2 (vs := [.int .u8 (a : Int), .int .u8 (b : Int)]) (Ev.VRs.cons (by simp only [Ev.VR]; rfl) (Ev.VRs.cons (by simp only [Ev.VR]; rfl) (Ev.VRs.nil))) w
  · have hF : Ev.Facts.Of ⟨[(1, 4, 3)], false⟩ E := ⟨fun x hx => (by simp at hx; subst hx; exact hr), fun h => (by cases h)⟩
    exact Ev.run_true hF (by kernel_rfl) Ev.TopRevert.fl_of (Ev.TopRevert.ol_of hF (fun i => rfl)) Ev.TopRevert.ml_of Ev.TopRevert.has Ev.TopRevert.run3 (vs := [.int .u8 (a : Int), .int .u8 (b : Int)]) (Ev.VRs.cons (by simp only [Ev.VR]; rfl) (Ev.VRs.cons (by simp only [Ev.VR]; rfl) (Ev.VRs.nil))) w
end Go.Proofs.YtjfcnililofepaaGreatDoor
