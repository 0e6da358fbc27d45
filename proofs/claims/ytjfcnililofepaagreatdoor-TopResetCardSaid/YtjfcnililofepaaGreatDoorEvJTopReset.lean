/- TopReset: true in every world, by its cases. -/
import Derived.Test.YtjfcnililofepaaGreatDoorEvLTopReset0
import Derived.Test.YtjfcnililofepaaGreatDoorEvLTopReset1
import Derived.Test.YtjfcnililofepaaGreatDoorEvLTopReset2
namespace Go.Proofs.YtjfcnililofepaaGreatDoor
open Go Go.Proofs
theorem topReset_calls (a : Nat) (ha : a ≤ 255) (b : Nat) (hb : b ≤ 255) (c : Nat) (hc : c ≤ 255) (w : World) : Calls Tryz.prog 3 #[.int .u8 (a : Int), .int .u8 (b : Int), .int .u8 (c : Int)] w (Ev.Ret fun v w' => v = .bool true ∧ Ev.Keeps w w') := by
  let E : Ev.Env := Ev.envOf [a, b, c] (by simp; omega)
  have hm := Nat.mod_lt c (show 0 < 3 by omega)
  rcases (by omega : c % 3 = 0 ∨ c % 3 = 1 ∨ c % 3 = 2) with hr | hr | hr
  · have hF : Ev.Facts.Of ⟨[(2, 3, 0)], false⟩ E := ⟨fun x hx => (by simp at hx; subst hx; exact hr), fun h => (by cases h)⟩
    exact Ev.run_true hF (by kernel_rfl) Ev.TopReset.fl_of (Ev.TopReset.ol_of hF (fun i => rfl)) Ev.TopReset.ml_of Ev.TopReset.has Ev.TopReset.run0 (vs := [.int .u8 (a : Int), .int .u8 (b : Int), .int .u8 (c : Int)]) (Ev.VRs.cons (by simp only [Ev.VR]; rfl) (Ev.VRs.cons (by simp only [Ev.VR]; rfl) (Ev.VRs.cons (by simp only [Ev.VR]; rfl) (Ev.VRs.nil)))) w
  · have hF : Ev.Facts.Of ⟨[(2, 3, 1)], false⟩ E := ⟨fun x hx => (by simp at hx; subst hx; exact hr), fun h => (by cases h)⟩
    exact Ev.run_true hF (by kernel_rfl) Ev.TopReset.fl_of (Ev.TopReset.ol_of hF (fun i => rfl)) Ev.TopReset.ml_of Ev.TopReset.has Ev.TopReset.run1 (vs := [.int .u8 (a : Int), .int .u8 (b : Int), .int .u8 (c : Int)]) (Ev.VRs.cons (by simp only [Ev.VR]; rfl) (Ev.VRs.cons (by simp only [Ev.VR]; rfl) (Ev.VRs.cons (by simp only [Ev.VR]; rfl) (Ev.VRs.nil)))) w
  · have hF : Ev.Facts.Of ⟨[(2, 3, 2)], false⟩ E := ⟨fun x hx => (by simp at hx; subst hx; exact hr), fun h => (by cases h)⟩
    exact Ev.run_true hF (by kernel_rfl) Ev.TopReset.fl_of (Ev.TopReset.ol_of hF (fun i => rfl)) Ev.TopReset.ml_of Ev.TopReset.has Ev.TopReset.run2 (vs := [.int .u8 (a : Int), .int .u8 (b : Int), .int .u8 (c : Int)]) (Ev.VRs.cons (by simp only [Ev.VR]; rfl) (Ev.VRs.cons (by simp only [Ev.VR]; rfl) (Ev.VRs.cons (by simp only [Ev.VR]; rfl) (Ev.VRs.nil)))) w
end Go.Proofs.YtjfcnililofepaaGreatDoor
