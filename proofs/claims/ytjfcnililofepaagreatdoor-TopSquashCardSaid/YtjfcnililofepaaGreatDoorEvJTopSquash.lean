/- TopSquash: true in every world, by its cases. -/
import Derived.Test.YtjfcnililofepaaGreatDoorEvLTopSquash0
import Derived.Test.YtjfcnililofepaaGreatDoorEvLTopSquash1
import Derived.Test.YtjfcnililofepaaGreatDoorEvLTopSquash2
import Derived.Test.YtjfcnililofepaaGreatDoorEvLTopSquash3
namespace Go.Proofs.YtjfcnililofepaaGreatDoor
open Go Go.Proofs
theorem topSquash_calls (a : Nat) (ha : a ≤ 255) (w : World) : Calls Tryz.prog 7 #[.int .u8 (a : Int)] w (Ev.Ret fun v w' => v = .bool true ∧ Ev.Keeps w w') := by
  let E : Ev.Env := Ev.envOf [a] (by simp; omega)
  have hm := Nat.mod_lt a (show 0 < 4 by omega)
  rcases (by omega : a % 4 = 0 ∨ a % 4 = 1 ∨ a % 4 = 2 ∨ a % 4 = 3) with hr | hr | hr | hr
  · have hF : Ev.Facts.Of ⟨[(0, 4, 0)], false⟩ E := ⟨fun x hx => (by simp at hx; subst hx; exact hr), fun h => (by cases h)⟩
    exact Ev.run_true hF (by kernel_rfl) Ev.TopSquash.fl_of (Ev.TopSquash.ol_of hF) Ev.TopSquash.ml_of Ev.TopSquash.has Ev.TopSquash.run0 (vs := [.int .u8 (a : Int)]) (Ev.VRs.cons (by simp only [Ev.VR]; rfl) (Ev.VRs.nil)) w
  · have hF : Ev.Facts.Of ⟨[(0, 4, 1)], false⟩ E := ⟨fun x hx => (by simp at hx; subst hx; exact hr), fun h => (by cases h)⟩
    exact Ev.run_true hF (by kernel_rfl) Ev.TopSquash.fl_of (Ev.TopSquash.ol_of hF) Ev.TopSquash.ml_of Ev.TopSquash.has Ev.TopSquash.run1 (vs := [.int .u8 (a : Int)]) (Ev.VRs.cons (by simp only [Ev.VR]; rfl) (Ev.VRs.nil)) w
  · have hF : Ev.Facts.Of ⟨[(0, 4, 2)], false⟩ E := ⟨fun x hx => (by simp at hx; subst hx; exact hr), fun h => (by cases h)⟩
    exact Ev.run_true hF (by kernel_rfl) Ev.TopSquash.fl_of (Ev.TopSquash.ol_of hF) Ev.TopSquash.ml_of Ev.TopSquash.has Ev.TopSquash.run2 (vs := [.int .u8 (a : Int)]) (Ev.VRs.cons (by simp only [Ev.VR]; rfl) (Ev.VRs.nil)) w
  · have hF : Ev.Facts.Of ⟨[(0, 4, 3)], false⟩ E := ⟨fun x hx => (by simp at hx; subst hx; exact hr), fun h => (by cases h)⟩
    exact Ev.run_true hF (by kernel_rfl) Ev.TopSquash.fl_of (Ev.TopSquash.ol_of hF) Ev.TopSquash.ml_of Ev.TopSquash.has Ev.TopSquash.run3 (vs := [.int .u8 (a : Int)]) (Ev.VRs.cons (by simp only [Ev.VR]; rfl) (Ev.VRs.nil)) w
end Go.Proofs.YtjfcnililofepaaGreatDoor
