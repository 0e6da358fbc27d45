/- TopRebase: true in every world, by its cases. -/
import Derived.Test.YtjfcnililofepaaGreatDoorEvLTopRebase0
import Derived.Test.YtjfcnililofepaaGreatDoorEvLTopRebase1
import Derived.Test.YtjfcnililofepaaGreatDoorEvLTopRebase2
import Derived.Test.YtjfcnililofepaaGreatDoorEvLTopRebase3
import Derived.Test.YtjfcnililofepaaGreatDoorEvLTopRebase4
import Derived.Test.YtjfcnililofepaaGreatDoorEvLTopRebase5
namespace Go.Proofs.YtjfcnililofepaaGreatDoor
open Go Go.Proofs
theorem topRebase_calls (a : Nat) (ha : a ≤ 255) (w : World) : Calls Tryz.prog 6 #[.int .u8 (a : Int)] w (Ev.Ret fun v w' => v = .bool true ∧ Ev.Keeps w w') := by
  let E : Ev.Env := Ev.envOf [a] (by simp; omega)
  have hm := Nat.mod_lt a (show 0 < 6 by omega)
  rcases (by omega : a % 6 = 0 ∨ a % 6 = 1 ∨ a % 6 = 2 ∨ a % 6 = 3 ∨ a % 6 = 4 ∨ a % 6 = 5) with hr | hr | hr | hr | hr | hr
  · have hF : Ev.Facts.Of ⟨[(0, 6, 0)], false⟩ E := ⟨fun x hx => (by simp at hx; subst hx; exact hr), fun h => (by cases h)⟩
    exact Ev.run_true hF (by kernel_rfl) Ev.TopRebase.fl_of (Ev.TopRebase.ol_of hF (fun i => rfl)) Ev.TopRebase.ml_of Ev.TopRebase.has Ev.TopRebase.run0 (vs := [.int .u8 (a : Int)]) (Ev.VRs.cons (by simp only [Ev.VR]; rfl) (Ev.VRs.nil)) w
  · have hF : Ev.Facts.Of ⟨[(0, 6, 1)], false⟩ E := ⟨fun x hx => (by simp at hx; subst hx; exact hr), fun h => (by cases h)⟩
    exact Ev.run_true hF (by kernel_rfl) Ev.TopRebase.fl_of (Ev.TopRebase.ol_of hF (fun i => rfl)) Ev.TopRebase.ml_of Ev.TopRebase.has Ev.TopRebase.run1 (vs := [.int .u8 (a : Int)]) (Ev.VRs.cons (by simp only [Ev.VR]; rfl) (Ev.VRs.nil)) w
  · have hF : Ev.Facts.Of ⟨[(0, 6, 2)], false⟩ E := ⟨fun x hx => (by simp at hx; subst hx; exact hr), fun h => (by cases h)⟩
    exact Ev.run_true hF (by kernel_rfl) Ev.TopRebase.fl_of (Ev.TopRebase.ol_of hF (fun i => rfl)) Ev.TopRebase.ml_of Ev.TopRebase.has Ev.TopRebase.run2 (vs := [.int .u8 (a : Int)]) (Ev.VRs.cons (by simp only [Ev.VR]; rfl) (Ev.VRs.nil)) w
  · have hF : Ev.Facts.Of ⟨[(0, 6, 3)], false⟩ E := ⟨fun x hx => (by simp at hx; subst hx; exact hr), fun h => (by cases h)⟩
    exact Ev.run_true hF (by kernel_rfl) Ev.TopRebase.fl_of (Ev.TopRebase.ol_of hF (fun i => rfl)) Ev.TopRebase.ml_of Ev.TopRebase.has Ev.TopRebase.run3 (vs := [.int .u8 (a : Int)]) (Ev.VRs.cons (by simp only [Ev.VR]; rfl) (Ev.VRs.nil)) w
  · have hF : Ev.Facts.Of ⟨[(0, 6, 4)], false⟩ E := ⟨fun x hx => (by simp at hx; subst hx; exact hr), fun h => (by cases h)⟩
    exact Ev.run_true hF (by kernel_rfl) Ev.TopRebase.fl_of (Ev.TopRebase.ol_of hF (fun i => rfl)) Ev.TopRebase.ml_of Ev.TopRebase.has Ev.TopRebase.run4 (vs := [.int .u8 (a : Int)]) (Ev.VRs.cons (by simp only [Ev.VR]; rfl) (Ev.VRs.nil)) w
  · have hF : Ev.Facts.Of ⟨[(0, 6, 5)], false⟩ E := ⟨fun x hx => (by simp at hx; subst hx; exact hr), fun h => (by cases h)⟩
    exact Ev.run_true hF (by kernel_rfl) Ev.TopRebase.fl_of (Ev.TopRebase.ol_of hF (fun i => rfl)) Ev.TopRebase.ml_of Ev.TopRebase.has Ev.TopRebase.run5 (vs := [.int .u8 (a : Int)]) (Ev.VRs.cons (by simp only [Ev.VR]; rfl) (Ev.VRs.nil)) w
end Go.Proofs.YtjfcnililofepaaGreatDoor
