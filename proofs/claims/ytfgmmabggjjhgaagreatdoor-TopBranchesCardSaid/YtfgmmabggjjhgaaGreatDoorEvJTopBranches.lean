/- TopBranches: true in every world, by its cases. -/
import Derived.Test.YtfgmmabggjjhgaaGreatDoorEvLTopBranchesC0
import Derived.Test.YtfgmmabggjjhgaaGreatDoorEvLTopBranchesC1
import Derived.Test.YtfgmmabggjjhgaaGreatDoorEvLTopBranchesC2
import Derived.Test.YtfgmmabggjjhgaaGreatDoorEvLTopBranchesC3
import Derived.Test.YtfgmmabggjjhgaaGreatDoorEvLTopBranchesC4
namespace Go.Proofs.YtfgmmabggjjhgaaGreatDoor
open Go Go.Proofs
theorem topBranches_calls (a : Nat) (ha : a ≤ 255) (w : World) : Calls Tryz.prog 5 #[.int .u8 (a : Int)] w (Ev.Ret fun v w' => v = .bool true ∧ Ev.Keeps w w') := by
  let E : Ev.Env := Ev.envOf [a] (by simp; omega)
  have hm := Nat.mod_lt a (show 0 < 20 by omega)
  rcases (by omega : a % 20 = 0 ∨ a % 20 = 1 ∨ a % 20 = 2 ∨ a % 20 = 3 ∨ a % 20 = 4 ∨ a % 20 = 5 ∨ a % 20 = 6 ∨ a % 20 = 7 ∨ a % 20 = 8 ∨ a % 20 = 9 ∨ a % 20 = 10 ∨ a % 20 = 11 ∨ a % 20 = 12 ∨ a % 20 = 13 ∨ a % 20 = 14 ∨ a % 20 = 15 ∨ a % 20 = 16 ∨ a % 20 = 17 ∨ a % 20 = 18 ∨ a % 20 = 19) with hr | hr | hr | hr | hr | hr | hr | hr | hr | hr | hr | hr | hr | hr | hr | hr | hr | hr | hr | hr
  · have hF : Ev.Facts.Of ⟨[(0, 20, 0)], false⟩ E := ⟨fun x hx => (by simp at hx; subst hx; exact hr), fun h => (by cases h)⟩
    exact Ev.run_true hF (by kernel_rfl) Ev.TopBranches.fl_of (Ev.TopBranches.ol_of (wf := fun i => i) hF (fun i => rfl)) (Ev.TopBranches.ml2_of (fun i => rfl)) Ev.TopBranches.has Ev.TopBranches.run0 (vs := [.int .u8 (a : Int)]) (Ev.VRs.cons (by simp only [Ev.VR]; rfl) Ev.VRs.nil) w
  · have hF : Ev.Facts.Of ⟨[(0, 20, 1)], false⟩ E := ⟨fun x hx => (by simp at hx; subst hx; exact hr), fun h => (by cases h)⟩
    exact Ev.run_true hF (by kernel_rfl) Ev.TopBranches.fl_of (Ev.TopBranches.ol_of (wf := fun i => i) hF (fun i => rfl)) (Ev.TopBranches.ml2_of (fun i => rfl)) Ev.TopBranches.has Ev.TopBranches.run1 (vs := [.int .u8 (a : Int)]) (Ev.VRs.cons (by simp only [Ev.VR]; rfl) Ev.VRs.nil) w
  · have hF : Ev.Facts.Of ⟨[(0, 20, 2)], false⟩ E := ⟨fun x hx => (by simp at hx; subst hx; exact hr), fun h => (by cases h)⟩
    exact Ev.run_true hF (by kernel_rfl) Ev.TopBranches.fl_of (Ev.TopBranches.ol_of (wf := fun i => i) hF (fun i => rfl)) (Ev.TopBranches.ml2_of (fun i => rfl)) Ev.TopBranches.has Ev.TopBranches.run2 (vs := [.int .u8 (a : Int)]) (Ev.VRs.cons (by simp only [Ev.VR]; rfl) Ev.VRs.nil) w
  · have hF : Ev.Facts.Of ⟨[(0, 20, 3)], false⟩ E := ⟨fun x hx => (by simp at hx; subst hx; exact hr), fun h => (by cases h)⟩
    exact Ev.run_true hF (by kernel_rfl) Ev.TopBranches.fl_of (Ev.TopBranches.ol_of (wf := fun i => i) hF (fun i => rfl)) (Ev.TopBranches.ml2_of (fun i => rfl)) Ev.TopBranches.has Ev.TopBranches.run3 (vs := [.int .u8 (a : Int)]) (Ev.VRs.cons (by simp only [Ev.VR]; rfl) Ev.VRs.nil) w
  · have hF : Ev.Facts.Of ⟨[(0, 20, 4)], false⟩ E := ⟨fun x hx => (by simp at hx; subst hx; exact hr), fun h => (by cases h)⟩
    exact Ev.run_true hF (by kernel_rfl) Ev.TopBranches.fl_of (Ev.TopBranches.ol_of (wf := fun i => i) hF (fun i => rfl)) (Ev.TopBranches.ml2_of (fun i => rfl)) Ev.TopBranches.has Ev.TopBranches.run4 (vs := [.int .u8 (a : Int)]) (Ev.VRs.cons (by simp only [Ev.VR]; rfl) Ev.VRs.nil) w
  · have hF : Ev.Facts.Of ⟨[(0, 20, 5)], false⟩ E := ⟨fun x hx => (by simp at hx; subst hx; exact hr), fun h => (by cases h)⟩
    exact Ev.run_true hF (by kernel_rfl) Ev.TopBranches.fl_of (Ev.TopBranches.ol_of (wf := fun i => i) hF (fun i => rfl)) (Ev.TopBranches.ml2_of (fun i => rfl)) Ev.TopBranches.has Ev.TopBranches.run5 (vs := [.int .u8 (a : Int)]) (Ev.VRs.cons (by simp only [Ev.VR]; rfl) Ev.VRs.nil) w
  · have hF : Ev.Facts.Of ⟨[(0, 20, 6)], false⟩ E := ⟨fun x hx => (by simp at hx; subst hx; exact hr), fun h => (by cases h)⟩
    exact Ev.run_true hF (by kernel_rfl) Ev.TopBranches.fl_of (Ev.TopBranches.ol_of (wf := fun i => i) hF (fun i => rfl)) (Ev.TopBranches.ml2_of (fun i => rfl)) Ev.TopBranches.has Ev.TopBranches.run6 (vs := [.int .u8 (a : Int)]) (Ev.VRs.cons (by simp only [Ev.VR]; rfl) Ev.VRs.nil) w
  · have hF : Ev.Facts.Of ⟨[(0, 20, 7)], false⟩ E := ⟨fun x hx => (by simp at hx; subst hx; exact hr), fun h => (by cases h)⟩
    exact Ev.run_true hF (by kernel_rfl) Ev.TopBranches.fl_of (Ev.TopBranches.ol_of (wf := fun i => i) hF (fun i => rfl)) (Ev.TopBranches.ml2_of (fun i => rfl)) Ev.TopBranches.has Ev.TopBranches.run7 (vs := [.int .u8 (a : Int)]) (Ev.VRs.cons (by simp only [Ev.VR]; rfl) Ev.VRs.nil) w
  · have hF : Ev.Facts.Of ⟨[(0, 20, 8)], false⟩ E := ⟨fun x hx => (by simp at hx; subst hx; exact hr), fun h => (by cases h)⟩
    exact Ev.run_true hF (by kernel_rfl) Ev.TopBranches.fl_of (Ev.TopBranches.ol_of (wf := fun i => i) hF (fun i => rfl)) (Ev.TopBranches.ml2_of (fun i => rfl)) Ev.TopBranches.has Ev.TopBranches.run8 (vs := [.int .u8 (a : Int)]) (Ev.VRs.cons (by simp only [Ev.VR]; rfl) Ev.VRs.nil) w
  · have hF : Ev.Facts.Of ⟨[(0, 20, 9)], false⟩ E := ⟨fun x hx => (by simp at hx; subst hx; exact hr), fun h => (by cases h)⟩
    exact Ev.run_true hF (by kernel_rfl) Ev.TopBranches.fl_of (Ev.TopBranches.ol_of (wf := fun i => i) hF (fun i => rfl)) (Ev.TopBranches.ml2_of (fun i => rfl)) Ev.TopBranches.has Ev.TopBranches.run9 (vs := [.int .u8 (a : Int)]) (Ev.VRs.cons (by simp only [Ev.VR]; rfl) Ev.VRs.nil) w
  · have hF : Ev.Facts.Of ⟨[(0, 20, 10)], false⟩ E := ⟨fun x hx => (by simp at hx; subst hx; exact hr), fun h => (by cases h)⟩
    exact Ev.run_true hF (by kernel_rfl) Ev.TopBranches.fl_of (Ev.TopBranches.ol_of (wf := fun i => i) hF (fun i => rfl)) (Ev.TopBranches.ml2_of (fun i => rfl)) Ev.TopBranches.has Ev.TopBranches.run10 (vs := [.int .u8 (a : Int)]) (Ev.VRs.cons (by simp only [Ev.VR]; rfl) Ev.VRs.nil) w
  · have hF : Ev.Facts.Of ⟨[(0, 20, 11)], false⟩ E := ⟨fun x hx => (by simp at hx; subst hx; exact hr), fun h => (by cases h)⟩
    exact Ev.run_true hF (by kernel_rfl) Ev.TopBranches.fl_of (Ev.TopBranches.ol_of (wf := fun i => i) hF (fun i => rfl)) (Ev.TopBranches.ml2_of (fun i => rfl)) Ev.TopBranches.has Ev.TopBranches.run11 (vs := [.int .u8 (a : Int)]) (Ev.VRs.cons (by simp only [Ev.VR]; rfl) Ev.VRs.nil) w
  · have hF : Ev.Facts.Of ⟨[(0, 20, 12)], false⟩ E := ⟨fun x hx => (by simp at hx; subst hx; exact hr), fun h => (by cases h)⟩
    exact Ev.run_true hF (by kernel_rfl) Ev.TopBranches.fl_of (Ev.TopBranches.ol_of (wf := fun i => i) hF (fun i => rfl)) (Ev.TopBranches.ml2_of (fun i => rfl)) Ev.TopBranches.has Ev.TopBranches.run12 (vs := [.int .u8 (a : Int)]) (Ev.VRs.cons (by simp only [Ev.VR]; rfl) Ev.VRs.nil) w
  · have hF : Ev.Facts.Of ⟨[(0, 20, 13)], false⟩ E := ⟨fun x hx => (by simp at hx; subst hx; exact hr), fun h => (by cases h)⟩
    exact Ev.run_true hF (by kernel_rfl) Ev.TopBranches.fl_of (Ev.TopBranches.ol_of (wf := fun i => i) hF (fun i => rfl)) (Ev.TopBranches.ml2_of (fun i => rfl)) Ev.TopBranches.has Ev.TopBranches.run13 (vs := [.int .u8 (a : Int)]) (Ev.VRs.cons (by simp only [Ev.VR]; rfl) Ev.VRs.nil) w
  · have hF : Ev.Facts.Of ⟨[(0, 20, 14)], false⟩ E := ⟨fun x hx => (by simp at hx; subst hx; exact hr), fun h => (by cases h)⟩
    exact Ev.run_true hF (by kernel_rfl) Ev.TopBranches.fl_of (Ev.TopBranches.ol_of (wf := fun i => i) hF (fun i => rfl)) (Ev.TopBranches.ml2_of (fun i => rfl)) Ev.TopBranches.has Ev.TopBranches.run14 (vs := [.int .u8 (a : Int)]) (Ev.VRs.cons (by simp only [Ev.VR]; rfl) Ev.VRs.nil) w
  · have hF : Ev.Facts.Of ⟨[(0, 20, 15)], false⟩ E := ⟨fun x hx => (by simp at hx; subst hx; exact hr), fun h => (by cases h)⟩
    exact Ev.run_true hF (by kernel_rfl) Ev.TopBranches.fl_of (Ev.TopBranches.ol_of (wf := fun i => i) hF (fun i => rfl)) (Ev.TopBranches.ml2_of (fun i => rfl)) Ev.TopBranches.has Ev.TopBranches.run15 (vs := [.int .u8 (a : Int)]) (Ev.VRs.cons (by simp only [Ev.VR]; rfl) Ev.VRs.nil) w
  · have hF : Ev.Facts.Of ⟨[(0, 20, 16)], false⟩ E := ⟨fun x hx => (by simp at hx; subst hx; exact hr), fun h => (by cases h)⟩
    exact Ev.run_true hF (by kernel_rfl) Ev.TopBranches.fl_of (Ev.TopBranches.ol_of (wf := fun i => i) hF (fun i => rfl)) (Ev.TopBranches.ml2_of (fun i => rfl)) Ev.TopBranches.has Ev.TopBranches.run16 (vs := [.int .u8 (a : Int)]) (Ev.VRs.cons (by simp only [Ev.VR]; rfl) Ev.VRs.nil) w
  · have hF : Ev.Facts.Of ⟨[(0, 20, 17)], false⟩ E := ⟨fun x hx => (by simp at hx; subst hx; exact hr), fun h => (by cases h)⟩
    exact Ev.run_true hF (by kernel_rfl) Ev.TopBranches.fl_of (Ev.TopBranches.ol_of (wf := fun i => i) hF (fun i => rfl)) (Ev.TopBranches.ml2_of (fun i => rfl)) Ev.TopBranches.has Ev.TopBranches.run17 (vs := [.int .u8 (a : Int)]) (Ev.VRs.cons (by simp only [Ev.VR]; rfl) Ev.VRs.nil) w
  · have hF : Ev.Facts.Of ⟨[(0, 20, 18)], false⟩ E := ⟨fun x hx => (by simp at hx; subst hx; exact hr), fun h => (by cases h)⟩
    exact Ev.run_true hF (by kernel_rfl) Ev.TopBranches.fl_of (Ev.TopBranches.ol_of (wf := fun i => i) hF (fun i => rfl)) (Ev.TopBranches.ml2_of (fun i => rfl)) Ev.TopBranches.has Ev.TopBranches.run18 (vs := [.int .u8 (a : Int)]) (Ev.VRs.cons (by simp only [Ev.VR]; rfl) Ev.VRs.nil) w
  · have hF : Ev.Facts.Of ⟨[(0, 20, 19)], false⟩ E := ⟨fun x hx => (by simp at hx; subst hx; exact hr), fun h => (by cases h)⟩
    exact Ev.run_true hF (by kernel_rfl) Ev.TopBranches.fl_of (Ev.TopBranches.ol_of (wf := fun i => i) hF (fun i => rfl)) (Ev.TopBranches.ml2_of (fun i => rfl)) Ev.TopBranches.has Ev.TopBranches.run19 (vs := [.int .u8 (a : Int)]) (Ev.VRs.cons (by simp only [Ev.VR]; rfl) Ev.VRs.nil) w
end Go.Proofs.YtfgmmabggjjhgaaGreatDoor
