/- What is known in chapter 18. -/
import Derived.Test.YtjejeipdndddpaaDoorSfA
namespace Go.Proofs.YtjejeipdndddpaaDoor
open Go
theorem known18_p {Q : Bool → Prop} (h : Q true) : rectolaw18_known_p Q := by
  unfold rectolaw18_known_p
  refine Note_p (fun _ _ _ _ _ _ => Smudge1_p (fun _ => ?_))
  unfold simfs_New_p; intro _
  refine Edit_p0 (by decide) chkA rfl (by decide) (by decide) rfl (fun x hx => by cases hx) (by decide) (fun _ => ?_)
  refine Changed1_p rfl rfl rfl rfl (by decide) (by decide) (fun _ _ _ => ⟨fun b => b = true, by rintro _ rfl; exact h, fun _ => ⟨fun _ => Fresh_p ⟨fun _ => Fresh_p ⟨fun hx => absurd hx (by decide), fun _ => ⟨fun _ => ⟨by decide, fun _ _ _ _ _ _ => ⟨fun _ => ⟨fun _ => ⟨fun _ => decide_eq_true rfl, fun hx => absurd (by decide +kernel) hx⟩, fun hx => absurd rfl hx⟩, fun hx => absurd (by decide) hx⟩⟩, fun hx => absurd (by decide) hx⟩⟩, fun hx => absurd hx (by decide)⟩, fun hx => absurd rfl hx⟩, fun hx => absurd rfl hx⟩)
end Go.Proofs.YtjejeipdndddpaaDoor
