/- The plain law of StatFresh. -/
import Derived.Test.YtjejeipdndddpaaDoorSfK
namespace Go.Proofs.YtjejeipdndddpaaDoor
open Go
theorem StatFresh_p {e : S_index_Entry} {s : S_simfs_Stat} {written : Int} {Q : Bool → Prop} (h : Q true) : rectolaw18_StatFresh_p e s written Q := by
  unfold rectolaw18_StatFresh_p; intro _ _ _ _ _ _ _ _ _ _ _
  refine known18_p ⟨fun hx => (by cases hx), fun _ => Fresh_p (Note_p (fun _ _ _ _ _ _ => Smudge1_p (fun _ => ⟨fun hx => absurd rfl hx, fun _ => ?_⟩)))⟩
  have hin : inL [smuS e written] (0 : Int) := ⟨by decide, by show (0 : Int) < 1; decide⟩
  refine ⟨fun a b => a = (smuS e written).Time ∧ b = (smuS e written).Size, ?_, fun hg => ?_, fun hg => ?_⟩
  · rintro _ _ ⟨rfl, rfl⟩ _ _
    have hs : ((smuS e written).Path = e.Path) ∧ ((smuS e written).Stage = e.Stage) ∧ ((smuS e written).Mode = e.Mode) ∧ ((smuS e written).Data = e.Data) := by unfold smuS; split <;> exact ⟨rfl, rfl, rfl, rfl⟩
    have hd : decide (((smuS e written).Path = e.Path) ∧ ((smuS e written).Stage = e.Stage) ∧ ((smuS e written).Mode = e.Mode) ∧ ((smuS e written).Data = e.Data) ∧ ((smuS e written).Time = (smuS e written).Time) ∧ ((smuS e written).Size = (smuS e written).Size) ∧ True) = true := decide_eq_true ⟨hs.1, hs.2.1, hs.2.2.1, hs.2.2.2, rfl, rfl, trivial⟩
    refine ⟨fun b => b = true, by rintro _ rfl; exact h, fun h1 => ⟨fun h2 => ⟨fun h3 => ⟨fun h4 => ⟨fun _ => ?_, fun hx => absurd ?_ hx⟩, fun n4 => ⟨fun _ => ?_, fun hx => absurd ?_ hx⟩⟩, fun n3 => ⟨fun _ => ?_, fun hx => absurd ?_ hx⟩⟩, fun n2 => ⟨fun _ => ?_, fun hx => absurd ?_ hx⟩⟩, fun n1 => ⟨fun _ => ?_, fun hx => absurd ?_ hx⟩⟩
    · exact ⟨fun _ => ⟨hin, fun _ _ _ _ _ _ => hd⟩, fun hx => absurd ⟨rfl, rfl, rfl, rfl, rfl, rfl, trivial⟩ hx⟩
    · exact decide_eq_decide.2 ⟨fun hx => hx.2.2.2.2, fun hx => ⟨h1, h2, h3, h4, hx⟩⟩
    · exact ⟨fun _ => ⟨hin, fun _ _ _ _ _ _ => hd⟩, fun hx => absurd ⟨rfl, rfl, rfl, rfl, rfl, rfl, trivial⟩ hx⟩
    · exact decide_eq_false fun hx => n4 hx.2.2.2.1
    · exact ⟨fun _ => ⟨hin, fun _ _ _ _ _ _ => hd⟩, fun hx => absurd ⟨rfl, rfl, rfl, rfl, rfl, rfl, trivial⟩ hx⟩
    · exact decide_eq_false fun hx => n3 hx.2.2.1
    · exact ⟨fun _ => ⟨hin, fun _ _ _ _ _ _ => hd⟩, fun hx => absurd ⟨rfl, rfl, rfl, rfl, rfl, rfl, trivial⟩ hx⟩
    · exact decide_eq_false fun hx => n2 hx.2.1
    · exact ⟨fun _ => ⟨hin, fun _ _ _ _ _ _ => hd⟩, fun hx => absurd ⟨rfl, rfl, rfl, rfl, rfl, rfl, trivial⟩ hx⟩
    · exact decide_eq_false fun hx => n1 hx.1
  · unfold smuS; rw [if_pos hg]; exact ⟨rfl, rfl⟩
  · unfold smuS; rw [if_neg hg]; exact ⟨rfl, rfl⟩
end Go.Proofs.YtjejeipdndddpaaDoor
