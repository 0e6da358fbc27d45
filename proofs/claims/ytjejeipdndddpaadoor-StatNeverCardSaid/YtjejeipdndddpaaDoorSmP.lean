/- The plain laws of chapter 18. -/
import Derived.Test.YtjejeipdndddpaaDoorSmA
namespace Go.Proofs.YtjejeipdndddpaaDoor
open Go
theorem known18_p {Q : Bool → Prop} (h : Q true) : rectolaw18_known_p Q := by
  unfold rectolaw18_known_p
  refine Note_p (fun _ _ _ _ _ _ => Smudge1_p (fun _ => ?_))
  unfold simfs_New_p; intro _
  refine Edit_p0 (by decide) chkA rfl (by decide) (by decide) rfl (fun x hx => by cases hx) (by decide) (fun _ => ?_)
  refine Changed1_p rfl rfl rfl rfl (by decide) (by decide) (fun _ _ _ => ⟨fun b => b = true, by rintro _ rfl; exact h, fun _ => ⟨fun _ => Fresh_p ⟨fun _ => Fresh_p ⟨fun hx => absurd hx (by decide), fun _ => ⟨fun _ => ⟨by decide, fun _ _ _ _ _ _ => ⟨fun _ => ⟨fun _ => ⟨fun _ => decide_eq_true rfl, fun hx => absurd (by decide +kernel) hx⟩, fun hx => absurd rfl hx⟩, fun hx => absurd (by decide) hx⟩⟩, fun hx => absurd (by decide) hx⟩⟩, fun hx => absurd hx (by decide)⟩, fun hx => absurd rfl hx⟩, fun hx => absurd rfl hx⟩)
theorem StatSmudged_p {t later : Int} {Q : Bool → Prop} (h : Q true) : rectolaw18_StatSmudged_p t later Q := by
  unfold rectolaw18_StatSmudged_p; intro ht hlt
  have ht' : 0 ≤ t ∧ t ≤ 65535 := by simpa [inR, IntKind.min, IntKind.max, IntKind.signed, IntKind.bits] using ht
  have hl' : 0 ≤ later ∧ later ≤ 65535 := by simpa [inR, IntKind.min, IntKind.max, IntKind.signed, IntKind.bits] using hlt
  simp only [inR_i64]
  refine known18_p ⟨fun hx => (by cases hx), fun _ => ⟨⟨by omega, by omega⟩, Note_p (fun _ _ _ _ _ _ => Smudge1_p (fun _ => ⟨⟨by omega, by omega⟩, Smudge1_p (fun _ => ⟨fun hx => ?_, fun _ => ?_⟩)⟩))⟩⟩
  · rcases hx with hx | hx <;> exact absurd rfl hx
  have h1 : ∀ x : S_index_Entry, inL [x] (0 : Int) := fun x => ⟨by decide, by show (0 : Int) < 1; decide⟩
  have e1 : smuS ⟨ByteArray.mk #[97], 0, 1, ByteArray.mk #[120, 121, 122], 1 + t, 3⟩ (1 + t) = ⟨ByteArray.mk #[97], 0, 1, ByteArray.mk #[120, 121, 122], 0, 0⟩ := by unfold smuS; exact if_pos (Int.le_refl _)
  have e2 : smuS ⟨ByteArray.mk #[97], 0, 1, ByteArray.mk #[120, 121, 122], 1 + t, 3⟩ (1 + t + 1) = ⟨ByteArray.mk #[97], 0, 1, ByteArray.mk #[120, 121, 122], 1 + t, 3⟩ := by unfold smuS; exact if_neg (by show ¬ (1 + t ≥ 1 + t + 1); omega)
  dsimp only
  rw [e1, e2]
  refine ⟨fun b => b = true, by rintro _ rfl; exact h, h1 _, fun _ _ _ _ _ _ => ⟨⟨by omega, by omega⟩, Fresh_p ⟨fun hx => ?_, fun _ => ⟨h1 _, fun _ _ _ _ _ _ => ⟨⟨by omega, by omega⟩, ⟨by omega, by omega⟩, Fresh_p ⟨fun _ => Fresh_p ?_, fun hx => ?_⟩⟩⟩⟩⟩⟩
  · have hx := of_decide_eq_true hx
    have h3 := hx.2.2.1
    cases h3
  · show (!freshS _ _ _) = true
    have : freshS ⟨ByteArray.mk #[97], 0, 1, ByteArray.mk #[120, 121, 122], 1 + t, 3⟩ ⟨3, 1 + t, 0, 1⟩ (1 + t) = false := decide_eq_false fun hx => absurd hx.2.2.2.2 (Int.lt_irrefl _)
    rw [this]; rfl
  · have : freshS ⟨ByteArray.mk #[97], 0, 1, ByteArray.mk #[120, 121, 122], 1 + t, 3⟩ ⟨3, 1 + t, 0, 1⟩ (1 + t + 1 + later) = true := decide_eq_true ⟨rfl, rfl, rfl, rfl, by show 1 + t < 1 + t + 1 + later; omega⟩
    have hx : freshS ⟨ByteArray.mk #[97], 0, 1, ByteArray.mk #[120, 121, 122], 1 + t, 3⟩ ⟨3, 1 + t, 0, 1⟩ (1 + t + 1 + later) = false := hx
    rw [this] at hx; cases hx
end Go.Proofs.YtjejeipdndddpaaDoor
