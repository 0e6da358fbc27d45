/- The plain law of CodeShort. -/
import Derived.Test.YtljbaoehhnljlaaRRRRDoorCsT
import Derived.Test.YtljbaoehhnljlaaRRRRDoorCsC
namespace Go.Proofs.YtljbaoehhnljlaaRRRRDoor
open Go
theorem CodeShort_p {a v cut : Int} {Q : Bool → Prop} (h : Q true) : rectolaw3_CodeShort_p a v cut Q := by
  unfold rectolaw3_CodeShort_p; intro ha hv hcut
  have h1 := encI_len ha
  have h2 := encI_len hv
  have h3 := encI_pos a
  have h4 := encI_pos v
  rw [inR_i64] at hcut
  simp only [inR_i64]
  refine known3_p ⟨fun hx => (by cases hx), fun _ => ⟨fun _ => h, fun h0 => ?_⟩⟩
  refine EncInt_p (by simp) (rInt_p fun _ => rInt_p fun _ => EncInt_p ?_ (EncBytes_p ?_ fun _ => ?_))
  · simp [encIs]; omega
  · simp [encIs]; omega
  have hb : (([] : List Int) ++ encIs [a]) ++ encIs [v] = encI a ++ encI v := by simp [encIs]
  show _
  dsimp only
  rw [hb]
  have hl : (encI a ++ encI v).length = (encI a).length + (encI v).length := List.length_append
  refine ⟨⟨by omega, by omega⟩, fun hn => absurd (by rw [hl]; omega) hn, fun _ => ⟨by omega, by omega, ?_⟩⟩
  obtain ⟨c, hc⟩ : ∃ c : Nat, cut % (((encI v).length : Nat) : Int) = (c : Int) := ⟨(cut % (((encI v).length : Nat) : Int)).toNat, by have := Int.emod_nonneg cut (b := (((encI v).length : Nat) : Int)) (by omega); omega⟩
  have hcl : c < (encI v).length := by have := Int.emod_lt_of_pos cut (b := (((encI v).length : Nat) : Int)) (by omega); omega
  rw [hc]
  refine ⟨⟨by omega, by omega⟩, ⟨by omega, by rw [hl]; omega⟩, ?_⟩
  have ht : (encI a ++ encI v).take ((((encI a).length : Nat) : Int) + (c : Int)).toNat = encI a ++ (encI v).take c := by
    rw [show ((((encI a).length : Nat) : Int) + (c : Int)).toNat = (encI a).length + c from by omega, List.take_length_add_append]
  rw [ht]
  have htl : (encI a ++ (encI v).take c).length = (encI a).length + c := by rw [List.length_append, List.length_take]; omega
  refine Of_p (by omega) ?_
  refine DecInt_p (pre := []) (post := (encI v).take c) (n := a) ha rfl rfl rfl (by dsimp only; omega) (fun _ => ?_)
  refine DecIntCut_p (pre := encI a) (n := v) (c := c) hv rfl hcl (by simp) rfl (by omega) (fun _ => ?_)
  refine ⟨fun b => b = true, by rintro _ rfl; exact h, ⟨fun _ => ⟨fun _ => ?_, fun hn => absurd rfl hn⟩, fun hn => absurd rfl hn⟩⟩
  unfold codec_Dec_Err_p rectoref3_At_p; intro _ _ _ _ _ _ _
  refine Tells_fault (by decide) (by decide) (by decide) (inR_i64.2 ⟨by omega, by omega⟩) ⟨by omega, by omega⟩ ⟨fun _ => ?_, fun hx => (by cases hx)⟩
  unfold codec_Dec_Left_p; simp only [inR_i64]
  exact fun _ _ => ⟨fun _ _ => rfl, fun hx => (by cases hx)⟩
end Go.Proofs.YtljbaoehhnljlaaRRRRDoor
