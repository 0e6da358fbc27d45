/- For any two rows of lines the law DiffTurned answers true. Conditions: none beyond the statement. -/
import Derived.Test.YtmepomdpjlbaaaaRows
import Derived.Test.YtmepomdpjlbaaaaD3
import Derived.Test.YtmepomdpjlbaaaaP11b
import Derived.Test.YtmepomdpjlbaaaaRead
import Derived.ProofKit
import Derived.OpenShut
import Derived.ShutString
import Derived.ChangeOld
import Derived.Below
namespace Go.Proofs.Ytmepomdpjlbaaaa
open Go
namespace diffTurned
open Go.ChangeShapes Go.WideShapes Go.ChangeAt Go.RowKit
open Go.ChangeMaps (open_string shut_string)
theorem own : ownKnob Try.prog.godebug = none := by kernel_rfl
theorem laidOut : laidOutB Try.prog = true := by kernel_rfl
theorem reads0 : Reads Try.prog 43 (rSl rStr) := (reads_slice Try.underlying43 (by kernel_rfl) (by decide) (reads_str Try.underlying9))
theorem reads1 : Reads Try.prog 43 (rSl rStr) := (reads_slice Try.underlying43 (by kernel_rfl) (by decide) (reads_str Try.underlying9))
set_option maxRecDepth 100000 in
set_option maxHeartbeats 1000000 in
theorem lifted (os : Os) (started : os.Started) (H : Type) (enc : TypeId × Value → H) :
    ReturnsInHanded {} Try.checked os 6 .any (Rows.diffTurnedSpec.pre6 enc Try.prog Try.f6 Rows.diffTurnedRow.domain false) (Rows.diffTurnedSpec.post enc Try.prog Try.f6 false true false false) := by
  refine returnsInHanded_of_change (C := Try.checked) own started (by kernel_rfl) Try.func6
    (ChangeSpec.witness6 (enc := enc) (C := Try.checked) false ⟨#[], #[.slice none 0 0, .slice none 0 0], []⟩ 8 (by kernel_rfl) (by kernel_rfl) (by kernel_rfl) (by kernel_rfl)) ?_
  intro W base args ds gs before hval0 hW hcnd _
  have hval : ∀ (j : Nat) t v, Try.f6.params[j]? = some t → args[j]? = some v → Value.okWide Try.prog W .any base t v := hval0
  have hW' := hW
  obtain ⟨p, q, hA0, hV, rfl, hfz, hnd⟩ := hW
  have hA : DataW.TrodAll enc Try.prog W 0 (fun _ => true) true Try.f6.params.toList args.toList ds p := hA0
  rw [Try.params6] at hA hval
  obtain ⟨v0, vs0, d0, ds0, p0, q0, hargs, rfl, rfl, h0, r0⟩ := trodAll_cons hA
  obtain ⟨v1, vs1, d1, ds1, p1, q1, rfl, rfl, rfl, h1, r1⟩ := trodAll_cons r0
  obtain ⟨rfl, rfl, rfl⟩ := trodAll_nil r1
  obtain rfl : args = #[v0, v1] := by cases args; simp_all
  obtain ⟨rfl, rfl⟩ := trodVars_none hV
  have k0 := h0
  have lt0 : ∀ x ∈ p0, x.block < W.heap.size := by obtain ⟨m, hm⟩ := k0; exact DataW.trod_lt m _ _ _ hm
  obtain ⟨x0_a, x0_n, x0_c, rfl⟩ := okWide_slice Try.underlying43 (hval 0 43 v0 rfl rfl)
  obtain ⟨x0, rfl, h_x0⟩ := arg_slice reads0 rfl h0
  have k1 := h1
  have lt1 : ∀ x ∈ p1, x.block < W.heap.size := by obtain ⟨m, hm⟩ := k1; exact DataW.trod_lt m _ _ _ hm
  obtain ⟨x1_a, x1_n, x1_c, rfl⟩ := okWide_slice Try.underlying43 (hval 1 43 v1 rfl rfl)
  obtain ⟨x1, rfl, h_x1⟩ := arg_slice reads1 rfl h1
  clear hA0 hval0
  refine (rectolaw11_DiffTurned_w (X := []) (a := x0) (b := x1) (Q := fun r => r = true) (Old.nil _) h_x0 h_x1 (DiffTurned_p rfl)).mono fun e W' hq => ?_
  obtain ⟨v, he, r0, hr, hE, hv⟩ := hq
  subst he; subst hv; subst hr
  have bel := hE.below
  exact ⟨_, rfl, _, _, _, [], _, [], hW', trodAll_mk1 (shut_bool Try.underlying4 _), (trodAll_cons_mk (Below.trod laidOut (by kernel_rfl) (of_decide_eq_true (by kernel_rfl)) k0 bel lt0) (trodAll_cons_mk (Below.trod laidOut (by kernel_rfl) (of_decide_eq_true (by kernel_rfl)) k1 bel lt1) trodAll_mk0)), rfl, bel.frame _, fun h => by cases h⟩
theorem over : Rows.diffTurnedRow.holds Try.pinned (OpenSpec.ofChange Rows.diffTurnedSpec) :=
  OpenClaim.holds_of_wide 6 Try.f6 rfl rfl rfl rfl rfl rfl rfl ⟨rfl, rfl, rfl, rfl, rfl⟩ rfl rfl rfl rfl rfl (by kernel_rfl) Try.func6 (by kernel_rfl)
    (of_decide_eq_true (by kernel_rfl)) (by unfold Func.isWrapper; first | (rw [if_pos (by decide +kernel)]; kernel_rfl) | (rw [if_neg (by decide +kernel)]; exact ⟨rfl, rfl⟩))
    (fun os started H enc _ => lifted os started H enc)
theorem proved : Rows.DiffTurnedSaid := over
#print axioms proved
end diffTurned
end Go.Proofs.Ytmepomdpjlbaaaa
