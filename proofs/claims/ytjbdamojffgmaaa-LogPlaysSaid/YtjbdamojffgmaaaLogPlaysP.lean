/- For any acts: whatever is done, undone and redone, the law LogPlays answers true. Conditions: none beyond the statement. -/
import Derived.Test.YtjbdamojffgmaaaRows
import Derived.Test.YtjbdamojffgmaaaW1
import Derived.Test.YtjbdamojffgmaaaRead
import Derived.ProofKit
import Derived.OpenShut
import Derived.ShutString
import Derived.ChangeOld
import Derived.Below
namespace Go.Proofs.Ytjbdamojffgmaaa
open Go
theorem readsActs : Reads Try.prog 22 (rSl rAct) := reads_slice Try.underlying22 (by kernel_rfl) (by decide) (reads_map _ (fun x => ⟨⟨x.1, x.2⟩, rfl⟩) (reads_struct Try.underlying28 (fr_cons (f := ⟨"Op", 3, 0, false, "", "", 0⟩) (reads_int Try.underlying3) (by kernel_rfl) (fr_one (f := ⟨"S", 9, 1, false, "", "", 8⟩) (reads_str Try.underlying9) (by kernel_rfl))) (by kernel_rfl)))
namespace logPlays
open Go.ChangeShapes Go.WideShapes Go.ChangeAt Go.RowKit
open Go.ChangeMaps (open_string shut_string)
theorem own : ownKnob Try.prog.godebug = none := by kernel_rfl
theorem laidOut : laidOutB Try.prog = true := by kernel_rfl
set_option maxRecDepth 100000 in
set_option maxHeartbeats 1000000 in
theorem lifted (os : Os) (started : os.Started) (H : Type) (enc : TypeId × Value → H) :
    ReturnsInHanded {} Try.checked os 3 .any (Rows.logPlaysSpec.pre6 enc Try.prog Try.f3 Rows.logPlaysRow.domain false) (Rows.logPlaysSpec.post enc Try.prog Try.f3 false true false false) := by
  refine returnsInHanded_of_change (C := Try.checked) own started (by kernel_rfl) Try.func3
    (ChangeSpec.witness6 (enc := enc) (C := Try.checked) false ⟨#[], #[.slice none 0 0], []⟩ 8 (by kernel_rfl) (by kernel_rfl) (by kernel_rfl) (by kernel_rfl)) ?_
  intro W base args ds gs before hval0 hW hcnd _
  have hval : ∀ (j : Nat) t v, Try.f3.params[j]? = some t → args[j]? = some v → Value.okWide Try.prog W .any base t v := hval0
  have hW' := hW
  obtain ⟨p, q, hA0, hV, rfl, hfz, hnd⟩ := hW
  have hA : DataW.TrodAll enc Try.prog W 0 (fun _ => true) true Try.f3.params.toList args.toList ds p := hA0
  rw [Try.params3] at hA hval
  obtain ⟨v0, vs0, d0, ds0, p0, q0, hargs, rfl, rfl, h0, r0⟩ := trodAll_cons hA
  obtain ⟨rfl, rfl, rfl⟩ := trodAll_nil r0
  obtain rfl : args = #[v0] := by cases args; simp_all
  obtain ⟨rfl, rfl⟩ := trodVars_none hV
  have k0 := h0
  have lt0 : ∀ x ∈ p0, x.block < W.heap.size := by obtain ⟨m, hm⟩ := k0; exact DataW.trod_lt m _ _ _ hm
  obtain ⟨l_a, l_n, l_c, rfl⟩ := okWide_slice Try.underlying22 (hval 0 22 v0 rfl rfl)
  obtain ⟨l_L, rfl, h_l⟩ := arg_slice readsActs rfl h0
  clear hA0 hval0
  refine (logPlays_w (X := []) (Old.nil _) h_l).mono fun e W' hq => ?_
  obtain ⟨v, he, hE, hv⟩ := hq
  subst he; subst hv
  have bel := hE.below
  exact ⟨_, rfl, _, _, _, [], _, [], hW', trodAll_mk1 (shut_bool Try.underlying4 _), (trodAll_cons_mk (Below.trod laidOut (by kernel_rfl) (of_decide_eq_true (by kernel_rfl)) k0 bel lt0) trodAll_mk0), rfl, bel.frame _, fun h => by cases h⟩
theorem over : Rows.logPlaysRow.holds Try.pinned (OpenSpec.ofChange Rows.logPlaysSpec) :=
  OpenClaim.holds_of_wide 3 Try.f3 rfl rfl rfl rfl rfl rfl rfl ⟨rfl, rfl, rfl, rfl, rfl⟩ rfl rfl rfl rfl rfl (by kernel_rfl) Try.func3 (by kernel_rfl)
    (of_decide_eq_true (by kernel_rfl)) (by unfold Func.isWrapper; first | (rw [if_pos (by decide +kernel)]; kernel_rfl) | (rw [if_neg (by decide +kernel)]; exact ⟨rfl, rfl⟩))
    (fun os started H enc _ => lifted os started H enc)
theorem proved : Rows.LogPlaysSaid := over
#print axioms proved
end logPlays
end Go.Proofs.Ytjbdamojffgmaaa
