/- LinesTwo, where what it reads is of bulk at most 1048576: how many lines two texts share from the front, and from the end. Condition: the bound of the second form. -/
import Derived.Test.YtmepomdpjlbaaaaRows
import Derived.Test.YtmepomdpjlbaaaaP10
import Derived.Test.YtmepomdpjlbaaaaReadB
import Derived.Test.YtmepomdpjlbaaaaRead
import Derived.ProofKit
import Derived.OpenShut
import Derived.ShutString
import Derived.ChangeOld
import Derived.Below
namespace Go.Proofs.Ytmepomdpjlbaaaa
open Go
namespace linesTwo
open Go.ChangeShapes Go.WideShapes Go.ChangeAt Go.RowKit
open Go.ChangeMaps (open_string shut_string)
theorem own : ownKnob Try.prog.godebug = none := by kernel_rfl
theorem laidOut : laidOutB Try.prog = true := by kernel_rfl
theorem reads0 : ReadsB Try.prog 43 (rSl rStr) (fun x => ((x.map fun x => (x.size + 1)).sum + 1)) := (readsB_slice Try.underlying43 (by kernel_rfl) (by decide) (readsB_str Try.underlying9))
theorem reads1 : ReadsB Try.prog 43 (rSl rStr) (fun x => ((x.map fun x => (x.size + 1)).sum + 1)) := (readsB_slice Try.underlying43 (by kernel_rfl) (by decide) (readsB_str Try.underlying9))
set_option maxRecDepth 100000 in
set_option maxHeartbeats 1000000 in
theorem lifted (os : Os) (started : os.Started) (H : Type) (enc : TypeId × Value → H) (F : Stop.Interp) :
    ReturnsInHanded {} Try.checked os 14 .any ((Rows.OpenSpec.upto Rows.linesTwoSpec).pre6 enc Try.prog Try.f14 Rows.linesTwoUptoRow.domain false) (((Rows.OpenSpec.upto Rows.linesTwoSpec).at F).post enc Try.prog Try.f14 false true false false) := by
  refine returnsInHanded_of_cond (C := Try.checked) (s := (Rows.OpenSpec.upto Rows.linesTwoSpec)) (k := Rows.uptoSmall) rfl own started (by kernel_rfl) Try.func14
    (OpenSpec.witness (enc := enc) (C := Try.checked) (s := (Rows.OpenSpec.upto Rows.linesTwoSpec)) (k := Rows.uptoSmall) rfl false ⟨#[], #[.slice none 0 0, .slice none 0 0], []⟩ 8 (by kernel_rfl) (by kernel_rfl) (by kernel_rfl) (x := ([.nil, .nil], [], [])) (by kernel_rfl) rfl (by kernel_rfl)) ?_
  intro W base args ds gs before hval0 hW hcnd hk _
  have hbulk := of_decide_eq_true hk
  clear hk
  have hval : ∀ (j : Nat) t v, Try.f14.params[j]? = some t → args[j]? = some v → Value.okWide Try.prog W .any base t v := hval0
  have hW' := hW
  obtain ⟨p, q, hA0, hV, rfl, hfz, hnd⟩ := hW
  have hA : DataW.TrodAll enc Try.prog W 0 (fun _ => true) true Try.f14.params.toList args.toList ds p := hA0
  rw [Try.params14] at hA hval
  obtain ⟨v0, vs0, d0, ds0, p0, q0, hargs, rfl, rfl, h0, r0⟩ := trodAll_cons hA
  obtain ⟨v1, vs1, d1, ds1, p1, q1, rfl, rfl, rfl, h1, r1⟩ := trodAll_cons r0
  obtain ⟨rfl, rfl, rfl⟩ := trodAll_nil r1
  obtain rfl : args = #[v0, v1] := by cases args; simp_all
  obtain ⟨rfl, rfl⟩ := trodVars_none hV
  have k0 := h0
  have lt0 : ∀ x ∈ p0, x.block < W.heap.size := by obtain ⟨m, hm⟩ := k0; exact DataW.trod_lt m _ _ _ hm
  obtain ⟨x0_a, x0_n, x0_c, rfl⟩ := okWide_slice Try.underlying43 (hval 0 43 v0 rfl rfl)
  obtain ⟨x0, rfl, h_x0, b0⟩ := argB_slice reads0 rfl h0
  have k1 := h1
  have lt1 : ∀ x ∈ p1, x.block < W.heap.size := by obtain ⟨m, hm⟩ := k1; exact DataW.trod_lt m _ _ _ hm
  obtain ⟨x1_a, x1_n, x1_c, rfl⟩ := okWide_slice Try.underlying43 (hval 1 43 v1 rfl rfl)
  obtain ⟨x1, rfl, h_x1, b1⟩ := argB_slice reads1 rfl h1
  clear hA0 hval0
  have hB : ((x0.map fun x => (x.size + 1)).sum + 1) + ((x1.map fun x => (x.size + 1)).sum + 1) ≤ 1048576 := by
    simp only [List.cons_append, List.nil_append, Rows.uptoBulkAll, Rows.uptoBulk] at hbulk
    omega
  refine (rectolaw10_LinesTwo_w (X := []) (a := x0) (b := x1) (Q := fun r => r = true) (Old.nil _) h_x0 h_x1 (LinesTwo_p hB rfl)).mono fun e W' hq => ?_
  obtain ⟨v, he, r0, hr, hE, hv⟩ := hq
  subst he; subst hv; subst hr
  have bel := hE.below
  exact ⟨_, rfl, _, _, _, [], _, [], hW', trodAll_mk1 (shut_bool Try.underlying4 _), (trodAll_cons_mk (Below.trod laidOut (by kernel_rfl) (of_decide_eq_true (by kernel_rfl)) k0 bel lt0) (trodAll_cons_mk (Below.trod laidOut (by kernel_rfl) (of_decide_eq_true (by kernel_rfl)) k1 bel lt1) trodAll_mk0)), rfl, bel.frame _, fun h => by cases h⟩
theorem over : Rows.linesTwoUptoRow.holds Try.pinned (Rows.OpenSpec.upto Rows.linesTwoSpec) :=
  OpenClaim.holds_of_cond 14 Try.f14 rfl rfl rfl rfl rfl rfl rfl ⟨rfl, rfl, rfl, rfl, rfl⟩ rfl rfl rfl rfl rfl (by kernel_rfl) Try.func14 (by kernel_rfl)
    (of_decide_eq_true (by kernel_rfl)) (by unfold Func.isWrapper; first | (rw [if_pos (by decide +kernel)]; kernel_rfl) | (rw [if_neg (by decide +kernel)]; exact ⟨rfl, rfl⟩))
    (fun os started H enc _ F => lifted os started H enc F)
theorem provedUpto : Rows.LinesTwoUptoSaid := over
#print axioms provedUpto
end linesTwo
end Go.Proofs.Ytmepomdpjlbaaaa
