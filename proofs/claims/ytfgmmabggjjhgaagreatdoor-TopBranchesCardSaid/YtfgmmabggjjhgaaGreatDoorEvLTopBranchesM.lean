/- Calls that the runs of TopBranches share: the table. -/
import Derived.Test.YtfgmmabggjjhgaaGreatDoorEvLTopBranchesE0
import Derived.Test.YtfgmmabggjjhgaaGreatDoorEvLTopBranchesE1
import Derived.Test.YtfgmmabggjjhgaaGreatDoorEvLTopBranchesE2
import Derived.Test.YtfgmmabggjjhgaaGreatDoorEvLTopBranchesE3
import Derived.Test.YtfgmmabggjjhgaaGreatDoorEvLTopBranchesE4
import Derived.Test.YtfgmmabggjjhgaaGreatDoorEvLTopBranchesE5
namespace Go.Proofs.YtfgmmabggjjhgaaGreatDoor.Ev
open Go Go.Proofs
namespace TopBranches
noncomputable def tab11 : List Ent := [e0, e2, e4, e6, e8, e10, e12, e14, e16, e18, e20, e22, e24, e26, e28, e30, e32, e34, e36, e38]
theorem tab11_of {E : Env} (hE : ∀ i, E.letter i = 97 + E.arg i % 26) : ∀ e ∈ tab11, EntOk Tryz.prog E 11 e := by
  have hF : Facts.Of ⟨[], false⟩ E := ⟨fun x hx => (by cases hx), fun h => (by cases h)⟩
  intro e h
  simp only [tab11, List.mem_cons, List.not_mem_nil, or_false] at h
  rcases h with rfl | rfl | rfl | rfl | rfl | rfl | rfl | rfl | rfl | rfl | rfl | rfl | rfl | rfl | rfl | rfl | rfl | rfl | rfl | rfl
  · exact entK_ok hF (by kernel_rfl) fl_of (ol_of (wf := fun i => i) hF hE) ml_of has11 r0
  · exact entK_ok hF (by kernel_rfl) fl_of (ol_of (wf := fun i => i) hF hE) ml_of has11 r2
  · exact entK_ok hF (by kernel_rfl) fl_of (ol_of (wf := fun i => i) hF hE) ml_of has11 r4
  · exact entK_ok hF (by kernel_rfl) fl_of (ol_of (wf := fun i => i) hF hE) ml_of has11 r6
  · exact entK_ok hF (by kernel_rfl) fl_of (ol_of (wf := fun i => i) hF hE) ml_of has11 r8
  · exact entK_ok hF (by kernel_rfl) fl_of (ol_of (wf := fun i => i) hF hE) ml_of has11 r10
  · exact entK_ok hF (by kernel_rfl) fl_of (ol_of (wf := fun i => i) hF hE) ml_of has11 r12
  · exact entK_ok hF (by kernel_rfl) fl_of (ol_of (wf := fun i => i) hF hE) ml_of has11 r14
  · exact entK_ok hF (by kernel_rfl) fl_of (ol_of (wf := fun i => i) hF hE) ml_of has11 r16
  · exact entK_ok hF (by kernel_rfl) fl_of (ol_of (wf := fun i => i) hF hE) ml_of has11 r18
  · exact entK_ok hF (by kernel_rfl) fl_of (ol_of (wf := fun i => i) hF hE) ml_of has11 r20
  · exact entK_ok hF (by kernel_rfl) fl_of (ol_of (wf := fun i => i) hF hE) ml_of has11 r22
  · exact entK_ok hF (by kernel_rfl) fl_of (ol_of (wf := fun i => i) hF hE) ml_of has11 r24
  · exact entK_ok hF (by kernel_rfl) fl_of (ol_of (wf := fun i => i) hF hE) ml_of has11 r26
  · exact entK_ok hF (by kernel_rfl) fl_of (ol_of (wf := fun i => i) hF hE) ml_of has11 r28
  · exact entK_ok hF (by kernel_rfl) fl_of (ol_of (wf := fun i => i) hF hE) ml_of has11 r30
  · exact entK_ok hF (by kernel_rfl) fl_of (ol_of (wf := fun i => i) hF hE) ml_of has11 r32
  · exact entK_ok hF (by kernel_rfl) fl_of (ol_of (wf := fun i => i) hF hE) ml_of has11 r34
  · exact entK_ok hF (by kernel_rfl) fl_of (ol_of (wf := fun i => i) hF hE) ml_of has11 r36
  · exact entK_ok hF (by kernel_rfl) fl_of (ol_of (wf := fun i => i) hF hE) ml_of has11 r38
noncomputable def tab14 : List Ent := [e1, e3, e5, e7, e9, e11, e13, e15, e17, e19, e21, e23, e25, e27, e29, e31, e33, e35, e37]
theorem tab14_of {E : Env} (hE : ∀ i, E.letter i = 97 + E.arg i % 26) : ∀ e ∈ tab14, EntOk Tryz.prog E 14 e := by
  have hF : Facts.Of ⟨[], false⟩ E := ⟨fun x hx => (by cases hx), fun h => (by cases h)⟩
  intro e h
  simp only [tab14, List.mem_cons, List.not_mem_nil, or_false] at h
  rcases h with rfl | rfl | rfl | rfl | rfl | rfl | rfl | rfl | rfl | rfl | rfl | rfl | rfl | rfl | rfl | rfl | rfl | rfl | rfl
  · exact entK_ok hF (by kernel_rfl) fl_of (ol_of (wf := fun i => i) hF hE) ml_of has14 r1
  · exact entK_ok hF (by kernel_rfl) fl_of (ol_of (wf := fun i => i) hF hE) ml_of has14 r3
  · exact entK_ok hF (by kernel_rfl) fl_of (ol_of (wf := fun i => i) hF hE) ml_of has14 r5
  · exact entK_ok hF (by kernel_rfl) fl_of (ol_of (wf := fun i => i) hF hE) ml_of has14 r7
  · exact entK_ok hF (by kernel_rfl) fl_of (ol_of (wf := fun i => i) hF hE) ml_of has14 r9
  · exact entK_ok hF (by kernel_rfl) fl_of (ol_of (wf := fun i => i) hF hE) ml_of has14 r11
  · exact entK_ok hF (by kernel_rfl) fl_of (ol_of (wf := fun i => i) hF hE) ml_of has14 r13
  · exact entK_ok hF (by kernel_rfl) fl_of (ol_of (wf := fun i => i) hF hE) ml_of has14 r15
  · exact entK_ok hF (by kernel_rfl) fl_of (ol_of (wf := fun i => i) hF hE) ml_of has14 r17
  · exact entK_ok hF (by kernel_rfl) fl_of (ol_of (wf := fun i => i) hF hE) ml_of has14 r19
  · exact entK_ok hF (by kernel_rfl) fl_of (ol_of (wf := fun i => i) hF hE) ml_of has14 r21
  · exact entK_ok hF (by kernel_rfl) fl_of (ol_of (wf := fun i => i) hF hE) ml_of has14 r23
  · exact entK_ok hF (by kernel_rfl) fl_of (ol_of (wf := fun i => i) hF hE) ml_of has14 r25
  · exact entK_ok hF (by kernel_rfl) fl_of (ol_of (wf := fun i => i) hF hE) ml_of has14 r27
  · exact entK_ok hF (by kernel_rfl) fl_of (ol_of (wf := fun i => i) hF hE) ml_of has14 r29
  · exact entK_ok hF (by kernel_rfl) fl_of (ol_of (wf := fun i => i) hF hE) ml_of has14 r31
  · exact entK_ok hF (by kernel_rfl) fl_of (ol_of (wf := fun i => i) hF hE) ml_of has14 r33
  · exact entK_ok hF (by kernel_rfl) fl_of (ol_of (wf := fun i => i) hF hE) ml_of has14 r35
  · exact entK_ok hF (by kernel_rfl) fl_of (ol_of (wf := fun i => i) hF hE) ml_of has14 r37
noncomputable def ml2 : List (Nat × (Orc → Orc)) := [(95, gIns), (212, gIns), (264, gIns), (11, gMemo tab11), (14, gMemo tab14)]
theorem ml2_of {E : Env} (hE : ∀ i, E.letter i = 97 + E.arg i % 26) : ∀ p ∈ ml2, MixOk Tryz.prog E p := mixs_cons m95 (mixs_cons m212 (mixs_cons m264 (mixs_cons (memo_ok has11 (tab11_of hE)) (mixs_cons (memo_ok has14 (tab14_of hE)) (mixs_nil)))))
end TopBranches
end Go.Proofs.YtfgmmabggjjhgaaGreatDoor.Ev
