/- Calls that the runs of TopUndo share: the table. -/
import Derived.Test.YtfgmmabggjjhgaaGreatDoorEvLTopUndoE0
import Derived.Test.YtfgmmabggjjhgaaGreatDoorEvLTopUndoE1
import Derived.Test.YtfgmmabggjjhgaaGreatDoorEvLTopUndoE2
import Derived.Test.YtfgmmabggjjhgaaGreatDoorEvLTopUndoE3
import Derived.Test.YtfgmmabggjjhgaaGreatDoorEvLTopUndoE4
import Derived.Test.YtfgmmabggjjhgaaGreatDoorEvLTopUndoE5
namespace Go.Proofs.YtfgmmabggjjhgaaGreatDoor.Ev
open Go Go.Proofs
namespace TopUndo
noncomputable def tab14 : List Ent := [e2, e4, e5, e6, e9, e11, e12, e13, e14, e15, e18, e20, e21, e22, e23, e24, e25, e26, e29, e31, e32, e33, e34, e35, e36, e37, e38, e39, e42, e44, e45, e46, e47, e48, e49, e50, e51, e52, e53, e54, e57, e59, e60, e61, e62, e63, e64, e65, e66, e67, e68, e69, e70, e71, e74, e76, e77, e78, e79, e80, e81, e82, e83, e84, e85, e86, e87, e88, e89, e90, e93, e95, e96, e97, e98, e99, e100, e101, e102, e103, e104, e105, e106, e107, e108, e109, e110, e111, e114, e116, e117, e118, e119, e120, e121, e122, e123, e124, e125, e126, e127, e128, e129, e130, e131, e132, e133, e134, e137, e139, e140, e141, e142, e143, e144, e145, e146, e147, e148, e149, e150, e151, e152, e153, e154, e155, e156, e157, e158, e159]
theorem tab14_of {E : Env} (hE : ∀ i, E.letter i = 97 + E.arg i % 26) : ∀ e ∈ tab14, EntOk Tryz.prog E 14 e := by
  have hF : Facts.Of ⟨[], false⟩ E := ⟨fun x hx => (by cases hx), fun h => (by cases h)⟩
  intro e h
  simp only [tab14, List.mem_cons, List.not_mem_nil, or_false] at h
  rcases h with rfl | rfl | rfl | rfl | rfl | rfl | rfl | rfl | rfl | rfl | rfl | rfl | rfl | rfl | rfl | rfl | rfl | rfl | rfl | rfl | rfl | rfl | rfl | rfl | rfl | rfl | rfl | rfl | rfl | rfl | rfl | rfl | rfl | rfl | rfl | rfl | rfl | rfl | rfl | rfl | rfl | rfl | rfl | rfl | rfl | rfl | rfl | rfl | rfl | rfl | rfl | rfl | rfl | rfl | rfl | rfl | rfl | rfl | rfl | rfl | rfl | rfl | rfl | rfl | rfl | rfl | rfl | rfl | rfl | rfl | rfl | rfl | rfl | rfl | rfl | rfl | rfl | rfl | rfl | rfl | rfl | rfl | rfl | rfl | rfl | rfl | rfl | rfl | rfl | rfl | rfl | rfl | rfl | rfl | rfl | rfl | rfl | rfl | rfl | rfl | rfl | rfl | rfl | rfl | rfl | rfl | rfl | rfl | rfl | rfl | rfl | rfl | rfl | rfl | rfl | rfl | rfl | rfl | rfl | rfl | rfl | rfl | rfl | rfl | rfl | rfl | rfl | rfl | rfl | rfl
  · exact entK_ok hF (by kernel_rfl) fl_of (ol_of (wf := fun i => i) hF hE) ml_of has14 r2
  · exact entK_ok hF (by kernel_rfl) fl_of (ol_of (wf := fun i => i) hF hE) ml_of has14 r4
  · exact entK_ok hF (by kernel_rfl) fl_of (ol_of (wf := fun i => i) hF hE) ml_of has14 r5
  · exact entK_ok hF (by kernel_rfl) fl_of (ol_of (wf := fun i => i) hF hE) ml_of has14 r6
  · exact entK_ok hF (by kernel_rfl) fl_of (ol_of (wf := fun i => i) hF hE) ml_of has14 r9
  · exact entK_ok hF (by kernel_rfl) fl_of (ol_of (wf := fun i => i) hF hE) ml_of has14 r11
  · exact entK_ok hF (by kernel_rfl) fl_of (ol_of (wf := fun i => i) hF hE) ml_of has14 r12
  · exact entK_ok hF (by kernel_rfl) fl_of (ol_of (wf := fun i => i) hF hE) ml_of has14 r13
  · exact entK_ok hF (by kernel_rfl) fl_of (ol_of (wf := fun i => i) hF hE) ml_of has14 r14
  · exact entK_ok hF (by kernel_rfl) fl_of (ol_of (wf := fun i => i) hF hE) ml_of has14 r15
  · exact entK_ok hF (by kernel_rfl) fl_of (ol_of (wf := fun i => i) hF hE) ml_of has14 r18
  · exact entK_ok hF (by kernel_rfl) fl_of (ol_of (wf := fun i => i) hF hE) ml_of has14 r20
  · exact entK_ok hF (by kernel_rfl) fl_of (ol_of (wf := fun i => i) hF hE) ml_of has14 r21
  · exact entK_ok hF (by kernel_rfl) fl_of (ol_of (wf := fun i => i) hF hE) ml_of has14 r22
  · exact entK_ok hF (by kernel_rfl) fl_of (ol_of (wf := fun i => i) hF hE) ml_of has14 r23
  · exact entK_ok hF (by kernel_rfl) fl_of (ol_of (wf := fun i => i) hF hE) ml_of has14 r24
  · exact entK_ok hF (by kernel_rfl) fl_of (ol_of (wf := fun i => i) hF hE) ml_of has14 r25
  · exact entK_ok hF (by kernel_rfl) fl_of (ol_of (wf := fun i => i) hF hE) ml_of has14 r26
  · exact entK_ok hF (by kernel_rfl) fl_of (ol_of (wf := fun i => i) hF hE) ml_of has14 r29
  · exact entK_ok hF (by kernel_rfl) fl_of (ol_of (wf := fun i => i) hF hE) ml_of has14 r31
  · exact entK_ok hF (by kernel_rfl) fl_of (ol_of (wf := fun i => i) hF hE) ml_of has14 r32
  · exact entK_ok hF (by kernel_rfl) fl_of (ol_of (wf := fun i => i) hF hE) ml_of has14 r33
  · exact entK_ok hF (by kernel_rfl) fl_of (ol_of (wf := fun i => i) hF hE) ml_of has14 r34
  · exact entK_ok hF (by kernel_rfl) fl_of (ol_of (wf := fun i => i) hF hE) ml_of has14 r35
  · exact entK_ok hF (by kernel_rfl) fl_of (ol_of (wf := fun i => i) hF hE) ml_of has14 r36
  · exact entK_ok hF (by kernel_rfl) fl_of (ol_of (wf := fun i => i) hF hE) ml_of has14 r37
  · exact entK_ok hF (by kernel_rfl) fl_of (ol_of (wf := fun i => i) hF hE) ml_of has14 r38
  · exact entK_ok hF (by kernel_rfl) fl_of (ol_of (wf := fun i => i) hF hE) ml_of has14 r39
  · exact entK_ok hF (by kernel_rfl) fl_of (ol_of (wf := fun i => i) hF hE) ml_of has14 r42
  · exact entK_ok hF (by kernel_rfl) fl_of (ol_of (wf := fun i => i) hF hE) ml_of has14 r44
  · exact entK_ok hF (by kernel_rfl) fl_of (ol_of (wf := fun i => i) hF hE) ml_of has14 r45
  · exact entK_ok hF (by kernel_rfl) fl_of (ol_of (wf := fun i => i) hF hE) ml_of has14 r46
  · exact entK_ok hF (by kernel_rfl) fl_of (ol_of (wf := fun i => i) hF hE) ml_of has14 r47
  · exact entK_ok hF (by kernel_rfl) fl_of (ol_of (wf := fun i => i) hF hE) ml_of has14 r48
  · exact entK_ok hF (by kernel_rfl) fl_of (ol_of (wf := fun i => i) hF hE) ml_of has14 r49
  · exact entK_ok hF (by kernel_rfl) fl_of (ol_of (wf := fun i => i) hF hE) ml_of has14 r50
  · exact entK_ok hF (by kernel_rfl) fl_of (ol_of (wf := fun i => i) hF hE) ml_of has14 r51
  · exact entK_ok hF (by kernel_rfl) fl_of (ol_of (wf := fun i => i) hF hE) ml_of has14 r52
  · exact entK_ok hF (by kernel_rfl) fl_of (ol_of (wf := fun i => i) hF hE) ml_of has14 r53
  · exact entK_ok hF (by kernel_rfl) fl_of (ol_of (wf := fun i => i) hF hE) ml_of has14 r54
  · exact entK_ok hF (by kernel_rfl) fl_of (ol_of (wf := fun i => i) hF hE) ml_of has14 r57
  · exact entK_ok hF (by kernel_rfl) fl_of (ol_of (wf := fun i => i) hF hE) ml_of has14 r59
  · exact entK_ok hF (by kernel_rfl) fl_of (ol_of (wf := fun i => i) hF hE) ml_of has14 r60
  · exact entK_ok hF (by kernel_rfl) fl_of (ol_of (wf := fun i => i) hF hE) ml_of has14 r61
  · exact entK_ok hF (by kernel_rfl) fl_of (ol_of (wf := fun i => i) hF hE) ml_of has14 r62
  · exact entK_ok hF (by kernel_rfl) fl_of (ol_of (wf := fun i => i) hF hE) ml_of has14 r63
  · exact entK_ok hF (by kernel_rfl) fl_of (ol_of (wf := fun i => i) hF hE) ml_of has14 r64
  · exact entK_ok hF (by kernel_rfl) fl_of (ol_of (wf := fun i => i) hF hE) ml_of has14 r65
  · exact entK_ok hF (by kernel_rfl) fl_of (ol_of (wf := fun i => i) hF hE) ml_of has14 r66
  · exact entK_ok hF (by kernel_rfl) fl_of (ol_of (wf := fun i => i) hF hE) ml_of has14 r67
  · exact entK_ok hF (by kernel_rfl) fl_of (ol_of (wf := fun i => i) hF hE) ml_of has14 r68
  · exact entK_ok hF (by kernel_rfl) fl_of (ol_of (wf := fun i => i) hF hE) ml_of has14 r69
  · exact entK_ok hF (by kernel_rfl) fl_of (ol_of (wf := fun i => i) hF hE) ml_of has14 r70
  · exact entK_ok hF (by kernel_rfl) fl_of (ol_of (wf := fun i => i) hF hE) ml_of has14 r71
  · exact entK_ok hF (by kernel_rfl) fl_of (ol_of (wf := fun i => i) hF hE) ml_of has14 r74
  · exact entK_ok hF (by kernel_rfl) fl_of (ol_of (wf := fun i => i) hF hE) ml_of has14 r76
  · exact entK_ok hF (by kernel_rfl) fl_of (ol_of (wf := fun i => i) hF hE) ml_of has14 r77
  · exact entK_ok hF (by kernel_rfl) fl_of (ol_of (wf := fun i => i) hF hE) ml_of has14 r78
  · exact entK_ok hF (by kernel_rfl) fl_of (ol_of (wf := fun i => i) hF hE) ml_of has14 r79
  · exact entK_ok hF (by kernel_rfl) fl_of (ol_of (wf := fun i => i) hF hE) ml_of has14 r80
  · exact entK_ok hF (by kernel_rfl) fl_of (ol_of (wf := fun i => i) hF hE) ml_of has14 r81
  · exact entK_ok hF (by kernel_rfl) fl_of (ol_of (wf := fun i => i) hF hE) ml_of has14 r82
  · exact entK_ok hF (by kernel_rfl) fl_of (ol_of (wf := fun i => i) hF hE) ml_of has14 r83
  · exact entK_ok hF (by kernel_rfl) fl_of (ol_of (wf := fun i => i) hF hE) ml_of has14 r84
  · exact entK_ok hF (by kernel_rfl) fl_of (ol_of (wf := fun i => i) hF hE) ml_of has14 r85
  · exact entK_ok hF (by kernel_rfl) fl_of (ol_of (wf := fun i => i) hF hE) ml_of has14 r86
  · exact entK_ok hF (by kernel_rfl) fl_of (ol_of (wf := fun i => i) hF hE) ml_of has14 r87
  · exact entK_ok hF (by kernel_rfl) fl_of (ol_of (wf := fun i => i) hF hE) ml_of has14 r88
  · exact entK_ok hF (by kernel_rfl) fl_of (ol_of (wf := fun i => i) hF hE) ml_of has14 r89
  · exact entK_ok hF (by kernel_rfl) fl_of (ol_of (wf := fun i => i) hF hE) ml_of has14 r90
  · exact entK_ok hF (by kernel_rfl) fl_of (ol_of (wf := fun i => i) hF hE) ml_of has14 r93
  · exact entK_ok hF (by kernel_rfl) fl_of (ol_of (wf := fun i => i) hF hE) ml_of has14 r95
  · exact entK_ok hF (by kernel_rfl) fl_of (ol_of (wf := fun i => i) hF hE) ml_of has14 r96
  · exact entK_ok hF (by kernel_rfl) fl_of (ol_of (wf := fun i => i) hF hE) ml_of has14 r97
  · exact entK_ok hF (by kernel_rfl) fl_of (ol_of (wf := fun i => i) hF hE) ml_of has14 r98
  · exact entK_ok hF (by kernel_rfl) fl_of (ol_of (wf := fun i => i) hF hE) ml_of has14 r99
  · exact entK_ok hF (by kernel_rfl) fl_of (ol_of (wf := fun i => i) hF hE) ml_of has14 r100
  · exact entK_ok hF (by kernel_rfl) fl_of (ol_of (wf := fun i => i) hF hE) ml_of has14 r101
  · exact entK_ok hF (by kernel_rfl) fl_of (ol_of (wf := fun i => i) hF hE) ml_of has14 r102
  · exact entK_ok hF (by kernel_rfl) fl_of (ol_of (wf := fun i => i) hF hE) ml_of has14 r103
  · exact entK_ok hF (by kernel_rfl) fl_of (ol_of (wf := fun i => i) hF hE) ml_of has14 r104
  · exact entK_ok hF (by kernel_rfl) fl_of (ol_of (wf := fun i => i) hF hE) ml_of has14 r105
  · exact entK_ok hF (by kernel_rfl) fl_of (ol_of (wf := fun i => i) hF hE) ml_of has14 r106
  · exact entK_ok hF (by kernel_rfl) fl_of (ol_of (wf := fun i => i) hF hE) ml_of has14 r107
  · exact entK_ok hF (by kernel_rfl) fl_of (ol_of (wf := fun i => i) hF hE) ml_of has14 r108
  · exact entK_ok hF (by kernel_rfl) fl_of (ol_of (wf := fun i => i) hF hE) ml_of has14 r109
  · exact entK_ok hF (by kernel_rfl) fl_of (ol_of (wf := fun i => i) hF hE) ml_of has14 r110
  · exact entK_ok hF (by kernel_rfl) fl_of (ol_of (wf := fun i => i) hF hE) ml_of has14 r111
  · exact entK_ok hF (by kernel_rfl) fl_of (ol_of (wf := fun i => i) hF hE) ml_of has14 r114
  · exact entK_ok hF (by kernel_rfl) fl_of (ol_of (wf := fun i => i) hF hE) ml_of has14 r116
  · exact entK_ok hF (by kernel_rfl) fl_of (ol_of (wf := fun i => i) hF hE) ml_of has14 r117
  · exact entK_ok hF (by kernel_rfl) fl_of (ol_of (wf := fun i => i) hF hE) ml_of has14 r118
  · exact entK_ok hF (by kernel_rfl) fl_of (ol_of (wf := fun i => i) hF hE) ml_of has14 r119
  · exact entK_ok hF (by kernel_rfl) fl_of (ol_of (wf := fun i => i) hF hE) ml_of has14 r120
  · exact entK_ok hF (by kernel_rfl) fl_of (ol_of (wf := fun i => i) hF hE) ml_of has14 r121
  · exact entK_ok hF (by kernel_rfl) fl_of (ol_of (wf := fun i => i) hF hE) ml_of has14 r122
  · exact entK_ok hF (by kernel_rfl) fl_of (ol_of (wf := fun i => i) hF hE) ml_of has14 r123
  · exact entK_ok hF (by kernel_rfl) fl_of (ol_of (wf := fun i => i) hF hE) ml_of has14 r124
  · exact entK_ok hF (by kernel_rfl) fl_of (ol_of (wf := fun i => i) hF hE) ml_of has14 r125
  · exact entK_ok hF (by kernel_rfl) fl_of (ol_of (wf := fun i => i) hF hE) ml_of has14 r126
  · exact entK_ok hF (by kernel_rfl) fl_of (ol_of (wf := fun i => i) hF hE) ml_of has14 r127
  · exact entK_ok hF (by kernel_rfl) fl_of (ol_of (wf := fun i => i) hF hE) ml_of has14 r128
  · exact entK_ok hF (by kernel_rfl) fl_of (ol_of (wf := fun i => i) hF hE) ml_of has14 r129
  · exact entK_ok hF (by kernel_rfl) fl_of (ol_of (wf := fun i => i) hF hE) ml_of has14 r130
  · exact entK_ok hF (by kernel_rfl) fl_of (ol_of (wf := fun i => i) hF hE) ml_of has14 r131
  · exact entK_ok hF (by kernel_rfl) fl_of (ol_of (wf := fun i => i) hF hE) ml_of has14 r132
  · exact entK_ok hF (by kernel_rfl) fl_of (ol_of (wf := fun i => i) hF hE) ml_of has14 r133
  · exact entK_ok hF (by kernel_rfl) fl_of (ol_of (wf := fun i => i) hF hE) ml_of has14 r134
  · exact entK_ok hF (by kernel_rfl) fl_of (ol_of (wf := fun i => i) hF hE) ml_of has14 r137
  · exact entK_ok hF (by kernel_rfl) fl_of (ol_of (wf := fun i => i) hF hE) ml_of has14 r139
  · exact entK_ok hF (by kernel_rfl) fl_of (ol_of (wf := fun i => i) hF hE) ml_of has14 r140
  · exact entK_ok hF (by kernel_rfl) fl_of (ol_of (wf := fun i => i) hF hE) ml_of has14 r141
  · exact entK_ok hF (by kernel_rfl) fl_of (ol_of (wf := fun i => i) hF hE) ml_of has14 r142
  · exact entK_ok hF (by kernel_rfl) fl_of (ol_of (wf := fun i => i) hF hE) ml_of has14 r143
  · exact entK_ok hF (by kernel_rfl) fl_of (ol_of (wf := fun i => i) hF hE) ml_of has14 r144
  · exact entK_ok hF (by kernel_rfl) fl_of (ol_of (wf := fun i => i) hF hE) ml_of has14 r145
  · exact entK_ok hF (by kernel_rfl) fl_of (ol_of (wf := fun i => i) hF hE) ml_of has14 r146
  · exact entK_ok hF (by kernel_rfl) fl_of (ol_of (wf := fun i => i) hF hE) ml_of has14 r147
  · exact entK_ok hF (by kernel_rfl) fl_of (ol_of (wf := fun i => i) hF hE) ml_of has14 r148
  · exact entK_ok hF (by kernel_rfl) fl_of (ol_of (wf := fun i => i) hF hE) ml_of has14 r149
  · exact entK_ok hF (by kernel_rfl) fl_of (ol_of (wf := fun i => i) hF hE) ml_of has14 r150
  · exact entK_ok hF (by kernel_rfl) fl_of (ol_of (wf := fun i => i) hF hE) ml_of has14 r151
  · exact entK_ok hF (by kernel_rfl) fl_of (ol_of (wf := fun i => i) hF hE) ml_of has14 r152
  · exact entK_ok hF (by kernel_rfl) fl_of (ol_of (wf := fun i => i) hF hE) ml_of has14 r153
  · exact entK_ok hF (by kernel_rfl) fl_of (ol_of (wf := fun i => i) hF hE) ml_of has14 r154
  · exact entK_ok hF (by kernel_rfl) fl_of (ol_of (wf := fun i => i) hF hE) ml_of has14 r155
  · exact entK_ok hF (by kernel_rfl) fl_of (ol_of (wf := fun i => i) hF hE) ml_of has14 r156
  · exact entK_ok hF (by kernel_rfl) fl_of (ol_of (wf := fun i => i) hF hE) ml_of has14 r157
  · exact entK_ok hF (by kernel_rfl) fl_of (ol_of (wf := fun i => i) hF hE) ml_of has14 r158
  · exact entK_ok hF (by kernel_rfl) fl_of (ol_of (wf := fun i => i) hF hE) ml_of has14 r159
noncomputable def tab16 : List Ent := [e0, e7, e16, e27, e40, e55, e72, e91, e112, e135]
theorem tab16_of {E : Env} (hE : ∀ i, E.letter i = 97 + E.arg i % 26) : ∀ e ∈ tab16, EntOk Tryz.prog E 16 e := by
  have hF : Facts.Of ⟨[], false⟩ E := ⟨fun x hx => (by cases hx), fun h => (by cases h)⟩
  intro e h
  simp only [tab16, List.mem_cons, List.not_mem_nil, or_false] at h
  rcases h with rfl | rfl | rfl | rfl | rfl | rfl | rfl | rfl | rfl | rfl
  · exact entK_ok hF (by kernel_rfl) fl_of (ol_of (wf := fun i => i) hF hE) ml_of has16 r0
  · exact entK_ok hF (by kernel_rfl) fl_of (ol_of (wf := fun i => i) hF hE) ml_of has16 r7
  · exact entK_ok hF (by kernel_rfl) fl_of (ol_of (wf := fun i => i) hF hE) ml_of has16 r16
  · exact entK_ok hF (by kernel_rfl) fl_of (ol_of (wf := fun i => i) hF hE) ml_of has16 r27
  · exact entK_ok hF (by kernel_rfl) fl_of (ol_of (wf := fun i => i) hF hE) ml_of has16 r40
  · exact entK_ok hF (by kernel_rfl) fl_of (ol_of (wf := fun i => i) hF hE) ml_of has16 r55
  · exact entK_ok hF (by kernel_rfl) fl_of (ol_of (wf := fun i => i) hF hE) ml_of has16 r72
  · exact entK_ok hF (by kernel_rfl) fl_of (ol_of (wf := fun i => i) hF hE) ml_of has16 r91
  · exact entK_ok hF (by kernel_rfl) fl_of (ol_of (wf := fun i => i) hF hE) ml_of has16 r112
  · exact entK_ok hF (by kernel_rfl) fl_of (ol_of (wf := fun i => i) hF hE) ml_of has16 r135
noncomputable def tab19 : List Ent := [e1, e3, e8, e10, e17, e19, e28, e30, e41, e43, e56, e58, e73, e75, e92, e94, e113, e115, e136, e138]
theorem tab19_of {E : Env} (hE : ∀ i, E.letter i = 97 + E.arg i % 26) : ∀ e ∈ tab19, EntOk Tryz.prog E 19 e := by
  have hF : Facts.Of ⟨[], false⟩ E := ⟨fun x hx => (by cases hx), fun h => (by cases h)⟩
  intro e h
  simp only [tab19, List.mem_cons, List.not_mem_nil, or_false] at h
  rcases h with rfl | rfl | rfl | rfl | rfl | rfl | rfl | rfl | rfl | rfl | rfl | rfl | rfl | rfl | rfl | rfl | rfl | rfl | rfl | rfl
  · exact entK_ok hF (by kernel_rfl) fl_of (ol_of (wf := fun i => i) hF hE) ml_of has19 r1
  · exact entK_ok hF (by kernel_rfl) fl_of (ol_of (wf := fun i => i) hF hE) ml_of has19 r3
  · exact entK_ok hF (by kernel_rfl) fl_of (ol_of (wf := fun i => i) hF hE) ml_of has19 r8
  · exact entK_ok hF (by kernel_rfl) fl_of (ol_of (wf := fun i => i) hF hE) ml_of has19 r10
  · exact entK_ok hF (by kernel_rfl) fl_of (ol_of (wf := fun i => i) hF hE) ml_of has19 r17
  · exact entK_ok hF (by kernel_rfl) fl_of (ol_of (wf := fun i => i) hF hE) ml_of has19 r19
  · exact entK_ok hF (by kernel_rfl) fl_of (ol_of (wf := fun i => i) hF hE) ml_of has19 r28
  · exact entK_ok hF (by kernel_rfl) fl_of (ol_of (wf := fun i => i) hF hE) ml_of has19 r30
  · exact entK_ok hF (by kernel_rfl) fl_of (ol_of (wf := fun i => i) hF hE) ml_of has19 r41
  · exact entK_ok hF (by kernel_rfl) fl_of (ol_of (wf := fun i => i) hF hE) ml_of has19 r43
  · exact entK_ok hF (by kernel_rfl) fl_of (ol_of (wf := fun i => i) hF hE) ml_of has19 r56
  · exact entK_ok hF (by kernel_rfl) fl_of (ol_of (wf := fun i => i) hF hE) ml_of has19 r58
  · exact entK_ok hF (by kernel_rfl) fl_of (ol_of (wf := fun i => i) hF hE) ml_of has19 r73
  · exact entK_ok hF (by kernel_rfl) fl_of (ol_of (wf := fun i => i) hF hE) ml_of has19 r75
  · exact entK_ok hF (by kernel_rfl) fl_of (ol_of (wf := fun i => i) hF hE) ml_of has19 r92
  · exact entK_ok hF (by kernel_rfl) fl_of (ol_of (wf := fun i => i) hF hE) ml_of has19 r94
  · exact entK_ok hF (by kernel_rfl) fl_of (ol_of (wf := fun i => i) hF hE) ml_of has19 r113
  · exact entK_ok hF (by kernel_rfl) fl_of (ol_of (wf := fun i => i) hF hE) ml_of has19 r115
  · exact entK_ok hF (by kernel_rfl) fl_of (ol_of (wf := fun i => i) hF hE) ml_of has19 r136
  · exact entK_ok hF (by kernel_rfl) fl_of (ol_of (wf := fun i => i) hF hE) ml_of has19 r138
noncomputable def ml2 : List (Nat × (Orc → Orc)) := [(95, gIns), (264, gIns), (14, gMemo tab14), (16, gMemo tab16), (19, gMemo tab19)]
theorem ml2_of {E : Env} (hE : ∀ i, E.letter i = 97 + E.arg i % 26) : ∀ p ∈ ml2, MixOk Tryz.prog E p := mixs_cons m95 (mixs_cons m264 (mixs_cons (memo_ok has14 (tab14_of hE)) (mixs_cons (memo_ok has16 (tab16_of hE)) (mixs_cons (memo_ok has19 (tab19_of hE)) (mixs_nil)))))
end TopUndo
end Go.Proofs.YtfgmmabggjjhgaaGreatDoor.Ev
