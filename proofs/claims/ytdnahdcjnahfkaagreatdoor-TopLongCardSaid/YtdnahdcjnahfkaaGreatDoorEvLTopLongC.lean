/- The cases of TopLong, as they are run. -/
import Derived.Test.YtdnahdcjnahfkaaGreatDoorEvMB
import Derived.Test.YtdnahdcjnahfkaaGreatDoorPthB
import Derived.Test.YtdnahdcjnahfkaaGreatDoorChecked
import Derived.Test.YtdnahdcjnahfkaaGreatDoorEvCu
namespace Go.Proofs.YtdnahdcjnahfkaaGreatDoor.Ev
open Go Go.Proofs
theorem o137 {E : Env} {F : Facts} : FnRel Tryz.prog E F 137 (.orc (gTypeOf 200 7)) := typeOf_orc Tryz.func137 (by kernel_rfl) (by kernel_rfl) (by kernel_rfl) (by kernel_rfl) (fun t v w => by kernel_rfl) (by decide)
theorem o406 {E : Env} {F : Facts} : FnRel Tryz.prog E F 406 (.orc (gCmp 4456455)) := cmp_orc (e := Extern.ReflectliteType.method fun t => do Extern.Rtype.noPackHeld "Comparable" t; pure (.bool (← typeInfo t).comparable)) Tryz.func406 (by kernel_rfl) (by kernel_rfl) (by kernel_rfl) (by kernel_rfl) (fun w => by kernel_rfl)
theorem o236 {E : Env} {F : Facts} (hF : F.Of E) : FnRel Tryz.prog E F 236 (.orc (gIndexByte F)) := indexByte_orc hF Tryz.func236 (by kernel_rfl) (by kernel_rfl) (by kernel_rfl) (by kernel_rfl)
theorem o239 {E : Env} {F : Facts} (hF : F.Of E) : FnRel Tryz.prog E F 239 (.orc (gCount F)) := count_orc hF Tryz.func239 (by kernel_rfl) (by kernel_rfl) (by kernel_rfl) (by kernel_rfl)
theorem o362 {E : Env} {F : Facts} : FnRel Tryz.prog E F 362 (.orc gSame) := same_orc Tryz.func362 (by kernel_rfl) (by kernel_rfl) (by kernel_rfl) (by kernel_rfl)
theorem o378 {E : Env} {F : Facts} : FnRel Tryz.prog E F 378 (.orc (gNoz 5)) := noz_orc (ps := Tryz.f378.params) (t := 44) Tryz.func378 (by kernel_rfl) (by kernel_rfl) (by kernel_rfl) (by kernel_rfl) Tryz.underlying44
theorem sz78 : (Tryz.prog.info? 62).map (·.size) = some 3 := by kernel_rfl
theorem o78 {E : Env} {F : Facts} : FnRel Tryz.prog E F 78 (.orc gOverlaps) := by
  obtain ⟨it, hi, hs⟩ := Option.map_eq_some_iff.1 sz78
  exact overlaps_orc (tS := 23) (tR := 4) (el := 62) (size := it.size) Tryz.func78 (by kernel_rfl) (by kernel_rfl) (by kernel_rfl) (by kernel_rfl) Tryz.underlying23 (run_sizeOf hi)
theorem sz263 : (Tryz.prog.info? 190).map (·.size) = some 2 := by kernel_rfl
theorem o263 {E : Env} {F : Facts} : FnRel Tryz.prog E F 263 (.orc gOverlaps) := by
  obtain ⟨it, hi, hs⟩ := Option.map_eq_some_iff.1 sz263
  exact overlaps_orc (tS := 26) (tR := 4) (el := 190) (size := it.size) Tryz.func263 (by kernel_rfl) (by kernel_rfl) (by kernel_rfl) (by kernel_rfl) Tryz.underlying26 (run_sizeOf hi)
theorem sz287 : (Tryz.prog.info? 229).map (·.size) = some 6 := by kernel_rfl
theorem o287 {E : Env} {F : Facts} : FnRel Tryz.prog E F 287 (.orc gOverlaps) := by
  obtain ⟨it, hi, hs⟩ := Option.map_eq_some_iff.1 sz287
  exact overlaps_orc (tS := 25) (tR := 4) (el := 229) (size := it.size) Tryz.func287 (by kernel_rfl) (by kernel_rfl) (by kernel_rfl) (by kernel_rfl) Tryz.underlying25 (run_sizeOf hi)
theorem sz310 : (Tryz.prog.info? 195).map (·.size) = some 4 := by kernel_rfl
theorem o310 {E : Env} {F : Facts} : FnRel Tryz.prog E F 310 (.orc gOverlaps) := by
  obtain ⟨it, hi, hs⟩ := Option.map_eq_some_iff.1 sz310
  exact overlaps_orc (tS := 32) (tR := 4) (el := 195) (size := it.size) Tryz.func310 (by kernel_rfl) (by kernel_rfl) (by kernel_rfl) (by kernel_rfl) Tryz.underlying32 (run_sizeOf hi)
theorem m40 {E : Env} : MixOk Tryz.prog E (40, gIns) := fun run h => gIns_ok ⟨_, Tryz.func40, by kernel_rfl, by kernel_rfl⟩ run h
theorem m197 {E : Env} : MixOk Tryz.prog E (197, gIns) := fun run h => gIns_ok ⟨_, Tryz.func197, by kernel_rfl, by kernel_rfl⟩ run h
theorem m249 {E : Env} : MixOk Tryz.prog E (249, gIns) := fun run h => gIns_ok ⟨_, Tryz.func249, by kernel_rfl, by kernel_rfl⟩ run h
theorem m267 {E : Env} : MixOk Tryz.prog E (267, gIns) := fun run h => gIns_ok ⟨_, Tryz.func267, by kernel_rfl, by kernel_rfl⟩ run h
theorem o147 {E : Env} {F : Facts} : FnRel Tryz.prog E F 147 (.orc gDecInt) := decInt_orc
theorem o148 {E : Env} {F : Facts} : FnRel Tryz.prog E F 148 (.orc gDecText) := decText_orc
theorem o130 {E : Env} {F : Facts} : FnRel Tryz.prog E F 130 (.orc (gEnc numsK)) := encInt_orc
theorem o131 {E : Env} {F : Facts} : FnRel Tryz.prog E F 131 (.orc gEncTexts) := encTexts_orc
theorem o150 {E : Env} {F : Facts} : FnRel Tryz.prog E F 150 (.orc gTexts) := texts_orc
/-- The letters go by the arguments. -/
def envOf (l : List Nat) (h : ∀ x ∈ l, x ≤ 255) : Env where
  letter i := 97 + l.getD i 0 % 26
  lo i := by omega
  hi i := by have := Nat.mod_lt (l.getD i 0) (show 0 < 26 by omega); omega
  arg i := l.getD i 0
  arghi i := by
    rw [List.getD_eq_getElem?_getD]
    cases e : l[i]? with
    | none => simp
    | some x => exact h x (List.mem_of_getElem? e)
/-- Both letters are one. -/
def envSame (a b : Nat) (ha : a ≤ 255) (hb : b ≤ 255) : Env where
  letter _ := 97 + a % 26
  lo _ := by omega
  hi _ := by have := Nat.mod_lt a (show 0 < 26 by omega); omega
  arg i := if i = 1 then b else a
  arghi i := by split <;> assumption
theorem envSame_letter {a b : Nat} {ha : a ≤ 255} {hb : b ≤ 255} (h : a % 26 = b % 26) (i : Nat) : (envSame a b ha hb).letter 0 = 97 + (envSame a b ha hb).arg i % 26 := by
  show 97 + a % 26 = 97 + (if i = 1 then b else a) % 26
  split <;> omega
theorem envOf_apart {a b : Nat} {h : ∀ x ∈ [a, b], x ≤ 255} (hne : a % 26 ≠ b % 26) : ∀ i j, i < 2 → j < 2 → i ≠ j → (envOf [a, b] h).letter i ≠ (envOf [a, b] h).letter j := by
  have k0 : (envOf [a, b] h).letter 0 = 97 + a % 26 := rfl
  have k1 : (envOf [a, b] h).letter 1 = 97 + b % 26 := rfl
  intro i j hi hj hij
  have hi : i = 0 ∨ i = 1 := by omega
  have hj : j = 0 ∨ j = 1 := by omega
  rcases hi with rfl | rfl <;> rcases hj with rfl | rfl <;> first | exact absurd rfl hij | (rw [k0, k1]; omega)
end Go.Proofs.YtdnahdcjnahfkaaGreatDoor.Ev
namespace Go.Proofs.YtdnahdcjnahfkaaGreatDoor.Ev
open Go Go.Proofs
namespace Known
noncomputable def fl : List FnD := [⟨4, Tryz.f4, []⟩,
  ⟨5, Tryz.f5, []⟩,
  ⟨6, Tryz.f6, []⟩,
  ⟨7, Tryz.f7, []⟩,
  ⟨8, Tryz.f8, []⟩,
  ⟨9, Tryz.f9, []⟩,
  ⟨10, Tryz.f10, [(5, [0, 1, 2, 3, 6, 7, 8, 9, 4, 5, 10, 11])]⟩,
  ⟨11, Tryz.f11, []⟩,
  ⟨12, Tryz.f12, [(6, [1, 2, 4, 0, 3, 5, 6, 7, 8])]⟩,
  ⟨13, Tryz.f13, []⟩,
  ⟨14, Tryz.f14, []⟩,
  ⟨15, Tryz.f15, []⟩,
  ⟨16, Tryz.f16, []⟩,
  ⟨17, Tryz.f17, []⟩,
  ⟨18, Tryz.f18, []⟩,
  ⟨19, Tryz.f19, []⟩,
  ⟨20, Tryz.f20, []⟩,
  ⟨21, Tryz.f21, []⟩,
  ⟨24, Tryz.f24, [(3, [0, 2, 4, 8, 1, 3, 5, 6, 7])]⟩,
  ⟨25, Tryz.f25, []⟩,
  ⟨26, Tryz.f26, []⟩,
  ⟨27, Tryz.f27, []⟩,
  ⟨28, Tryz.f28, []⟩,
  ⟨29, Tryz.f29, []⟩,
  ⟨30, Tryz.f30, []⟩,
  ⟨31, Tryz.f31, []⟩,
  ⟨32, Tryz.f32, []⟩,
  ⟨33, Tryz.f33, []⟩,
  ⟨34, Tryz.f34, []⟩,
  ⟨35, Tryz.f35, []⟩,
  ⟨36, Tryz.f36, []⟩,
  ⟨37, Tryz.f37, []⟩,
  ⟨38, Tryz.f38, []⟩,
  ⟨39, Tryz.f39, []⟩,
  ⟨40, Tryz.f40, []⟩,
  ⟨41, Tryz.f41, []⟩,
  ⟨42, Tryz.f42, []⟩,
  ⟨43, Tryz.f43, []⟩,
  ⟨46, Tryz.f46, []⟩,
  ⟨47, Tryz.f47, []⟩,
  ⟨48, Tryz.f48, []⟩,
  ⟨49, Tryz.f49, []⟩,
  ⟨50, Tryz.f50, []⟩,
  ⟨52, Tryz.f52, []⟩,
  ⟨58, Tryz.f58, []⟩,
  ⟨59, Tryz.f59, []⟩,
  ⟨60, Tryz.f60, []⟩,
  ⟨61, Tryz.f61, []⟩,
  ⟨62, Tryz.f62, []⟩,
  ⟨63, Tryz.f63, []⟩,
  ⟨64, Tryz.f64, []⟩,
  ⟨69, Tryz.f69, []⟩,
  ⟨70, Tryz.f70, []⟩,
  ⟨71, Tryz.f71, []⟩,
  ⟨72, Tryz.f72, []⟩,
  ⟨73, Tryz.f73, []⟩,
  ⟨74, Tryz.f74, []⟩,
  ⟨75, Tryz.f75, [(4, [0, 2, 1, 3, 4, 5, 6])]⟩,
  ⟨76, Tryz.f76, []⟩,
  ⟨77, Tryz.f77, []⟩,
  ⟨80, Tryz.f80, []⟩,
  ⟨81, Tryz.f81, []⟩,
  ⟨82, Tryz.f82, []⟩,
  ⟨83, Tryz.f83, []⟩,
  ⟨93, Tryz.f93, []⟩,
  ⟨94, Tryz.f94, []⟩,
  ⟨98, Tryz.f98, []⟩,
  ⟨99, Tryz.f99, []⟩,
  ⟨100, Tryz.f100, []⟩,
  ⟨102, Tryz.f102, []⟩,
  ⟨103, Tryz.f103, []⟩,
  ⟨104, Tryz.f104, []⟩,
  ⟨105, Tryz.f105, []⟩,
  ⟨106, Tryz.f106, []⟩,
  ⟨107, Tryz.f107, [(9, [0, 1, 2, 3, 5, 4, 6, 7, 8])]⟩,
  ⟨110, Tryz.f110, []⟩,
  ⟨112, Tryz.f112, []⟩,
  ⟨116, Tryz.f116, []⟩,
  ⟨118, Tryz.f118, []⟩,
  ⟨122, Tryz.f122, [(18, [0, 1, 2, 3, 4, 7, 8, 5, 6, 9, 10, 11, 12, 13, 14, 15, 16, 17])]⟩,
  ⟨126, Tryz.f126, []⟩,
  ⟨127, Tryz.f127, []⟩,
  ⟨128, Tryz.f128, []⟩,
  ⟨129, Tryz.f129, []⟩,
  ⟨132, Tryz.f132, []⟩,
  ⟨133, Tryz.f133, []⟩,
  ⟨134, Tryz.f134, []⟩,
  ⟨135, Tryz.f135, []⟩,
  ⟨136, Tryz.f136, []⟩,
  ⟨140, Tryz.f140, []⟩,
  ⟨142, Tryz.f142, [(1, [0, 2, 1, 3, 4, 5, 6]), (3, [0, 2, 1, 3, 4, 5, 6, 7]), (5, [0, 1, 3, 4, 2, 5, 6, 7, 8, 9])]⟩,
  ⟨143, Tryz.f143, []⟩,
  ⟨144, Tryz.f144, [(0, [0, 1, 2, 4, 6, 7, 8, 9, 11, 12, 13, 14, 3, 5, 10, 15, 16, 17, 18, 19, 20])]⟩,
  ⟨145, Tryz.f145, []⟩,
  ⟨146, Tryz.f146, []⟩,
  ⟨149, Tryz.f149, []⟩,
  ⟨151, Tryz.f151, []⟩,
  ⟨152, Tryz.f152, []⟩,
  ⟨153, Tryz.f153, []⟩,
  ⟨155, Tryz.f155, []⟩,
  ⟨160, Tryz.f160, []⟩,
  ⟨161, Tryz.f161, []⟩,
  ⟨168, Tryz.f168, []⟩,
  ⟨172, Tryz.f172, []⟩,
  ⟨173, Tryz.f173, []⟩,
  ⟨174, Tryz.f174, []⟩,
  ⟨175, Tryz.f175, []⟩,
  ⟨176, Tryz.f176, []⟩,
  ⟨177, Tryz.f177, []⟩,
  ⟨178, Tryz.f178, []⟩,
  ⟨179, Tryz.f179, []⟩,
  ⟨180, Tryz.f180, []⟩,
  ⟨181, Tryz.f181, []⟩,
  ⟨182, Tryz.f182, []⟩,
  ⟨183, Tryz.f183, []⟩,
  ⟨184, Tryz.f184, []⟩,
  ⟨185, Tryz.f185, [(1, [0, 1, 3, 4, 5, 6, 7, 8, 2, 9, 10, 11, 12])]⟩,
  ⟨186, Tryz.f186, []⟩,
  ⟨187, Tryz.f187, []⟩,
  ⟨191, Tryz.f191, []⟩,
  ⟨194, Tryz.f194, []⟩,
  ⟨195, Tryz.f195, []⟩,
  ⟨197, Tryz.f197, []⟩,
  ⟨199, Tryz.f199, []⟩,
  ⟨200, Tryz.f200, [(1, [0, 2, 3, 4, 5, 6, 7, 8, 1, 9, 10, 11, 12, 13, 14, 15, 16])]⟩,
  ⟨201, Tryz.f201, []⟩,
  ⟨202, Tryz.f202, []⟩,
  ⟨203, Tryz.f203, []⟩,
  ⟨209, Tryz.f209, []⟩,
  ⟨210, Tryz.f210, []⟩,
  ⟨211, Tryz.f211, []⟩,
  ⟨215, Tryz.f215, []⟩,
  ⟨218, Tryz.f218, []⟩,
  ⟨219, Tryz.f219, []⟩,
  ⟨220, Tryz.f220, []⟩,
  ⟨222, Tryz.f222, []⟩,
  ⟨223, Tryz.f223, [(0, [0, 1, 2, 3, 4, 5, 7, 8, 9, 10, 6, 11, 12, 13, 14, 15, 16])]⟩,
  ⟨224, Tryz.f224, [(1, [0, 1, 2, 3, 5, 6, 7, 8, 4, 9, 10, 11])]⟩,
  ⟨225, Tryz.f225, [(1, [0, 1, 2, 3, 5, 6, 7, 8, 10, 11, 12, 13, 15, 17, 19, 20, 21, 22, 24, 25, 26, 27, 29, 31, 33, 4, 9, 14, 16, 18, 23, 28, 30, 32, 34, 35, 36])]⟩,
  ⟨227, Tryz.f227, []⟩,
  ⟨228, Tryz.f228, []⟩,
  ⟨229, Tryz.f229, [(0, [0, 1, 2, 3, 4, 6, 7, 8, 9, 11, 12, 13, 14, 5, 10, 15, 16, 17, 18, 19])]⟩,
  ⟨230, Tryz.f230, []⟩,
  ⟨231, Tryz.f231, []⟩,
  ⟨245, Tryz.f245, []⟩,
  ⟨246, Tryz.f246, []⟩,
  ⟨247, Tryz.f247, []⟩,
  ⟨248, Tryz.f248, [(1, [0, 1, 2, 3, 5, 6, 7, 8, 4, 9, 10, 11, 12])]⟩,
  ⟨249, Tryz.f249, []⟩,
  ⟨250, Tryz.f250, []⟩,
  ⟨251, Tryz.f251, []⟩,
  ⟨252, Tryz.f252, []⟩,
  ⟨253, Tryz.f253, []⟩,
  ⟨254, Tryz.f254, []⟩,
  ⟨255, Tryz.f255, []⟩,
  ⟨257, Tryz.f257, []⟩,
  ⟨259, Tryz.f259, [(22, [0, 1, 3, 4, 6, 7, 2, 5, 8, 9, 10, 11])]⟩,
  ⟨261, Tryz.f261, []⟩,
  ⟨262, Tryz.f262, []⟩,
  ⟨265, Tryz.f265, []⟩,
  ⟨272, Tryz.f272, []⟩,
  ⟨273, Tryz.f273, []⟩,
  ⟨274, Tryz.f274, []⟩,
  ⟨275, Tryz.f275, []⟩,
  ⟨278, Tryz.f278, [(0, [0, 1, 2, 3, 4, 6, 7, 8, 9, 11, 12, 13, 14, 16, 17, 18, 19, 21, 22, 23, 24, 26, 27, 28, 29, 5, 10, 15, 20, 25, 30, 31, 32, 33, 34])]⟩,
  ⟨279, Tryz.f279, []⟩,
  ⟨285, Tryz.f285, []⟩,
  ⟨286, Tryz.f286, []⟩,
  ⟨289, Tryz.f289, []⟩,
  ⟨299, Tryz.f299, []⟩,
  ⟨300, Tryz.f300, []⟩,
  ⟨302, Tryz.f302, []⟩,
  ⟨304, Tryz.f304, []⟩,
  ⟨307, Tryz.f307, []⟩,
  ⟨308, Tryz.f308, [(5, [0, 1, 3, 4, 5, 2, 6, 7])]⟩,
  ⟨309, Tryz.f309, []⟩,
  ⟨312, Tryz.f312, []⟩,
  ⟨315, Tryz.f315, []⟩,
  ⟨322, Tryz.f322, []⟩,
  ⟨324, Tryz.f324, []⟩,
  ⟨330, Tryz.f330, [(2, [0, 1, 3, 2, 4, 5, 6, 7, 8, 9, 10, 11, 12, 13, 15, 14, 16, 17, 18, 19])]⟩,
  ⟨331, Tryz.f331, []⟩,
  ⟨332, Tryz.f332, []⟩,
  ⟨342, Tryz.f342, []⟩]
theorem fl_of : ∀ d ∈ fl, d.Of Tryz.prog :=
  fns_cons Tryz.func4 (by kernel_rfl) (fns_cons Tryz.func5 (by kernel_rfl) (fns_cons Tryz.func6 (by kernel_rfl) (fns_cons Tryz.func7 (by kernel_rfl) (fns_cons Tryz.func8 (by kernel_rfl) (fns_cons Tryz.func9 (by kernel_rfl) (fns_cons Tryz.func10 (by kernel_rfl) (fns_cons Tryz.func11 (by kernel_rfl) (fns_cons Tryz.func12 (by kernel_rfl) (fns_cons Tryz.func13 (by kernel_rfl) (fns_cons Tryz.func14 (by kernel_rfl) (fns_cons Tryz.func15 (by kernel_rfl) (fns_cons Tryz.func16 (by kernel_rfl) (fns_cons Tryz.func17 (by kernel_rfl) (fns_cons Tryz.func18 (by kernel_rfl) (fns_cons Tryz.func19 (by kernel_rfl) (fns_cons Tryz.func20 (by kernel_rfl) (fns_cons Tryz.func21 (by kernel_rfl) (fns_cons Tryz.func24 (by kernel_rfl) (fns_cons Tryz.func25 (by kernel_rfl) (fns_cons Tryz.func26 (by kernel_rfl) (fns_cons Tryz.func27 (by kernel_rfl) (fns_cons Tryz.func28 (by kernel_rfl) (fns_cons Tryz.func29 (by kernel_rfl) (fns_cons Tryz.func30 (by kernel_rfl) (fns_cons Tryz.func31 (by kernel_rfl) (fns_cons Tryz.func32 (by kernel_rfl) (fns_cons Tryz.func33 (by kernel_rfl) (fns_cons Tryz.func34 (by kernel_rfl) (fns_cons Tryz.func35 (by kernel_rfl) (fns_cons Tryz.func36 (by kernel_rfl) (fns_cons Tryz.func37 (by kernel_rfl) (fns_cons Tryz.func38 (by kernel_rfl) (fns_cons Tryz.func39 (by kernel_rfl) (fns_cons Tryz.func40 (by kernel_rfl) (fns_cons Tryz.func41 (by kernel_rfl) (fns_cons Tryz.func42 (by kernel_rfl) (fns_cons Tryz.func43 (by kernel_rfl) (fns_cons Tryz.func46 (by kernel_rfl) (fns_cons Tryz.func47 (by kernel_rfl) (fns_cons Tryz.func48 (by kernel_rfl) (fns_cons Tryz.func49 (by kernel_rfl) (fns_cons Tryz.func50 (by kernel_rfl) (fns_cons Tryz.func52 (by kernel_rfl) (fns_cons Tryz.func58 (by kernel_rfl) (fns_cons Tryz.func59 (by kernel_rfl) (fns_cons Tryz.func60 (by kernel_rfl) (fns_cons Tryz.func61 (by kernel_rfl) (fns_cons Tryz.func62 (by kernel_rfl) (fns_cons Tryz.func63 (by kernel_rfl) (fns_cons Tryz.func64 (by kernel_rfl) (fns_cons Tryz.func69 (by kernel_rfl) (fns_cons Tryz.func70 (by kernel_rfl) (fns_cons Tryz.func71 (by kernel_rfl) (fns_cons Tryz.func72 (by kernel_rfl) (fns_cons Tryz.func73 (by kernel_rfl) (fns_cons Tryz.func74 (by kernel_rfl) (fns_cons Tryz.func75 (by kernel_rfl) (fns_cons Tryz.func76 (by kernel_rfl) (fns_cons Tryz.func77 (by kernel_rfl) (fns_cons Tryz.func80 (by kernel_rfl) (fns_cons Tryz.func81 (by kernel_rfl) (fns_cons Tryz.func82 (by kernel_rfl) (fns_cons Tryz.func83 (by kernel_rfl) (fns_cons Tryz.func93 (by kernel_rfl) (fns_cons Tryz.func94 (by kernel_rfl) (fns_cons Tryz.func98 (by kernel_rfl) (fns_cons Tryz.func99 (by kernel_rfl) (fns_cons Tryz.func100 (by kernel_rfl) (fns_cons Tryz.func102 (by kernel_rfl) (fns_cons Tryz.func103 (by kernel_rfl) (fns_cons Tryz.func104 (by kernel_rfl) (fns_cons Tryz.func105 (by kernel_rfl) (fns_cons Tryz.func106 (by kernel_rfl) (fns_cons Tryz.func107 (by kernel_rfl) (fns_cons Tryz.func110 (by kernel_rfl) (fns_cons Tryz.func112 (by kernel_rfl) (fns_cons Tryz.func116 (by kernel_rfl) (fns_cons Tryz.func118 (by kernel_rfl) (fns_cons Tryz.func122 (by kernel_rfl) (fns_cons Tryz.func126 (by kernel_rfl) (fns_cons Tryz.func127 (by kernel_rfl) (fns_cons Tryz.func128 (by kernel_rfl) (fns_cons Tryz.func129 (by kernel_rfl) (fns_cons Tryz.func132 (by kernel_rfl) (fns_cons Tryz.func133 (by kernel_rfl) (fns_cons Tryz.func134 (by kernel_rfl) (fns_cons Tryz.func135 (by kernel_rfl) (fns_cons Tryz.func136 (by kernel_rfl) (fns_cons Tryz.func140 (by kernel_rfl) (fns_cons Tryz.func142 (by kernel_rfl) (fns_cons Tryz.func143 (by kernel_rfl) (fns_cons Tryz.func144 (by kernel_rfl) (fns_cons Tryz.func145 (by kernel_rfl) (fns_cons Tryz.func146 (by kernel_rfl) (fns_cons Tryz.func149 (by kernel_rfl) (fns_cons Tryz.func151 (by kernel_rfl) (fns_cons Tryz.func152 (by kernel_rfl) (fns_cons Tryz.func153 (by kernel_rfl) (fns_cons Tryz.func155 (by kernel_rfl) (fns_cons Tryz.func160 (by kernel_rfl) (fns_cons Tryz.func161 (by kernel_rfl) (fns_cons Tryz.func168 (by kernel_rfl) (fns_cons Tryz.func172 (by kernel_rfl) (fns_cons Tryz.func173 (by kernel_rfl) (fns_cons Tryz.func174 (by kernel_rfl) (fns_cons Tryz.func175 (by kernel_rfl) (fns_cons Tryz.func176 (by kernel_rfl) (fns_cons Tryz.func177 (by kernel_rfl) (fns_cons Tryz.func178 (by kernel_rfl) (fns_cons Tryz.func179 (by kernel_rfl) (fns_cons Tryz.func180 (by kernel_rfl) (fns_cons Tryz.func181 (by kernel_rfl) (fns_cons Tryz.func182 (by kernel_rfl) (fns_cons Tryz.func183 (by kernel_rfl) (fns_cons Tryz.func184 (by kernel_rfl) (fns_cons Tryz.func185 (by kernel_rfl) (fns_cons Tryz.func186 (by kernel_rfl) (fns_cons Tryz.func187 (by kernel_rfl) (fns_cons Tryz.func191 (by kernel_rfl) (fns_cons Tryz.func194 (by kernel_rfl) (fns_cons Tryz.func195 (by kernel_rfl) (fns_cons Tryz.func197 (by kernel_rfl) (fns_cons Tryz.func199 (by kernel_rfl) (fns_cons Tryz.func200 (by kernel_rfl) (fns_cons Tryz.func201 (by kernel_rfl) (fns_cons Tryz.func202 (by kernel_rfl) (fns_cons Tryz.func203 (by kernel_rfl) (fns_cons Tryz.func209 (by kernel_rfl) (fns_cons Tryz.func210 (by kernel_rfl) (fns_cons Tryz.func211 (by kernel_rfl) (fns_cons Tryz.func215 (by kernel_rfl) (fns_cons Tryz.func218 (by kernel_rfl) (fns_cons Tryz.func219 (by kernel_rfl) (fns_cons Tryz.func220 (by kernel_rfl) (fns_cons Tryz.func222 (by kernel_rfl) (fns_cons Tryz.func223 (by kernel_rfl) (fns_cons Tryz.func224 (by kernel_rfl) (fns_cons Tryz.func225 (by kernel_rfl) (fns_cons Tryz.func227 (by kernel_rfl) (fns_cons Tryz.func228 (by kernel_rfl) (fns_cons Tryz.func229 (by kernel_rfl) (fns_cons Tryz.func230 (by kernel_rfl) (fns_cons Tryz.func231 (by kernel_rfl) (fns_cons Tryz.func245 (by kernel_rfl) (fns_cons Tryz.func246 (by kernel_rfl) (fns_cons Tryz.func247 (by kernel_rfl) (fns_cons Tryz.func248 (by kernel_rfl) (fns_cons Tryz.func249 (by kernel_rfl) (fns_cons Tryz.func250 (by kernel_rfl) (fns_cons Tryz.func251 (by kernel_rfl) (fns_cons Tryz.func252 (by kernel_rfl) (fns_cons Tryz.func253 (by kernel_rfl) (fns_cons Tryz.func254 (by kernel_rfl) (fns_cons Tryz.func255 (by kernel_rfl) (fns_cons Tryz.func257 (by kernel_rfl) (fns_cons Tryz.func259 (by kernel_rfl) (fns_cons Tryz.func261 (by kernel_rfl) (fns_cons Tryz.func262 (by kernel_rfl) (fns_cons Tryz.func265 (by kernel_rfl) (fns_cons Tryz.func272 (by kernel_rfl) (fns_cons Tryz.func273 (by kernel_rfl) (fns_cons Tryz.func274 (by kernel_rfl) (fns_cons Tryz.func275 (by kernel_rfl) (fns_cons Tryz.func278 (by kernel_rfl) (fns_cons Tryz.func279 (by kernel_rfl) (fns_cons Tryz.func285 (by kernel_rfl) (fns_cons Tryz.func286 (by kernel_rfl) (fns_cons Tryz.func289 (by kernel_rfl) (fns_cons Tryz.func299 (by kernel_rfl) (fns_cons Tryz.func300 (by kernel_rfl) (fns_cons Tryz.func302 (by kernel_rfl) (fns_cons Tryz.func304 (by kernel_rfl) (fns_cons Tryz.func307 (by kernel_rfl) (fns_cons Tryz.func308 (by kernel_rfl) (fns_cons Tryz.func309 (by kernel_rfl) (fns_cons Tryz.func312 (by kernel_rfl) (fns_cons Tryz.func315 (by kernel_rfl) (fns_cons Tryz.func322 (by kernel_rfl) (fns_cons Tryz.func324 (by kernel_rfl) (fns_cons Tryz.func330 (by kernel_rfl) (fns_cons Tryz.func331 (by kernel_rfl) (fns_cons Tryz.func332 (by kernel_rfl) (fns_cons Tryz.func342 (by kernel_rfl) (fns_nil))))))))))))))))))))))))))))))))))))))))))))))))))))))))))))))))))))))))))))))))))))))))))))))))))))))))))))))))))))))))))))))))))))))))))))))))))))))))))))))))))))))))))))))))))))))))
noncomputable def ol (F : Facts) (_ : Nat → Nat) : List (Nat × FnE) := [(78, .orc gOverlaps), (130, .orc (gEnc numsK)), (131, .orc gEncTexts), (147, .orc gDecInt), (148, .orc gDecText), (150, .orc gTexts), (169, .orc gPth), (236, .orc (gIndexByte F)), (239, .orc (gCount F)), (263, .orc gOverlaps), (287, .orc gOverlaps), (310, .orc gOverlaps)]
theorem ol_of {E : Env} {F : Facts} {wf : Nat → Nat} (hF : F.Of E) : ∀ p ∈ ol F wf, FnRel Tryz.prog E F p.1 p.2 :=
  orcs_cons (o78) (orcs_cons (o130) (orcs_cons (o131) (orcs_cons (o147) (orcs_cons (o148) (orcs_cons (o150) (orcs_cons (paths_orc) (orcs_cons (o236 hF) (orcs_cons (o239 hF) (orcs_cons (o263) (orcs_cons (o287) (orcs_cons (o310) (orcs_nil))))))))))))
noncomputable def ml : List (Nat × (Orc → Orc)) := [(40, gIns), (197, gIns), (249, gIns)]
theorem ml_of {E : Env} : ∀ p ∈ ml, MixOk Tryz.prog E p := mixs_cons m40 (mixs_cons m197 (mixs_cons m249 (mixs_nil)))
theorem run : runMK Tryz.prog ⟨[], false⟩ 5000 60 fl (ol ⟨[], false⟩ (fun i => i)) ml 4 [] .l 0 isTrue = true := by kernel_rfl
end Known
theorem known_has : FnHas Tryz.prog 4 := ⟨_, Tryz.func4, by kernel_rfl, by kernel_rfl⟩
/-- 'known' answers true, in any world. -/
theorem known_calls (w : World) : Calls Tryz.prog 4 #[] w (Ret fun v w' => v = .bool true ∧ Keeps w w') := by
  have hF : Facts.Of ⟨[], false⟩ (envOf [] (by simp)) := ⟨fun x hx => (by cases hx), fun h => (by cases h)⟩
  exact run_true hF (by kernel_rfl) Known.fl_of (Known.ol_of (wf := fun i => i) hF) Known.ml_of known_has Known.run (vs := []) VRs.nil w
end Go.Proofs.YtdnahdcjnahfkaaGreatDoor.Ev
namespace Go.Proofs.YtdnahdcjnahfkaaGreatDoor.Ev
open Go Go.Proofs
namespace TopLong
noncomputable def fl : List FnD := [⟨3, Tryz.f3, []⟩,
  ⟨5, Tryz.f5, []⟩,
  ⟨6, Tryz.f6, []⟩,
  ⟨7, Tryz.f7, []⟩,
  ⟨10, Tryz.f10, [(5, [0, 1, 2, 3, 6, 7, 8, 9, 4, 5, 10, 11])]⟩,
  ⟨11, Tryz.f11, []⟩,
  ⟨12, Tryz.f12, [(6, [1, 2, 4, 0, 3, 5, 6, 7, 8])]⟩,
  ⟨13, Tryz.f13, []⟩,
  ⟨14, Tryz.f14, []⟩,
  ⟨15, Tryz.f15, []⟩,
  ⟨16, Tryz.f16, []⟩,
  ⟨17, Tryz.f17, []⟩,
  ⟨18, Tryz.f18, []⟩,
  ⟨19, Tryz.f19, []⟩,
  ⟨20, Tryz.f20, []⟩,
  ⟨21, Tryz.f21, []⟩,
  ⟨24, Tryz.f24, [(3, [0, 2, 4, 8, 1, 3, 5, 6, 7])]⟩,
  ⟨25, Tryz.f25, []⟩,
  ⟨26, Tryz.f26, []⟩,
  ⟨27, Tryz.f27, []⟩,
  ⟨28, Tryz.f28, []⟩,
  ⟨29, Tryz.f29, []⟩,
  ⟨30, Tryz.f30, []⟩,
  ⟨31, Tryz.f31, []⟩,
  ⟨32, Tryz.f32, []⟩,
  ⟨33, Tryz.f33, []⟩,
  ⟨34, Tryz.f34, []⟩,
  ⟨35, Tryz.f35, []⟩,
  ⟨36, Tryz.f36, []⟩,
  ⟨37, Tryz.f37, []⟩,
  ⟨38, Tryz.f38, []⟩,
  ⟨39, Tryz.f39, []⟩,
  ⟨40, Tryz.f40, []⟩,
  ⟨41, Tryz.f41, []⟩,
  ⟨42, Tryz.f42, []⟩,
  ⟨43, Tryz.f43, []⟩,
  ⟨46, Tryz.f46, []⟩,
  ⟨47, Tryz.f47, []⟩,
  ⟨48, Tryz.f48, []⟩,
  ⟨49, Tryz.f49, []⟩,
  ⟨50, Tryz.f50, []⟩,
  ⟨56, Tryz.f56, []⟩,
  ⟨59, Tryz.f59, []⟩,
  ⟨60, Tryz.f60, []⟩,
  ⟨61, Tryz.f61, []⟩,
  ⟨62, Tryz.f62, []⟩,
  ⟨63, Tryz.f63, []⟩,
  ⟨64, Tryz.f64, []⟩,
  ⟨69, Tryz.f69, []⟩,
  ⟨70, Tryz.f70, []⟩,
  ⟨72, Tryz.f72, []⟩,
  ⟨73, Tryz.f73, []⟩,
  ⟨74, Tryz.f74, []⟩,
  ⟨75, Tryz.f75, [(4, [0, 2, 1, 3, 4, 5, 6])]⟩,
  ⟨76, Tryz.f76, []⟩,
  ⟨77, Tryz.f77, []⟩,
  ⟨80, Tryz.f80, []⟩,
  ⟨81, Tryz.f81, []⟩,
  ⟨96, Tryz.f96, []⟩,
  ⟨98, Tryz.f98, []⟩,
  ⟨99, Tryz.f99, []⟩,
  ⟨113, Tryz.f113, []⟩,
  ⟨114, Tryz.f114, []⟩,
  ⟨126, Tryz.f126, []⟩,
  ⟨127, Tryz.f127, []⟩,
  ⟨128, Tryz.f128, []⟩,
  ⟨129, Tryz.f129, []⟩,
  ⟨132, Tryz.f132, []⟩,
  ⟨133, Tryz.f133, []⟩,
  ⟨134, Tryz.f134, []⟩,
  ⟨135, Tryz.f135, []⟩,
  ⟨136, Tryz.f136, []⟩,
  ⟨140, Tryz.f140, []⟩,
  ⟨142, Tryz.f142, [(1, [0, 2, 1, 3, 4, 5, 6]), (3, [0, 2, 1, 3, 4, 5, 6, 7]), (5, [0, 1, 3, 4, 2, 5, 6, 7, 8, 9])]⟩,
  ⟨143, Tryz.f143, []⟩,
  ⟨145, Tryz.f145, []⟩,
  ⟨149, Tryz.f149, []⟩,
  ⟨151, Tryz.f151, []⟩,
  ⟨152, Tryz.f152, []⟩,
  ⟨153, Tryz.f153, []⟩,
  ⟨155, Tryz.f155, []⟩,
  ⟨160, Tryz.f160, []⟩,
  ⟨172, Tryz.f172, []⟩,
  ⟨173, Tryz.f173, []⟩,
  ⟨174, Tryz.f174, []⟩,
  ⟨176, Tryz.f176, []⟩,
  ⟨177, Tryz.f177, []⟩,
  ⟨178, Tryz.f178, []⟩,
  ⟨198, Tryz.f198, [(2, [0, 1, 2, 5, 6, 7, 8, 3, 4, 9, 10])]⟩,
  ⟨218, Tryz.f218, []⟩,
  ⟨219, Tryz.f219, []⟩,
  ⟨220, Tryz.f220, []⟩,
  ⟨222, Tryz.f222, []⟩,
  ⟨224, Tryz.f224, [(1, [0, 1, 2, 3, 5, 6, 7, 8, 4, 9, 10, 11])]⟩,
  ⟨225, Tryz.f225, [(1, [0, 1, 2, 3, 5, 6, 7, 8, 10, 11, 12, 13, 15, 17, 19, 20, 21, 22, 24, 25, 26, 27, 29, 31, 33, 4, 9, 14, 16, 18, 23, 28, 30, 32, 34, 35, 36])]⟩,
  ⟨227, Tryz.f227, []⟩,
  ⟨228, Tryz.f228, []⟩,
  ⟨229, Tryz.f229, [(0, [0, 1, 2, 3, 4, 6, 7, 8, 9, 11, 12, 13, 14, 5, 10, 15, 16, 17, 18, 19])]⟩,
  ⟨245, Tryz.f245, []⟩,
  ⟨246, Tryz.f246, []⟩,
  ⟨247, Tryz.f247, []⟩,
  ⟨249, Tryz.f249, []⟩,
  ⟨278, Tryz.f278, [(0, [0, 1, 2, 3, 4, 6, 7, 8, 9, 11, 12, 13, 14, 16, 17, 18, 19, 21, 22, 23, 24, 26, 27, 28, 29, 5, 10, 15, 20, 25, 30, 31, 32, 33, 34])]⟩,
  ⟨279, Tryz.f279, []⟩]
theorem fl_of : ∀ d ∈ fl, d.Of Tryz.prog :=
  fns_cons Tryz.func3 (by kernel_rfl) (fns_cons Tryz.func5 (by kernel_rfl) (fns_cons Tryz.func6 (by kernel_rfl) (fns_cons Tryz.func7 (by kernel_rfl) (fns_cons Tryz.func10 (by kernel_rfl) (fns_cons Tryz.func11 (by kernel_rfl) (fns_cons Tryz.func12 (by kernel_rfl) (fns_cons Tryz.func13 (by kernel_rfl) (fns_cons Tryz.func14 (by kernel_rfl) (fns_cons Tryz.func15 (by kernel_rfl) (fns_cons Tryz.func16 (by kernel_rfl) (fns_cons Tryz.func17 (by kernel_rfl) (fns_cons Tryz.func18 (by kernel_rfl) (fns_cons Tryz.func19 (by kernel_rfl) (fns_cons Tryz.func20 (by kernel_rfl) (fns_cons Tryz.func21 (by kernel_rfl) (fns_cons Tryz.func24 (by kernel_rfl) (fns_cons Tryz.func25 (by kernel_rfl) (fns_cons Tryz.func26 (by kernel_rfl) (fns_cons Tryz.func27 (by kernel_rfl) (fns_cons Tryz.func28 (by kernel_rfl) (fns_cons Tryz.func29 (by kernel_rfl) (fns_cons Tryz.func30 (by kernel_rfl) (fns_cons Tryz.func31 (by kernel_rfl) (fns_cons Tryz.func32 (by kernel_rfl) (fns_cons Tryz.func33 (by kernel_rfl) (fns_cons Tryz.func34 (by kernel_rfl) (fns_cons Tryz.func35 (by kernel_rfl) (fns_cons Tryz.func36 (by kernel_rfl) (fns_cons Tryz.func37 (by kernel_rfl) (fns_cons Tryz.func38 (by kernel_rfl) (fns_cons Tryz.func39 (by kernel_rfl) (fns_cons Tryz.func40 (by kernel_rfl) (fns_cons Tryz.func41 (by kernel_rfl) (fns_cons Tryz.func42 (by kernel_rfl) (fns_cons Tryz.func43 (by kernel_rfl) (fns_cons Tryz.func46 (by kernel_rfl) (fns_cons Tryz.func47 (by kernel_rfl) (fns_cons Tryz.func48 (by kernel_rfl) (fns_cons Tryz.func49 (by kernel_rfl) (fns_cons Tryz.func50 (by kernel_rfl) (fns_cons Tryz.func56 (by kernel_rfl) (fns_cons Tryz.func59 (by kernel_rfl) (fns_cons Tryz.func60 (by kernel_rfl) (fns_cons Tryz.func61 (by kernel_rfl) (fns_cons Tryz.func62 (by kernel_rfl) (fns_cons Tryz.func63 (by kernel_rfl) (fns_cons Tryz.func64 (by kernel_rfl) (fns_cons Tryz.func69 (by kernel_rfl) (fns_cons Tryz.func70 (by kernel_rfl) (fns_cons Tryz.func72 (by kernel_rfl) (fns_cons Tryz.func73 (by kernel_rfl) (fns_cons Tryz.func74 (by kernel_rfl) (fns_cons Tryz.func75 (by kernel_rfl) (fns_cons Tryz.func76 (by kernel_rfl) (fns_cons Tryz.func77 (by kernel_rfl) (fns_cons Tryz.func80 (by kernel_rfl) (fns_cons Tryz.func81 (by kernel_rfl) (fns_cons Tryz.func96 (by kernel_rfl) (fns_cons Tryz.func98 (by kernel_rfl) (fns_cons Tryz.func99 (by kernel_rfl) (fns_cons Tryz.func113 (by kernel_rfl) (fns_cons Tryz.func114 (by kernel_rfl) (fns_cons Tryz.func126 (by kernel_rfl) (fns_cons Tryz.func127 (by kernel_rfl) (fns_cons Tryz.func128 (by kernel_rfl) (fns_cons Tryz.func129 (by kernel_rfl) (fns_cons Tryz.func132 (by kernel_rfl) (fns_cons Tryz.func133 (by kernel_rfl) (fns_cons Tryz.func134 (by kernel_rfl) (fns_cons Tryz.func135 (by kernel_rfl) (fns_cons Tryz.func136 (by kernel_rfl) (fns_cons Tryz.func140 (by kernel_rfl) (fns_cons Tryz.func142 (by kernel_rfl) (fns_cons Tryz.func143 (by kernel_rfl) (fns_cons Tryz.func145 (by kernel_rfl) (fns_cons Tryz.func149 (by kernel_rfl) (fns_cons Tryz.func151 (by kernel_rfl) (fns_cons Tryz.func152 (by kernel_rfl) (fns_cons Tryz.func153 (by kernel_rfl) (fns_cons Tryz.func155 (by kernel_rfl) (fns_cons Tryz.func160 (by kernel_rfl) (fns_cons Tryz.func172 (by kernel_rfl) (fns_cons Tryz.func173 (by kernel_rfl) (fns_cons Tryz.func174 (by kernel_rfl) (fns_cons Tryz.func176 (by kernel_rfl) (fns_cons Tryz.func177 (by kernel_rfl) (fns_cons Tryz.func178 (by kernel_rfl) (fns_cons Tryz.func198 (by kernel_rfl) (fns_cons Tryz.func218 (by kernel_rfl) (fns_cons Tryz.func219 (by kernel_rfl) (fns_cons Tryz.func220 (by kernel_rfl) (fns_cons Tryz.func222 (by kernel_rfl) (fns_cons Tryz.func224 (by kernel_rfl) (fns_cons Tryz.func225 (by kernel_rfl) (fns_cons Tryz.func227 (by kernel_rfl) (fns_cons Tryz.func228 (by kernel_rfl) (fns_cons Tryz.func229 (by kernel_rfl) (fns_cons Tryz.func245 (by kernel_rfl) (fns_cons Tryz.func246 (by kernel_rfl) (fns_cons Tryz.func247 (by kernel_rfl) (fns_cons Tryz.func249 (by kernel_rfl) (fns_cons Tryz.func278 (by kernel_rfl) (fns_cons Tryz.func279 (by kernel_rfl) (fns_nil))))))))))))))))))))))))))))))))))))))))))))))))))))))))))))))))))))))))))))))))))))))))))))))))))))))))
noncomputable def ol (F : Facts) (_ : Nat → Nat) : List (Nat × FnE) := [(4, .orc gTrue), (78, .orc gOverlaps), (130, .orc (gEnc numsK)), (131, .orc gEncTexts), (147, .orc gDecInt), (148, .orc gDecText), (150, .orc gTexts), (169, .orc gPth), (236, .orc (gIndexByte F)), (239, .orc (gCount F)), (263, .orc gOverlaps), (287, .orc gOverlaps), (310, .orc gOverlaps)]
theorem ol_of {E : Env} {F : Facts} {wf : Nat → Nat} (hF : F.Of E) : ∀ p ∈ ol F wf, FnRel Tryz.prog E F p.1 p.2 :=
  orcs_cons (true_orc known_has known_calls) (orcs_cons (o78) (orcs_cons (o130) (orcs_cons (o131) (orcs_cons (o147) (orcs_cons (o148) (orcs_cons (o150) (orcs_cons (paths_orc) (orcs_cons (o236 hF) (orcs_cons (o239 hF) (orcs_cons (o263) (orcs_cons (o287) (orcs_cons (o310) (orcs_nil)))))))))))))
noncomputable def ml : List (Nat × (Orc → Orc)) := [(40, gIns), (249, gIns)]
theorem ml_of {E : Env} : ∀ p ∈ ml, MixOk Tryz.prog E p := mixs_cons m40 (mixs_cons m249 (mixs_nil))
theorem has3 : FnHas Tryz.prog 3 := ⟨_, Tryz.func3, by kernel_rfl, by kernel_rfl⟩
theorem has7 : FnHas Tryz.prog 7 := ⟨_, Tryz.func7, by kernel_rfl, by kernel_rfl⟩
theorem has6 : FnHas Tryz.prog 6 := ⟨_, Tryz.func6, by kernel_rfl, by kernel_rfl⟩
theorem has11 : FnHas Tryz.prog 11 := ⟨_, Tryz.func11, by kernel_rfl, by kernel_rfl⟩
theorem has24 : FnHas Tryz.prog 24 := ⟨_, Tryz.func24, by kernel_rfl, by kernel_rfl⟩
theorem has29 : FnHas Tryz.prog 29 := ⟨_, Tryz.func29, by kernel_rfl, by kernel_rfl⟩
theorem has114 : FnHas Tryz.prog 114 := ⟨_, Tryz.func114, by kernel_rfl, by kernel_rfl⟩
end TopLong
end Go.Proofs.YtdnahdcjnahfkaaGreatDoor.Ev
namespace Go.Proofs.YtdnahdcjnahfkaaGreatDoor.Ev
open Go Go.Proofs
namespace TopLong
noncomputable def nth (l : List AV) : Nat → AV := @List.rec AV (fun _ => Nat → AV) (fun _ => .nili) (fun x _ ih i => @Nat.rec (fun _ => AV) x (fun j _ => ih j) i) l
noncomputable def drp (l : List AV) : Nat → List AV := @List.rec AV (fun _ => Nat → List AV) (fun _ => []) (fun x r ih n => @Nat.rec (fun _ => List AV) (x :: r) (fun m _ => ih m) n) l
noncomputable def tak (l : List AV) : Nat → List AV := @List.rec AV (fun _ => Nat → List AV) (fun _ => []) (fun x _ ih n => @Nat.rec (fun _ => List AV) [] (fun m _ => x :: ih m) n) l
noncomputable def rev (l : List AV) : List AV → List AV := @List.rec AV (fun _ => List AV → List AV) (fun a => a) (fun x _ ih a => ih (x :: a)) l
noncomputable def rng (l : List AV) (a b : Nat) : List AV := tak (drp l a) (Nat.sub b a)
noncomputable def sl (q n es : Nat) (l : List AV) : AV := @List.rec AV (fun _ => AV) .nils (fun _ _ _ => .sl q 0 n n true es) l
noncomputable def one (l : List AV) : Nat := @List.rec AV (fun _ => Nat) 0 (fun _ _ _ => 1) l
noncomputable def len (l : List AV) : Nat := @List.rec AV (fun _ => Nat) 0 (fun _ _ n => Nat.succ n) l
noncomputable def con (l : List AV) (r : List (List AV)) : List (List AV) := @List.rec AV (fun _ => List (List AV)) r (fun _ _ _ => l :: r) l
noncomputable def iff {α : Type} (n : Nat) (a b : α) : α := @Nat.rec (fun _ => α) a (fun _ _ => b) n
noncomputable def da : List AV := [.str [48, 97], .str [48, 98], .str [48, 99], .str [48, 100], .str [48, 101], .str [48, 102], .str [48, 103], .str [48, 104], .str [48, 105], .str [48, 106], .str [48, 107], .str [48, 108], .str [48, 109], .str [48, 110], .str [48, 111], .str [48, 112], .str [48, 113], .str [48, 114], .str [48, 115], .str [48, 116], .str [48, 117], .str [48, 118], .str [48, 119], .str [48, 120], .str [48, 121], .str [48, 122], .str [49, 97], .str [49, 98], .str [49, 99], .str [49, 100], .str [49, 101], .str [49, 102], .str [49, 103], .str [49, 104], .str [49, 105], .str [49, 106], .str [49, 107], .str [49, 108], .str [49, 109], .str [49, 110], .str [49, 111], .str [49, 112], .str [49, 113], .str [49, 114], .str [49, 115], .str [49, 116], .str [49, 117], .str [49, 118], .str [49, 119], .str [49, 120], .str [49, 121], .str [49, 122], .str [50, 97], .str [50, 98], .str [50, 99], .str [50, 100], .str [50, 101], .str [50, 102], .str [50, 103], .str [50, 104], .str [50, 105], .str [50, 106], .str [50, 107], .str [50, 108], .str [50, 109], .str [50, 110], .str [50, 111], .str [50, 112], .str [50, 113], .str [50, 114], .str [50, 115], .str [50, 116], .str [50, 117], .str [50, 118], .str [50, 119], .str [50, 120], .str [50, 121], .str [50, 122], .str [51, 97], .str [51, 98]]
/-- What is kept ahead of each command; what there is behind it. -/
noncomputable def mk : List AV := [.str [2, 2, 102, 2, 4, 48, 97, 0, 0, 8, 109, 97, 105, 110, 0, 0, 0, 0, 0, 0, 0, 0, 0, 0, 0, 0, 0],
  .str [2, 2, 102, 2, 4, 48, 98, 2, 2, 102, 0, 2, 4, 48, 97, 0, 0, 0, 8, 109, 97, 105, 110, 0, 0, 0, 0, 0, 0, 0, 0, 0, 0, 0, 0, 0],
  .str [2, 2, 102, 2, 4, 48, 99, 2, 2, 102, 0, 2, 4, 48, 98, 0, 0, 0, 8, 109, 97, 105, 110, 0, 0, 0, 0, 0, 0, 0, 0, 0, 0, 0, 0, 0],
  .str [2, 2, 102, 2, 4, 48, 100, 2, 2, 102, 0, 2, 4, 48, 99, 0, 0, 0, 8, 109, 97, 105, 110, 0, 0, 0, 0, 0, 0, 0, 0, 0, 0, 0, 0, 0],
  .str [2, 2, 102, 2, 4, 48, 101, 2, 2, 102, 0, 2, 4, 48, 100, 0, 0, 0, 8, 109, 97, 105, 110, 0, 0, 0, 0, 0, 0, 0, 0, 0, 0, 0, 0, 0],
  .str [2, 2, 102, 2, 4, 48, 102, 2, 2, 102, 0, 2, 4, 48, 101, 0, 0, 0, 8, 109, 97, 105, 110, 0, 0, 0, 0, 0, 0, 0, 0, 0, 0, 0, 0, 0],
  .str [2, 2, 102, 2, 4, 48, 103, 2, 2, 102, 0, 2, 4, 48, 102, 0, 0, 0, 8, 109, 97, 105, 110, 0, 0, 0, 0, 0, 0, 0, 0, 0, 0, 0, 0, 0],
  .str [2, 2, 102, 2, 4, 48, 104, 2, 2, 102, 0, 2, 4, 48, 103, 0, 0, 0, 8, 109, 97, 105, 110, 0, 0, 0, 0, 0, 0, 0, 0, 0, 0, 0, 0, 0],
  .str [2, 2, 102, 2, 4, 48, 105, 2, 2, 102, 0, 2, 4, 48, 104, 0, 0, 0, 8, 109, 97, 105, 110, 0, 0, 0, 0, 0, 0, 0, 0, 0, 0, 0, 0, 0],
  .str [2, 2, 102, 2, 4, 48, 106, 2, 2, 102, 0, 2, 4, 48, 105, 0, 0, 0, 8, 109, 97, 105, 110, 0, 0, 0, 0, 0, 0, 0, 0, 0, 0, 0, 0, 0],
  .str [2, 2, 102, 2, 4, 48, 107, 2, 2, 102, 0, 2, 4, 48, 106, 0, 0, 0, 8, 109, 97, 105, 110, 0, 0, 0, 0, 0, 0, 0, 0, 0, 0, 0, 0, 0],
  .str [2, 2, 102, 2, 4, 48, 108, 2, 2, 102, 0, 2, 4, 48, 107, 0, 0, 0, 8, 109, 97, 105, 110, 0, 0, 0, 0, 0, 0, 0, 0, 0, 0, 0, 0, 0],
  .str [2, 2, 102, 2, 4, 48, 109, 2, 2, 102, 0, 2, 4, 48, 108, 0, 0, 0, 8, 109, 97, 105, 110, 0, 0, 0, 0, 0, 0, 0, 0, 0, 0, 0, 0, 0],
  .str [2, 2, 102, 2, 4, 48, 110, 2, 2, 102, 0, 2, 4, 48, 109, 0, 0, 0, 8, 109, 97, 105, 110, 0, 0, 0, 0, 0, 0, 0, 0, 0, 0, 0, 0, 0],
  .str [2, 2, 102, 2, 4, 48, 111, 2, 2, 102, 0, 2, 4, 48, 110, 0, 0, 0, 8, 109, 97, 105, 110, 0, 0, 0, 0, 0, 0, 0, 0, 0, 0, 0, 0, 0],
  .str [2, 2, 102, 2, 4, 48, 112, 2, 2, 102, 0, 2, 4, 48, 111, 0, 0, 0, 8, 109, 97, 105, 110, 0, 0, 0, 0, 0, 0, 0, 0, 0, 0, 0, 0, 0],
  .str [2, 2, 102, 2, 4, 48, 113, 2, 2, 102, 0, 2, 4, 48, 112, 0, 0, 0, 8, 109, 97, 105, 110, 0, 0, 0, 0, 0, 0, 0, 0, 0, 0, 0, 0, 0],
  .str [2, 2, 102, 2, 4, 48, 114, 2, 2, 102, 0, 2, 4, 48, 113, 0, 0, 0, 8, 109, 97, 105, 110, 0, 0, 0, 0, 0, 0, 0, 0, 0, 0, 0, 0, 0],
  .str [2, 2, 102, 2, 4, 48, 115, 2, 2, 102, 0, 2, 4, 48, 114, 0, 0, 0, 8, 109, 97, 105, 110, 0, 0, 0, 0, 0, 0, 0, 0, 0, 0, 0, 0, 0],
  .str [2, 2, 102, 2, 4, 48, 116, 2, 2, 102, 0, 2, 4, 48, 115, 0, 0, 0, 8, 109, 97, 105, 110, 0, 0, 0, 0, 0, 0, 0, 0, 0, 0, 0, 0, 0],
  .str [2, 2, 102, 2, 4, 48, 117, 2, 2, 102, 0, 2, 4, 48, 116, 0, 0, 0, 8, 109, 97, 105, 110, 0, 0, 0, 0, 0, 0, 0, 0, 0, 0, 0, 0, 0],
  .str [2, 2, 102, 2, 4, 48, 118, 2, 2, 102, 0, 2, 4, 48, 117, 0, 0, 0, 8, 109, 97, 105, 110, 0, 0, 0, 0, 0, 0, 0, 0, 0, 0, 0, 0, 0],
  .str [2, 2, 102, 2, 4, 48, 119, 2, 2, 102, 0, 2, 4, 48, 118, 0, 0, 0, 8, 109, 97, 105, 110, 0, 0, 0, 0, 0, 0, 0, 0, 0, 0, 0, 0, 0],
  .str [2, 2, 102, 2, 4, 48, 120, 2, 2, 102, 0, 2, 4, 48, 119, 0, 0, 0, 8, 109, 97, 105, 110, 0, 0, 0, 0, 0, 0, 0, 0, 0, 0, 0, 0, 0],
  .str [2, 2, 102, 2, 4, 48, 121, 2, 2, 102, 0, 2, 4, 48, 120, 0, 0, 0, 8, 109, 97, 105, 110, 0, 0, 0, 0, 0, 0, 0, 0, 0, 0, 0, 0, 0],
  .str [2, 2, 102, 2, 4, 48, 122, 2, 2, 102, 0, 2, 4, 48, 121, 0, 0, 0, 8, 109, 97, 105, 110, 0, 0, 0, 0, 0, 0, 0, 0, 0, 0, 0, 0, 0],
  .str [2, 2, 102, 2, 4, 49, 97, 2, 2, 102, 0, 2, 4, 48, 122, 0, 0, 0, 8, 109, 97, 105, 110, 0, 0, 0, 0, 0, 0, 0, 0, 0, 0, 0, 0, 0],
  .str [2, 2, 102, 2, 4, 49, 98, 2, 2, 102, 0, 2, 4, 49, 97, 0, 0, 0, 8, 109, 97, 105, 110, 0, 0, 0, 0, 0, 0, 0, 0, 0, 0, 0, 0, 0],
  .str [2, 2, 102, 2, 4, 49, 99, 2, 2, 102, 0, 2, 4, 49, 98, 0, 0, 0, 8, 109, 97, 105, 110, 0, 0, 0, 0, 0, 0, 0, 0, 0, 0, 0, 0, 0],
  .str [2, 2, 102, 2, 4, 49, 100, 2, 2, 102, 0, 2, 4, 49, 99, 0, 0, 0, 8, 109, 97, 105, 110, 0, 0, 0, 0, 0, 0, 0, 0, 0, 0, 0, 0, 0],
  .str [2, 2, 102, 2, 4, 49, 101, 2, 2, 102, 0, 2, 4, 49, 100, 0, 0, 0, 8, 109, 97, 105, 110, 0, 0, 0, 0, 0, 0, 0, 0, 0, 0, 0, 0, 0],
  .str [2, 2, 102, 2, 4, 49, 102, 2, 2, 102, 0, 2, 4, 49, 101, 0, 0, 0, 8, 109, 97, 105, 110, 0, 0, 0, 0, 0, 0, 0, 0, 0, 0, 0, 0, 0],
  .str [2, 2, 102, 2, 4, 49, 103, 2, 2, 102, 0, 2, 4, 49, 102, 0, 0, 0, 8, 109, 97, 105, 110, 0, 0, 0, 0, 0, 0, 0, 0, 0, 0, 0, 0, 0],
  .str [2, 2, 102, 2, 4, 49, 104, 2, 2, 102, 0, 2, 4, 49, 103, 0, 0, 0, 8, 109, 97, 105, 110, 0, 0, 0, 0, 0, 0, 0, 0, 0, 0, 0, 0, 0],
  .str [2, 2, 102, 2, 4, 49, 105, 2, 2, 102, 0, 2, 4, 49, 104, 0, 0, 0, 8, 109, 97, 105, 110, 0, 0, 0, 0, 0, 0, 0, 0, 0, 0, 0, 0, 0],
  .str [2, 2, 102, 2, 4, 49, 106, 2, 2, 102, 0, 2, 4, 49, 105, 0, 0, 0, 8, 109, 97, 105, 110, 0, 0, 0, 0, 0, 0, 0, 0, 0, 0, 0, 0, 0],
  .str [2, 2, 102, 2, 4, 49, 107, 2, 2, 102, 0, 2, 4, 49, 106, 0, 0, 0, 8, 109, 97, 105, 110, 0, 0, 0, 0, 0, 0, 0, 0, 0, 0, 0, 0, 0],
  .str [2, 2, 102, 2, 4, 49, 108, 2, 2, 102, 0, 2, 4, 49, 107, 0, 0, 0, 8, 109, 97, 105, 110, 0, 0, 0, 0, 0, 0, 0, 0, 0, 0, 0, 0, 0],
  .str [2, 2, 102, 2, 4, 49, 109, 2, 2, 102, 0, 2, 4, 49, 108, 0, 0, 0, 8, 109, 97, 105, 110, 0, 0, 0, 0, 0, 0, 0, 0, 0, 0, 0, 0, 0],
  .str [2, 2, 102, 2, 4, 49, 110, 2, 2, 102, 0, 2, 4, 49, 109, 0, 0, 0, 8, 109, 97, 105, 110, 0, 0, 0, 0, 0, 0, 0, 0, 0, 0, 0, 0, 0],
  .str [2, 2, 102, 2, 4, 49, 111, 2, 2, 102, 0, 2, 4, 49, 110, 0, 0, 0, 8, 109, 97, 105, 110, 0, 0, 0, 0, 0, 0, 0, 0, 0, 0, 0, 0, 0],
  .str [2, 2, 102, 2, 4, 49, 112, 2, 2, 102, 0, 2, 4, 49, 111, 0, 0, 0, 8, 109, 97, 105, 110, 0, 0, 0, 0, 0, 0, 0, 0, 0, 0, 0, 0, 0],
  .str [2, 2, 102, 2, 4, 49, 113, 2, 2, 102, 0, 2, 4, 49, 112, 0, 0, 0, 8, 109, 97, 105, 110, 0, 0, 0, 0, 0, 0, 0, 0, 0, 0, 0, 0, 0],
  .str [2, 2, 102, 2, 4, 49, 114, 2, 2, 102, 0, 2, 4, 49, 113, 0, 0, 0, 8, 109, 97, 105, 110, 0, 0, 0, 0, 0, 0, 0, 0, 0, 0, 0, 0, 0],
  .str [2, 2, 102, 2, 4, 49, 115, 2, 2, 102, 0, 2, 4, 49, 114, 0, 0, 0, 8, 109, 97, 105, 110, 0, 0, 0, 0, 0, 0, 0, 0, 0, 0, 0, 0, 0],
  .str [2, 2, 102, 2, 4, 49, 116, 2, 2, 102, 0, 2, 4, 49, 115, 0, 0, 0, 8, 109, 97, 105, 110, 0, 0, 0, 0, 0, 0, 0, 0, 0, 0, 0, 0, 0],
  .str [2, 2, 102, 2, 4, 49, 117, 2, 2, 102, 0, 2, 4, 49, 116, 0, 0, 0, 8, 109, 97, 105, 110, 0, 0, 0, 0, 0, 0, 0, 0, 0, 0, 0, 0, 0],
  .str [2, 2, 102, 2, 4, 49, 118, 2, 2, 102, 0, 2, 4, 49, 117, 0, 0, 0, 8, 109, 97, 105, 110, 0, 0, 0, 0, 0, 0, 0, 0, 0, 0, 0, 0, 0],
  .str [2, 2, 102, 2, 4, 49, 119, 2, 2, 102, 0, 2, 4, 49, 118, 0, 0, 0, 8, 109, 97, 105, 110, 0, 0, 0, 0, 0, 0, 0, 0, 0, 0, 0, 0, 0],
  .str [2, 2, 102, 2, 4, 49, 120, 2, 2, 102, 0, 2, 4, 49, 119, 0, 0, 0, 8, 109, 97, 105, 110, 0, 0, 0, 0, 0, 0, 0, 0, 0, 0, 0, 0, 0],
  .str [2, 2, 102, 2, 4, 49, 121, 2, 2, 102, 0, 2, 4, 49, 120, 0, 0, 0, 8, 109, 97, 105, 110, 0, 0, 0, 0, 0, 0, 0, 0, 0, 0, 0, 0, 0],
  .str [2, 2, 102, 2, 4, 49, 122, 2, 2, 102, 0, 2, 4, 49, 121, 0, 0, 0, 8, 109, 97, 105, 110, 0, 0, 0, 0, 0, 0, 0, 0, 0, 0, 0, 0, 0],
  .str [2, 2, 102, 2, 4, 50, 97, 2, 2, 102, 0, 2, 4, 49, 122, 0, 0, 0, 8, 109, 97, 105, 110, 0, 0, 0, 0, 0, 0, 0, 0, 0, 0, 0, 0, 0],
  .str [2, 2, 102, 2, 4, 50, 98, 2, 2, 102, 0, 2, 4, 50, 97, 0, 0, 0, 8, 109, 97, 105, 110, 0, 0, 0, 0, 0, 0, 0, 0, 0, 0, 0, 0, 0],
  .str [2, 2, 102, 2, 4, 50, 99, 2, 2, 102, 0, 2, 4, 50, 98, 0, 0, 0, 8, 109, 97, 105, 110, 0, 0, 0, 0, 0, 0, 0, 0, 0, 0, 0, 0, 0],
  .str [2, 2, 102, 2, 4, 50, 100, 2, 2, 102, 0, 2, 4, 50, 99, 0, 0, 0, 8, 109, 97, 105, 110, 0, 0, 0, 0, 0, 0, 0, 0, 0, 0, 0, 0, 0],
  .str [2, 2, 102, 2, 4, 50, 101, 2, 2, 102, 0, 2, 4, 50, 100, 0, 0, 0, 8, 109, 97, 105, 110, 0, 0, 0, 0, 0, 0, 0, 0, 0, 0, 0, 0, 0],
  .str [2, 2, 102, 2, 4, 50, 102, 2, 2, 102, 0, 2, 4, 50, 101, 0, 0, 0, 8, 109, 97, 105, 110, 0, 0, 0, 0, 0, 0, 0, 0, 0, 0, 0, 0, 0],
  .str [2, 2, 102, 2, 4, 50, 103, 2, 2, 102, 0, 2, 4, 50, 102, 0, 0, 0, 8, 109, 97, 105, 110, 0, 0, 0, 0, 0, 0, 0, 0, 0, 0, 0, 0, 0],
  .str [2, 2, 102, 2, 4, 50, 104, 2, 2, 102, 0, 2, 4, 50, 103, 0, 0, 0, 8, 109, 97, 105, 110, 0, 0, 0, 0, 0, 0, 0, 0, 0, 0, 0, 0, 0],
  .str [2, 2, 102, 2, 4, 50, 105, 2, 2, 102, 0, 2, 4, 50, 104, 0, 0, 0, 8, 109, 97, 105, 110, 0, 0, 0, 0, 0, 0, 0, 0, 0, 0, 0, 0, 0],
  .str [2, 2, 102, 2, 4, 50, 106, 2, 2, 102, 0, 2, 4, 50, 105, 0, 0, 0, 8, 109, 97, 105, 110, 0, 0, 0, 0, 0, 0, 0, 0, 0, 0, 0, 0, 0],
  .str [2, 2, 102, 2, 4, 50, 107, 2, 2, 102, 0, 2, 4, 50, 106, 0, 0, 0, 8, 109, 97, 105, 110, 0, 0, 0, 0, 0, 0, 0, 0, 0, 0, 0, 0, 0],
  .str [2, 2, 102, 2, 4, 50, 108, 2, 2, 102, 0, 2, 4, 50, 107, 0, 0, 0, 8, 109, 97, 105, 110, 0, 0, 0, 0, 0, 0, 0, 0, 0, 0, 0, 0, 0],
  .str [2, 2, 102, 2, 4, 50, 109, 2, 2, 102, 0, 2, 4, 50, 108, 0, 0, 0, 8, 109, 97, 105, 110, 0, 0, 0, 0, 0, 0, 0, 0, 0, 0, 0, 0, 0],
  .str [2, 2, 102, 2, 4, 50, 110, 2, 2, 102, 0, 2, 4, 50, 109, 0, 0, 0, 8, 109, 97, 105, 110, 0, 0, 0, 0, 0, 0, 0, 0, 0, 0, 0, 0, 0],
  .str [2, 2, 102, 2, 4, 50, 111, 2, 2, 102, 0, 2, 4, 50, 110, 0, 0, 0, 8, 109, 97, 105, 110, 0, 0, 0, 0, 0, 0, 0, 0, 0, 0, 0, 0, 0],
  .str [2, 2, 102, 2, 4, 50, 112, 2, 2, 102, 0, 2, 4, 50, 111, 0, 0, 0, 8, 109, 97, 105, 110, 0, 0, 0, 0, 0, 0, 0, 0, 0, 0, 0, 0, 0],
  .str [2, 2, 102, 2, 4, 50, 113, 2, 2, 102, 0, 2, 4, 50, 112, 0, 0, 0, 8, 109, 97, 105, 110, 0, 0, 0, 0, 0, 0, 0, 0, 0, 0, 0, 0, 0],
  .str [2, 2, 102, 2, 4, 50, 114, 2, 2, 102, 0, 2, 4, 50, 113, 0, 0, 0, 8, 109, 97, 105, 110, 0, 0, 0, 0, 0, 0, 0, 0, 0, 0, 0, 0, 0],
  .str [2, 2, 102, 2, 4, 50, 115, 2, 2, 102, 0, 2, 4, 50, 114, 0, 0, 0, 8, 109, 97, 105, 110, 0, 0, 0, 0, 0, 0, 0, 0, 0, 0, 0, 0, 0],
  .str [2, 2, 102, 2, 4, 50, 116, 2, 2, 102, 0, 2, 4, 50, 115, 0, 0, 0, 8, 109, 97, 105, 110, 0, 0, 0, 0, 0, 0, 0, 0, 0, 0, 0, 0, 0],
  .str [2, 2, 102, 2, 4, 50, 117, 2, 2, 102, 0, 2, 4, 50, 116, 0, 0, 0, 8, 109, 97, 105, 110, 0, 0, 0, 0, 0, 0, 0, 0, 0, 0, 0, 0, 0],
  .str [2, 2, 102, 2, 4, 50, 118, 2, 2, 102, 0, 2, 4, 50, 117, 0, 0, 0, 8, 109, 97, 105, 110, 0, 0, 0, 0, 0, 0, 0, 0, 0, 0, 0, 0, 0],
  .str [2, 2, 102, 2, 4, 50, 119, 2, 2, 102, 0, 2, 4, 50, 118, 0, 0, 0, 8, 109, 97, 105, 110, 0, 0, 0, 0, 0, 0, 0, 0, 0, 0, 0, 0, 0],
  .str [2, 2, 102, 2, 4, 50, 120, 2, 2, 102, 0, 2, 4, 50, 119, 0, 0, 0, 8, 109, 97, 105, 110, 0, 0, 0, 0, 0, 0, 0, 0, 0, 0, 0, 0, 0],
  .str [2, 2, 102, 2, 4, 50, 121, 2, 2, 102, 0, 2, 4, 50, 120, 0, 0, 0, 8, 109, 97, 105, 110, 0, 0, 0, 0, 0, 0, 0, 0, 0, 0, 0, 0, 0],
  .str [2, 2, 102, 2, 4, 50, 122, 2, 2, 102, 0, 2, 4, 50, 121, 0, 0, 0, 8, 109, 97, 105, 110, 0, 0, 0, 0, 0, 0, 0, 0, 0, 0, 0, 0, 0],
  .str [2, 2, 102, 2, 4, 51, 97, 2, 2, 102, 0, 2, 4, 50, 122, 0, 0, 0, 8, 109, 97, 105, 110, 0, 0, 0, 0, 0, 0, 0, 0, 0, 0, 0, 0, 0],
  .str [2, 2, 102, 2, 4, 51, 98, 2, 2, 102, 0, 2, 4, 51, 97, 0, 0, 0, 8, 109, 97, 105, 110, 0, 0, 0, 0, 0, 0, 0, 0, 0, 0, 0, 0, 0]]
noncomputable def fu : List AV := [.str [2, 2, 102, 2, 4, 48, 97, 2, 2, 102, 0, 2, 4, 48, 97, 0, 0, 0, 8, 109, 97, 105, 110, 0, 0, 0, 0, 0, 0, 0, 0, 0, 0, 0, 0, 0],
  .str [2, 2, 102, 2, 4, 48, 98, 2, 2, 102, 0, 2, 4, 48, 98, 0, 0, 0, 8, 109, 97, 105, 110, 0, 0, 0, 0, 0, 0, 0, 0, 0, 0, 0, 0, 0],
  .str [2, 2, 102, 2, 4, 48, 99, 2, 2, 102, 0, 2, 4, 48, 99, 0, 0, 0, 8, 109, 97, 105, 110, 0, 0, 0, 0, 0, 0, 0, 0, 0, 0, 0, 0, 0],
  .str [2, 2, 102, 2, 4, 48, 100, 2, 2, 102, 0, 2, 4, 48, 100, 0, 0, 0, 8, 109, 97, 105, 110, 0, 0, 0, 0, 0, 0, 0, 0, 0, 0, 0, 0, 0],
  .str [2, 2, 102, 2, 4, 48, 101, 2, 2, 102, 0, 2, 4, 48, 101, 0, 0, 0, 8, 109, 97, 105, 110, 0, 0, 0, 0, 0, 0, 0, 0, 0, 0, 0, 0, 0],
  .str [2, 2, 102, 2, 4, 48, 102, 2, 2, 102, 0, 2, 4, 48, 102, 0, 0, 0, 8, 109, 97, 105, 110, 0, 0, 0, 0, 0, 0, 0, 0, 0, 0, 0, 0, 0],
  .str [2, 2, 102, 2, 4, 48, 103, 2, 2, 102, 0, 2, 4, 48, 103, 0, 0, 0, 8, 109, 97, 105, 110, 0, 0, 0, 0, 0, 0, 0, 0, 0, 0, 0, 0, 0],
  .str [2, 2, 102, 2, 4, 48, 104, 2, 2, 102, 0, 2, 4, 48, 104, 0, 0, 0, 8, 109, 97, 105, 110, 0, 0, 0, 0, 0, 0, 0, 0, 0, 0, 0, 0, 0],
  .str [2, 2, 102, 2, 4, 48, 105, 2, 2, 102, 0, 2, 4, 48, 105, 0, 0, 0, 8, 109, 97, 105, 110, 0, 0, 0, 0, 0, 0, 0, 0, 0, 0, 0, 0, 0],
  .str [2, 2, 102, 2, 4, 48, 106, 2, 2, 102, 0, 2, 4, 48, 106, 0, 0, 0, 8, 109, 97, 105, 110, 0, 0, 0, 0, 0, 0, 0, 0, 0, 0, 0, 0, 0],
  .str [2, 2, 102, 2, 4, 48, 107, 2, 2, 102, 0, 2, 4, 48, 107, 0, 0, 0, 8, 109, 97, 105, 110, 0, 0, 0, 0, 0, 0, 0, 0, 0, 0, 0, 0, 0],
  .str [2, 2, 102, 2, 4, 48, 108, 2, 2, 102, 0, 2, 4, 48, 108, 0, 0, 0, 8, 109, 97, 105, 110, 0, 0, 0, 0, 0, 0, 0, 0, 0, 0, 0, 0, 0],
  .str [2, 2, 102, 2, 4, 48, 109, 2, 2, 102, 0, 2, 4, 48, 109, 0, 0, 0, 8, 109, 97, 105, 110, 0, 0, 0, 0, 0, 0, 0, 0, 0, 0, 0, 0, 0],
  .str [2, 2, 102, 2, 4, 48, 110, 2, 2, 102, 0, 2, 4, 48, 110, 0, 0, 0, 8, 109, 97, 105, 110, 0, 0, 0, 0, 0, 0, 0, 0, 0, 0, 0, 0, 0],
  .str [2, 2, 102, 2, 4, 48, 111, 2, 2, 102, 0, 2, 4, 48, 111, 0, 0, 0, 8, 109, 97, 105, 110, 0, 0, 0, 0, 0, 0, 0, 0, 0, 0, 0, 0, 0],
  .str [2, 2, 102, 2, 4, 48, 112, 2, 2, 102, 0, 2, 4, 48, 112, 0, 0, 0, 8, 109, 97, 105, 110, 0, 0, 0, 0, 0, 0, 0, 0, 0, 0, 0, 0, 0],
  .str [2, 2, 102, 2, 4, 48, 113, 2, 2, 102, 0, 2, 4, 48, 113, 0, 0, 0, 8, 109, 97, 105, 110, 0, 0, 0, 0, 0, 0, 0, 0, 0, 0, 0, 0, 0],
  .str [2, 2, 102, 2, 4, 48, 114, 2, 2, 102, 0, 2, 4, 48, 114, 0, 0, 0, 8, 109, 97, 105, 110, 0, 0, 0, 0, 0, 0, 0, 0, 0, 0, 0, 0, 0],
  .str [2, 2, 102, 2, 4, 48, 115, 2, 2, 102, 0, 2, 4, 48, 115, 0, 0, 0, 8, 109, 97, 105, 110, 0, 0, 0, 0, 0, 0, 0, 0, 0, 0, 0, 0, 0],
  .str [2, 2, 102, 2, 4, 48, 116, 2, 2, 102, 0, 2, 4, 48, 116, 0, 0, 0, 8, 109, 97, 105, 110, 0, 0, 0, 0, 0, 0, 0, 0, 0, 0, 0, 0, 0],
  .str [2, 2, 102, 2, 4, 48, 117, 2, 2, 102, 0, 2, 4, 48, 117, 0, 0, 0, 8, 109, 97, 105, 110, 0, 0, 0, 0, 0, 0, 0, 0, 0, 0, 0, 0, 0],
  .str [2, 2, 102, 2, 4, 48, 118, 2, 2, 102, 0, 2, 4, 48, 118, 0, 0, 0, 8, 109, 97, 105, 110, 0, 0, 0, 0, 0, 0, 0, 0, 0, 0, 0, 0, 0],
  .str [2, 2, 102, 2, 4, 48, 119, 2, 2, 102, 0, 2, 4, 48, 119, 0, 0, 0, 8, 109, 97, 105, 110, 0, 0, 0, 0, 0, 0, 0, 0, 0, 0, 0, 0, 0],
  .str [2, 2, 102, 2, 4, 48, 120, 2, 2, 102, 0, 2, 4, 48, 120, 0, 0, 0, 8, 109, 97, 105, 110, 0, 0, 0, 0, 0, 0, 0, 0, 0, 0, 0, 0, 0],
  .str [2, 2, 102, 2, 4, 48, 121, 2, 2, 102, 0, 2, 4, 48, 121, 0, 0, 0, 8, 109, 97, 105, 110, 0, 0, 0, 0, 0, 0, 0, 0, 0, 0, 0, 0, 0],
  .str [2, 2, 102, 2, 4, 48, 122, 2, 2, 102, 0, 2, 4, 48, 122, 0, 0, 0, 8, 109, 97, 105, 110, 0, 0, 0, 0, 0, 0, 0, 0, 0, 0, 0, 0, 0],
  .str [2, 2, 102, 2, 4, 49, 97, 2, 2, 102, 0, 2, 4, 49, 97, 0, 0, 0, 8, 109, 97, 105, 110, 0, 0, 0, 0, 0, 0, 0, 0, 0, 0, 0, 0, 0],
  .str [2, 2, 102, 2, 4, 49, 98, 2, 2, 102, 0, 2, 4, 49, 98, 0, 0, 0, 8, 109, 97, 105, 110, 0, 0, 0, 0, 0, 0, 0, 0, 0, 0, 0, 0, 0],
  .str [2, 2, 102, 2, 4, 49, 99, 2, 2, 102, 0, 2, 4, 49, 99, 0, 0, 0, 8, 109, 97, 105, 110, 0, 0, 0, 0, 0, 0, 0, 0, 0, 0, 0, 0, 0],
  .str [2, 2, 102, 2, 4, 49, 100, 2, 2, 102, 0, 2, 4, 49, 100, 0, 0, 0, 8, 109, 97, 105, 110, 0, 0, 0, 0, 0, 0, 0, 0, 0, 0, 0, 0, 0],
  .str [2, 2, 102, 2, 4, 49, 101, 2, 2, 102, 0, 2, 4, 49, 101, 0, 0, 0, 8, 109, 97, 105, 110, 0, 0, 0, 0, 0, 0, 0, 0, 0, 0, 0, 0, 0],
  .str [2, 2, 102, 2, 4, 49, 102, 2, 2, 102, 0, 2, 4, 49, 102, 0, 0, 0, 8, 109, 97, 105, 110, 0, 0, 0, 0, 0, 0, 0, 0, 0, 0, 0, 0, 0],
  .str [2, 2, 102, 2, 4, 49, 103, 2, 2, 102, 0, 2, 4, 49, 103, 0, 0, 0, 8, 109, 97, 105, 110, 0, 0, 0, 0, 0, 0, 0, 0, 0, 0, 0, 0, 0],
  .str [2, 2, 102, 2, 4, 49, 104, 2, 2, 102, 0, 2, 4, 49, 104, 0, 0, 0, 8, 109, 97, 105, 110, 0, 0, 0, 0, 0, 0, 0, 0, 0, 0, 0, 0, 0],
  .str [2, 2, 102, 2, 4, 49, 105, 2, 2, 102, 0, 2, 4, 49, 105, 0, 0, 0, 8, 109, 97, 105, 110, 0, 0, 0, 0, 0, 0, 0, 0, 0, 0, 0, 0, 0],
  .str [2, 2, 102, 2, 4, 49, 106, 2, 2, 102, 0, 2, 4, 49, 106, 0, 0, 0, 8, 109, 97, 105, 110, 0, 0, 0, 0, 0, 0, 0, 0, 0, 0, 0, 0, 0],
  .str [2, 2, 102, 2, 4, 49, 107, 2, 2, 102, 0, 2, 4, 49, 107, 0, 0, 0, 8, 109, 97, 105, 110, 0, 0, 0, 0, 0, 0, 0, 0, 0, 0, 0, 0, 0],
  .str [2, 2, 102, 2, 4, 49, 108, 2, 2, 102, 0, 2, 4, 49, 108, 0, 0, 0, 8, 109, 97, 105, 110, 0, 0, 0, 0, 0, 0, 0, 0, 0, 0, 0, 0, 0],
  .str [2, 2, 102, 2, 4, 49, 109, 2, 2, 102, 0, 2, 4, 49, 109, 0, 0, 0, 8, 109, 97, 105, 110, 0, 0, 0, 0, 0, 0, 0, 0, 0, 0, 0, 0, 0],
  .str [2, 2, 102, 2, 4, 49, 110, 2, 2, 102, 0, 2, 4, 49, 110, 0, 0, 0, 8, 109, 97, 105, 110, 0, 0, 0, 0, 0, 0, 0, 0, 0, 0, 0, 0, 0],
  .str [2, 2, 102, 2, 4, 49, 111, 2, 2, 102, 0, 2, 4, 49, 111, 0, 0, 0, 8, 109, 97, 105, 110, 0, 0, 0, 0, 0, 0, 0, 0, 0, 0, 0, 0, 0],
  .str [2, 2, 102, 2, 4, 49, 112, 2, 2, 102, 0, 2, 4, 49, 112, 0, 0, 0, 8, 109, 97, 105, 110, 0, 0, 0, 0, 0, 0, 0, 0, 0, 0, 0, 0, 0],
  .str [2, 2, 102, 2, 4, 49, 113, 2, 2, 102, 0, 2, 4, 49, 113, 0, 0, 0, 8, 109, 97, 105, 110, 0, 0, 0, 0, 0, 0, 0, 0, 0, 0, 0, 0, 0],
  .str [2, 2, 102, 2, 4, 49, 114, 2, 2, 102, 0, 2, 4, 49, 114, 0, 0, 0, 8, 109, 97, 105, 110, 0, 0, 0, 0, 0, 0, 0, 0, 0, 0, 0, 0, 0],
  .str [2, 2, 102, 2, 4, 49, 115, 2, 2, 102, 0, 2, 4, 49, 115, 0, 0, 0, 8, 109, 97, 105, 110, 0, 0, 0, 0, 0, 0, 0, 0, 0, 0, 0, 0, 0],
  .str [2, 2, 102, 2, 4, 49, 116, 2, 2, 102, 0, 2, 4, 49, 116, 0, 0, 0, 8, 109, 97, 105, 110, 0, 0, 0, 0, 0, 0, 0, 0, 0, 0, 0, 0, 0],
  .str [2, 2, 102, 2, 4, 49, 117, 2, 2, 102, 0, 2, 4, 49, 117, 0, 0, 0, 8, 109, 97, 105, 110, 0, 0, 0, 0, 0, 0, 0, 0, 0, 0, 0, 0, 0],
  .str [2, 2, 102, 2, 4, 49, 118, 2, 2, 102, 0, 2, 4, 49, 118, 0, 0, 0, 8, 109, 97, 105, 110, 0, 0, 0, 0, 0, 0, 0, 0, 0, 0, 0, 0, 0],
  .str [2, 2, 102, 2, 4, 49, 119, 2, 2, 102, 0, 2, 4, 49, 119, 0, 0, 0, 8, 109, 97, 105, 110, 0, 0, 0, 0, 0, 0, 0, 0, 0, 0, 0, 0, 0],
  .str [2, 2, 102, 2, 4, 49, 120, 2, 2, 102, 0, 2, 4, 49, 120, 0, 0, 0, 8, 109, 97, 105, 110, 0, 0, 0, 0, 0, 0, 0, 0, 0, 0, 0, 0, 0],
  .str [2, 2, 102, 2, 4, 49, 121, 2, 2, 102, 0, 2, 4, 49, 121, 0, 0, 0, 8, 109, 97, 105, 110, 0, 0, 0, 0, 0, 0, 0, 0, 0, 0, 0, 0, 0],
  .str [2, 2, 102, 2, 4, 49, 122, 2, 2, 102, 0, 2, 4, 49, 122, 0, 0, 0, 8, 109, 97, 105, 110, 0, 0, 0, 0, 0, 0, 0, 0, 0, 0, 0, 0, 0],
  .str [2, 2, 102, 2, 4, 50, 97, 2, 2, 102, 0, 2, 4, 50, 97, 0, 0, 0, 8, 109, 97, 105, 110, 0, 0, 0, 0, 0, 0, 0, 0, 0, 0, 0, 0, 0],
  .str [2, 2, 102, 2, 4, 50, 98, 2, 2, 102, 0, 2, 4, 50, 98, 0, 0, 0, 8, 109, 97, 105, 110, 0, 0, 0, 0, 0, 0, 0, 0, 0, 0, 0, 0, 0],
  .str [2, 2, 102, 2, 4, 50, 99, 2, 2, 102, 0, 2, 4, 50, 99, 0, 0, 0, 8, 109, 97, 105, 110, 0, 0, 0, 0, 0, 0, 0, 0, 0, 0, 0, 0, 0],
  .str [2, 2, 102, 2, 4, 50, 100, 2, 2, 102, 0, 2, 4, 50, 100, 0, 0, 0, 8, 109, 97, 105, 110, 0, 0, 0, 0, 0, 0, 0, 0, 0, 0, 0, 0, 0],
  .str [2, 2, 102, 2, 4, 50, 101, 2, 2, 102, 0, 2, 4, 50, 101, 0, 0, 0, 8, 109, 97, 105, 110, 0, 0, 0, 0, 0, 0, 0, 0, 0, 0, 0, 0, 0],
  .str [2, 2, 102, 2, 4, 50, 102, 2, 2, 102, 0, 2, 4, 50, 102, 0, 0, 0, 8, 109, 97, 105, 110, 0, 0, 0, 0, 0, 0, 0, 0, 0, 0, 0, 0, 0],
  .str [2, 2, 102, 2, 4, 50, 103, 2, 2, 102, 0, 2, 4, 50, 103, 0, 0, 0, 8, 109, 97, 105, 110, 0, 0, 0, 0, 0, 0, 0, 0, 0, 0, 0, 0, 0],
  .str [2, 2, 102, 2, 4, 50, 104, 2, 2, 102, 0, 2, 4, 50, 104, 0, 0, 0, 8, 109, 97, 105, 110, 0, 0, 0, 0, 0, 0, 0, 0, 0, 0, 0, 0, 0],
  .str [2, 2, 102, 2, 4, 50, 105, 2, 2, 102, 0, 2, 4, 50, 105, 0, 0, 0, 8, 109, 97, 105, 110, 0, 0, 0, 0, 0, 0, 0, 0, 0, 0, 0, 0, 0],
  .str [2, 2, 102, 2, 4, 50, 106, 2, 2, 102, 0, 2, 4, 50, 106, 0, 0, 0, 8, 109, 97, 105, 110, 0, 0, 0, 0, 0, 0, 0, 0, 0, 0, 0, 0, 0],
  .str [2, 2, 102, 2, 4, 50, 107, 2, 2, 102, 0, 2, 4, 50, 107, 0, 0, 0, 8, 109, 97, 105, 110, 0, 0, 0, 0, 0, 0, 0, 0, 0, 0, 0, 0, 0],
  .str [2, 2, 102, 2, 4, 50, 108, 2, 2, 102, 0, 2, 4, 50, 108, 0, 0, 0, 8, 109, 97, 105, 110, 0, 0, 0, 0, 0, 0, 0, 0, 0, 0, 0, 0, 0],
  .str [2, 2, 102, 2, 4, 50, 109, 2, 2, 102, 0, 2, 4, 50, 109, 0, 0, 0, 8, 109, 97, 105, 110, 0, 0, 0, 0, 0, 0, 0, 0, 0, 0, 0, 0, 0],
  .str [2, 2, 102, 2, 4, 50, 110, 2, 2, 102, 0, 2, 4, 50, 110, 0, 0, 0, 8, 109, 97, 105, 110, 0, 0, 0, 0, 0, 0, 0, 0, 0, 0, 0, 0, 0],
  .str [2, 2, 102, 2, 4, 50, 111, 2, 2, 102, 0, 2, 4, 50, 111, 0, 0, 0, 8, 109, 97, 105, 110, 0, 0, 0, 0, 0, 0, 0, 0, 0, 0, 0, 0, 0],
  .str [2, 2, 102, 2, 4, 50, 112, 2, 2, 102, 0, 2, 4, 50, 112, 0, 0, 0, 8, 109, 97, 105, 110, 0, 0, 0, 0, 0, 0, 0, 0, 0, 0, 0, 0, 0],
  .str [2, 2, 102, 2, 4, 50, 113, 2, 2, 102, 0, 2, 4, 50, 113, 0, 0, 0, 8, 109, 97, 105, 110, 0, 0, 0, 0, 0, 0, 0, 0, 0, 0, 0, 0, 0],
  .str [2, 2, 102, 2, 4, 50, 114, 2, 2, 102, 0, 2, 4, 50, 114, 0, 0, 0, 8, 109, 97, 105, 110, 0, 0, 0, 0, 0, 0, 0, 0, 0, 0, 0, 0, 0],
  .str [2, 2, 102, 2, 4, 50, 115, 2, 2, 102, 0, 2, 4, 50, 115, 0, 0, 0, 8, 109, 97, 105, 110, 0, 0, 0, 0, 0, 0, 0, 0, 0, 0, 0, 0, 0],
  .str [2, 2, 102, 2, 4, 50, 116, 2, 2, 102, 0, 2, 4, 50, 116, 0, 0, 0, 8, 109, 97, 105, 110, 0, 0, 0, 0, 0, 0, 0, 0, 0, 0, 0, 0, 0],
  .str [2, 2, 102, 2, 4, 50, 117, 2, 2, 102, 0, 2, 4, 50, 117, 0, 0, 0, 8, 109, 97, 105, 110, 0, 0, 0, 0, 0, 0, 0, 0, 0, 0, 0, 0, 0],
  .str [2, 2, 102, 2, 4, 50, 118, 2, 2, 102, 0, 2, 4, 50, 118, 0, 0, 0, 8, 109, 97, 105, 110, 0, 0, 0, 0, 0, 0, 0, 0, 0, 0, 0, 0, 0],
  .str [2, 2, 102, 2, 4, 50, 119, 2, 2, 102, 0, 2, 4, 50, 119, 0, 0, 0, 8, 109, 97, 105, 110, 0, 0, 0, 0, 0, 0, 0, 0, 0, 0, 0, 0, 0],
  .str [2, 2, 102, 2, 4, 50, 120, 2, 2, 102, 0, 2, 4, 50, 120, 0, 0, 0, 8, 109, 97, 105, 110, 0, 0, 0, 0, 0, 0, 0, 0, 0, 0, 0, 0, 0],
  .str [2, 2, 102, 2, 4, 50, 121, 2, 2, 102, 0, 2, 4, 50, 121, 0, 0, 0, 8, 109, 97, 105, 110, 0, 0, 0, 0, 0, 0, 0, 0, 0, 0, 0, 0, 0],
  .str [2, 2, 102, 2, 4, 50, 122, 2, 2, 102, 0, 2, 4, 50, 122, 0, 0, 0, 8, 109, 97, 105, 110, 0, 0, 0, 0, 0, 0, 0, 0, 0, 0, 0, 0, 0],
  .str [2, 2, 102, 2, 4, 51, 97, 2, 2, 102, 0, 2, 4, 51, 97, 0, 0, 0, 8, 109, 97, 105, 110, 0, 0, 0, 0, 0, 0, 0, 0, 0, 0, 0, 0, 0],
  .str [2, 2, 102, 2, 4, 51, 98, 2, 2, 102, 0, 2, 4, 51, 98, 0, 0, 0, 8, 109, 97, 105, 110, 0, 0, 0, 0, 0, 0, 0, 0, 0, 0, 0, 0, 0]]
noncomputable def wk (i : Nat) : List AV := [.str [102], .int .i64 1, nth da i]
noncomputable def ix (i : Nat) : List AV := [.str [102], .int .i64 0, .int .i64 1, nth da i, .int .i64 0, .int .i64 0]
/-- Behind so many commands. -/
noncomputable def wkK (k : Nat) : List AV := iff k [] (wk (Nat.pred k))
noncomputable def ixK (k : Nat) : List AV := iff k [] (ix (Nat.pred k))
noncomputable def now (q : Nat) (w i : List AV) (l : List AV) : AV := .agg (sl q 1 3 w :: sl (Nat.add q (one w)) 1 6 i :: .nils :: .str [109, 97, 105, 110] :: .int .i64 0 :: .str [] :: .int .i64 0 :: .str [] :: .nils :: .nils :: .int .i64 0 :: .str [] :: .str [] :: .int .i64 0 :: .nils :: .nils :: .nils :: l)
noncomputable def st (q : Nat) (w i b f : List AV) : AV := now q w i [.nils, sl (Nat.add q (Nat.add (one w) (one i))) (len b) 1 b, sl (Nat.add q (Nat.add (one w) (Nat.add (one i) (one b)))) (len f) 1 f, .int .i64 0]
noncomputable def bl (w i b f : List AV) : List (List AV) := con w (con i (con b (con f [])))
noncomputable def cnt (w i b f : List AV) : Nat := Nat.add (one w) (Nat.add (one i) (Nat.add (one b) (one f)))
noncomputable def back (k : Nat) : List AV := rng mk (Nat.sub k 64) k
noncomputable def wrE (i : Nat) : Ent := ⟨[st 0 (wkK i) (ixK i) (back i) [], .str [102], nth da i], bl (wkK i) (ixK i) (back i) [], st (cnt (wkK i) (ixK i) (back i) []) (wk i) (ixK i) (back i) [], bl (wk i) (ixK i) (back i) []⟩
noncomputable def addE (i : Nat) : Ent := ⟨[st 0 (wk i) (ixK i) (back i) [], .str [97, 100, 100]], bl (wk i) (ixK i) (back i) [], .tup [st (cnt (wk i) (ixK i) (back i) []) (wk i) (ix i) (back (Nat.succ i)) [], .nili], bl (wk i) (ix i) (back (Nat.succ i)) []⟩
/-- k commands, of which j are undone. -/
noncomputable def wU (k j : Nat) : List AV := iff j (wkK k) (wk (Nat.sub k j))
noncomputable def iU (k j : Nat) : List AV := iff j (ixK k) (ixK (Nat.sub k j))
noncomputable def bU (k j : Nat) : List AV := rng mk (Nat.sub k 64) (Nat.sub k j)
noncomputable def fU (k j : Nat) : List AV := iff j [] (nth fu (Nat.pred k) :: rev (rng mk (Nat.succ (Nat.sub k j)) k) [])
noncomputable def undoE (k j : Nat) : Ent :=
  @List.rec AV (fun _ => Ent) ⟨[st 0 (wU k j) (iU k j) (bU k j) (fU k j), .str [117, 110, 100, 111]], bl (wU k j) (iU k j) (bU k j) (fU k j), .tup [st (cnt (wU k j) (iU k j) (bU k j) (fU k j)) (wU k j) (iU k j) (bU k j) (fU k j), .ifc 70 (.ptr (Nat.mul 2 (cnt (wU k j) (iU k j) (bU k j) (fU k j))) 0)], bl (wU k j) (iU k j) (bU k j) (fU k j) ++ [[.str [100, 111], .int .i64 18, .ifc 68 (.int .i64 10)]]⟩
    (fun _ _ _ => ⟨[st 0 (wU k j) (iU k j) (bU k j) (fU k j), .str [117, 110, 100, 111]], bl (wU k j) (iU k j) (bU k j) (fU k j), .tup [st (cnt (wU k j) (iU k j) (bU k j) (fU k j)) (wU k (Nat.succ j)) (iU k (Nat.succ j)) (bU k (Nat.succ j)) (fU k (Nat.succ j)), .nili], bl (wU k (Nat.succ j)) (iU k (Nat.succ j)) (bU k (Nat.succ j)) (fU k (Nat.succ j))⟩) (bU k j)
/-- A text of what there is: behind k commands, j of them undone. -/
noncomputable def txt (k j : Nat) : AV := iff j (nth fu (Nat.pred k)) (nth mk (Nat.sub k j))
noncomputable def markE (k j : Nat) : Ent := ⟨[now 0 (wU k j) (iU k j) []], bl (wU k j) (iU k j) [] [], txt k j, []⟩
noncomputable def fulM (i : Nat) : Ent := markE (Nat.succ i) 0
noncomputable def midM (i : Nat) : Ent := markE (Nat.succ i) 1
noncomputable def unmE (i : Nat) : Ent := ⟨[nth mk i], [], .tup [now 0 (wk i) (ixK i) [], .nili], bl (wk i) (ixK i) [] []⟩
noncomputable def p0 : Ent := ⟨[.str [97, 100, 100]], [], .tup [.agg [.str [97, 100, 100], .str [], .int .i64 0, .str [], .bool false, .nils], .nili], []⟩
noncomputable def p1 : Ent := ⟨[.str [117, 110, 100, 111]], [], .tup [.agg [.str [117, 110, 100, 111], .str [], .int .i64 0, .str [], .bool false, .nils], .nili], []⟩
noncomputable def p2 : Ent := ⟨[.agg [.str [97, 100, 100], .str [], .int .i64 0, .str [], .bool false, .nils]], [], .nili, []⟩
noncomputable def p3 : Ent := ⟨[.agg [.str [117, 110, 100, 111], .str [], .int .i64 0, .str [], .bool false, .nils]], [], .nili, []⟩
noncomputable def parseT : List Ent := [p0, p1]
noncomputable def chkT : List Ent := [p2, p3]
noncomputable def tm (k j : Nat) : Ent := iff j (fulM (Nat.mod (Nat.pred k) 80)) (midM (Nat.mod (Nat.sub k j) 80))
noncomputable def tu (k j : Nat) : Ent := unmE (Nat.mod (Nat.sub (Nat.pred k) j) 80)
end TopLong
namespace TopLong
/-- A file's letters, as a number. -/
noncomputable def keyD (s : List Nat) (k : Nat → Bool) : Bool := @List.rec Nat (fun _ => Bool) (k 0) (fun a r _ => @List.rec Nat (fun _ => Bool) (k 0) (fun b _ _ => forceN (Nat.add (Nat.mul (Nat.sub a 48) 26) (Nat.sub b 97)) k) r) s
noncomputable def dropN (n : Nat) (s : List Nat) : List Nat := @Nat.rec (fun _ => List Nat → List Nat) (fun s => s) (fun _ ih s => @List.rec Nat (fun _ => List Nat) [] (fun _ r _ => ih r) s) n s
/-- By the file in the folder; by the file that a text tells. -/
noncomputable def keyM : List AV → T Blk → (Nat → Bool) → Bool := fun xs h k => @List.rec AV (fun _ => Bool) false (fun x _ _ => aggK x fun l => slK (nth l 0) (fun i o _ _ _ _ => blkK h i fun _ t => forceN (Nat.add o 2) fun p => getK (fun v => strK v fun s => keyD s k) t p) (k 0) (k 0)) xs
noncomputable def keyU : List AV → T Blk → (Nat → Bool) → Bool := fun xs _ k => @List.rec AV (fun _ => Bool) false (fun x _ _ => strK x fun s => keyD (dropN 5 s) k) xs
noncomputable def gM (w i : Nat) : Ent := iff i (midM (Nat.mod w 80)) (fulM (Nat.mod w 80))
noncomputable def gU (w _ : Nat) : Ent := unmE (Nat.mod w 80)
noncomputable def mn (k : Nat) : Nat := Nat.sub k (Nat.sub k 64)
/-- All that is known of the small functions. -/
noncomputable def withK (ft : T FnE) (k : T FnE → Bool) : Bool := tabK gM (fun _ => 2) 80 fun tm => tabK gU (fun _ => 1) 80 fun tu => mixK ((29, gAtH keyM tm) :: (114, gAtH keyU tu) :: (11, gMemo parseT) :: (24, gMemo chkT) :: ml) ft k
noncomputable def undosK (ft : T FnE) (k : Nat) (b : Bool) : Bool := forceN (mn k) fun n => upK (fun j b => nrmE (undoE k j) fun e => entFt ⟨[], false⟩ 5000 60 ft 7 e b) b (Nat.succ n) 0
noncomputable def roundsK (k n : Nat) : Bool := onceK Tryz.prog fl (ol ⟨[], false⟩ fun i => i) fun ft => withK ft fun ft => upK (undosK ft) true n k
noncomputable def addsK (k n : Nat) : Bool := onceK Tryz.prog fl (ol ⟨[], false⟩ fun i => i) fun ft => withK ft fun ft => upK (fun i b => nrmE (addE i) fun e => entFt ⟨[], false⟩ 5000 60 ft 7 e b) (upK (fun i b => nrmE (wrE i) fun e => entFt ⟨[], false⟩ 5000 60 ft 6 e b) true n k) n k
end TopLong
end Go.Proofs.YtdnahdcjnahfkaaGreatDoor.Ev
namespace Go.Proofs.YtdnahdcjnahfkaaGreatDoor.Ev
open Go Go.Proofs
namespace TopLong
/-- What is known of the arguments: the rest of each. -/
noncomputable def FC : Facts := ⟨[(0, 80, 0), (1, 80, 1), (2, 80, 2), (3, 80, 3), (4, 80, 4), (5, 80, 5), (6, 80, 6), (7, 80, 7), (8, 80, 8), (9, 80, 9), (10, 80, 10), (11, 80, 11), (12, 80, 12), (13, 80, 13), (14, 80, 14), (15, 80, 15), (16, 80, 16), (17, 80, 17), (18, 80, 18), (19, 80, 19), (20, 80, 20), (21, 80, 21), (22, 80, 22), (23, 80, 23), (24, 80, 24), (25, 80, 25), (26, 80, 26), (27, 80, 27), (28, 80, 28), (29, 80, 29), (30, 80, 30), (31, 80, 31), (32, 80, 32), (33, 80, 33), (34, 80, 34), (35, 80, 35), (36, 80, 36), (37, 80, 37), (38, 80, 38), (39, 80, 39), (40, 80, 40), (41, 80, 41), (42, 80, 42), (43, 80, 43), (44, 80, 44), (45, 80, 45), (46, 80, 46), (47, 80, 47), (48, 80, 48), (49, 80, 49), (50, 80, 50), (51, 80, 51), (52, 80, 52), (53, 80, 53), (54, 80, 54), (55, 80, 55), (56, 80, 56), (57, 80, 57), (58, 80, 58), (59, 80, 59), (60, 80, 60), (61, 80, 61), (62, 80, 62), (63, 80, 63), (64, 80, 64), (65, 80, 65), (66, 80, 66), (67, 80, 67), (68, 80, 68), (69, 80, 69), (70, 80, 70), (71, 80, 71), (72, 80, 72), (73, 80, 73), (74, 80, 74), (75, 80, 75), (76, 80, 76), (77, 80, 77), (78, 80, 78), (79, 80, 79)], false⟩
/-- How many were done, by the state that is handed. -/
noncomputable def keyB : List AV → (Nat → Bool) → Bool := fun xs k => @List.rec AV (fun _ => Bool) false (fun x _ _ => aggK x fun l => slK (nth l 18) (fun _ _ n _ _ _ => k n) (k 0) false) xs
noncomputable def cW (k b : Nat) : Nat := iff (Nat.sub 64 b) (Nat.sub k 64) (iff (Nat.sub k b) 0 1)
noncomputable def cS (k b : Nat) : Nat := Nat.succ (cW k b)
noncomputable def gW (b i : Nat) : Ent := wrE (Nat.mod (Nat.add b i) 80)
noncomputable def gS (k b i : Nat) : Ent := iff i (undoE k (Nat.sub (mn k) b)) (addE (Nat.mod (Nat.add b (Nat.pred i)) 80))
noncomputable def caseE (k : Nat) : Ent := ⟨[.opq .u8 k], [], .bool true, []⟩
noncomputable def caseK (ft : T FnE) (k : Nat) (b : Bool) : Bool :=
  forceN (Nat.succ (mn k)) fun n => tabK (gS k) (cS k) n fun ts => tabK gW (cW k) n fun tw => mixK ((7, gAt keyB ts) :: (6, gAt keyB tw) :: ml) ft fun ft => nrmE (caseE k) fun e => entFt FC 5000 60 ft 3 e b
noncomputable def casesK (k n : Nat) : Bool := onceK Tryz.prog fl (ol FC fun i => i) fun ft => upK (caseK ft) true n k
end TopLong
end Go.Proofs.YtdnahdcjnahfkaaGreatDoor.Ev
