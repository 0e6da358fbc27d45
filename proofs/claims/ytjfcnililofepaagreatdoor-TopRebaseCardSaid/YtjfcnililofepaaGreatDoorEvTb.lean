/- The contracts that the runs take: what the model holds of functions without a text, files.Paths, slices.Insert. Names the program's functions by their numbers. -/
import Derived.Test.YtjfcnililofepaaGreatDoorEvGI
import Derived.Test.YtjfcnililofepaaGreatDoorEvGE
import Derived.Test.YtjfcnililofepaaGreatDoorEvGW
import Derived.Test.YtjfcnililofepaaGreatDoorPthB
import Derived.Test.YtjfcnililofepaaGreatDoorChecked
namespace Go.Proofs.YtjfcnililofepaaGreatDoor.Ev
open Go Go.Proofs
theorem o40 {E : Env} {F : Facts} : FnRel Tryz.prog E F 40 (.orc (gTypeOf 132 7)) := typeOf_orc Tryz.func40 (by kernel_rfl) (by kernel_rfl) (by kernel_rfl) (by kernel_rfl) (fun t v w => by kernel_rfl) (by decide)
theorem o424 {E : Env} {F : Facts} : FnRel Tryz.prog E F 424 (.orc (gCmp 4456455)) := cmp_orc (e := Extern.ReflectliteType.method fun t => do Extern.Rtype.noPackHeld "Comparable" t; pure (.bool (← typeInfo t).comparable)) Tryz.func424 (by kernel_rfl) (by kernel_rfl) (by kernel_rfl) (by kernel_rfl) (fun w => by kernel_rfl)
theorem o295 {E : Env} {F : Facts} (hF : F.Of E) : FnRel Tryz.prog E F 295 (.orc (gIndexByte F)) := indexByte_orc hF Tryz.func295 (by kernel_rfl) (by kernel_rfl) (by kernel_rfl) (by kernel_rfl)
theorem o298 {E : Env} {F : Facts} (hF : F.Of E) : FnRel Tryz.prog E F 298 (.orc (gCount F)) := count_orc hF Tryz.func298 (by kernel_rfl) (by kernel_rfl) (by kernel_rfl) (by kernel_rfl)
theorem sz151 : (Tryz.prog.info? 75).map (·.size) = some 3 := by kernel_rfl
theorem o151 {E : Env} {F : Facts} : FnRel Tryz.prog E F 151 (.orc gOverlaps) := by
  obtain ⟨it, hi, hs⟩ := Option.map_eq_some_iff.1 sz151
  exact overlaps_orc (tS := 23) (tR := 4) (el := 75) (size := it.size) Tryz.func151 (by kernel_rfl) (by kernel_rfl) (by kernel_rfl) (by kernel_rfl) Tryz.underlying23 (run_sizeOf hi)
theorem sz279 : (Tryz.prog.info? 50).map (·.size) = some 2 := by kernel_rfl
theorem o279 {E : Env} {F : Facts} : FnRel Tryz.prog E F 279 (.orc gOverlaps) := by
  obtain ⟨it, hi, hs⟩ := Option.map_eq_some_iff.1 sz279
  exact overlaps_orc (tS := 26) (tR := 4) (el := 50) (size := it.size) Tryz.func279 (by kernel_rfl) (by kernel_rfl) (by kernel_rfl) (by kernel_rfl) Tryz.underlying26 (run_sizeOf hi)
theorem sz308 : (Tryz.prog.info? 53).map (·.size) = some 6 := by kernel_rfl
theorem o308 {E : Env} {F : Facts} : FnRel Tryz.prog E F 308 (.orc gOverlaps) := by
  obtain ⟨it, hi, hs⟩ := Option.map_eq_some_iff.1 sz308
  exact overlaps_orc (tS := 25) (tR := 4) (el := 53) (size := it.size) Tryz.func308 (by kernel_rfl) (by kernel_rfl) (by kernel_rfl) (by kernel_rfl) Tryz.underlying25 (run_sizeOf hi)
theorem sz331 : (Tryz.prog.info? 70).map (·.size) = some 4 := by kernel_rfl
theorem o331 {E : Env} {F : Facts} : FnRel Tryz.prog E F 331 (.orc gOverlaps) := by
  obtain ⟨it, hi, hs⟩ := Option.map_eq_some_iff.1 sz331
  exact overlaps_orc (tS := 32) (tR := 4) (el := 70) (size := it.size) Tryz.func331 (by kernel_rfl) (by kernel_rfl) (by kernel_rfl) (by kernel_rfl) Tryz.underlying32 (run_sizeOf hi)
theorem m84 {E : Env} : MixOk Tryz.prog E (84, gIns) := fun run h => gIns_ok ⟨_, Tryz.func84, by kernel_rfl, by kernel_rfl⟩ run h
theorem m207 {E : Env} : MixOk Tryz.prog E (207, gIns) := fun run h => gIns_ok ⟨_, Tryz.func207, by kernel_rfl, by kernel_rfl⟩ run h
theorem m265 {E : Env} : MixOk Tryz.prog E (265, gIns) := fun run h => gIns_ok ⟨_, Tryz.func265, by kernel_rfl, by kernel_rfl⟩ run h
theorem m283 {E : Env} : MixOk Tryz.prog E (283, gIns) := fun run h => gIns_ok ⟨_, Tryz.func283, by kernel_rfl, by kernel_rfl⟩ run h
/-- The letters go by the arguments. -/
def envOf (l : List Nat) (h : ∀ x ∈ l, x ≤ 255) : Env where
  letter i := 97 + l.getD i 0 % 26
  lo i := by omega
  hi i := by have := Nat.mod_lt (l.getD i 0) (show 0 < 26 by omega); omega
  arg i := l.getD i 0
  arghi i := by
    rw [List.getD_eq_getElem?_getD]
    cases e : l[i]? with
    | none => simp
    | some x => exact h x (List.mem_of_getElem? e)
end Go.Proofs.YtjfcnililofepaaGreatDoor.Ev
