/- The contracts that the runs take: what the model holds of functions without a text, files.Paths, slices.Insert. Names the program's functions by their numbers. -/
import Derived.Test.YtfgmmabggjjhgaaGreatDoorEvGI
import Derived.Test.YtfgmmabggjjhgaaGreatDoorEvGE
import Derived.Test.YtfgmmabggjjhgaaGreatDoorEvGW
import Derived.Test.YtfgmmabggjjhgaaGreatDoorPthB
import Derived.Test.YtfgmmabggjjhgaaGreatDoorChecked
namespace Go.Proofs.YtfgmmabggjjhgaaGreatDoor.Ev
open Go Go.Proofs
theorem o26 {E : Env} {F : Facts} : FnRel Tryz.prog E F 26 (.orc (gTypeOf 120 7)) := typeOf_orc Tryz.func26 (by kernel_rfl) (by kernel_rfl) (by kernel_rfl) (by kernel_rfl) (fun t v w => by kernel_rfl) (by decide)
theorem o416 {E : Env} {F : Facts} : FnRel Tryz.prog E F 416 (.orc (gCmp 3670023)) := cmp_orc (e := Extern.ReflectliteType.method fun t => do Extern.Rtype.noPackHeld "Comparable" t; pure (.bool (← typeInfo t).comparable)) Tryz.func416 (by kernel_rfl) (by kernel_rfl) (by kernel_rfl) (by kernel_rfl) (fun w => by kernel_rfl)
theorem o237 {E : Env} {F : Facts} (hF : F.Of E) : FnRel Tryz.prog E F 237 (.orc (gIndexByte F)) := indexByte_orc hF Tryz.func237 (by kernel_rfl) (by kernel_rfl) (by kernel_rfl) (by kernel_rfl)
theorem o240 {E : Env} {F : Facts} (hF : F.Of E) : FnRel Tryz.prog E F 240 (.orc (gCount F)) := count_orc hF Tryz.func240 (by kernel_rfl) (by kernel_rfl) (by kernel_rfl) (by kernel_rfl)
theorem o375 {E : Env} {F : Facts} : FnRel Tryz.prog E F 375 (.orc gSame) := same_orc Tryz.func375 (by kernel_rfl) (by kernel_rfl) (by kernel_rfl) (by kernel_rfl)
theorem o391 {E : Env} {F : Facts} : FnRel Tryz.prog E F 391 (.orc (gNoz 5)) := noz_orc (ps := Tryz.f391.params) (t := 69) Tryz.func391 (by kernel_rfl) (by kernel_rfl) (by kernel_rfl) (by kernel_rfl) Tryz.underlying69
theorem sz157 : (Tryz.prog.info? 76).map (·.size) = some 3 := by kernel_rfl
theorem o157 {E : Env} {F : Facts} : FnRel Tryz.prog E F 157 (.orc gOverlaps) := by
  obtain ⟨it, hi, hs⟩ := Option.map_eq_some_iff.1 sz157
  exact overlaps_orc (tS := 23) (tR := 4) (el := 76) (size := it.size) Tryz.func157 (by kernel_rfl) (by kernel_rfl) (by kernel_rfl) (by kernel_rfl) Tryz.underlying23 (run_sizeOf hi)
theorem sz278 : (Tryz.prog.info? 61).map (·.size) = some 2 := by kernel_rfl
theorem o278 {E : Env} {F : Facts} : FnRel Tryz.prog E F 278 (.orc gOverlaps) := by
  obtain ⟨it, hi, hs⟩ := Option.map_eq_some_iff.1 sz278
  exact overlaps_orc (tS := 26) (tR := 4) (el := 61) (size := it.size) Tryz.func278 (by kernel_rfl) (by kernel_rfl) (by kernel_rfl) (by kernel_rfl) Tryz.underlying26 (run_sizeOf hi)
theorem sz303 : (Tryz.prog.info? 67).map (·.size) = some 6 := by kernel_rfl
theorem o303 {E : Env} {F : Facts} : FnRel Tryz.prog E F 303 (.orc gOverlaps) := by
  obtain ⟨it, hi, hs⟩ := Option.map_eq_some_iff.1 sz303
  exact overlaps_orc (tS := 25) (tR := 4) (el := 67) (size := it.size) Tryz.func303 (by kernel_rfl) (by kernel_rfl) (by kernel_rfl) (by kernel_rfl) Tryz.underlying25 (run_sizeOf hi)
theorem sz326 : (Tryz.prog.info? 58).map (·.size) = some 4 := by kernel_rfl
theorem o326 {E : Env} {F : Facts} : FnRel Tryz.prog E F 326 (.orc gOverlaps) := by
  obtain ⟨it, hi, hs⟩ := Option.map_eq_some_iff.1 sz326
  exact overlaps_orc (tS := 32) (tR := 4) (el := 58) (size := it.size) Tryz.func326 (by kernel_rfl) (by kernel_rfl) (by kernel_rfl) (by kernel_rfl) Tryz.underlying32 (run_sizeOf hi)
theorem m95 {E : Env} : MixOk Tryz.prog E (95, gIns) := fun run h => gIns_ok ⟨_, Tryz.func95, by kernel_rfl, by kernel_rfl⟩ run h
theorem m212 {E : Env} : MixOk Tryz.prog E (212, gIns) := fun run h => gIns_ok ⟨_, Tryz.func212, by kernel_rfl, by kernel_rfl⟩ run h
theorem m264 {E : Env} : MixOk Tryz.prog E (264, gIns) := fun run h => gIns_ok ⟨_, Tryz.func264, by kernel_rfl, by kernel_rfl⟩ run h
theorem m282 {E : Env} : MixOk Tryz.prog E (282, gIns) := fun run h => gIns_ok ⟨_, Tryz.func282, by kernel_rfl, by kernel_rfl⟩ run h
/-- The letters go by the arguments. -/
def envOf (l : List Nat) (h : ∀ x ∈ l, x ≤ 255) : Env where
  letter i := 97 + l.getD i 0 % 26
  lo i := by omega
  hi i := by have := Nat.mod_lt (l.getD i 0) (show 0 < 26 by omega); omega
  arg i := l.getD i 0
  arghi i := by
    rw [List.getD_eq_getElem?_getD]
    cases e : l[i]? with
    | none => simp
    | some x => exact h x (List.mem_of_getElem? e)
/-- Both letters are one. -/
def envSame (a b : Nat) (ha : a ≤ 255) (hb : b ≤ 255) : Env where
  letter _ := 97 + a % 26
  lo _ := by omega
  hi _ := by have := Nat.mod_lt a (show 0 < 26 by omega); omega
  arg i := if i = 1 then b else a
  arghi i := by split <;> assumption
theorem envSame_letter {a b : Nat} {ha : a ≤ 255} {hb : b ≤ 255} (h : a % 26 = b % 26) (i : Nat) : (envSame a b ha hb).letter 0 = 97 + (envSame a b ha hb).arg i % 26 := by
  show 97 + a % 26 = 97 + (if i = 1 then b else a) % 26
  split <;> omega
theorem envOf_apart {a b : Nat} {h : ∀ x ∈ [a, b], x ≤ 255} (hne : a % 26 ≠ b % 26) : ∀ i j, i < 2 → j < 2 → i ≠ j → (envOf [a, b] h).letter i ≠ (envOf [a, b] h).letter j := by
  have k0 : (envOf [a, b] h).letter 0 = 97 + a % 26 := rfl
  have k1 : (envOf [a, b] h).letter 1 = 97 + b % 26 := rfl
  intro i j hi hj hij
  have hi : i = 0 ∨ i = 1 := by omega
  have hj : j = 0 ∨ j = 1 := by omega
  rcases hi with rfl | rfl <;> rcases hj with rfl | rfl <;> first | exact absurd rfl hij | (rw [k0, k1]; omega)
end Go.Proofs.YtfgmmabggjjhgaaGreatDoor.Ev
