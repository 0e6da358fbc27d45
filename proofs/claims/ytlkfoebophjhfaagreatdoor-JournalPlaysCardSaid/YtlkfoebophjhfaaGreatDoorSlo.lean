/- Maps of ours that are walked through. It speaks of any program; nothing of the claim's own program stands here. -/
import Derived.Test.YtlkfoebophjhfaaGreatDoorStEq
namespace Go.Proofs.YtlkfoebophjhfaaGreatDoor
open Go
section
variable {α : Type} {R : Rep α} {ag : Bool} {X X' F G : List Nat} {w w' : World} {r B : Nat} {L : List (ByteArray × α)}
/-- A map that is only looked at from here on. -/
theorem OM.release (h : OM R ag G B X w r L) : ∃ X1, Sub X1 X ∧ RM R ag X1 w r L ∧ (∀ l, Ap l [r] → Sub l X → Sub l X1) := by
  have hs : Sub (X.filter fun x => decide (x ≠ r)) X := fun b hb => (List.mem_filter.1 hb).1
  refine ⟨X.filter fun x => decide (x ≠ r), hs, ⟨fun hm => ?_, h.2.1.less hs⟩, fun l hl hs x hx => List.mem_filter.2 ⟨hs x hx, ?_⟩⟩
  · have := (List.mem_filter.1 hm).2; simp at this
  · have := hl x hx; simp at this; simpa using this
theorem OM.apold {X0 : List Nat} (h : OM R ag [] B X w r L) (h0 : ∀ b ∈ X0, b < B) : Ap X0 [r] := fun x hx hm => by
  simp at hm; subst hm
  rcases h.2.2 x (by simp) with h1 | h1
  · cases h1
  · have := h0 x hx; omega
end
section
variable {P : Program} {ops : Array Oper} {Q : Exit → Act → World → Prop} {n : Nat} {f : Nat → Value} {u : List (Nat × Value)} {w : World} {next : Act → World → Prop}
variable {dst : Option Tmp} {ty : TypeId} {pos : String} {aft : Array Edge} {gd : Option (Nat × Bool)}
variable {α : Type} {R : Rep α} {ag : Bool} {X G : List Nat} {r B : Nat} {L : List (ByteArray × α)}
/-- An entry of a map that is written out. -/
theorem o_mapins {t kt et : TypeId} {x y z : Operand} {k : ByteArray} {cs : List Value} {d : α} (hg : Region.wanted ⟨dst, .insert t x y z, ty, pos, aft, gd⟩ (yielded ops (Fr n f u).tmps) = true)
    (hO : OM R ag G B X w r L) (ht : P.underlying t = some (.map kt et)) (hk : P.underlying kt = some .string) (hx : evf n f u x = .map (some r)) (hy : evf n f u y = .string k) (hz : evf n f u z = vcell ag cs)
    (hR : R.ok X w cs d) (hsz : k.size ≤ maxLen) (h : ∀ w', Step X w [r] X w' → OM R ag G B X w' r (mset L k d) → next (Fr n f (pusho dst undef u)) w') :
    OpW P ops Q ⟨dst, .insert t x y z, ty, pos, aft, gd⟩ n f u w next := by
  obtain ⟨hrX, ⟨es, clk, hb, he, hc⟩, hw⟩ := hO
  have hst : ∀ o, Step X w [r] X (World.setB w r o) := fun o => Step.one (Evo.setB w r o) hrX
  rcases findNow_ok k 0 he with ⟨h1, h2, h3, _⟩ | ⟨v, j, e, h1, h2, h3, h4, h5, _⟩
  · have hf := run_findKey_str (P := P) w hk h2
    refine o_skip hg (w' := World.setB w r (.map (es.push { key := .string k, val := vcell ag cs, born := clk }) (clk + 1))) ?_ (h _ (hst _) ⟨hrX, ⟨_, _, setB_at _ hb, ?_, ?_⟩, hw⟩)
    · simp [execOp, hx, hy, hz, Instr.mapUpdate, run_underlying ht, run_getObj hb, run_checkKey_str _ k w hk, hf, run_setObj _ hb, Result.andThen]
    · rw [h3, Array.toList_push]
      exact ((he.snoc (e' := { key := .string k, val := vcell ag cs, born := clk }) (p' := (k, d)) ⟨rfl, hsz, cs, rfl, hR⟩).step (hst _))
    · rw [Array.toList_push]; exact hc.push _ rfl
  · have hf := run_findKey_str (P := P) w hk h2
    rw [Nat.zero_add] at hf
    have hej : es[j]? = some e := by rw [← Array.getElem?_toList]; exact h3
    have hkey : e.key = .string k := h4.1
    have hsame : Instr.sameBits 10000 (.string k) (.string k) = true := by
      have : ∀ m, Instr.sameBits (m + 1) (.string k) (.string k) = true := fun m => by simp [Instr.sameBits, ba_beq]
      exact this 9999
    have hstay : (Instr.keyThatStays (.string k) (.string k)).run P w = .ok (.string k) w := by simp [Instr.keyThatStays, hsame]
    have hmod : (es.modify j fun e => { e with key := .string k, val := vcell ag cs }).toList = es.toList.set j { key := .string k, val := vcell ag cs, born := e.born } := by
      rw [Array.toList_modify]
      apply List.ext_getElem?
      intro i
      rw [List.getElem?_modify, List.getElem?_set]
      by_cases hij : j = i
      · subst hij; have hlt := (List.getElem?_eq_some_iff.1 h3).1; simp at hlt; rw [Array.getElem?_eq_getElem hlt] at hej; injection hej with hej; simp [hlt, hej]
      · simp [hij]
    refine o_skip hg (w' := World.setB w r (.map (es.modify j fun e => { e with key := .string k, val := vcell ag cs }) clk)) ?_ (h _ (hst _) ⟨hrX, ⟨_, _, setB_at _ hb, ?_, ?_⟩, hw⟩)
    · simp [execOp, hx, hy, hz, Instr.mapUpdate, run_underlying ht, run_getObj hb, run_checkKey_str _ k w hk, hf, hej, hkey, hstay, run_setObj _ hb, Result.andThen]
    · rw [hmod]
      exact (h5 d { key := .string k, val := vcell ag cs, born := e.born } ⟨rfl, hsz, cs, rfl, hR⟩).step (hst _)
    · rw [hmod]; exact hc.set h3 rfl
end
end Go.Proofs.YtlkfoebophjhfaaGreatDoor
