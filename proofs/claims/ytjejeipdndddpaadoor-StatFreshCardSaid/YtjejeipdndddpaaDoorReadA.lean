/- Arguments that are arrays of numbers, or structs: from the form's reading to ours. It speaks of any program; nothing of the claim's own program stands here. -/
import Derived.Test.YtjejeipdndddpaaDoorRead
import Derived.Test.YtjejeipdndddpaaDoorArr
namespace Go.Proofs.YtjejeipdndddpaaDoor
open Go
section
variable {P : Program}
theorem okWide_arr {w : World} {r : Reach} {base : Nat} {t e : TypeId} {n : Nat} {v : Value} (ht : P.underlying t = some (.array n e)) (h : Value.okWide P w r base t v) : ∃ cs, v = .agg cs := by
  simp only [Value.okWide, ht] at h
  exact ⟨h.choose, h.choose_spec.1⟩
theorem okWide_st {w : World} {r : Reach} {base : Nat} {t : TypeId} {fs : Array Field} {v : Value} (ht : P.underlying t = some (.struct fs)) (h : Value.okWide P w r base t v) : ∃ cs, v = .agg cs := by
  simp only [Value.okWide, ht] at h
  exact ⟨h.choose, h.choose_spec.1⟩
def numOf : Value → Int | .int _ n => n | _ => 0
theorem reads_arr {t e : TypeId} {m : Nat} {k : IntKind} (ht : P.underlying t = some (.array m e)) (he : P.underlying e = some (.int k)) (hc : P.cellsOf e = 1) (hct : P.cellsOf t = m) : Reads P t (rArr k m) := fun H enc w base spare held fuel cs x h => by
  obtain ⟨xs, f', _, _, hl, hxl, hel⟩ := DataW.trod_array ht h
  rw [hct] at hl
  have key : ∀ i, i < m → ∃ d, cs[i]? = some (.int k d) ∧ inR k d := fun i hi => by
    have h1 := hel i hi
    rw [List.getElem?_eq_getElem (by omega)] at h1
    obtain ⟨d, hd1, hd2⟩ := reads_int he H enc w base spare held f' _ _ h1
    rw [hc, Nat.mul_one] at hd1
    refine ⟨d, ?_, hd2⟩
    have := congrArg (·[0]?) hd1
    simpa [List.getElem?_take, List.getElem?_drop] using this
  have hcs : cs = (cs.map numOf).map (Value.int k) := by
    rw [List.map_map]
    refine ((List.map_congr_left fun v hv => ?_).trans (List.map_id cs)).symm
    obtain ⟨i, hi, rfl⟩ := List.getElem_of_mem hv
    obtain ⟨d, hd, _⟩ := key i (by omega)
    rw [List.getElem?_eq_getElem hi] at hd
    injection hd with hd
    rw [hd]; rfl
  refine ⟨cs.map numOf, hcs, by simpa using hl, fun y hy => ?_⟩
  obtain ⟨v, hv, rfl⟩ := List.mem_map.1 hy
  obtain ⟨i, hi, rfl⟩ := List.getElem_of_mem hv
  obtain ⟨d, hd, hr⟩ := key i (by omega)
  rw [List.getElem?_eq_getElem hi] at hd
  injection hd with hd
  rw [hd]; exact hr
theorem arg_arr {t : TypeId} {m : Nat} {k : IntKind} (h : Reads P t (rArr k m)) {H : Type} {enc : TypeId × Value → H} {w : World} {base : Nat} {spare : Nat → Bool} {held : Bool} {v : Value} {d : DataW H} {ps : List MemPlace}
    (hv : ∃ cs, v = .agg cs) (hr : DataW.Trod enc P w base spare held t v d ps) : ∃ L : List Int, v = .agg (L.map (Value.int k)).toArray ∧ okArr k m L := by
  obtain ⟨fuel, hf⟩ := hr
  obtain ⟨L, hc, ok⟩ := h H enc w base spare held fuel _ _ hf
  obtain ⟨cs, rfl⟩ := hv
  refine ⟨L, ?_, ok⟩
  congr 1
  apply Array.ext'
  simpa [Value.cells] using hc
/-- An argument that is a struct. -/
theorem arg_struct {α : Type} {t : TypeId} {R : Rep α} (h : Reads P t R) {H : Type} {enc : TypeId × Value → H} {w : World} {base : Nat} {spare : Nat → Bool} {held : Bool} {v : Value} {d : DataW H} {ps : List MemPlace}
    (hv : ∃ cs, v = .agg cs) (hr : DataW.Trod enc P w base spare held t v d ps) : ∃ (x : α) (cs : List Value), v = .agg cs.toArray ∧ R.ok [] w cs x := by
  obtain ⟨fuel, hf⟩ := hr
  obtain ⟨x, ok⟩ := h H enc w base spare held fuel _ _ hf
  obtain ⟨cs, rfl⟩ := hv
  exact ⟨x, cs.toList, by simp, ok⟩
end
end Go.Proofs.YtjejeipdndddpaaDoor
