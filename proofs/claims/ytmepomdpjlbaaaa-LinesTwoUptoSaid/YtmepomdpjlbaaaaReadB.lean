/- From the form's own reading of an argument to ours, with the bound of the second form: how much a reading holds. -/
import Derived.Test.YtmepomdpjlbaaaaRead
import Derived.Test.YtmepomdpjlbaaaaBulk
namespace Go.Proofs.Ytmepomdpjlbaaaa
open Go

def ReadsB {α : Type} (P : Program) (t : TypeId) (R : Rep α) (bk : α → Nat) : Prop :=
  ∀ (H : Type) (enc : TypeId × Value → H) (w : World) (base : Nat) (spare : Nat → Bool) (held : Bool) (fuel : Nat) (cs : List Value) (x : DataW H × List MemPlace), DataW.trod enc P w base spare held fuel t cs = some x → ∃ d, R.ok [] w cs d ∧ bk d ≤ Rows.uptoBulk x.1
theorem ReadsB.reads {α : Type} {P : Program} {t : TypeId} {R : Rep α} {bk : α → Nat} (h : ReadsB P t R bk) : Reads P t R := fun H enc w base spare held fuel cs x hx => by
  obtain ⟨d, hd, _⟩ := h H enc w base spare held fuel cs x hx
  exact ⟨d, hd⟩
section
variable {P : Program}
theorem readsB_int {t : TypeId} {k : IntKind} (ht : P.underlying t = some (.int k)) : ReadsB P t (rInt k) (fun _ => 1) := fun H enc w base spare held fuel cs x h => by
  obtain ⟨n, rfl, _, hw⟩ := DataW.trod_int ht h
  exact ⟨n, ⟨rfl, wf_inR hw⟩, bulks.one_le _⟩
theorem readsB_bool {t : TypeId} (ht : P.underlying t = some .bool) : ReadsB P t rBool (fun _ => 1) := fun H enc w base spare held fuel cs x h => by
  obtain ⟨n, rfl, _⟩ := DataW.trod_bool ht h
  exact ⟨n, rfl, bulks.one_le _⟩
theorem readsB_str {t : TypeId} (ht : P.underlying t = some .string) : ReadsB P t rStr (fun s => s.size + 1) := fun H enc w base spare held fuel cs x h => by
  obtain ⟨s, rfl, rfl, hs⟩ := DataW.trod_string ht h
  exact ⟨s, ⟨rfl, hs⟩, by rw [bulks.string_eq]; exact Nat.le_refl _⟩
theorem readsB_map {α β : Type} {t : TypeId} {R : Rep α} {bk : α → Nat} (g : β → α) (hg : ∀ x, ∃ y, g y = x) (h : ReadsB P t R bk) : ReadsB P t (rMap g R) (fun x => bk (g x)) := fun H enc w base spare held fuel cs x hx => by
  obtain ⟨d, hd, hb⟩ := h H enc w base spare held fuel cs x hx
  obtain ⟨y, rfl⟩ := hg d
  exact ⟨y, hd, hb⟩
/-- The fields from one on. -/
def FRB {α : Type} (P : Program) (fs : List Field) (off : Nat) (R : Rep α) (bk : α → Nat) : Prop :=
  ∀ (H : Type) (enc : TypeId × Value → H) (w : World) (base : Nat) (spare : Nat → Bool) (held : Bool) (fuel : Nat) (cs : List Value) (xs : List (DataW H × List MemPlace)),
    fs.mapM (fun f => DataW.trod enc P w base spare held fuel f.type ((cs.drop f.offset).take (P.cellsOf f.type))) = some xs → ∃ d, R.ok [] w ((cs.drop off).take R.n) d ∧ bk d ≤ Rows.uptoBulkAll (xs.map (·.1))
theorem frB_one {α : Type} {f : Field} {S : Rep α} {bk : α → Nat} (h : ReadsB P f.type S bk) (hn : P.cellsOf f.type = S.n) : FRB P [f] f.offset S bk := fun H enc w base spare held fuel cs xs hx => by
  simp only [List.mapM_cons, List.mapM_nil] at hx
  cases h1 : DataW.trod enc P w base spare held fuel f.type ((cs.drop f.offset).take (P.cellsOf f.type)) with
  | none => rw [h1] at hx; cases hx
  | some y =>
    rw [h1] at hx
    have e : xs = [y] := by simpa using hx.symm
    subst e
    rw [hn] at h1
    obtain ⟨d, hd, hb⟩ := h H enc w base spare held fuel _ y h1
    exact ⟨d, hd, by simpa [Rows.uptoBulkAll] using hb⟩
theorem frB_cons {α β : Type} {f : Field} {fs : List Field} {S : Rep α} {R : Rep β} {bk : α → Nat} {ck : β → Nat} (h : ReadsB P f.type S bk) (hn : P.cellsOf f.type = S.n) (hr : FRB P fs (f.offset + S.n) R ck) : FRB P (f :: fs) f.offset (rPair S R) (fun x => bk x.1 + ck x.2) := fun H enc w base spare held fuel cs xs hx => by
  simp only [List.mapM_cons] at hx
  cases h1 : DataW.trod enc P w base spare held fuel f.type ((cs.drop f.offset).take (P.cellsOf f.type)) with
  | none => rw [h1] at hx; cases hx
  | some y =>
    cases h2 : fs.mapM (fun f => DataW.trod enc P w base spare held fuel f.type ((cs.drop f.offset).take (P.cellsOf f.type))) with
    | none => rw [h1, h2] at hx; cases hx
    | some ys =>
      rw [h1, h2] at hx
      have e : xs = y :: ys := by simpa using hx.symm
      subst e
      rw [hn] at h1
      obtain ⟨d, hd, hb⟩ := h H enc w base spare held fuel _ y h1
      obtain ⟨e, he, hc⟩ := hr H enc w base spare held fuel cs ys h2
      refine ⟨(d, e), ⟨_, _, ?_, hd, he⟩, by simp only [List.map_cons, Rows.uptoBulkAll]; exact Nat.add_le_add hb hc⟩
      show (cs.drop f.offset).take (S.n + R.n) = _
      rw [List.take_add, List.drop_drop]
theorem readsB_struct {α : Type} {t : TypeId} {fs : Array Field} {R : Rep α} {bk : α → Nat} (ht : P.underlying t = some (.struct fs)) (hf : FRB P fs.toList 0 R bk) (hn : P.cellsOf t = R.n) : ReadsB P t R (fun d => bk d + 1) := fun H enc w base spare held fuel cs x h => by
  cases fuel with
  | zero => simp [DataW.trod] at h
  | succ fuel =>
    unfold DataW.trod at h
    rw [ht] at h
    simp only at h
    split at h
    · rename_i hl
      cases h1 : fs.toList.mapM (fun f => DataW.trod enc P w base spare held fuel f.type ((cs.drop f.offset).take (P.cellsOf f.type))) with
      | none => rw [h1] at h; cases h
      | some xs =>
        rw [h1] at h
        have e : x = (.agg (xs.map (·.1)), xs.flatMap (·.2)) := by simpa using h.symm
        subst e
        obtain ⟨d, hd, hb⟩ := hf H enc w base spare held fuel cs xs h1
        rw [List.drop_zero, List.take_of_length_le (by omega)] at hd
        exact ⟨d, hd, by simp only [Rows.uptoBulk]; exact Nat.add_le_add_right hb 1⟩
    · cases h
theorem readsB_slice {α : Type} {t e : TypeId} {R : Rep α} {bk : α → Nat} (ht : P.underlying t = some (.slice e)) (he : P.cellsOf e = R.n) (hpos : 0 < R.n) (h : ReadsB P e R bk) : ReadsB P t (rSl R) (fun L => (L.map bk).sum + 1) := fun H enc w base spare held fuel cs x hx => by
  rcases Deep.open_slice ht hx with ⟨rfl, rfl⟩ | ⟨a, len, cap, m, n, D, Pl, rfl, hb, hl, hm, hmm, rfl, hel⟩
  · exact ⟨[], ⟨none, 0, rfl, Sl.nil⟩, bulks.one_le _⟩
  · have hlm : len ≤ m := by rw [hmm]; split <;> omega
    have h1 : ∀ i, i < len → ∃ c : List Value × Option α, (∃ d, c.2 = some d ∧ R.ok [] w c.1 d ∧ bk d ≤ Rows.uptoBulk (D i)) ∧ ∀ j u, c.1[j]? = some u → w.cell? (a.add (i * R.n + j)) = some u := fun i hi => by
      obtain ⟨cs', hc, hd⟩ := hel i (by omega)
      obtain ⟨d, hok⟩ := h H enc w base spare held n cs' _ hd
      refine ⟨(cs', some d), ⟨d, rfl, hok⟩, fun j u hj => ?_⟩
      have := (cells_of hc).2 j u hj
      rwa [he, Deep.add_add] at this
    by_cases h0 : len = 0
    · subst h0
      exact ⟨[], ⟨some a, cap, rfl, by simp, hm, .inl ⟨rfl, fun h => by cases h⟩⟩, bulks.one_le _⟩
    · obtain ⟨F, hF⟩ := Deep.choose_lt (α := List Value × Option α) h1
      -- the address
      have hspot : a.spot = none := by
        obtain ⟨⟨d, _, hok, _⟩, hc⟩ := hF 0 (by omega)
        have hl0 := R.len hok
        obtain ⟨u, hu⟩ : ∃ u, (F 0).1[0]? = some u := ⟨(F 0).1[0]'(by omega), by simp [List.getElem?_eq_getElem (show 0 < (F 0).1.length by omega)]⟩
        have := World.cell?_spot (hc 0 u hu)
        simpa [Addr.add] using this
      obtain ⟨b, o, sp⟩ := a
      simp only at hspot
      subst hspot
      have key : ∀ k, k ≤ len → ∃ (xs : List Value) (L : List α), L.length = k ∧ Flat R [] w xs L ∧ CellsAt w b o xs ∧ (L.map bk).sum ≤ Rows.uptoBulkAll ((List.range k).map D) := by
        intro k
        induction k with
        | zero => exact fun _ => ⟨[], [], rfl, Flat.nil, fun j u hj => by simp at hj, by simp⟩
        | succ k ih =>
          intro hk
          obtain ⟨xs, L, hL, hf, hc, hs⟩ := ih (by omega)
          obtain ⟨⟨d, _, hok, hbk⟩, hcs⟩ := hF k (by omega)
          refine ⟨xs ++ (F k).1, L ++ [d], by simp [hL], hf.append (Flat.single hok), fun j u hj => ?_, by rw [List.range_succ, List.map_append, List.map_append, bulks.append, List.sum_append]; simp [Rows.uptoBulkAll]; omega⟩
          rcases Nat.lt_or_ge j xs.length with hj1 | hj1
          · rw [List.getElem?_append_left hj1] at hj; exact hc j u hj
          · rw [List.getElem?_append_right hj1] at hj
            have := hcs (j - xs.length) u hj
            have hxl : xs.length = k * R.n := by rw [hf.length, hL]
            rw [show (⟨b, o, none⟩ : Addr).add (k * R.n + (j - xs.length)) = ⟨b, o + j, none⟩ from by
              rw [show k * R.n + (j - xs.length) = j from by omega]
              unfold Addr.add; split <;> simp_all] at this
            exact this
      obtain ⟨xs, L, hL, hf, hc, hs⟩ := key len (Nat.le_refl _)
      refine ⟨L, ⟨some ⟨b, o, none⟩, cap, by rw [hL], by omega, hm, .inr ⟨b, o, xs, rfl, by simp, ?_, hc, hf⟩⟩, Nat.le_trans (Nat.add_le_add_right hs 1) (bulks.slice_elems _ _)⟩
      obtain ⟨⟨d, _, hok, _⟩, hcs⟩ := hF 0 (by omega)
      have hl0 := R.len hok
      obtain ⟨u, hu⟩ : ∃ u, (F 0).1[0]? = some u := ⟨(F 0).1[0]'(by omega), by simp [List.getElem?_eq_getElem (show 0 < (F 0).1.length by omega)]⟩
      have := World.block_lt_of_cell? _ _ (hcs 0 u hu)
      simpa [Addr.add] using this
/-- An argument that is a slice. -/
theorem argB_slice {α : Type} {t : TypeId} {R : Rep α} {bk : List α → Nat} (h : ReadsB P t (rSl R) bk) {H : Type} {enc : TypeId × Value → H} {w : World} {base : Nat} {spare : Nat → Bool} {held : Bool} {v : Value} {d : DataW H} {ps : List MemPlace} {a : Option Addr} {n c : Nat}
    (hv : v = .slice a n c) (hr : DataW.Trod enc P w base spare held t v d ps) : ∃ L : List α, n = L.length ∧ Sl R [] w a c L ∧ bk L ≤ Rows.uptoBulk d := by
  obtain ⟨fuel, hf⟩ := hr
  obtain ⟨L, ⟨a', c', hc, hS⟩, hb⟩ := h H enc w base spare held fuel _ _ hf
  subst hv
  simp [Value.cells] at hc
  obtain ⟨rfl, rfl, rfl⟩ := hc
  exact ⟨L, rfl, hS, hb⟩
end
end Go.Proofs.Ytmepomdpjlbaaaa
