/- From the form's own reading of an argument to ours. It speaks of any program; nothing of the claim's own program stands here. -/
import Derived.Test.YtlkfoebophjhfaaGreatDoorMem
import Derived.ChangeArms
import Derived.Deep.Slices
import Derived.OpenShut
namespace Go.Proofs.YtlkfoebophjhfaaGreatDoor
open Go
/-- Whatever the form reads as a datum of type t reads so by R. -/
def Reads {α : Type} (P : Program) (t : TypeId) (R : Rep α) : Prop :=
  ∀ (H : Type) (enc : TypeId × Value → H) (w : World) (base : Nat) (spare : Nat → Bool) (held : Bool) (fuel : Nat) (cs : List Value) (x : DataW H × List MemPlace), DataW.trod enc P w base spare held fuel t cs = some x → ∃ d, R.ok [] w cs d
section
variable {P : Program}
theorem wf_inR {k : IntKind} {n : Int} (h : (Lit.int k n).wf = true) : inR k n := by
  unfold Lit.wf at h
  simpa [inR] using h
theorem reads_int {t : TypeId} {k : IntKind} (ht : P.underlying t = some (.int k)) : Reads P t (rInt k) := fun H enc w base spare held fuel cs x h => by
  obtain ⟨n, rfl, _, hw⟩ := DataW.trod_int ht h
  exact ⟨n, rfl, wf_inR hw⟩
theorem reads_bool {t : TypeId} (ht : P.underlying t = some .bool) : Reads P t rBool := fun H enc w base spare held fuel cs x h => by
  obtain ⟨n, rfl, _⟩ := DataW.trod_bool ht h
  exact ⟨n, rfl⟩
theorem reads_str {t : TypeId} (ht : P.underlying t = some .string) : Reads P t rStr := fun H enc w base spare held fuel cs x h => by
  obtain ⟨s, rfl, _, hs⟩ := DataW.trod_string ht h
  exact ⟨s, rfl, hs⟩
theorem reads_map {α β : Type} {t : TypeId} {R : Rep α} (g : β → α) (hg : ∀ x, ∃ y, g y = x) (h : Reads P t R) : Reads P t (rMap g R) := fun H enc w base spare held fuel cs x hx => by
  obtain ⟨d, hd⟩ := h H enc w base spare held fuel cs x hx
  obtain ⟨y, rfl⟩ := hg d
  exact ⟨y, hd⟩
/-- The fields from one on. -/
def FR {α : Type} (P : Program) (fs : List Field) (off : Nat) (R : Rep α) : Prop :=
  ∀ (H : Type) (enc : TypeId × Value → H) (w : World) (base : Nat) (spare : Nat → Bool) (held : Bool) (fuel : Nat) (cs : List Value) (xs : List (DataW H × List MemPlace)),
    fs.mapM (fun f => DataW.trod enc P w base spare held fuel f.type ((cs.drop f.offset).take (P.cellsOf f.type))) = some xs → ∃ d, R.ok [] w ((cs.drop off).take R.n) d
theorem fr_one {α : Type} {f : Field} {S : Rep α} (h : Reads P f.type S) (hn : P.cellsOf f.type = S.n) : FR P [f] f.offset S := fun H enc w base spare held fuel cs xs hx => by
  simp only [List.mapM_cons, List.mapM_nil] at hx
  cases h1 : DataW.trod enc P w base spare held fuel f.type ((cs.drop f.offset).take (P.cellsOf f.type)) with
  | none => rw [h1] at hx; cases hx
  | some y => rw [hn] at h1; exact h H enc w base spare held fuel _ y h1
theorem fr_cons {α β : Type} {f : Field} {fs : List Field} {S : Rep α} {R : Rep β} (h : Reads P f.type S) (hn : P.cellsOf f.type = S.n) (hr : FR P fs (f.offset + S.n) R) : FR P (f :: fs) f.offset (rPair S R) := fun H enc w base spare held fuel cs xs hx => by
  simp only [List.mapM_cons] at hx
  cases h1 : DataW.trod enc P w base spare held fuel f.type ((cs.drop f.offset).take (P.cellsOf f.type)) with
  | none => rw [h1] at hx; cases hx
  | some y =>
    cases h2 : fs.mapM (fun f => DataW.trod enc P w base spare held fuel f.type ((cs.drop f.offset).take (P.cellsOf f.type))) with
    | none => rw [h1, h2] at hx; cases hx
    | some ys =>
      rw [hn] at h1
      obtain ⟨d, hd⟩ := h H enc w base spare held fuel _ y h1
      obtain ⟨e, he⟩ := hr H enc w base spare held fuel cs ys h2
      refine ⟨(d, e), _, _, ?_, hd, he⟩
      show (cs.drop f.offset).take (S.n + R.n) = _
      rw [List.take_add, List.drop_drop]
theorem reads_struct {α : Type} {t : TypeId} {fs : Array Field} {R : Rep α} (ht : P.underlying t = some (.struct fs)) (hf : FR P fs.toList 0 R) (hn : P.cellsOf t = R.n) : Reads P t R := fun H enc w base spare held fuel cs x h => by
  cases fuel with
  | zero => simp [DataW.trod] at h
  | succ fuel =>
    unfold DataW.trod at h
    rw [ht] at h
    simp only at h
    split at h
    · rename_i hl
      cases h1 : fs.toList.mapM (fun f => DataW.trod enc P w base spare held fuel f.type ((cs.drop f.offset).take (P.cellsOf f.type))) with
      | none => rw [h1] at h; cases h
      | some xs =>
        obtain ⟨d, hd⟩ := hf H enc w base spare held fuel cs xs h1
        rw [List.drop_zero, List.take_of_length_le (by omega)] at hd
        exact ⟨d, hd⟩
    · cases h
theorem mapM_range_get {β : Type} (g : Nat → Option β) : ∀ (n : Nat) (l : List β), (List.range n).mapM g = some l → l.length = n ∧ ∀ i, i < n → ∃ v, g i = some v ∧ l[i]? = some v := by
  intro n l h
  have h1 := Deep.choose_lt (α := Unit) (n := 0) (p := fun _ _ => True) (fun _ h => by omega)
  clear h1
  induction n generalizing l with
  | zero => simp at h; subst h; exact ⟨rfl, fun i hi => by omega⟩
  | succ n ih =>
    rw [List.range_succ, List.mapM_append] at h
    cases h2 : (List.range n).mapM g with
    | none => rw [h2] at h; cases h
    | some l' =>
      rw [h2] at h
      simp only [List.mapM_cons, List.mapM_nil] at h
      cases h3 : g n with
      | none => rw [h3] at h; cases h
      | some v =>
        rw [h3] at h
        have h' : l' ++ [v] = l := by simpa using h
        subst h'
        obtain ⟨hl, hg⟩ := ih l' h2
        refine ⟨by simp [hl], fun i hi => ?_⟩
        by_cases hin : i = n
        · subst hin; exact ⟨v, h3, by rw [← hl]; simp⟩
        · obtain ⟨u, hu, hl'⟩ := hg i (by omega)
          exact ⟨u, hu, by rw [List.getElem?_append_left (by omega)]; exact hl'⟩
theorem cells_of {w : World} {base : Nat} {a : Addr} {n : Nat} {cs : List Value} (h : w.cells? base a n = some cs) : cs.length = n ∧ ∀ j u, cs[j]? = some u → w.cell? (a.add j) = some u := by
  unfold World.cells? at h
  split at h
  · obtain ⟨hl, hg⟩ := mapM_range_get _ _ _ h
    refine ⟨hl, fun j u hj => ?_⟩
    have hjn : j < n := by
      rcases Nat.lt_or_ge j cs.length with h1 | h1
      · omega
      · simp [List.getElem?_eq_none h1] at hj
    obtain ⟨v, hv, hl'⟩ := hg j hjn
    rw [hl'] at hj; injection hj with e; subst e; exact hv
  · cases h
theorem reads_slice {α : Type} {t e : TypeId} {R : Rep α} (ht : P.underlying t = some (.slice e)) (he : P.cellsOf e = R.n) (hpos : 0 < R.n) (h : Reads P e R) : Reads P t (rSl R) := fun H enc w base spare held fuel cs x hx => by
  rcases Deep.open_slice ht hx with ⟨rfl, _⟩ | ⟨a, len, cap, m, n, D, Pl, rfl, hb, hl, hm, hmm, _, hel⟩
  · exact ⟨[], none, 0, rfl, Sl.nil⟩
  · have hlm : len ≤ m := by rw [hmm]; split <;> omega
    have h1 : ∀ i, i < len → ∃ c : List Value × Option α, (∃ d, c.2 = some d ∧ R.ok [] w c.1 d) ∧ ∀ j u, c.1[j]? = some u → w.cell? (a.add (i * R.n + j)) = some u := fun i hi => by
      obtain ⟨cs', hc, hd⟩ := hel i (by omega)
      obtain ⟨d, hok⟩ := h H enc w base spare held n cs' _ hd
      refine ⟨(cs', some d), ⟨d, rfl, hok⟩, fun j u hj => ?_⟩
      have := (cells_of hc).2 j u hj
      rwa [he, Deep.add_add] at this
    by_cases h0 : len = 0
    · subst h0
      exact ⟨[], some a, cap, rfl, by simp, hm, .inl ⟨rfl, fun h => by cases h⟩⟩
    · obtain ⟨F, hF⟩ := Deep.choose_lt (α := List Value × Option α) h1
      -- the address
      have hspot : a.spot = none := by
        obtain ⟨⟨d, _, hok⟩, hc⟩ := hF 0 (by omega)
        have hl0 := R.len hok
        obtain ⟨u, hu⟩ : ∃ u, (F 0).1[0]? = some u := ⟨(F 0).1[0]'(by omega), by simp [List.getElem?_eq_getElem (show 0 < (F 0).1.length by omega)]⟩
        have := World.cell?_spot (hc 0 u hu)
        simpa [Addr.add] using this
      obtain ⟨b, o, sp⟩ := a
      simp only at hspot
      subst hspot
      have key : ∀ k, k ≤ len → ∃ (xs : List Value) (L : List α), L.length = k ∧ Flat R [] w xs L ∧ CellsAt w b o xs := by
        intro k
        induction k with
        | zero => exact fun _ => ⟨[], [], rfl, Flat.nil, fun j u hj => by simp at hj⟩
        | succ k ih =>
          intro hk
          obtain ⟨xs, L, hL, hf, hc⟩ := ih (by omega)
          obtain ⟨⟨d, _, hok⟩, hcs⟩ := hF k (by omega)
          refine ⟨xs ++ (F k).1, L ++ [d], by simp [hL], hf.append (Flat.single hok), fun j u hj => ?_⟩
          rcases Nat.lt_or_ge j xs.length with hj1 | hj1
          · rw [List.getElem?_append_left hj1] at hj; exact hc j u hj
          · rw [List.getElem?_append_right hj1] at hj
            have := hcs (j - xs.length) u hj
            have hxl : xs.length = k * R.n := by rw [hf.length, hL]
            rw [show (⟨b, o, none⟩ : Addr).add (k * R.n + (j - xs.length)) = ⟨b, o + j, none⟩ from by
              rw [show k * R.n + (j - xs.length) = j from by omega]
              unfold Addr.add; split <;> simp_all] at this
            exact this
      obtain ⟨xs, L, hL, hf, hc⟩ := key len (Nat.le_refl _)
      refine ⟨L, some ⟨b, o, none⟩, cap, by rw [hL], by omega, hm, .inr ⟨b, o, xs, rfl, by simp, ?_, hc, hf⟩⟩
      obtain ⟨⟨d, _, hok⟩, hcs⟩ := hF 0 (by omega)
      have hl0 := R.len hok
      obtain ⟨u, hu⟩ : ∃ u, (F 0).1[0]? = some u := ⟨(F 0).1[0]'(by omega), by simp [List.getElem?_eq_getElem (show 0 < (F 0).1.length by omega)]⟩
      have := World.block_lt_of_cell? _ _ (hcs 0 u hu)
      simpa [Addr.add] using this
/-- An argument that is a slice. -/
theorem arg_slice {α : Type} {t : TypeId} {R : Rep α} (h : Reads P t (rSl R)) {H : Type} {enc : TypeId × Value → H} {w : World} {base : Nat} {spare : Nat → Bool} {held : Bool} {v : Value} {d : DataW H} {ps : List MemPlace} {a : Option Addr} {n c : Nat}
    (hv : v = .slice a n c) (hr : DataW.Trod enc P w base spare held t v d ps) : ∃ L : List α, n = L.length ∧ Sl R [] w a c L := by
  obtain ⟨fuel, hf⟩ := hr
  obtain ⟨L, a', c', hc, hS⟩ := h H enc w base spare held fuel _ _ hf
  subst hv
  simp [Value.cells] at hc
  obtain ⟨rfl, rfl, rfl⟩ := hc
  exact ⟨L, rfl, hS⟩
end
end Go.Proofs.YtlkfoebophjhfaaGreatDoor
