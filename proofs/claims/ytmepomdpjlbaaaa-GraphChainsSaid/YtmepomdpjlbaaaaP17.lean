/- What the functions of the graph of commits compute: plain proofs over their predicates. -/
import Derived.Test.YtmepomdpjlbaaaaG3
import Derived.Test.YtmepomdpjlbaaaaGraph
namespace Go.Proofs.Ytmepomdpjlbaaaa
open Go

theorem cloneI_p {s : List Int} {Q : List Int → Prop} (hl : s.length ≤ 1000000) (h : Q s) : slices_Clone_int_int_p s Q := by
  unfold slices_Clone_int_int_p; exact fun _ => ⟨by omega, h⟩
theorem clipI_p {s : List Int} {Q : List Int → Prop} (h : Q s) : slices_Clip_int_int_p s Q := by
  unfold slices_Clip_int_int_p; exact fun _ => ⟨by omega, h⟩
theorem count_lset {L : List Bool} {i : Int} (hi : inL L i) (h : lget L i = false) : (lset L i true).count false + 1 = L.count false := by
  obtain ⟨k, rfl⟩ := nat_of hi.1
  rw [inL_nat] at hi
  rw [lget_lt hi] at h
  have hp : 0 < L.count false := List.count_pos_iff.2 (h ▸ List.getElem_mem hi)
  rw [lset_nat, List.count_set hi]
  simp [h]; omega

open Classical in
theorem seen_p {g : List (List Int)} {c : List Int} {Q : List Bool → Prop} (v : VG g) (hc : c.length ≤ 100000) (h : Q (seenL g c)) : graph_Graph_seen_p g c Q := by
  unfold graph_Graph_seen_p
  simp only [inR_i64]
  intro _ _
  have hg := v.len
  refine ⟨by omega, by omega, cloneI_p (by omega) fun _ => ?_⟩
  have hn : ((g.length : Int) + 1).toNat = g.length + 1 := by omega
  rw [hn]
  refine ⟨fun s wt => s.length = g.length + 1 ∧ (∀ k : Int, inL s k → lget s k = true → Rch g c k) ∧ (∀ x ∈ wt, 1 ≤ x → x ≤ g.length → Rch g c x) ∧ (∀ x ∈ c, 1 ≤ x → x ≤ g.length → lget s x = true ∨ x ∈ wt) ∧
      (∀ i : Int, inL s i → lget s i = true → ∀ k ∈ lget g (i - 1), 1 ≤ k → k ≤ g.length → lget s k = true ∨ k ∈ wt) ∧ wt.length + 3 * s.count false ≤ c.length + 3 * (g.length + 1), fun s wt => wt.length + 3 * s.count false, ⟨by simp, ?_, ?_, ?_, ?_, ?_⟩, ?_⟩
  · intro k hk ht
    obtain ⟨j, rfl⟩ := nat_of hk.1
    rw [inL_nat] at hk
    rw [lget_lt hk] at ht
    simp at ht
  · exact fun x hx h1 h2 => .base hx h1 h2
  · exact fun x hx _ _ => Or.inr hx
  · intro k hk ht
    obtain ⟨j, rfl⟩ := nat_of hk.1
    rw [inL_nat] at hk
    rw [lget_lt hk] at ht
    simp at ht
  · have := List.count_le_length (a := false) (l := List.replicate (g.length + 1) (default : Bool))
    simp only [List.length_replicate] at this; omega
  rintro s wt ⟨i1, i2, i3, i4, i5, i6⟩ _ _
  refine ⟨fun hw => ?_, fun hw => ?_⟩
  · have hne : wt ≠ [] := by intro e; subst e; simp at hw
    obtain ⟨w0, x, rfl⟩ : ∃ w0 x, wt = w0 ++ [x] := by
      rcases List.eq_nil_or_concat wt with h | ⟨K, x, h⟩
      · exact absurd h hne
      · exact ⟨K, x, by simpa using h⟩
    have el : ((w0 ++ [x]).length : Int) - 1 = (w0.length : Int) := by simp
    have ex : lget (w0 ++ [x]) (w0.length : Int) = x := by rw [lget_lt (by simp)]; simp
    have et : (w0 ++ [x]).take (w0.length : Int).toNat = w0 := by simp
    rw [el, ex, et]
    simp only [List.length_append, List.length_singleton] at i6 ⊢
    refine ⟨by omega, inL_nat.2 (by simp), fun hx => ⟨by omega, by omega, ?_⟩⟩
    have hin : ¬ x < 1 → ¬ x > g.length → inL s x := fun h1 h2 => ⟨by omega, by omega⟩
    refine ⟨fun b => (b = true → ¬ (1 ≤ x ∧ x ≤ g.length) ∨ lget s x = true) ∧ (b = false → (1 ≤ x ∧ x ≤ g.length) ∧ lget s x = false), ?_, fun h1 => ⟨fun _ => Or.inl (by omega), fun h => by simp at h⟩, fun h1 => ⟨fun h2 => ⟨fun _ => Or.inl (by omega), fun h => by simp at h⟩, fun h2 => ⟨hin h1 h2, fun hb => Or.inr hb, fun hb => ⟨⟨by omega, by omega⟩, hb⟩⟩⟩⟩
    rintro b ⟨hb1, hb2⟩
    have hsub : ∀ y ∈ w0, y ∈ w0 ++ [x] := fun y hy => List.mem_append_left _ hy
    refine ⟨fun hb => ⟨⟨i1, i2, fun y hy => i3 y (hsub y hy), fun y hy h1 h2 => ?_, fun i hi ht k hk h1 h2 => ?_, by omega⟩, by simp⟩, fun hb => ?_⟩
    · rcases i4 y hy h1 h2 with h | h
      · exact Or.inl h
      · rcases List.mem_append.1 h with h | h
        · exact Or.inr h
        · simp at h; subst h
          rcases hb1 hb with h3 | h3
          · exact absurd ⟨h1, h2⟩ h3
          · exact Or.inl h3
    · rcases i5 i hi ht k hk h1 h2 with h | h
      · exact Or.inl h
      · rcases List.mem_append.1 h with h | h
        · exact Or.inr h
        · simp at h; subst h
          rcases hb1 hb with h3 | h3
          · exact absurd ⟨h1, h2⟩ h3
          · exact Or.inl h3
    · obtain ⟨⟨hx1, hx2⟩, hf⟩ := hb2 hb
      have hxin := hin (by omega) (by omega)
      obtain ⟨j, hj⟩ : ∃ j : Nat, x - 1 = j := nat_of (by omega)
      have hjl : j < g.length := by omega
      have h2 := v.two j hjl
      have hc2 := count_lset hxin hf
      have hrx : Rch g c x := i3 x (by simp) hx1 hx2
      rw [hj]
      have hcnt := List.count_le_length (a := false) (l := s)
      refine ⟨hxin, by omega, inL_nat.2 hjl, fun _ => ⟨by omega, ?_⟩⟩
      rintro _ rfl
      refine ⟨⟨by rw [len_lset]; exact i1, ?_, ?_, ?_, ?_, ?_⟩, ?_⟩
      · intro k hk ht
        have hk' : inL s k := by unfold inL at hk ⊢; rwa [len_lset] at hk
        rcases (lset_mem hxin hk').1 ht with h | h
        · subst h; exact hrx
        · exact i2 k hk' h
      · intro y hy h1 h2
        rcases List.mem_append.1 hy with h | h
        · exact i3 y (hsub y h) h1 h2
        · exact .step hrx (by rw [hj]; exact h) h1 h2
      · intro y hy h1 h2
        have hyin : inL s y := ⟨by omega, by omega⟩
        rcases i4 y hy h1 h2 with h | h
        · exact Or.inl ((lset_mem hxin hyin).2 (Or.inr h))
        · rcases List.mem_append.1 h with h | h
          · exact Or.inr (List.mem_append_left _ h)
          · simp at h; exact Or.inl ((lset_mem hxin hyin).2 (Or.inl h))
      · intro i hi ht k hk h1 h2
        have hi' : inL s i := by unfold inL at hi ⊢; rwa [len_lset] at hi
        have hkin : inL s k := ⟨by omega, by omega⟩
        rcases (lset_mem hxin hi').1 ht with h | h
        · subst h; rw [hj] at hk; exact Or.inr (List.mem_append_right _ hk)
        · rcases i5 i hi' h k hk h1 h2 with h | h
          · exact Or.inl ((lset_mem hxin hkin).2 (Or.inr h))
          · rcases List.mem_append.1 h with h | h
            · exact Or.inr (List.mem_append_left _ h)
            · simp at h; exact Or.inl ((lset_mem hxin hkin).2 (Or.inl h))
      · rw [List.length_append]; omega
      · simp only [List.length_append]; omega
  · have hw : wt = [] := by apply List.eq_nil_of_length_eq_zero; omega
    subst hw
    have : s = seenL g c := by
      refine marks_ext i1 fun k hk => ?_
      have hin : inL s (k : Int) := inL_nat.2 (by omega)
      rw [decide_eq_true_iff]
      refine ⟨i2 _ hin, fun hr => ?_⟩
      have key : ∀ x, Rch g c x → lget s x = true := by
        intro x hx
        induction hx with
        | base h1 h2 h3 => exact (i4 _ h1 h2 h3).resolve_right (by simp)
        | step hr h1 h2 h3 ih => exact (i5 _ ⟨by have := hr.rng; omega, by have := hr.rng; omega⟩ ih _ h1 h2 h3).resolve_right (by simp)
      exact key _ hr
    rwa [this]

theorem row_p {l : List Bool} {Q : List Int → Prop} (hl : l.length ≤ 100000) (h : Q (rowF l)) : graph_row_p l Q := by
  unfold graph_row_p
  simp only [inR_i64]
  intro _
  have hle : ∀ k : Nat, k ≤ l.length → (((List.range k).filter fun k => l.getD k false).map fun (k : Nat) => (k : Int)).length ≤ k := fun k _ => by
    rw [List.length_map]; have := List.length_filter_le (fun k => l.getD k false) (List.range k); simpa using this
  refine ⟨fun out i => ∃ k : Nat, i = k ∧ k ≤ l.length ∧ out = ((List.range k).filter fun k => l.getD k false).map fun (k : Nat) => (k : Int), fun _ i => (l.length - i).toNat, ⟨0, rfl, by omega, by simp⟩, ?_⟩
  rintro _ _ ⟨k, rfl, hk, rfl⟩ _ _
  refine ⟨fun hi => ?_, fun hi => clipI_p fun _ => ?_⟩
  · have hk' : k < l.length := by omega
    have e : lget l (k : Int) = l.getD k false := by rw [lget_nat]; rfl
    have hstep : ((List.range (k + 1)).filter fun k => l.getD k false) = ((List.range k).filter fun k => l.getD k false) ++ if l.getD k false then [k] else [] := by
      rw [List.range_succ, List.filter_append]; simp [List.filter_cons]
    have := hle k hk
    refine ⟨fun out => out = ((List.range (k + 1)).filter fun k => l.getD k false).map fun (k : Nat) => (k : Int), ?_, inL_nat.2 hk', fun ht => ⟨by simp only [List.length_singleton]; omega, ?_⟩, fun ht => ?_⟩
    · rintro _ rfl _
      exact ⟨by omega, ⟨k + 1, rfl, by omega, rfl⟩, by dsimp only; omega⟩
    · rw [e] at ht; rw [hstep, ht]; simp
    · rw [e] at ht; rw [hstep, ht]; simp
  · have : k = l.length := by omega
    subst this
    exact h

theorem rising_p {l : List Bool} {Q : List Int → Prop} (hl : l.length ≤ 100000) (h : Q (((List.range l.length).filter fun k => l.getD k false).map fun (k : Nat) => (k : Int) + 1)) : rectoref17_rising_p l Q := by
  unfold rectoref17_rising_p
  simp only [inR_i64]
  intro _
  have hle : ∀ k : Nat, k ≤ l.length → (((List.range k).filter fun k => l.getD k false).map fun (k : Nat) => (k : Int) + 1).length ≤ k := fun k _ => by
    rw [List.length_map]; have := List.length_filter_le (fun k => l.getD k false) (List.range k); simpa using this
  refine ⟨fun out i => ∃ k : Nat, i = k ∧ k ≤ l.length ∧ out = ((List.range k).filter fun k => l.getD k false).map fun (k : Nat) => (k : Int) + 1, fun _ i => (l.length - i).toNat, ⟨0, rfl, by omega, by simp⟩, ?_⟩
  rintro _ _ ⟨k, rfl, hk, rfl⟩ _ _
  refine ⟨fun hi => ?_, fun hi => ?_⟩
  · have hk' : k < l.length := by omega
    have e : lget l (k : Int) = l.getD k false := by rw [lget_nat]; rfl
    have hstep : ((List.range (k + 1)).filter fun k => l.getD k false) = ((List.range k).filter fun k => l.getD k false) ++ if l.getD k false then [k] else [] := by
      rw [List.range_succ, List.filter_append]; simp [List.filter_cons]
    have := hle k hk
    refine ⟨fun out => out = ((List.range (k + 1)).filter fun k => l.getD k false).map fun (k : Nat) => (k : Int) + 1, ?_, inL_nat.2 hk', fun ht => ⟨by omega, by simp only [List.length_singleton]; omega, ?_⟩, fun ht => ?_⟩
    · rintro _ rfl _
      exact ⟨by omega, ⟨k + 1, rfl, by omega, rfl⟩, by dsimp only; omega⟩
    · rw [e] at ht; rw [hstep, ht]; simp
    · rw [e] at ht; rw [hstep, ht]; simp
  · have : k = l.length := by omega
    subst this
    exact h

theorem lset_at {L : List Bool} {i j : Int} (hi : inL L i) (hj : inL L j) (hn : j ≠ i) : lget (lset L i true) j = lget L j := by
  have := lset_mem hi hj
  cases h : lget L j with
  | true => exact this.2 (Or.inr h)
  | false =>
    cases h2 : lget (lset L i true) j with
    | false => rfl
    | true => rcases this.1 h2 with h3 | h3; exact absurd h3 hn; rw [h3] at h; cases h
theorem inL_lset {α : Type} {L : List α} {i j : Int} {v : α} : inL (lset L i v) j ↔ inL L j := by unfold inL; rw [len_lset]

open Classical in
theorem Marks_p {g : List (List Int)} {c : List Int} {Q : List Bool → Prop} (v : VG g) (hc : c.length ≤ 100000) (h : Q (markL g c)) : rectoref17_Marks_p g c Q := by
  unfold rectoref17_Marks_p
  simp only [inR_i64]
  intro _ _
  have hg := v.len
  refine ⟨by omega, ?_⟩
  rw [Int.toNat_natCast]
  refine ⟨fun m i => ∃ k : Nat, i = k ∧ k ≤ c.length ∧ m.length = g.length ∧ ∀ j : Int, inL m j → (lget m j = true ↔ j + 1 ∈ c.take k), fun _ i => (c.length - i).toNat, ⟨0, rfl, by omega, by simp, ?_⟩, ?_⟩
  · intro j hj
    obtain ⟨q, rfl⟩ := nat_of hj.1
    rw [inL_nat] at hj
    rw [lget_lt hj]; simp
  rintro m _ ⟨k, rfl, hk, hl, hm⟩ _ _
  refine ⟨fun hi => ?_, fun hi => ?_⟩
  · have hk' : k < c.length := by omega
    have ht := take_lget hk'
    generalize lget c (k : Int) = x at ht
    refine ⟨fun m' => m'.length = g.length ∧ ∀ j : Int, inL m' j → (lget m' j = true ↔ j + 1 ∈ c.take (k + 1)), ?_, ?_⟩
    · rintro m' ⟨h1, h2⟩ _
      exact ⟨by omega, ⟨k + 1, rfl, by omega, h1, h2⟩, by dsimp only; omega⟩
    refine ⟨fun b => (b = true → 1 ≤ x ∧ x ≤ g.length) ∧ (b = false → ¬ (1 ≤ x ∧ x ≤ g.length)), ?_, inL_nat.2 hk', fun hx => ⟨fun h1 => ⟨inL_nat.2 hk', fun _ => ⟨fun hb => ⟨h1, of_decide_eq_true hb⟩, fun hb h2 => of_decide_eq_false hb h2.2⟩⟩, fun h1 => ⟨fun h => by simp at h, fun _ h => h1 h.1⟩⟩⟩
    rintro b ⟨hb1, hb2⟩
    refine ⟨fun hb => ?_, fun hb => ⟨hl, fun j hj => ?_⟩⟩
    · obtain ⟨h1, h2⟩ := hb1 hb
      have hin : inL m (x - 1) := ⟨by omega, by omega⟩
      refine ⟨inL_nat.2 hk', fun _ => ⟨by omega, hin, by rw [len_lset]; exact hl, fun j hj => ?_⟩⟩
      rw [inL_lset] at hj
      rw [lset_mem hin hj, hm j hj, ht, List.mem_append]
      constructor
      · rintro (h | h)
        · right; simp; omega
        · exact Or.inl h
      · rintro (h | h)
        · exact Or.inr h
        · left; simp at h; omega
    · rw [hm j hj, ht, List.mem_append]
      constructor
      · exact Or.inl
      · rintro (h | h)
        · exact h
        · simp at h
          unfold inL at hj
          exact absurd ⟨by omega, by omega⟩ (hb2 hb)
  · rw [List.take_of_length_le (by omega)] at hm
    refine ⟨by omega, ?_⟩
    refine ⟨fun m i => ∃ q : Nat, i = (q : Int) - 1 ∧ q ≤ g.length ∧ m.length = g.length ∧ (∀ j : Int, inL m j → lget m j = true → Rch g c (j + 1)) ∧ (∀ x ∈ c, 1 ≤ x → x ≤ g.length → lget m (x - 1) = true) ∧
        (∀ i : Nat, q ≤ i → i < g.length → lget m (i : Int) = true → ∀ p ∈ lget g (i : Int), lget m (p - 1) = true), fun _ i => (i + 1).toNat, ⟨g.length, rfl, Nat.le_refl _, hl, ?_, ?_, ?_⟩, ?_⟩
    · intro j hj ht
      have := (hm j hj).1 ht
      unfold inL at hj
      exact .base this (by omega) (by omega)
    · intro x hx h1 h2
      exact (hm (x - 1) ⟨by omega, by omega⟩).2 (by rw [Int.sub_add_cancel]; exact hx)
    · intro i h1 h2; omega
    clear hm hl
    rintro m _ ⟨q, rfl, hq, hl, j1, j2, j3⟩ _ _
    refine ⟨fun hi => ?_, fun hi => ?_⟩
    · obtain ⟨r, rfl⟩ : ∃ r, q = r + 1 := ⟨q - 1, by omega⟩
      have er : ((r + 1 : Nat) : Int) - 1 = (r : Int) := by omega
      rw [er]
      have hr : r < g.length := hq
      have hold := v.old r hr
      have hrin : inL m (r : Int) := inL_nat.2 (by omega)
      have hgin : inL g (r : Int) := inL_nat.2 hr
      generalize hps : lget g (r : Int) = ps at hold
      refine ⟨fun m' kk => ∃ k : Nat, kk = k ∧ k ≤ ps.length ∧ m'.length = g.length ∧ (∀ j : Int, inL m j → lget m j = true → lget m' j = true) ∧ (∀ j : Int, inL m' j → lget m' j = true → lget m j = true ∨ (lget m (r : Int) = true ∧ j + 1 ∈ ps)) ∧
          (∀ t ∈ ps.take k, lget m' (t - 1) = true), fun _ kk => (ps.length - kk).toNat, ⟨0, rfl, by omega, hl, fun j _ h => h, fun j _ h => Or.inl h, by simp⟩, ?_⟩
      rintro m' _ ⟨k, rfl, hk, l1, l2, l3, l4⟩ _ _
      have hrin' : inL m' (r : Int) := inL_nat.2 (by omega)
      have hrr : lget m' (r : Int) = lget m (r : Int) := by
        refine bool_ext ⟨fun h => ?_, l2 _ hrin⟩
        rcases l3 _ hrin' h with h1 | h1
        · exact h1
        · exact h1.1
      refine ⟨fun b => b = (decide (k < ps.length) && lget m (r : Int)), ?_, hgin, fun _ => ⟨fun h1 => ⟨hrin', ?_⟩, fun h1 => ?_⟩⟩
      · rintro b hb
        refine ⟨fun hbt => ?_, fun hbf => ?_⟩
        · rw [hb, Bool.and_eq_true] at hbt
          have hk' : k < ps.length := of_decide_eq_true hbt.1
          have hp := hold ps[k] (List.getElem_mem hk')
          have ht := take_lget hk'
          have ex : lget ps (k : Int) = ps[k] := lget_lt hk'
          have hpin : inL m' (ps[k] - 1) := ⟨by omega, by omega⟩
          refine ⟨hgin, fun _ => ⟨inL_nat.2 hk', fun _ => ?_⟩⟩
          rw [ex] at ht ⊢
          refine ⟨by omega, hpin, by omega, ⟨k + 1, rfl, by omega, by rw [len_lset]; exact l1, ?_, ?_, ?_⟩, by dsimp only; omega⟩
          · intro j hj h1
            have hj' : inL m' j := by unfold inL at hj ⊢; omega
            exact (lset_mem hpin hj').2 (Or.inr (l2 j hj h1))
          · intro j hj h1
            rw [inL_lset] at hj
            rcases (lset_mem hpin hj).1 h1 with h2 | h2
            · exact Or.inr ⟨hbt.2, by rw [h2, Int.sub_add_cancel]; exact List.getElem_mem hk'⟩
            · exact l3 j hj h2
          · intro t htm
            have htps : t ∈ ps := by
              rw [ht] at htm
              rcases List.mem_append.1 htm with h2 | h2
              · exact List.mem_of_mem_take h2
              · simp at h2; subst h2; exact List.getElem_mem hk'
            have h5 := hold t htps
            have htin : inL m' (t - 1) := ⟨by omega, by omega⟩
            rw [ht] at htm
            rcases List.mem_append.1 htm with h2 | h2
            · exact (lset_mem hpin htin).2 (Or.inr (l4 t h2))
            · simp at h2; exact (lset_mem hpin htin).2 (Or.inl (by omega))
        · refine ⟨by omega, ⟨r, rfl, by omega, l1, ?_, ?_, ?_⟩, by dsimp only; omega⟩
          · intro j hj h1
            rcases l3 j hj h1 with h2 | ⟨h2, h3⟩
            · exact j1 j (by unfold inL at hj ⊢; omega) h2
            · have h5 := hold _ h3
              exact .step (j1 _ hrin h2) (by rw [Int.add_sub_cancel, hps]; exact h3) (by omega) (by omega)
          · intro x hx h1 h2
            exact l2 _ ⟨by omega, by omega⟩ (j2 x hx h1 h2)
          · intro i h1 h2 h3 p hp
            have hiin : inL m (i : Int) := inL_nat.2 (by omega)
            have hiin' : inL m' (i : Int) := inL_nat.2 (by omega)
            have hpo := v.old i h2 p hp
            have hpin : inL m (p - 1) := ⟨by omega, by omega⟩
            have hmi : lget m (i : Int) = true := by
              rcases l3 _ hiin' h3 with h4 | ⟨h4, h5⟩
              · exact h4
              · have := hold _ h5; omega
            by_cases hir : i = r
            · subst hir
              rw [hps] at hp
              rw [hbf] at hb
              have hnk : ¬ k < ps.length := fun hlt => by rw [decide_eq_true hlt, hmi] at hb; cases hb
              rw [List.take_of_length_le (by omega)] at l4
              exact l4 p hp
            · exact l2 _ hpin (j3 i (by omega) h2 hmi p hp)
      · rw [hrr, decide_eq_true (show k < ps.length by omega), Bool.true_and]
      · rw [decide_eq_false (show ¬ k < ps.length by omega), Bool.false_and]
    · obtain rfl : q = 0 := by omega
      have : m = markL g c := by
        refine marks_ext hl fun k hk => ?_
        have hin : inL m (k : Int) := inL_nat.2 (by omega)
        rw [decide_eq_true_iff]
        refine ⟨j1 _ hin, fun hr => ?_⟩
        have key : ∀ x, Rch g c x → lget m (x - 1) = true := by
          intro x hx
          induction hx with
          | base h1 h2 h3 => exact j2 _ h1 h2 h3
          | @step i k hr h1 h2 h3 ih =>
            have := hr.rng
            obtain ⟨j, hj⟩ : ∃ j : Nat, i - 1 = j := nat_of (by omega)
            rw [hj] at h1 ih
            exact j3 j (by omega) (by omega) ih _ h1
        have := key _ hr
        rwa [Int.add_sub_cancel] at this
      rwa [this]

/-! ### What two have in common -/
open Classical in
noncomputable def both (g : List (List Int)) (a b : Int) (k : Nat) : Bool := decide (Rch g [a] ((k : Int) + 1) ∧ Rch g [b] ((k : Int) + 1))
open Classical in
noncomputable def basF (g : List (List Int)) (a b : Int) (k : Nat) : Bool := both g a b k && !decide (Rch g (parF g (both g a b)) ((k : Int) + 1))
open Classical in
noncomputable def onlF (g : List (List Int)) (a b : Int) (k : Nat) : Bool := decide (Rch g [a] ((k : Int) + 1) ∧ ¬ Rch g [b] ((k : Int) + 1))
open Classical in
noncomputable def ancF (g : List (List Int)) (c : List Int) (k : Nat) : Bool := decide (Rch g c ((k : Int) + 1))
open Classical in
theorem seenL_len (g : List (List Int)) (c : List Int) : (seenL g c).length = g.length + 1 := by unfold seenL; simp
theorem markL_len (g : List (List Int)) (c : List Int) : (markL g c).length = g.length := by unfold markL; simp
open Classical in
theorem seenL_get {g : List (List Int)} {c : List Int} {k : Nat} (h : k < g.length + 1) : lget (seenL g c) (k : Int) = decide (Rch g c (k : Int)) := by
  rw [lget_lt (by rw [seenL_len]; exact h)]; unfold seenL; simp
open Classical in
theorem markL_get {g : List (List Int)} {c : List Int} {k : Nat} (h : k < g.length) : lget (markL g c) (k : Int) = decide (Rch g c ((k : Int) + 1)) := by
  rw [lget_lt (by rw [markL_len]; exact h)]; unfold markL; simp
theorem not_rch0 {g : List (List Int)} {c : List Int} : ¬ Rch g c 0 := fun h => by have := h.rng; omega
open Classical in
theorem row_seen (g : List (List Int)) (c : List Int) : rowF (seenL g c) = idsF g.length (ancF g c) := by
  unfold seenL
  rw [rowF_range _ _ (by simpa using not_rch0)]
  rfl

theorem Ancestors_p {g : List (List Int)} {c : List Int} {Q : List Int → Prop} (v : VG g) (hc : c.length ≤ 100000) (h : Q (idsF g.length (ancF g c))) : graph_Graph_Ancestors_p g c Q := by
  unfold graph_Graph_Ancestors_p
  have hg := v.len
  intro _ _
  refine seen_p v hc fun _ => row_p (by rw [seenL_len]; omega) fun _ => ?_
  rw [row_seen]; exact h
theorem AncestorsR_p {g : List (List Int)} {c : List Int} {Q : List Int → Prop} (v : VG g) (hc : c.length ≤ 100000) (h : Q (idsF g.length (ancF g c))) : rectoref17_Ancestors_p g c Q := by
  unfold rectoref17_Ancestors_p
  have hg := v.len
  intro _ _
  refine Marks_p v hc fun _ => rising_p (by rw [markL_len]; omega) fun _ => ?_
  unfold markL; rw [risF_range]; exact h
open Classical in
theorem Is_p {g : List (List Int)} {a c : Int} {Q : Bool → Prop} (v : VG g) (h : Q (decide (Rch g [c] a))) : graph_Graph_Is_p g a c Q := by
  unfold graph_Graph_Is_p
  have hg := v.len
  intro _ _ _
  refine ⟨_, fun _ h => h, ?_⟩
  refine ⟨fun h1 => ⟨fun h2 => seen_p v (by simp) fun _ => ?_, fun h2 => ?_⟩, fun h1 => ?_⟩
  · obtain ⟨k, rfl⟩ := nat_of (show 0 ≤ a by omega)
    rw [seenL_get (by omega)]
    exact ⟨inL_nat.2 (by rw [seenL_len]; omega), h⟩
  · rwa [decide_eq_false (fun hr => h2 hr.rng.2)] at h
  · rwa [decide_eq_false (fun hr => h1 hr.rng.1)] at h
open Classical in
theorem IsR_p {g : List (List Int)} {a c : Int} {Q : Bool → Prop} (v : VG g) (h : Q (decide (Rch g [c] a))) : rectoref17_Is_p g a c Q := by
  unfold rectoref17_Is_p
  simp only [inR_i64]
  have hg := v.len
  intro _ _ _
  refine ⟨_, fun _ h => h, ?_⟩
  refine ⟨fun h1 => ⟨fun h2 => Marks_p v (by simp) fun _ => ?_, fun h2 => ?_⟩, fun h1 => ?_⟩
  · obtain ⟨k, hk⟩ := nat_of (show 0 ≤ a - 1 by omega)
    have e : (k : Int) + 1 = a := by omega
    rw [hk, markL_get (by omega), e]
    exact ⟨by omega, inL_nat.2 (by rw [markL_len]; omega), h⟩
  · rwa [decide_eq_false (fun hr => h2 hr.rng.2)] at h
  · rwa [decide_eq_false (fun hr => h1 hr.rng.1)] at h

/-- A row of marks that is gone through from the front on, place by place. -/
theorem marks_set {n k : Nat} {f h : Nat → Bool} (hk : k < n) : lset ((List.range n).map fun j => if j < k then h j else f j) (k : Int) (h k) = (List.range n).map fun j => if j < k + 1 then h j else f j := by
  rw [lset_nat]
  refine List.ext_getElem (by simp) fun j h1 h2 => ?_
  rw [List.getElem_set]
  simp only [List.getElem_map, List.getElem_range]
  by_cases e : k = j
  · subst e; rw [if_pos rfl, if_pos (by omega)]
  · rw [if_neg e]
    by_cases e2 : j < k
    · rw [if_pos e2, if_pos (by omega)]
    · rw [if_neg e2, if_neg (by omega)]
theorem marks_at {n k : Nat} {f h : Nat → Bool} (hk : k < n) : lget ((List.range n).map fun j => if j < k then h j else f j) (k : Int) = f k := by
  rw [lget_lt (by simpa using hk)]; simp
theorem marks_0 {n : Nat} {f h : Nat → Bool} : ((List.range n).map fun j => if j < 0 then h j else f j) = (List.range n).map f := by simp
theorem marks_n {n : Nat} {f h : Nat → Bool} : ((List.range n).map fun j => if j < n then h j else f j) = (List.range n).map h :=
  List.map_congr_left fun j hj => by rw [if_pos (List.mem_range.1 hj)]
theorem marks_len (n : Nat) (f : Nat → Bool) : ((List.range n).map f).length = n := by simp

theorem flat_shift {β : Type} (n : Nat) (F : Nat → List β) (h0 : F 0 = []) : (List.range (n + 1)).flatMap F = (List.range n).flatMap fun k => F (k + 1) := by
  rw [List.range_succ_eq_map, List.flatMap_cons, h0, List.nil_append, List.flatMap_map]
open Classical in
theorem Bases_p {g : List (List Int)} {a b : Int} {Q : List Int → Prop} (v : VG g) (h : Q (idsF g.length (basF g a b))) : graph_Graph_Bases_p g a b Q := by
  unfold graph_Graph_Bases_p
  simp only [inR_i64]
  have hg := v.len
  intro _ _ _
  refine seen_p v (by simp) fun _ => seen_p v (by simp) fun _ => ?_
  generalize hfa : (fun (k : Nat) => decide (Rch g [a] (k : Int))) = fa
  generalize hfb : (fun (k : Nat) => decide (Rch g [b] (k : Int))) = fb
  have ea : seenL g [a] = (List.range (g.length + 1)).map fa := by rw [← hfa]; rfl
  have eb : ∀ k : Nat, k < g.length + 1 → lget (seenL g [b]) (k : Int) = fb k := fun k hk => by rw [seenL_get hk, ← hfb]
  have hlb := seenL_len g [b]
  rw [ea]
  have hla : ((List.range (g.length + 1)).map fa).length = g.length + 1 := by simp
  have hbo0 : (fa 0 && fb 0) = false := by rw [← hfa]; simp [not_rch0]
  have hpl : ∀ k, k ≤ g.length + 1 → ((List.range k).flatMap fun (j : Nat) => if (fa j && fb j) then lget g ((j : Int) - 1) else []).length ≤ 2 * k := by
    intro k hk
    induction k with
    | zero => simp
    | succ k ih =>
      rw [List.range_succ, List.flatMap_append, List.length_append]
      have := ih (by omega)
      simp only [List.flatMap_cons, List.flatMap_nil, List.append_nil]
      split
      · rename_i hb
        cases k with
        | zero => rw [hbo0] at hb; cases hb
        | succ k =>
          rw [show (((k + 1 : Nat) : Int) - 1) = (k : Int) from by omega]
          have := v.two k (by omega); omega
      · simp only [List.length_nil]; omega
  refine ⟨fun s par i => ∃ k : Nat, i = k ∧ k ≤ g.length + 1 ∧ s = (List.range (g.length + 1)).map (fun j => if j < k then fa j && fb j else fa j) ∧ par = (List.range k).flatMap fun (j : Nat) => if (fa j && fb j) then lget g ((j : Int) - 1) else [],
    fun _ _ i => ((g.length : Int) + 1 - i).toNat, ⟨0, rfl, by omega, by rw [marks_0], by simp⟩, ?_⟩
  rintro _ _ _ ⟨k, rfl, hk, rfl, rfl⟩ _ _ _
  have hlen := marks_len (g.length + 1) (fun j => if j < k then fa j && fb j else fa j)
  refine ⟨fun hi => ?_, fun hi => ?_⟩
  · have hk' : k < g.length + 1 := by omega
    have hin : inL ((List.range (g.length + 1)).map (fun j => if j < k then fa j && fb j else fa j)) (k : Int) := inL_nat.2 (by rw [hlen]; exact hk')
    have hset := marks_set (f := fa) (h := fun j => fa j && fb j) hk'
    have hat := marks_at (f := fa) (h := fun j => fa j && fb j) hk'
    have hpk := hpl k hk
    have hfl : ((List.range (k + 1)).flatMap fun (j : Nat) => if (fa j && fb j) then lget g ((j : Int) - 1) else []) = ((List.range k).flatMap fun (j : Nat) => if (fa j && fb j) then lget g ((j : Int) - 1) else []) ++ (if (fa k && fb k) then lget g ((k : Int) - 1) else []) := by
      rw [List.range_succ, List.flatMap_append]; simp
    refine ⟨fun s par => s = (List.range (g.length + 1)).map (fun j => if j < k + 1 then fa j && fb j else fa j) ∧ par = (List.range (k + 1)).flatMap fun (j : Nat) => if (fa j && fb j) then lget g ((j : Int) - 1) else [], ?_, ?_⟩
    · rintro _ _ ⟨rfl, rfl⟩ _ _
      exact ⟨by omega, ⟨k + 1, rfl, by omega, rfl, rfl⟩, by dsimp only; omega⟩
    refine ⟨fun s => s = (List.range (g.length + 1)).map (fun j => if j < k + 1 then fa j && fb j else fa j), ?_, hin, fun h1 => ⟨inL_nat.2 (by omega), hin, ?_⟩, fun h1 => ⟨hin, ?_⟩⟩
    · rintro _ rfl _
      have hl2 := marks_len (g.length + 1) (fun j => if j < k + 1 then fa j && fb j else fa j)
      have hg2 : lget ((List.range (g.length + 1)).map (fun j => if j < k + 1 then fa j && fb j else fa j)) (k : Int) = (fa k && fb k) := by
        rw [lget_lt (by rw [hl2]; exact hk')]; simp
      rw [hg2, hfl]
      refine ⟨inL_nat.2 (by rw [hl2]; exact hk'), fun h1 => ?_, fun h1 => ?_⟩
      · have hk0 : k ≠ 0 := by rintro rfl; rw [hbo0] at h1; cases h1
        obtain ⟨q, rfl⟩ : ∃ q, k = q + 1 := ⟨k - 1, by omega⟩
        have eq : (((q + 1 : Nat) : Int) - 1) = (q : Int) := by omega
        rw [eq, if_pos h1]
        have h2 := v.two q (by omega)
        refine ⟨by omega, inL_nat.2 (by omega), fun _ => ⟨by omega, rfl, rfl⟩⟩
      · rw [h1]; simp
    · rw [eb k hk', ← hset]
      rw [hat] at h1
      simp [h1]
    · rw [← hset]
      rw [hat] at h1
      simp [h1]
  · obtain rfl : k = g.length + 1 := by omega
    rw [marks_n]
    have hpar : ((List.range (g.length + 1)).flatMap fun (j : Nat) => if (fa j && fb j) then lget g ((j : Int) - 1) else []) = parF g (both g a b) := by
      rw [flat_shift _ _ (by rw [hbo0]; simp)]
      unfold parF
      congr 1; funext j
      have : (fa (j + 1) && fb (j + 1)) = both g a b j := by rw [← hfa, ← hfb]; simp [both]
      rw [this, show (((j + 1 : Nat) : Int) - 1) = (j : Int) from by omega]
    rw [hpar]
    have hpl2 := parF_le v (both g a b)
    generalize hpp : parF g (both g a b) = par at hpl2
    have hd : ∀ k : Nat, k < g.length + 1 → lget (seenL g par) (k : Int) = decide (Rch g par (k : Int)) := fun k hk => seenL_get hk
    have hld := seenL_len g par
    refine seen_p v (by omega) fun _ => ?_
    generalize hbo : (fun (j : Nat) => fa j && fb j) = bo
    generalize hfd : (fun (k : Nat) => decide (Rch g par (k : Int))) = fd
    have hlb2 : ((List.range (g.length + 1)).map bo).length = g.length + 1 := by simp
    refine ⟨fun s i => ∃ k : Nat, i = k ∧ k ≤ g.length + 1 ∧ s = (List.range (g.length + 1)).map (fun j => if j < k then bo j && !fd j else bo j), fun _ i => ((g.length : Int) + 1 - i).toNat, ⟨0, rfl, by omega, by rw [marks_0]⟩, ?_⟩
    rintro _ _ ⟨k, rfl, hk, rfl⟩ _ _
    have hlen := marks_len (g.length + 1) (fun j => if j < k then bo j && !fd j else bo j)
    refine ⟨fun hi => ?_, fun hi => ?_⟩
    · have hk' : k < g.length + 1 := by omega
      have hin : inL ((List.range (g.length + 1)).map (fun j => if j < k then bo j && !fd j else bo j)) (k : Int) := inL_nat.2 (by rw [hlen]; exact hk')
      have hset := marks_set (f := bo) (h := fun j => bo j && !fd j) hk'
      have hat := marks_at (f := bo) (h := fun j => bo j && !fd j) hk'
      refine ⟨fun s => s = (List.range (g.length + 1)).map (fun j => if j < k + 1 then bo j && !fd j else bo j), ?_, hin, fun h1 => ⟨inL_nat.2 (by omega), hin, ?_⟩, fun h1 => ⟨hin, ?_⟩⟩
      · rintro _ rfl _
        exact ⟨by omega, ⟨k + 1, rfl, by omega, rfl⟩, by dsimp only; omega⟩
      · rw [hd k hk', ← hset]
        rw [hat] at h1
        rw [← hfd]; simp [h1]
      · rw [← hset]
        rw [hat] at h1
        simp [h1]
    · obtain rfl : k = g.length + 1 := by omega
      rw [marks_n]
      refine row_p (by simp; omega) fun _ => ?_
      rw [rowF_range _ _ (by rw [← hbo]; simp [hbo0])]
      have : (fun k => bo (k + 1) && !fd (k + 1)) = basF g a b := by
        funext k
        unfold basF
        rw [hpp, ← hbo, ← hfd, ← hfa, ← hfb]
        simp [both]
      rw [this]; exact h

open Classical in
theorem BasesR_p {g : List (List Int)} {a b : Int} {Q : List Int → Prop} (v : VG g) (h : Q (idsF g.length (basF g a b))) : rectoref17_Bases_p g a b Q := by
  unfold rectoref17_Bases_p
  simp only [inR_i64]
  have hg := v.len
  intro _ _ _
  refine Marks_p v (by simp) fun _ => Marks_p v (by simp) fun _ => ⟨by omega, ?_⟩
  rw [Int.toNat_natCast]
  have ga : ∀ k : Nat, k < g.length → lget (markL g [a]) (k : Int) = decide (Rch g [a] ((k : Int) + 1)) := fun k hk => markL_get hk
  have gb : ∀ k : Nat, k < g.length → lget (markL g [b]) (k : Int) = decide (Rch g [b] ((k : Int) + 1)) := fun k hk => markL_get hk
  have la := markL_len g [a]
  have lb := markL_len g [b]
  have e0 : List.replicate g.length (default : Bool) = (List.range g.length).map fun _ => false := by simp [List.map_const']
  rw [e0]
  generalize hf : (fun (_ : Nat) => false) = ff
  refine ⟨fun s i => ∃ k : Nat, i = k ∧ k ≤ g.length ∧ s = (List.range g.length).map (fun j => if j < k then both g a b j else ff j), fun _ i => (g.length - i).toNat, ⟨0, rfl, by omega, by rw [marks_0]⟩, ?_⟩
  rintro _ _ ⟨k, rfl, hk, rfl⟩ _ _
  have hlen := marks_len g.length (fun j => if j < k then both g a b j else ff j)
  refine ⟨fun hi => ?_, fun hi => ?_⟩
  · have hk' : k < g.length := by omega
    have hin : inL ((List.range g.length).map (fun j => if j < k then both g a b j else ff j)) (k : Int) := inL_nat.2 (by rw [hlen]; exact hk')
    have hset := marks_set (f := ff) (h := both g a b) hk'
    refine ⟨fun s => s = (List.range g.length).map (fun j => if j < k + 1 then both g a b j else ff j), ?_, inL_nat.2 (by omega), fun h1 => ⟨inL_nat.2 (by omega), hin, ?_⟩, fun h1 => ⟨hin, ?_⟩⟩
    · rintro _ rfl _
      exact ⟨by omega, ⟨k + 1, rfl, by omega, rfl⟩, by dsimp only; omega⟩
    · rw [gb k hk', ← hset]
      rw [ga k hk'] at h1
      have h1 := of_decide_eq_true h1
      congr 1; simp [both, h1]
    · rw [← hset]
      rw [ga k hk'] at h1
      have h1 : ¬ Rch g [a] ((k : Int) + 1) := fun e => h1 (decide_eq_true e)
      congr 1; simp [both, h1]
  obtain rfl : k = g.length := by omega
  rw [marks_n]
  generalize hbb : both g a b = bo
  have hl1 := marks_len g.length bo
  have hget : ∀ (k : Nat), k < g.length → lget ((List.range g.length).map bo) (k : Int) = bo k := fun k hk => by rw [lget_lt (by simpa using hk)]; simp
  refine ⟨fun un i => ∃ k : Nat, i = k ∧ k ≤ g.length ∧ un = (List.range k).flatMap fun (j : Nat) => if bo j then lget g (j : Int) else [], fun _ i => (g.length - i).toNat, ⟨0, rfl, by omega, by simp⟩, ?_⟩
  rintro _ _ ⟨k, rfl, hk, rfl⟩ _ _
  have hfle := flat_le v bo k hk
  refine ⟨fun hi => ?_, fun hi => ?_⟩
  · have hk' : k < g.length := by omega
    have hfl : ((List.range (k + 1)).flatMap fun (j : Nat) => if bo j then lget g (j : Int) else []) = ((List.range k).flatMap fun (j : Nat) => if bo j then lget g (j : Int) else []) ++ (if bo k then lget g (k : Int) else []) := by
      rw [List.range_succ, List.flatMap_append]; simp
    refine ⟨fun un => un = (List.range (k + 1)).flatMap fun (j : Nat) => if bo j then lget g (j : Int) else [], ?_, inL_nat.2 (by omega), ?_⟩
    · rintro _ rfl _
      exact ⟨by omega, ⟨k + 1, rfl, by omega, rfl⟩, by dsimp only; omega⟩
    rw [hget k hk', hfl]
    have h2 := v.two k hk'
    exact ⟨fun h1 => ⟨inL_nat.2 hk', fun _ => ⟨by omega, by rw [if_pos h1]⟩⟩, fun h1 => by rw [h1]; simp⟩
  obtain rfl : k = g.length := by omega
  have hpl := parF_le v bo
  have hun : ((List.range g.length).flatMap fun (j : Nat) => if bo j then lget g (j : Int) else []) = parF g bo := rfl
  rw [hun]
  generalize hpp : parF g bo = par at hpl
  have hd : ∀ k : Nat, k < g.length → lget (markL g par) (k : Int) = decide (Rch g par ((k : Int) + 1)) := fun k hk => markL_get hk
  have hld := markL_len g par
  refine Marks_p v (by omega) fun _ => ?_
  generalize hfd : (fun (k : Nat) => decide (Rch g par ((k : Int) + 1))) = fd
  refine ⟨fun s i => ∃ k : Nat, i = k ∧ k ≤ g.length ∧ s = (List.range g.length).map (fun j => if j < k then bo j && !fd j else bo j), fun _ i => (g.length - i).toNat, ⟨0, rfl, by omega, by rw [marks_0]⟩, ?_⟩
  rintro _ _ ⟨k, rfl, hk, rfl⟩ _ _
  have hlen := marks_len g.length (fun j => if j < k then bo j && !fd j else bo j)
  refine ⟨fun hi => ?_, fun hi => ?_⟩
  · have hk' : k < g.length := by omega
    have hin : inL ((List.range g.length).map (fun j => if j < k then bo j && !fd j else bo j)) (k : Int) := inL_nat.2 (by rw [hlen]; exact hk')
    have hset := marks_set (f := bo) (h := fun j => bo j && !fd j) hk'
    have hat := marks_at (f := bo) (h := fun j => bo j && !fd j) hk'
    refine ⟨fun s => s = (List.range g.length).map (fun j => if j < k + 1 then bo j && !fd j else bo j), ?_, hin, fun h1 => ⟨inL_nat.2 (by omega), hin, ?_⟩, fun h1 => ⟨hin, ?_⟩⟩
    · rintro _ rfl _
      exact ⟨by omega, ⟨k + 1, rfl, by omega, rfl⟩, by dsimp only; omega⟩
    · rw [hd k hk', ← hset]
      rw [hat] at h1
      rw [← hfd]; simp [h1]
    · rw [← hset]
      rw [hat] at h1
      simp [h1]
  · obtain rfl : k = g.length := by omega
    rw [marks_n]
    refine rising_p (by simp; omega) fun _ => ?_
    rw [risF_range]
    have : (fun k => bo k && !fd k) = basF g a b := by
      funext k
      unfold basF
      rw [hbb, hpp, ← hfd]
    rw [this]; exact h

open Classical in
theorem Only_p {g : List (List Int)} {a b : Int} {Q : List Int → Prop} (v : VG g) (h : Q (idsF g.length (onlF g a b))) : graph_Graph_Only_p g a b Q := by
  unfold graph_Graph_Only_p
  simp only [inR_i64]
  have hg := v.len
  intro _ _ _
  refine seen_p v (by simp) fun _ => seen_p v (by simp) fun _ => ?_
  generalize hfa : (fun (k : Nat) => decide (Rch g [a] (k : Int))) = fa
  have ea : seenL g [a] = (List.range (g.length + 1)).map fa := by rw [← hfa]; rfl
  have hd : ∀ k : Nat, k < g.length + 1 → lget (seenL g [b]) (k : Int) = decide (Rch g [b] (k : Int)) := fun k hk => seenL_get hk
  have hlb := seenL_len g [b]
  rw [ea]
  have hla : ((List.range (g.length + 1)).map fa).length = g.length + 1 := by simp
  generalize hfd : (fun (k : Nat) => decide (Rch g [b] (k : Int))) = fd
  refine ⟨fun s i => ∃ k : Nat, i = k ∧ k ≤ g.length + 1 ∧ s = (List.range (g.length + 1)).map (fun j => if j < k then fa j && !fd j else fa j), fun _ i => ((g.length : Int) + 1 - i).toNat, ⟨0, rfl, by omega, by rw [marks_0]⟩, ?_⟩
  rintro _ _ ⟨k, rfl, hk, rfl⟩ _ _
  have hlen := marks_len (g.length + 1) (fun j => if j < k then fa j && !fd j else fa j)
  refine ⟨fun hi => ?_, fun hi => ?_⟩
  · have hk' : k < g.length + 1 := by omega
    have hin : inL ((List.range (g.length + 1)).map (fun j => if j < k then fa j && !fd j else fa j)) (k : Int) := inL_nat.2 (by rw [hlen]; exact hk')
    have hset := marks_set (f := fa) (h := fun j => fa j && !fd j) hk'
    have hat := marks_at (f := fa) (h := fun j => fa j && !fd j) hk'
    refine ⟨fun s => s = (List.range (g.length + 1)).map (fun j => if j < k + 1 then fa j && !fd j else fa j), ?_, hin, fun h1 => ⟨inL_nat.2 (by omega), hin, ?_⟩, fun h1 => ⟨hin, ?_⟩⟩
    · rintro _ rfl _
      exact ⟨by omega, ⟨k + 1, rfl, by omega, rfl⟩, by dsimp only; omega⟩
    · rw [hd k hk', ← hset]
      rw [hat] at h1
      rw [← hfd]; simp [h1]
    · rw [← hset]
      rw [hat] at h1
      simp [h1]
  · obtain rfl : k = g.length + 1 := by omega
    rw [marks_n]
    refine row_p (by simp; omega) fun _ => ?_
    rw [rowF_range _ _ (by rw [← hfa]; simp [not_rch0])]
    have : (fun k => fa (k + 1) && !fd (k + 1)) = onlF g a b := by
      funext k
      rw [← hfd, ← hfa]
      simp [onlF]
    rw [this]; exact h
open Classical in
theorem OnlyR_p {g : List (List Int)} {a b : Int} {Q : List Int → Prop} (v : VG g) (h : Q (idsF g.length (onlF g a b))) : rectoref17_Only_p g a b Q := by
  unfold rectoref17_Only_p
  simp only [inR_i64]
  have hg := v.len
  intro _ _ _
  refine Marks_p v (by simp) fun _ => Marks_p v (by simp) fun _ => ?_
  generalize hfa : (fun (k : Nat) => decide (Rch g [a] ((k : Int) + 1))) = fa
  have ea : markL g [a] = (List.range g.length).map fa := by rw [← hfa]; rfl
  have hd : ∀ k : Nat, k < g.length → lget (markL g [b]) (k : Int) = decide (Rch g [b] ((k : Int) + 1)) := fun k hk => markL_get hk
  have hlb := markL_len g [b]
  rw [ea]
  generalize hfd : (fun (k : Nat) => decide (Rch g [b] ((k : Int) + 1))) = fd
  refine ⟨fun s i => ∃ k : Nat, i = k ∧ k ≤ g.length ∧ s = (List.range g.length).map (fun j => if j < k then fa j && !fd j else fa j), fun _ i => (g.length - i).toNat, ⟨0, rfl, by omega, by rw [marks_0]⟩, ?_⟩
  rintro _ _ ⟨k, rfl, hk, rfl⟩ _ _
  have hlen := marks_len g.length (fun j => if j < k then fa j && !fd j else fa j)
  refine ⟨fun hi => ?_, fun hi => ?_⟩
  · have hk' : k < g.length := by omega
    have hin : inL ((List.range g.length).map (fun j => if j < k then fa j && !fd j else fa j)) (k : Int) := inL_nat.2 (by rw [hlen]; exact hk')
    have hset := marks_set (f := fa) (h := fun j => fa j && !fd j) hk'
    have hat := marks_at (f := fa) (h := fun j => fa j && !fd j) hk'
    refine ⟨fun s => s = (List.range g.length).map (fun j => if j < k + 1 then fa j && !fd j else fa j), ?_, hin, fun h1 => ⟨inL_nat.2 (by omega), hin, ?_⟩, fun h1 => ⟨hin, ?_⟩⟩
    · rintro _ rfl _
      exact ⟨by omega, ⟨k + 1, rfl, by omega, rfl⟩, by dsimp only; omega⟩
    · rw [hd k hk', ← hset]
      rw [hat] at h1
      rw [← hfd]; simp [h1]
    · rw [← hset]
      rw [hat] at h1
      simp [h1]
  · obtain rfl : k = g.length := by omega
    rw [marks_n]
    refine rising_p (by simp; omega) fun _ => ?_
    rw [risF_range]
    have : (fun k => fa k && !fd k) = onlF g a b := by
      funext k
      rw [← hfd, ← hfa]
      simp [onlF]
    rw [this]; exact h
end Go.Proofs.Ytmepomdpjlbaaaa
