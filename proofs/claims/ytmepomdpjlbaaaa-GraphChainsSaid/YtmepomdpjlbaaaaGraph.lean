/- The plain law of commits: who comes from whom. No program stands here. -/
import Derived.Test.YtmepomdpjlbaaaaPure
namespace Go.Proofs.Ytmepomdpjlbaaaa
open Go

/-- Commits that may be: each comes from two others at most, and these are older. -/
structure VG (g : List (List Int)) : Prop where
  len : g.length ≤ 1024
  two : ∀ i : Nat, i < g.length → (lget g (i : Int)).length ≤ 2
  old : ∀ i : Nat, i < g.length → ∀ p ∈ lget g (i : Int), 1 ≤ p ∧ p ≤ i

/-- Commit k is one of those that the commits c come from, themselves too. -/
inductive Rch (g : List (List Int)) (c : List Int) : Int → Prop where
  | base {k : Int} : k ∈ c → 1 ≤ k → k ≤ g.length → Rch g c k
  | step {i k : Int} : Rch g c i → k ∈ lget g (i - 1) → 1 ≤ k → k ≤ g.length → Rch g c k
theorem Rch.rng {g : List (List Int)} {c : List Int} {k : Int} (h : Rch g c k) : 1 ≤ k ∧ k ≤ g.length := by
  cases h with
  | base _ h1 h2 => exact ⟨h1, h2⟩
  | step _ _ h1 h2 => exact ⟨h1, h2⟩
theorem Rch.mono {g : List (List Int)} {c d : List Int} {k : Int} (h : Rch g c k) (hcd : ∀ x ∈ c, 1 ≤ x → x ≤ g.length → Rch g d x) : Rch g d k := by
  induction h with
  | base h1 h2 h3 => exact hcd _ h1 h2 h3
  | step _ h1 h2 h3 ih => exact .step ih h1 h2 h3
open Classical in
/-- The marks of 'seen': a place for each number from 0 on. -/
noncomputable def seenL (g : List (List Int)) (c : List Int) : List Bool := (List.range (g.length + 1)).map fun (k : Nat) => decide (Rch g c (k : Int))
open Classical in
/-- The marks of the document: a place for each number from 1 on. -/
noncomputable def markL (g : List (List Int)) (c : List Int) : List Bool := (List.range g.length).map fun (k : Nat) => decide (Rch g c ((k : Int) + 1))

theorem lset_mem {L : List Bool} {i j : Int} (hi : inL L i) (hj : inL L j) : lget (lset L i true) j = true ↔ (j = i ∨ lget L j = true) := by
  obtain ⟨a, rfl⟩ := nat_of hi.1
  obtain ⟨b, rfl⟩ := nat_of hj.1
  rw [inL_nat] at hi hj
  rw [lset_nat, lget_lt (by simpa using hj), lget_lt hj, List.getElem_set]
  by_cases h : a = b
  · subst h; simp
  · rw [if_neg h]
    constructor
    · exact Or.inr
    · rintro (h1 | h1)
      · omega
      · exact h1
theorem bool_ext {a b : Bool} (h : a = true ↔ b = true) : a = b := Bool.eq_iff_iff.2 h
theorem marks_ext {n : Nat} {L : List Bool} {f : Nat → Bool} (hl : L.length = n) (h : ∀ k : Nat, k < n → (lget L (k : Int) = true ↔ f k = true)) : L = (List.range n).map f := by
  refine List.ext_getElem (by simp [hl]) fun k h1 h2 => ?_
  have h3 : k < n := by omega
  have := h k h3
  rw [lget_lt h1] at this
  rw [List.getElem_map, List.getElem_range]
  exact bool_ext this

/-- The numbers from 1 to n of which P holds. -/
def idsF (n : Nat) (p : Nat → Bool) : List Int := ((List.range n).filter p).map fun (k : Nat) => (k : Int) + 1
theorem idsF_congr {n : Nat} {p q : Nat → Bool} (h : ∀ k, k < n → p k = q k) : idsF n p = idsF n q := by
  unfold idsF; rw [List.filter_congr fun k hk => h k (List.mem_range.1 hk)]
theorem idsF_len (n : Nat) (p : Nat → Bool) : (idsF n p).length ≤ n := by
  unfold idsF; rw [List.length_map]; have := List.length_filter_le p (List.range n); simpa using this
theorem mem_idsF {n : Nat} {p : Nat → Bool} {x : Int} : x ∈ idsF n p ↔ 1 ≤ x ∧ x ≤ n ∧ p (x.toNat - 1) = true := by
  unfold idsF
  simp only [List.mem_map, List.mem_filter, List.mem_range]
  constructor
  · rintro ⟨k, ⟨h1, h2⟩, rfl⟩
    exact ⟨by omega, by omega, by rw [show ((k : Int) + 1).toNat - 1 = k from by omega]; exact h2⟩
  · rintro ⟨h1, h2, h3⟩
    exact ⟨x.toNat - 1, ⟨by omega, h3⟩, by omega⟩

/-- What 'row' makes of marks. -/
def rowF (l : List Bool) : List Int := ((List.range l.length).filter fun k => l.getD k false).map fun (k : Nat) => (k : Int)
theorem rowF_range (n : Nat) (f : Nat → Bool) (h0 : f 0 = false) : rowF ((List.range (n + 1)).map f) = idsF n fun k => f (k + 1) := by
  unfold rowF idsF
  have e : (List.range ((List.range (n + 1)).map f).length).filter (fun k => ((List.range (n + 1)).map f).getD k false) = (List.range (n + 1)).filter f := by
    rw [List.length_map, List.length_range]
    refine List.filter_congr fun k hk => ?_
    have hk := List.mem_range.1 hk
    simp [List.getD, List.getElem?_range hk]
  rw [e, List.range_succ_eq_map, List.filter_cons, h0]
  simp only [Bool.false_eq_true, if_false, List.filter_map, List.map_map]
  rfl
/-- What 'rising' makes of marks. -/
theorem risF_range (n : Nat) (f : Nat → Bool) : (((List.range ((List.range n).map f).length).filter fun k => ((List.range n).map f).getD k false).map fun (k : Nat) => (k : Int) + 1) = idsF n f := by
  unfold idsF
  rw [List.length_map, List.length_range]
  congr 1
  refine List.filter_congr fun k hk => ?_
  have hk := List.mem_range.1 hk
  simp [List.getD, List.getElem?_range hk]

/-- The parents of those of which p holds. -/
def parF (g : List (List Int)) (p : Nat → Bool) : List Int := (List.range g.length).flatMap fun (k : Nat) => if p k then lget g (k : Int) else []
theorem mem_parF {g : List (List Int)} {p : Nat → Bool} {x : Int} : x ∈ parF g p ↔ ∃ k, k < g.length ∧ p k = true ∧ x ∈ lget g (k : Int) := by
  unfold parF
  rw [List.mem_flatMap]
  constructor
  · rintro ⟨k, h1, h2⟩
    split at h2
    · exact ⟨k, List.mem_range.1 h1, ‹_›, h2⟩
    · cases h2
  · rintro ⟨k, h1, h2, h3⟩
    exact ⟨k, List.mem_range.2 h1, by rw [if_pos h2]; exact h3⟩
theorem flat_le {g : List (List Int)} (v : VG g) (p : Nat → Bool) : ∀ n, n ≤ g.length → ((List.range n).flatMap fun (k : Nat) => if p k then lget g (k : Int) else []).length ≤ 2 * n
  | 0, _ => by simp
  | n + 1, h => by
    rw [List.range_succ, List.flatMap_append, List.length_append]
    have := flat_le v p n (by omega)
    have h2 := v.two n (by omega)
    simp only [List.flatMap_cons, List.flatMap_nil, List.append_nil]
    split
    · omega
    · simp only [List.length_nil]; omega
theorem parF_le {g : List (List Int)} (v : VG g) (p : Nat → Bool) : (parF g p).length ≤ 2 * g.length := flat_le v p _ (Nat.le_refl _)

/-! ### Who comes from whom -/
theorem Rch.trans {g : List (List Int)} {c d : List Int} {k : Int} (h : Rch g c k) (hcd : ∀ x ∈ c, Rch g d x) : Rch g d k := h.mono fun x hx _ _ => hcd x hx
theorem Rch.self {g : List (List Int)} {y : Int} (h1 : 1 ≤ y) (h2 : y ≤ g.length) : Rch g [y] y := .base (by simp) h1 h2
theorem Rch.one {g : List (List Int)} {c : List Int} {y x : Int} (h : Rch g [y] x) (hy : Rch g c y) : Rch g c x := h.trans fun z hz => by simp at hz; subst hz; exact hy
theorem Rch.split {g : List (List Int)} {y x : Int} (h : Rch g [y] x) : x = y ∨ Rch g (lget g (y - 1)) x := by
  induction h with
  | base h1 h2 h3 => simp at h1; exact Or.inl h1
  | step _ h1 h2 h3 ih =>
    rcases ih with e | h
    · subst e; exact Or.inr (.base h1 h2 h3)
    · exact Or.inr (.step h h1 h2 h3)
theorem Rch.le {g : List (List Int)} (v : VG g) {c : List Int} {m x : Int} (hc : ∀ y ∈ c, y ≤ m) (h : Rch g c x) : x ≤ m := by
  induction h with
  | base h1 _ _ => exact hc _ h1
  | @step i k hr h1 _ _ ih =>
    have := hr.rng
    obtain ⟨j, hj⟩ : ∃ j : Nat, i - 1 = j := nat_of (by omega)
    rw [hj] at h1
    have := v.old j (by omega) k h1
    omega
theorem Rch.of_par {g : List (List Int)} {p : Nat → Bool} {x : Int} (h : Rch g (parF g p) x) : ∃ k : Nat, k < g.length ∧ p k = true ∧ Rch g (lget g (k : Int)) x := by
  induction h with
  | base h1 h2 h3 =>
    obtain ⟨k, hk, hp, hm⟩ := mem_parF.1 h1
    exact ⟨k, hk, hp, .base hm h2 h3⟩
  | step _ h1 h2 h3 ih =>
    obtain ⟨k, hk, hp, hr⟩ := ih
    exact ⟨k, hk, hp, .step hr h1 h2 h3⟩
theorem Rch.to_par {g : List (List Int)} {p : Nat → Bool} {x : Int} {k : Nat} (hk : k < g.length) (hp : p k = true) (h : Rch g (lget g (k : Int)) x) : Rch g (parF g p) x :=
  h.mono fun y hy h1 h2 => .base (mem_parF.2 ⟨k, hk, hp, hy⟩) h1 h2
theorem Rch.up {g : List (List Int)} {x : Int} {k : Nat} (hk : k < g.length) (h : Rch g (lget g (k : Int)) x) : Rch g [(k : Int) + 1] x :=
  h.mono fun y hy h1 h2 => .step (Rch.self (y := (k : Int) + 1) (by omega) (by omega)) (by rw [Int.add_sub_cancel]; exact hy) h1 h2
theorem idsF_nodup (n : Nat) (p : Nat → Bool) : (idsF n p).Nodup := by
  unfold idsF
  rw [List.Nodup, List.pairwise_map]
  exact (List.nodup_range.filter p).imp fun h => by omega
theorem lget_inj {L : List Int} (h : L.Nodup) {i k : Int} (hi : inL L i) (hk : inL L k) (hne : i ≠ k) : lget L i ≠ lget L k := by
  obtain ⟨a, rfl⟩ := nat_of hi.1
  obtain ⟨b, rfl⟩ := nat_of hk.1
  rw [inL_nat] at hi hk
  rw [lget_lt hi, lget_lt hk]
  intro e
  have := (List.getElem_inj h).1 e
  omega
end Go.Proofs.Ytmepomdpjlbaaaa
