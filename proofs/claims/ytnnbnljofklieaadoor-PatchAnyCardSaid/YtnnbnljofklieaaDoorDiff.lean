/- The plain law of the difference of two rows of lines: the longest common row, the edits. No program stands here. -/
import Derived.Test.YtnnbnljofklieaaDoorPlain
namespace Go.Proofs.YtnnbnljofklieaaDoor
open Go

def lcs : List ByteArray → List ByteArray → Nat
  | [], _ => 0
  | _ :: _, [] => 0
  | x :: a, y :: b => if x = y then lcs a b + 1 else max (lcs a (y :: b)) (lcs (x :: a) b)
termination_by a b => a.length + b.length
theorem lcs_nil (b : List ByteArray) : lcs [] b = 0 := by rw [lcs]
theorem lcs_nil' (a : List ByteArray) : lcs a [] = 0 := by cases a <;> rw [lcs]
theorem lcs_cons (x y : ByteArray) (a b : List ByteArray) : lcs (x :: a) (y :: b) = if x = y then lcs a b + 1 else max (lcs a (y :: b)) (lcs (x :: a) b) := by rw [lcs]

structure PEd where
  op : Int
  line : ByteArray

def ed : List ByteArray → List ByteArray → List PEd
  | [], [] => []
  | [], y :: b => ⟨3, y⟩ :: ed [] b
  | x :: a, [] => ⟨2, x⟩ :: ed a []
  | x :: a, y :: b => if x = y then ⟨1, x⟩ :: ed a b else if lcs a (y :: b) ≥ lcs (x :: a) b then ⟨2, x⟩ :: ed a (y :: b) else ⟨3, y⟩ :: ed (x :: a) b
termination_by a b => a.length + b.length

/-- An induction over two rows. -/
theorem two_ind {P : List ByteArray → List ByteArray → Prop} (h0 : P [] []) (h1 : ∀ y b, P [] b → P [] (y :: b)) (h2 : ∀ x a, P a [] → P (x :: a) [])
    (h3 : ∀ x y a b, P a b → P a (y :: b) → P (x :: a) b → P (x :: a) (y :: b)) : ∀ a b, P a b := by
  have key : ∀ n a b, a.length + b.length ≤ n → P a b := by
    intro n
    induction n with
    | zero => intro a b h; cases a <;> cases b <;> simp at h; exact h0
    | succ n ih =>
      intro a b h
      cases a with
      | nil => cases b with
        | nil => exact h0
        | cons y b => exact h1 y b (ih _ _ (by simp at h ⊢; omega))
      | cons x a => cases b with
        | nil => exact h2 x a (ih _ _ (by simp at h ⊢; omega))
        | cons y b => exact h3 x y a b (ih _ _ (by simp at h ⊢; omega)) (ih _ _ (by simp at h ⊢; omega)) (ih _ _ (by simp at h ⊢; omega))
  intro a b; exact key _ a b (Nat.le_refl _)

def notAdd (l : List PEd) : List ByteArray := (l.filter fun e => decide (e.op ≠ 3)).map PEd.line
def notDel (l : List PEd) : List ByteArray := (l.filter fun e => decide (e.op ≠ 2)).map PEd.line
def cost (l : List PEd) : Nat := (l.filter fun e => decide (e.op ≠ 1)).length

theorem ed_notAdd : ∀ a b, notAdd (ed a b) = a := by
  refine two_ind ?_ ?_ ?_ ?_
  · simp [ed, notAdd]
  · intro y b h; rw [ed]; simpa [notAdd] using h
  · intro x a h; rw [ed]; simpa [notAdd] using h
  · intro x y a b h1 h2 h3
    rw [ed]
    split
    · simpa [notAdd] using h1
    · split
      · simpa [notAdd] using h2
      · simpa [notAdd] using h3
theorem ed_notDel : ∀ a b, notDel (ed a b) = b := by
  refine two_ind ?_ ?_ ?_ ?_
  · simp [ed, notDel]
  · intro y b h; rw [ed]; simpa [notDel] using h
  · intro x a h; rw [ed]; simpa [notDel] using h
  · intro x y a b h1 h2 h3
    rw [ed]
    split
    · rename_i e; subst e; simpa [notDel] using h1
    · split
      · simpa [notDel] using h2
      · simpa [notDel] using h3
theorem ed_cost : ∀ a b, cost (ed a b) + 2 * lcs a b = a.length + b.length := by
  refine two_ind ?_ ?_ ?_ ?_
  · simp [ed, cost, lcs]
  · intro y b h; rw [ed, lcs_nil]; rw [lcs_nil] at h; simp [cost] at h ⊢; omega
  · intro x a h; rw [ed, lcs_nil']; rw [lcs_nil'] at h; simp [cost] at h ⊢; omega
  · intro x y a b h1 h2 h3
    rw [ed, lcs_cons]
    split
    · simp [cost] at h1 ⊢; omega
    · split
      · rename_i h; rw [Nat.max_eq_left h]; simp [cost] at h2 ⊢; omega
      · rename_i h; rw [Nat.max_eq_right (by omega)]; simp [cost] at h3 ⊢; omega
theorem lcs_comm : ∀ a b, lcs a b = lcs b a := by
  refine two_ind ?_ ?_ ?_ ?_
  · rfl
  · intro y b h; rw [lcs_nil, lcs_nil']
  · intro x a h; rw [lcs_nil, lcs_nil']
  · intro x y a b h1 h2 h3
    rw [lcs_cons, lcs_cons]
    by_cases h : x = y
    · rw [if_pos h, if_pos h.symm, h1]
    · rw [if_neg h, if_neg (fun e => h e.symm), h2, h3, Nat.max_comm]
theorem lcs_self (a : List ByteArray) : lcs a a = a.length := by
  induction a with
  | nil => rw [lcs_nil]; rfl
  | cons x a ih => rw [lcs_cons, if_pos rfl, ih]; rfl
theorem cost_comm (a b : List ByteArray) : cost (ed a b) = cost (ed b a) := by
  have h1 := ed_cost a b; have h2 := ed_cost b a; rw [lcs_comm b a] at h2; omega
theorem cost_zero (a b : List ByteArray) : cost (ed a b) = 0 ↔ a = b := by
  constructor
  · intro h
    have h1 : ∀ e ∈ ed a b, e.op = 1 := by
      intro e he
      by_cases h2 : e.op = 1
      · exact h2
      · have := List.eq_nil_of_length_eq_zero h
        have h3 : e ∈ (ed a b).filter fun e => decide (e.op ≠ 1) := List.mem_filter.2 ⟨he, by simpa using h2⟩
        rw [this] at h3; cases h3
    have h2 : (ed a b).filter (fun e => decide (e.op ≠ 3)) = ed a b := List.filter_eq_self.2 fun e he => by rw [h1 e he]; decide
    have h3 : (ed a b).filter (fun e => decide (e.op ≠ 2)) = ed a b := List.filter_eq_self.2 fun e he => by rw [h1 e he]; decide
    have e1 := ed_notAdd a b; have e2 := ed_notDel a b
    unfold notAdd at e1; unfold notDel at e2
    rw [h2] at e1; rw [h3] at e2
    rw [← e1, e2]
  · intro h; subst h
    have := ed_cost a a; rw [lcs_self] at this; omega
/-- No common row is longer. -/
theorem lcs_least : ∀ a b (c : List ByteArray), List.Sublist c a → List.Sublist c b → c.length ≤ lcs a b := by
  refine two_ind ?_ ?_ ?_ ?_
  · intro c h _; rw [List.sublist_nil.1 h]; simp
  · intro y b _ c h _; rw [List.sublist_nil.1 h]; simp
  · intro x a _ c _ h; rw [List.sublist_nil.1 h]; simp
  · intro x y a b h1 h2 h3 c ha hb
    rw [lcs_cons]
    by_cases h : x = y
    · rw [if_pos h]
      have := h1 c.tail (by simpa using ha.tail) (by simpa using hb.tail)
      rw [List.length_tail] at this; omega
    · rw [if_neg h]
      cases ha with
      | cons _ ha => exact Nat.le_trans (h2 c ha hb) (Nat.le_max_left _ _)
      | cons_cons _ ha' =>
        rename_i c'
        cases hb with
        | cons _ hb => exact Nat.le_trans (h3 _ (ha'.cons_cons x) hb) (Nat.le_max_right _ _)
        | cons_cons _ _ => exact absurd rfl h
theorem lcs_le (a b : List ByteArray) : lcs a b ≤ a.length ∧ lcs a b ≤ b.length := by
  revert a b
  refine two_ind ?_ ?_ ?_ ?_
  · rw [lcs_nil]; simp
  · intro y b h; rw [lcs_nil]; simp
  · intro x a h; rw [lcs_nil']; simp
  · intro x y a b h1 h2 h3
    rw [lcs_cons]
    split
    · simp; omega
    · simp at *; omega
theorem ed_len (a b : List ByteArray) : (ed a b).length ≤ a.length + b.length := by
  revert a b
  refine two_ind ?_ ?_ ?_ ?_
  · simp [ed]
  · intro y b h; rw [ed]; simp at h ⊢; omega
  · intro x a h; rw [ed]; simp at h ⊢; omega
  · intro x y a b h1 h2 h3
    rw [ed]
    split
    · simp at *; omega
    · split <;> (simp at *; omega)

/-! ### The table -/
/-- How long the longest common row is from a pair of places on. -/
def T (a b : List ByteArray) (i j : Nat) : Nat := lcs (a.drop i) (b.drop j)
theorem T_end (a b : List ByteArray) {i : Nat} (j : Nat) (h : a.length ≤ i) : T a b i j = 0 := by unfold T; rw [List.drop_of_length_le h, lcs_nil]
theorem T_end' (a b : List ByteArray) (i : Nat) {j : Nat} (h : b.length ≤ j) : T a b i j = 0 := by unfold T; rw [List.drop_of_length_le h, lcs_nil']
theorem T_eq (a b : List ByteArray) {i j : Nat} (hi : i < a.length) (hj : j < b.length) (h : a[i] = b[j]) : T a b i j = T a b (i + 1) (j + 1) + 1 := by
  unfold T; rw [List.drop_eq_getElem_cons hi, List.drop_eq_getElem_cons hj, lcs_cons, if_pos h]
theorem T_ne (a b : List ByteArray) {i j : Nat} (hi : i < a.length) (hj : j < b.length) (h : ¬ a[i] = b[j]) : T a b i j = max (T a b (i + 1) j) (T a b i (j + 1)) := by
  unfold T
  rw [List.drop_eq_getElem_cons hi, List.drop_eq_getElem_cons hj, lcs_cons, if_neg h]
theorem T_le (a b : List ByteArray) (i j : Nat) : T a b i j ≤ a.length ∧ T a b i j ≤ b.length := by
  have := lcs_le (a.drop i) (b.drop j); simp only [List.length_drop] at this; unfold T; omega
/-- The table when all places from p on are filled. -/
def tb (a b : List ByteArray) (p : Nat) : List Int :=
  (List.range ((a.length + 1) * (b.length + 1))).map fun k => if p ≤ k then ((T a b (k / (b.length + 1)) (k % (b.length + 1)) : Nat) : Int) else 0
theorem tb_len (a b : List ByteArray) (p : Nat) : (tb a b p).length = (a.length + 1) * (b.length + 1) := by simp [tb]
theorem at_lt {na nb i j : Nat} (hi : i ≤ na) (hj : j ≤ nb) : i * (nb + 1) + j < (na + 1) * (nb + 1) := by
  have : i * (nb + 1) ≤ na * (nb + 1) := Nat.mul_le_mul_right _ hi
  rw [Nat.add_mul na 1]; omega
theorem at_div {nb i j : Nat} (hj : j ≤ nb) : (i * (nb + 1) + j) / (nb + 1) = i ∧ (i * (nb + 1) + j) % (nb + 1) = j := by
  constructor
  · rw [Nat.mul_comm, Nat.mul_add_div (by omega), Nat.div_eq_of_lt (by omega)]; omega
  · rw [Nat.mul_comm, Nat.mul_add_mod, Nat.mod_eq_of_lt (by omega)]
theorem tb_get (a b : List ByteArray) {p i j : Nat} (hj : j ≤ b.length) (hp : p ≤ i * (b.length + 1) + j) (h : i * (b.length + 1) + j < (tb a b p).length) : (tb a b p)[i * (b.length + 1) + j] = ((T a b i j : Nat) : Int) := by
  simp only [tb, List.getElem_map, List.getElem_range, if_pos hp, (at_div hj).1, (at_div hj).2]
theorem tb_set (a b : List ByteArray) {k i j : Nat} (hj : j ≤ b.length) (hk : k = i * (b.length + 1) + j) : (tb a b (k + 1)).set k ((T a b i j : Nat) : Int) = tb a b k := by
  apply List.ext_getElem
  · simp [tb]
  · intro m h1 h2
    rw [List.getElem_set]
    split
    · rename_i e
      subst e
      simp only [tb, List.getElem_map, List.getElem_range, Nat.le_refl, if_true]
      rw [hk, (at_div hj).1, (at_div hj).2]
    · rename_i e
      simp only [tb, List.getElem_map, List.getElem_range]
      by_cases h3 : k + 1 ≤ m
      · rw [if_pos h3, if_pos (by omega)]
      · rw [if_neg h3, if_neg (by omega)]
theorem tb_skip (a b : List ByteArray) (i : Nat) : tb a b ((i + 1) * (b.length + 1)) = tb a b (i * (b.length + 1) + b.length) := by
  have e : (i + 1) * (b.length + 1) = i * (b.length + 1) + b.length + 1 := by rw [Nat.add_mul]; omega
  rw [e, ← tb_set a b (i := i) (j := b.length) (k := i * (b.length + 1) + b.length) (Nat.le_refl _) rfl, T_end' a b i (Nat.le_refl _)]
  refine (List.ext_getElem (by simp) fun m h1 h2 => ?_)
  rw [List.getElem_set]
  split
  · rename_i e2
    subst e2
    simp only [tb, List.getElem_map, List.getElem_range]
    rw [if_neg (by omega)]; rfl
  · rfl
theorem tb_init (a b : List ByteArray) : List.replicate ((a.length + 1) * (b.length + 1)) (0 : Int) = tb a b (a.length * (b.length + 1)) := by
  apply List.ext_getElem
  · simp [tb]
  · intro m h1 h2
    simp only [tb, List.getElem_map, List.getElem_range, List.getElem_replicate]
    split
    · rename_i h
      rw [T_end a b _ (by rw [Nat.le_div_iff_mul_le (by omega)]; exact h)]; rfl
    · rfl

/-! ### What is done at a pair -/
def E (a b : List ByteArray) (i j : Nat) : List PEd := ed (a.drop i) (b.drop j)
def stepF (a b : List ByteArray) (i j : Nat) : Int :=
  if h : i < a.length ∧ j < b.length then (if a[i]'h.1 = b[j]'h.2 then 1 else if T a b (i + 1) j ≥ T a b i (j + 1) then 2 else 3) else if i < a.length then 2 else 3
theorem stepF_1 {a b : List ByteArray} {i j : Nat} (h : stepF a b i j = 1) : ∃ (hi : i < a.length) (_ : j < b.length), E a b i j = ⟨1, a[i]⟩ :: E a b (i + 1) (j + 1) := by
  unfold stepF at h
  split at h
  · rename_i hh
    split at h
    · rename_i e
      refine ⟨hh.1, hh.2, ?_⟩
      unfold E; rw [List.drop_eq_getElem_cons hh.1, List.drop_eq_getElem_cons hh.2, ed, if_pos e]
    · split at h <;> exact absurd h (by decide)
  · split at h <;> exact absurd h (by decide)
theorem stepF_2 {a b : List ByteArray} {i j : Nat} (h : stepF a b i j = 2) : ∃ (hi : i < a.length), E a b i j = ⟨2, a[i]⟩ :: E a b (i + 1) j := by
  unfold stepF at h
  split at h
  · rename_i hh
    split at h
    · exact absurd h (by decide)
    · rename_i e
      split at h
      · rename_i g
        refine ⟨hh.1, ?_⟩
        unfold T at g
        unfold E
        rw [List.drop_eq_getElem_cons hh.2, List.drop_eq_getElem_cons hh.1] at g
        rw [List.drop_eq_getElem_cons hh.1, List.drop_eq_getElem_cons hh.2, ed, if_neg e, if_pos g]
      · exact absurd h (by decide)
  · rename_i hh
    split at h
    · rename_i hi
      refine ⟨hi, ?_⟩
      unfold E
      rw [List.drop_of_length_le (show b.length ≤ j by omega), List.drop_eq_getElem_cons hi, ed]
    · exact absurd h (by decide)
theorem stepF_3 {a b : List ByteArray} {i j : Nat} (h : stepF a b i j = 3) (hj : i < a.length ∨ j < b.length) : ∃ (hj : j < b.length), E a b i j = ⟨3, b[j]⟩ :: E a b i (j + 1) := by
  unfold stepF at h
  split at h
  · rename_i hh
    split at h
    · exact absurd h (by decide)
    · rename_i e
      split at h
      · exact absurd h (by decide)
      · rename_i g
        refine ⟨hh.2, ?_⟩
        unfold T at g
        unfold E
        rw [List.drop_eq_getElem_cons hh.2, List.drop_eq_getElem_cons hh.1] at g
        rw [List.drop_eq_getElem_cons hh.1, List.drop_eq_getElem_cons hh.2, ed, if_neg e, if_neg g]
  · rename_i hh
    split at h
    · exact absurd h (by decide)
    · rename_i hi
      have hj' : j < b.length := by omega
      refine ⟨hj', ?_⟩
      unfold E
      rw [List.drop_of_length_le (show a.length ≤ i by omega), List.drop_eq_getElem_cons hj', ed]
theorem stepF_or (a b : List ByteArray) (i j : Nat) : stepF a b i j = 1 ∨ stepF a b i j = 2 ∨ stepF a b i j = 3 := by
  unfold stepF
  split
  · split
    · exact .inl rfl
    · split
      · exact .inr (.inl rfl)
      · exact .inr (.inr rfl)
  · split
    · exact .inr (.inl rfl)
    · exact .inr (.inr rfl)
theorem E_end {a b : List ByteArray} {i j : Nat} (hi : a.length ≤ i) (hj : b.length ≤ j) : E a b i j = [] := by
  unfold E; rw [List.drop_of_length_le hi, List.drop_of_length_le hj, ed]
theorem E_start (a b : List ByteArray) : E a b 0 0 = ed a b := rfl
theorem stepF_keep {a b : List ByteArray} {i j : Nat} (hi : i < a.length) (hj : j < b.length) (h : a[i] = b[j]) : stepF a b i j = 1 := by
  unfold stepF; rw [dif_pos ⟨hi, hj⟩, if_pos h]
theorem stepF_del {a b : List ByteArray} {i j : Nat} (hi : i < a.length) (hj : j < b.length) (h : ¬ a[i] = b[j]) (g : T a b (i + 1) j ≥ T a b i (j + 1)) : stepF a b i j = 2 := by
  unfold stepF; rw [dif_pos ⟨hi, hj⟩, if_neg h, if_pos g]
theorem stepF_add {a b : List ByteArray} {i j : Nat} (hi : i < a.length) (hj : j < b.length) (h : ¬ a[i] = b[j]) (g : ¬ T a b (i + 1) j ≥ T a b i (j + 1)) : stepF a b i j = 3 := by
  unfold stepF; rw [dif_pos ⟨hi, hj⟩, if_neg h, if_neg g]
theorem stepF_last {a b : List ByteArray} {i j : Nat} (hi : i < a.length) (hj : ¬ j < b.length) : stepF a b i j = 2 := by
  unfold stepF; rw [dif_neg (by omega), if_pos hi]
theorem stepF_rest {a b : List ByteArray} {i j : Nat} (hi : ¬ i < a.length) : stepF a b i j = 3 := by
  unfold stepF; rw [dif_neg (by omega), if_neg hi]
theorem at_lt' {na nb i j m : Nat} (hm : m = (na + 1) * (nb + 1)) (hi : i ≤ na) (hj : j ≤ nb) : i * (nb + 1) + j < m := by rw [hm]; exact at_lt hi hj
theorem at_le {nb i : Nat} (hi : i ≤ 300) (hj : nb ≤ 300) : i * (nb + 1) ≤ 90300 := Nat.mul_le_mul hi (show nb + 1 ≤ 301 by omega)
end Go.Proofs.YtnnbnljofklieaaDoor
