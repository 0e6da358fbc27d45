/- Runs of marked places. No program stands here. -/
import Derived.Test.YtnnbnljofklieaaDoorPlain
namespace Go.Proofs.YtnnbnljofklieaaDoor
open Go
/-- The runs among the first places, the last one first. -/
def RevR (P : Nat → Prop) : Nat → List (Nat × Nat) → Prop
  | n, [] => ∀ k, k < n → ¬ P k
  | n, (f, t) :: R => f < t ∧ t ≤ n ∧ (∀ k, t ≤ k → k < n → ¬ P k) ∧ (∀ k, f ≤ k → k < t → P k) ∧ (0 < f → ¬ P (f - 1)) ∧ RevR P f R
theorem RevR.cong {P P' : Nat → Prop} : ∀ {R : List (Nat × Nat)} {n : Nat}, RevR P n R → (∀ k, k < n → (P k ↔ P' k)) → RevR P' n R
  | [], _, h, e => fun k hk hp => h k hk ((e k hk).2 hp)
  | (f, t) :: R, n, ⟨h1, h2, h3, h4, h5, h6⟩, e => ⟨h1, h2, fun k a b hp => h3 k a b ((e k b).2 hp), fun k a b => (e k (by omega)).1 (h4 k a b), fun h0 hp => h5 h0 ((e (f - 1) (by omega)).2 hp), h6.cong fun k hk => e k (by omega)⟩
theorem RevR.low {P : Nat → Prop} {f t n m : Nat} {R : List (Nat × Nat)} (h : RevR P n ((f, t) :: R)) (h1 : t ≤ m) (h2 : m ≤ n) : RevR P m ((f, t) :: R) :=
  ⟨h.1, h1, fun k a b => h.2.2.1 k a (by omega), h.2.2.2⟩
theorem RevR.uniq {P : Nat → Prop} : ∀ {R S : List (Nat × Nat)} {n : Nat}, RevR P n R → RevR P n S → R = S
  | [], [], _, _, _ => rfl
  | [], (f, t) :: S, n, h, ⟨k1, k2, k3, k4, k5, k6⟩ => absurd (k4 f (Nat.le_refl _) k1) (h f (by omega))
  | (f, t) :: R, [], n, ⟨h1, h2, h3, h4, h5, h6⟩, k => absurd (h4 f (Nat.le_refl _) h1) (k f (by omega))
  | (f, t) :: R, (g, u) :: S, n, ⟨h1, h2, h3, h4, h5, h6⟩, ⟨k1, k2, k3, k4, k5, k6⟩ => by
    have e1 : t = u := by
      rcases Nat.lt_trichotomy t u with h | h | h
      · exact absurd (k4 (u - 1) (by omega) (by omega)) (h3 (u - 1) (by omega) (by omega))
      · exact h
      · exact absurd (h4 (t - 1) (by omega) (by omega)) (k3 (t - 1) (by omega) (by omega))
    subst e1
    have e2 : f = g := by
      rcases Nat.lt_trichotomy f g with h | h | h
      · exact absurd (h4 (g - 1) (by omega) (by omega)) (k5 (by omega))
      · exact h
      · exact absurd (k4 (f - 1) (by omega) (by omega)) (h5 (by omega))
    subst e2
    rw [h6.uniq k6]
/-- A place more that is marked, ahead of it none. -/
theorem RevR.new {P : Nat → Prop} {n : Nat} {R : List (Nat × Nat)} (h : RevR P n R) (hp : P n) (h0 : 0 < n → ¬ P (n - 1)) : RevR P (n + 1) ((n, n + 1) :: R) :=
  ⟨by omega, Nat.le_refl _, fun k a b => by omega, fun k a b => by rw [show k = n from by omega]; exact hp, h0, h⟩
/-- .. ahead of it one. -/
theorem RevR.more {P : Nat → Prop} {n : Nat} {R : List (Nat × Nat)} (h : RevR P n R) (hp : P n) (h0 : 0 < n) (h1 : P (n - 1)) : ∃ f R', R = (f, n) :: R' ∧ f < n ∧ RevR P (n + 1) ((f, n + 1) :: R') := by
  match R, h with
  | [], h => exact absurd h1 (h (n - 1) (by omega))
  | (f, t) :: R, ⟨g1, g2, g3, g4, g5, g6⟩ =>
    have : t = n := by
      rcases Nat.lt_or_ge t n with h | h
      · exact absurd h1 (g3 (n - 1) (by omega) (by omega))
      · omega
    subst this
    refine ⟨f, R, rfl, g1, by omega, Nat.le_refl _, fun k a b => by omega, fun k a b => ?_, g5, g6⟩
    rcases Nat.lt_or_ge k t with h | h
    · exact g4 k a h
    · rw [show k = t from by omega]; exact hp
/-- A place more that is not marked. -/
theorem RevR.skip {P : Nat → Prop} {n : Nat} : ∀ {R : List (Nat × Nat)}, RevR P n R → ¬ P n → RevR P (n + 1) R
  | [], h, hp => fun k hk => by
      rcases Nat.lt_or_ge k n with g | g
      · exact h k g
      · rw [show k = n from by omega]; exact hp
  | (f, t) :: R, ⟨g1, g2, g3, g4⟩, hp => ⟨g1, by omega, fun k a b => by
      rcases Nat.lt_or_ge k n with g | g
      · exact g3 k a g
      · rw [show k = n from by omega]; exact hp, g4⟩
/-- Places a to b more are marked: they touch the last run. -/
theorem RevR.join {P P' : Nat → Prop} {n f t a b : Nat} {R : List (Nat × Nat)} (h : RevR P n ((f, t) :: R)) (hP : ∀ k, P' k ↔ P k ∨ (a ≤ k ∧ k < b)) (ha : a ≤ t) (hf : f ≤ a) (hb : b ≤ n) (htb : t ≤ b) : RevR P' n ((f, b) :: R) := by
  obtain ⟨g1, g2, g3, g4, g5, g6⟩ := h
  refine ⟨by omega, hb, fun k x y => fun hp => ?_, fun k x y => (hP k).2 ?_, fun h0 hp => ?_, g6.cong fun k hk => ⟨fun h => (hP k).2 (.inl h), fun h => ?_⟩⟩
  · rcases (hP k).1 hp with h | h
    · exact g3 k (by omega) y h
    · omega
  · rcases Nat.lt_or_ge k t with h | h
    · exact .inl (g4 k x h)
    · exact .inr ⟨by omega, y⟩
  · rcases (hP (f - 1)).1 hp with h | h
    · exact g5 h0 h
    · omega
  · rcases (hP k).1 h with h | h
    · exact h
    · omega
/-- .. they do not touch it. -/
theorem RevR.part {P P' : Nat → Prop} {n f t a b : Nat} {R : List (Nat × Nat)} (h : RevR P n ((f, t) :: R)) (hP : ∀ k, P' k ↔ P k ∨ (a ≤ k ∧ k < b)) (ha : t < a) (hab : a < b) (hb : b ≤ n) : RevR P' n ((a, b) :: (f, t) :: R) := by
  have g3 := h.2.2.1
  have g1 := h.1
  refine ⟨hab, hb, fun k x y hp => ?_, fun k x y => (hP k).2 (.inr ⟨x, y⟩), fun h0 hp => ?_, (h.low (Nat.le_of_lt ha) (by omega)).cong fun k hk => ⟨fun h => (hP k).2 (.inl h), fun h => ?_⟩⟩
  · rcases (hP k).1 hp with h | h
    · exact g3 k (by omega) y h
    · omega
  · rcases (hP (a - 1)).1 hp with h | h
    · exact g3 (a - 1) (by omega) (by omega) h
    · omega
  · rcases (hP k).1 h with h | h
    · exact h
    · omega
theorem RevR.first {P P' : Nat → Prop} {n a b : Nat} (h : RevR P n []) (hP : ∀ k, P' k ↔ P k ∨ (a ≤ k ∧ k < b)) (hab : a < b) (hb : b ≤ n) : RevR P' n [(a, b)] := by
  refine ⟨hab, hb, fun k x y hp => ?_, fun k x y => (hP k).2 (.inr ⟨x, y⟩), fun h0 hp => ?_, fun k hk hp => ?_⟩
  · rcases (hP k).1 hp with g | g
    · exact h k y g
    · omega
  · rcases (hP (a - 1)).1 hp with g | g
    · exact h (a - 1) (by omega) g
    · omega
  · rcases (hP k).1 hp with g | g
    · exact h k (by omega) g
    · omega
/-- The runs from a place on, in their order. -/
def Seg (P : Nat → Prop) (n : Nat) : Nat → List (Nat × Nat) → Prop
  | lo, [] => lo ≤ n ∧ ∀ k, lo ≤ k → k < n → ¬ P k
  | lo, (f, t) :: R => lo ≤ f ∧ f < t ∧ t ≤ n ∧ (∀ k, lo ≤ k → k < f → ¬ P k) ∧ Seg P n t R
theorem Seg.ext {P : Nat → Prop} {n lo lo' : Nat} (hl : lo' ≤ lo) (hp : ∀ k, lo' ≤ k → k < lo → ¬ P k) : ∀ {R : List (Nat × Nat)}, Seg P n lo R → Seg P n lo' R
  | [], h => ⟨by have := h.1; omega, fun k a b => by
      rcases Nat.lt_or_ge k lo with g | g
      · exact hp k a g
      · exact h.2 k g b⟩
  | (f, t) :: R, ⟨g1, g2, g3, g4, g5⟩ => ⟨by omega, g2, g3, fun k a b => by
      rcases Nat.lt_or_ge k lo with g | g
      · exact hp k a g
      · exact g4 k g b, g5⟩
theorem RevR.seg {P : Nat → Prop} {n : Nat} : ∀ {R : List (Nat × Nat)} {m : Nat} {S : List (Nat × Nat)}, RevR P m R → m ≤ n → Seg P n m S → Seg P n 0 (R.reverse ++ S)
  | [], m, S, h, _, hs => hs.ext (Nat.zero_le _) fun k _ b => h k b
  | (f, t) :: R, m, S, ⟨g1, g2, g3, g4, g5, g6⟩, hm, hs => by
    have h1 : Seg P n t S := hs.ext g2 g3
    have := RevR.seg (R := R) (m := f) (S := (f, t) :: S) g6 (by omega) ⟨Nat.le_refl _, g1, by omega, fun k a b => by omega, h1⟩
    rw [List.reverse_cons, List.append_assoc]; exact this
end Go.Proofs.YtnnbnljofklieaaDoor
