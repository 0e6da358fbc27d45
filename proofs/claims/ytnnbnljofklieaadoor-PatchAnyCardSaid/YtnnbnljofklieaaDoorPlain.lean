/- Plain laws of lists. -/
namespace Go.Proofs.YtnnbnljofklieaaDoor
theorem take_eq_succ {α : Type} {L M : List α} {i : Nat} (h : L.take i = M.take i) (h1 : i < L.length) (h2 : i < M.length) (he : L[i] = M[i]) : L.take (i + 1) = M.take (i + 1) := by
  rw [List.take_succ_eq_append_getElem h1, List.take_succ_eq_append_getElem h2, h, he]
theorem ne_of_get {α : Type} {L M : List α} {i : Nat} (h1 : i < L.length) (h2 : i < M.length) (he : ¬ L[i] = M[i]) : ¬ L = M := fun e => he (by subst e; rfl)
theorem eq_of_take {α : Type} {L M : List α} {i : Nat} (h : L.take i = M.take i) (h1 : L.length ≤ i) (h2 : L.length = M.length) : L = M := by
  rwa [List.take_of_length_le h1, List.take_of_length_le (by omega)] at h
theorem nil_or_snoc {α : Type} (B : List α) : B = [] ∨ ∃ K x, B = K ++ [x] := by
  rcases List.eq_nil_or_concat B with h | ⟨K, x, h⟩
  · exact .inl h
  · exact .inr ⟨K, x, by simpa using h⟩
theorem snoc_last {α : Type} {B K : List α} {x : α} (h : B = K ++ [x]) (hi : B.length - 1 < B.length) : x = B[B.length - 1] := by subst h; simp
theorem snoc_init {α : Type} {B K : List α} {x : α} (h : B = K ++ [x]) : K = B.take (B.length - 1) := by subst h; simp
theorem snoc_len {α : Type} {B K : List α} {x : α} (h : B = K ++ [x]) : B.length = K.length + 1 := by subst h; simp
end Go.Proofs.YtnnbnljofklieaaDoor
