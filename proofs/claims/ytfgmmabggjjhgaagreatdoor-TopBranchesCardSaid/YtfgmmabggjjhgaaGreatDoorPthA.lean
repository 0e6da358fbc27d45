/- What files.Paths yields: the paths of all files, sorted, each once. -/
import Derived.Test.YtfgmmabggjjhgaaGreatDoorPz1
import Derived.Test.YtfgmmabggjjhgaaGreatDoorOps3
namespace Go.Proofs.YtfgmmabggjjhgaaGreatDoor
open Go
section
variable {α : Type}
theorem mset_len {L : List (ByteArray × α)} {k : ByteArray} {v : α} : (mset L k v).length ≤ L.length + 1 := by
  induction L with
  | nil => simp [mset]
  | cons p r ih => unfold mset; split <;> simp <;> omega
theorem mset_keys {L : List (ByteArray × α)} {k : ByteArray} {v : α} : (k ∈ L.map (·.1) → (mset L k v).map (·.1) = L.map (·.1)) ∧ (k ∉ L.map (·.1) → (mset L k v).map (·.1) = L.map (·.1) ++ [k]) := by
  induction L with
  | nil => simp [mset]
  | cons p r ih =>
    unfold mset
    by_cases h : p.1 = k
    · rw [if_pos h]
      exact ⟨fun _ => by rw [List.map_cons, List.map_cons]; show k :: _ = p.1 :: _; rw [h], fun hn => absurd (by rw [List.map_cons, h]; exact List.mem_cons_self) hn⟩
    · rw [if_neg h, List.map_cons, List.map_cons]
      refine ⟨fun hm => ?_, fun hn => ?_⟩
      · rw [ih.1 ((List.mem_cons.1 hm).elim (fun e => absurd e.symm h) id)]
      · rw [ih.2 fun hm => hn (List.mem_cons_of_mem _ hm)]; rfl
theorem mset_nodup {L : List (ByteArray × α)} {k : ByteArray} {v : α} (h : (L.map (·.1)).Nodup) : ((mset L k v).map (·.1)).Nodup := by
  by_cases h2 : k ∈ L.map (·.1)
  · rw [mset_keys.1 h2]; exact h
  · rw [mset_keys.2 h2, List.nodup_append]
    exact ⟨h, by simp, fun a ha b hb e => by simp at hb; subst hb; subst e; exact h2 ha⟩
theorem mset_has {L : List (ByteArray × α)} {k x : ByteArray} {v : α} : x ∈ (mset L k v).map (·.1) ↔ x ∈ L.map (·.1) ∨ x = k := by
  by_cases h2 : k ∈ L.map (·.1)
  · rw [mset_keys.1 h2]
    exact ⟨.inl, fun h => h.elim id fun e => e ▸ h2⟩
  · rw [mset_keys.2 h2, List.mem_append, List.mem_singleton]
end
/-- How many files. -/
def sumL (l : List (List S_files_File)) : Nat := (l.map List.length).sum
theorem sumL_take {l : List (List S_files_File)} {i : Nat} (h : i < l.length) : sumL (l.take (i + 1)) = sumL (l.take i) + l[i].length := by
  unfold sumL
  rw [List.take_succ_eq_append_getElem h, List.map_append, List.sum_append]; simp
theorem sumL_le (l : List (List S_files_File)) (i : Nat) : sumL (l.take i) ≤ sumL l := by
  have : l = l.take i ++ l.drop i := (List.take_append_drop i l).symm
  unfold sumL
  conv => rhs; rw [this, List.map_append, List.sum_append]
  omega
/-- It holds the paths of these files. -/
def Holds' (s : List (ByteArray × Bool)) (fs : List S_files_File) : Prop := (s.map (·.1)).Nodup ∧ ∀ k, k ∈ s.map (·.1) ↔ ∃ f ∈ fs, f.Path = k
theorem holds_nil : Holds' [] [] := ⟨by simp, by simp⟩
theorem Holds'.put {s : List (ByteArray × Bool)} {fs : List S_files_File} {f : S_files_File} (h : Holds' s fs) : Holds' (mset s f.Path true) (fs ++ [f]) := by
  refine ⟨mset_nodup h.1, fun k => ?_⟩
  rw [mset_has, h.2]
  constructor
  · rintro (⟨g, hg, e⟩ | e)
    · exact ⟨g, List.mem_append_left _ hg, e⟩
    · exact ⟨f, by simp, e.symm⟩
  · rintro ⟨g, hg, e⟩
    rcases List.mem_append.1 hg with h1 | h1
    · exact .inl ⟨g, h1, e⟩
    · rw [List.mem_singleton.1 h1] at e; exact .inr e.symm
theorem paths_p {l : List (List S_files_File)} {Q : List ByteArray → Prop} (hN : sumL l ≤ 1000000) (hl : l.length ≤ 1000000) (h : ∀ s, Holds' s l.flatten → Q (keysB s)) : files_Paths_p l Q := by
  unfold files_Paths_p; intro _
  refine ⟨fun s i => ∃ k : Nat, i = k ∧ k ≤ l.length ∧ Holds' s (l.take k).flatten ∧ s.length ≤ sumL (l.take k), fun _ i => l.length - i.toNat, ⟨0, rfl, Nat.zero_le _, by simpa using holds_nil, by simp⟩, ?_⟩
  rintro s _ ⟨k, rfl, hk, hs, hsl⟩ _
  refine ⟨fun hlt => ?_, fun hge => ?_⟩
  · have hlt : k < l.length := by omega
    refine ⟨inL_nat.2 hlt, fun _ => ?_⟩
    rw [lget_lt hlt]
    have hle := sumL_le l (k + 1)
    rw [sumL_take hlt] at hle
    refine ⟨fun s j => ∃ q : Nat, j = q ∧ q ≤ l[k].length ∧ Holds' s ((l.take k).flatten ++ l[k].take q) ∧ s.length ≤ sumL (l.take k) + q, fun _ j => l[k].length - j.toNat, ⟨0, rfl, Nat.zero_le _, by simpa using hs, by omega⟩, ?_⟩
    rintro s2 _ ⟨q, rfl, hq, hs2, hsl2⟩ _
    refine ⟨fun hlt2 => ?_, fun hge2 => ?_⟩
    · have hlt2 : q < l[k].length := by omega
      refine ⟨inL_nat.2 hlt2, ?_⟩
      rw [lget_lt hlt2]
      intro _ _ _
      refine ⟨inR_i64.2 (by omega), ⟨q + 1, by omega, hlt2, ?_, ?_⟩, by dsimp only; omega⟩
      · rw [List.take_succ_eq_append_getElem hlt2, ← List.append_assoc]
        exact hs2.put
      · have := mset_len (L := s2) (k := l[k][q].Path) (v := true)
        omega
    · have hq : q = l[k].length := by omega
      subst hq
      refine ⟨inR_i64.2 (by omega), ⟨k + 1, by omega, hlt, ?_, ?_⟩, by dsimp only; omega⟩
      · rw [List.take_succ_eq_append_getElem hlt, List.flatten_append]
        simpa using hs2
      · rw [sumL_take hlt]; exact hsl2
  · have hk : k = l.length := by omega
    subst hk
    rw [List.take_length] at hs hsl
    exact ⟨⟨hs.1, by omega⟩, h s hs⟩
/-- A row that rises and holds just these keys is the keys, sorted. -/
theorem keysB_of {s : List (ByteArray × Bool)} {fs : List S_files_File} (h : Holds' s fs) {r : List ByteArray} (hlt : r.Pairwise fun a b => a.data.toList < b.data.toList) (hm : ∀ k, k ∈ r ↔ ∃ f ∈ fs, f.Path = k) : keysB s = r := by
  have inj : ∀ a b : ByteArray, a.data.toList = b.data.toList → a = b := fun a b e => by
    cases a; cases b; simp only at e; congr 1; exact Array.toList_inj.1 e
  have nd : r.Nodup := hlt.imp fun {a b} h e => by subst e; exact List.lt_irrefl _ h
  have hp : (keysL s).Perm (r.map fun b => b.data.toList) := by
    have e : keysL s = (s.map (·.1)).map fun b => b.data.toList := by unfold keysL; rw [List.map_map]; rfl
    rw [e]
    refine (List.Perm.map _ ?_)
    refine (List.perm_ext_iff_of_nodup h.1 nd).2 fun k => ?_
    rw [h.2, hm]
  have hs : (r.map fun b => b.data.toList).mergeSort leB = r.map fun b => b.data.toList := by
    refine List.mergeSort_of_pairwise ?_
    rw [List.pairwise_map]
    exact hlt.imp fun {a b} h => by simp only [leB, decide_eq_true_eq]; exact List.le_of_lt h
  unfold keysB
  rw [mergeSort_of_perm hp, hs, List.map_map]
  have : ((fun x : List UInt8 => (⟨x.toArray⟩ : ByteArray)) ∘ fun b : ByteArray => b.data.toList) = id := by funext b; cases b; simp
  rw [this, List.map_id]
end Go.Proofs.YtfgmmabggjjhgaaGreatDoor
