/- The laws of the graph of commits: plain proofs over their predicates. -/
import Derived.Test.YtmepomdpjlbaaaaG5
import Derived.Test.YtmepomdpjlbaaaaP17
namespace Go.Proofs.Ytmepomdpjlbaaaa
open Go

theorem Base_p {g : List (List Int)} {a b : Int} {Q : Int → Prop} (v : VG g) (h0 : idsF g.length (basF g a b) = [] → Q 0) (h1 : idsF g.length (basF g a b) ≠ [] → Q (lget (idsF g.length (basF g a b)) (((idsF g.length (basF g a b)).length : Int) - 1))) : graph_Graph_Base_p g a b Q := by
  unfold graph_Graph_Base_p
  simp only [inR_i64]
  have hg := v.len
  intro _ _ _
  refine Bases_p v fun _ => ⟨fun h => h0 (List.eq_nil_of_length_eq_zero (by omega)), fun h => ?_⟩
  have hne : idsF g.length (basF g a b) ≠ [] := fun e => h (by rw [e]; rfl)
  exact ⟨by omega, last_in hne, fun _ => h1 hne⟩
theorem BaseR_p {g : List (List Int)} {a b : Int} {Q : Int → Prop} (v : VG g) (h0 : idsF g.length (basF g a b) = [] → Q 0) (h1 : idsF g.length (basF g a b) ≠ [] → Q (lget (idsF g.length (basF g a b)) (((idsF g.length (basF g a b)).length : Int) - 1))) : rectoref17_Base_p g a b Q := by
  unfold rectoref17_Base_p
  simp only [inR_i64]
  have hg := v.len
  intro _ _ _
  refine BasesR_p v fun _ => ⟨fun h => h0 (List.eq_nil_of_length_eq_zero (by omega)), fun h => ?_⟩
  have hne : idsF g.length (basF g a b) ≠ [] := fun e => h (by rw [e]; rfl)
  exact ⟨by omega, last_in hne, fun _ => h1 hne⟩

theorem Ints_p {A B : List Int} {Q : Bool → Prop} (h : Q (decide (A = B))) : rectolaw8_Ints_p A B Q := by
  unfold rectolaw8_Ints_p
  intro _ _
  unfold rectolaw8_ints_p
  simp only [inR_i64]
  intro _ _
  refine ⟨fun hl => ?_, fun hl => ?_⟩
  · rwa [decide_eq_false (fun e => hl (by rw [e]))] at h
  · refine ⟨fun i => ∃ k : Nat, i = k ∧ k ≤ A.length ∧ A.take k = B.take k, fun i => (A.length - i).toNat, ⟨0, rfl, by omega, by simp⟩, ?_⟩
    rintro _ ⟨k, rfl, hk, ht⟩ _
    refine ⟨fun hi => ⟨inL_nat.2 (by omega), fun _ => ⟨inL_nat.2 (by omega), fun _ => ⟨fun hne => ?_, fun he => ⟨by omega, ⟨k + 1, rfl, by omega, ?_⟩, by dsimp only; omega⟩⟩⟩⟩, fun hi => ?_⟩
    · rwa [decide_eq_false (fun e => hne (by rw [e]))] at h
    · rw [take_lget (by omega), take_lget (by omega), ht, he]
    · rw [List.take_of_length_le (by omega), List.take_of_length_le (by omega)] at ht
      rwa [decide_eq_true ht] at h

/-! ### What is wrong -/
def wrongF (id : Int) (l : List Int) : Int := if 2 < l.length ∨ ∃ p ∈ l, p < 1 ∨ p ≥ id then 1 else if l.length = 2 ∧ lget l 0 = lget l 1 then 6 else 0
theorem wrong_p {id : Int} {l : List Int} {Q : Int → Prop} (hid : id ≤ 100000) (h : Q (wrongF id l)) : graph_wrong_p id l Q := by
  unfold graph_wrong_p
  simp only [inR_i64]
  intro _ _
  refine ⟨fun b => b = decide (2 < l.length ∨ ∃ p ∈ l, p < 1 ∨ p ≥ id), ?_, fun h1 => (decide_eq_true (Or.inl (by omega))).symm, fun h1 => ?_⟩
  · rintro b rfl
    refine ⟨fun hb => ?_, fun hb => ?_⟩
    · unfold wrongF at h; rwa [if_pos (of_decide_eq_true hb)] at h
    · have hb := of_decide_eq_false hb
      unfold wrongF at h; rw [if_neg hb] at h
      refine ⟨fun c => c = decide (l.length = 2 ∧ lget l 0 = lget l 1), ?_, fun h2 => ⟨⟨by omega, by omega⟩, fun _ => ⟨⟨by omega, by omega⟩, fun _ => ?_⟩⟩, fun h2 => (decide_eq_false (fun e => h2 (by omega))).symm⟩
      · rintro c rfl
        refine ⟨fun hc => ?_, fun hc => ?_⟩
        · rwa [if_pos (of_decide_eq_true hc)] at h
        · rwa [if_neg (of_decide_eq_false hc)] at h
      · have : l.length = 2 := by omega
        simp [this]
  · unfold slices_ContainsFunc_int_int__graph_wrong_1_p
    intro _ _
    unfold slices_IndexFunc_int_int__graph_wrong_1_p
    simp only [inR_i64]
    intro _ _
    refine ⟨fun i => ∃ k : Nat, i = k ∧ k ≤ l.length ∧ ∀ p ∈ l.take k, ¬ (p < 1 ∨ p ≥ id), fun i => (l.length - i).toNat, ⟨0, rfl, by omega, by simp⟩, ?_⟩
    rintro _ ⟨k, rfl, hk, hp⟩ _
    refine ⟨fun hi => ?_, fun hi => fun _ => ?_⟩
    · have hk' : k < l.length := by omega
      have ht := take_lget hk'
      have hm := lget_mem (inL_nat.2 hk' : inL l (k : Int))
      refine ⟨inL_nat.2 hk', fun _ => ?_⟩
      unfold graph_wrong_1_p
      refine fun _ _ => ⟨fun ht => fun _ => ?_, fun hf => ⟨by omega, ⟨k + 1, rfl, by omega, ?_⟩, by dsimp only; omega⟩⟩
      · rw [decide_eq_true (show (k : Int) ≥ 0 by omega)]
        exact (decide_eq_true (Or.inr ⟨_, hm, of_decide_eq_true ht⟩)).symm
      · intro p hpm
        rw [ht] at hpm
        rcases List.mem_append.1 hpm with h2 | h2
        · exact hp p h2
        · simp at h2; subst h2; exact of_decide_eq_false hf
    · rw [List.take_of_length_le (by omega)] at hp
      rw [decide_eq_false (show ¬ (-1 : Int) ≥ 0 by decide)]
      refine (decide_eq_false ?_).symm
      rintro (h2 | ⟨p, h2, h3⟩)
      · omega
      · exact hp p h2 h3
/-- What is told of a graph. -/
def IsChk (g : List (List Int)) (r : Int) : Prop :=
  (1024 < g.length ∧ r = 4) ∨ (g.length ≤ 1024 ∧ ((∃ k : Nat, k < g.length ∧ (∀ j : Nat, j < k → wrongF ((j : Int) + 1) (lget g (j : Int)) = 0) ∧ wrongF ((k : Int) + 1) (lget g (k : Int)) ≠ 0 ∧ r = wrongF ((k : Int) + 1) (lget g (k : Int))) ∨
    ((∀ j : Nat, j < g.length → wrongF ((j : Int) + 1) (lget g (j : Int)) = 0) ∧ r = 0)))
theorem IsChk.uniq {g : List (List Int)} {r s : Int} (h : IsChk g r) (k : IsChk g s) : r = s := by
  rcases h with ⟨h1, rfl⟩ | ⟨h1, h⟩
  · rcases k with ⟨_, rfl⟩ | ⟨k1, _⟩
    · rfl
    · omega
  · rcases k with ⟨k1, _⟩ | ⟨_, k⟩
    · omega
    · rcases h with ⟨i, hi, hj, hn, rfl⟩ | ⟨h2, rfl⟩
      · rcases k with ⟨i', hi', hj', hn', rfl⟩ | ⟨k2, rfl⟩
        · rcases Nat.lt_trichotomy i i' with e | e | e
          · exact absurd (hj' i e) hn
          · subst e; rfl
          · exact absurd (hj i' e) hn'
        · exact absurd (k2 i hi) hn
      · rcases k with ⟨i', hi', hj', hn', rfl⟩ | ⟨k2, rfl⟩
        · exact absurd (h2 i' hi') hn'
        · rfl
theorem wrongF_0 {id : Int} {l : List Int} (h : wrongF id l = 0) : l.length ≤ 2 ∧ ∀ p ∈ l, 1 ≤ p ∧ p < id := by
  unfold wrongF at h
  split at h
  · cases h
  · rename_i hn
    refine ⟨?_, fun p hp => ?_⟩
    · rcases Nat.lt_or_ge 2 l.length with h1 | h1
      · exact absurd (Or.inl h1) hn
      · exact h1
    · have : ¬ (p < 1 ∨ p ≥ id) := fun h1 => hn (Or.inr ⟨p, hp, h1⟩)
      omega
theorem IsChk.vg {g : List (List Int)} (h : IsChk g 0) : VG g := by
  rcases h with ⟨_, h⟩ | ⟨h1, h⟩
  · cases h
  · rcases h with ⟨k, _, _, hn, he⟩ | ⟨h2, _⟩
    · exact absurd he.symm hn
    · exact ⟨h1, fun i hi => (wrongF_0 (h2 i hi)).1, fun i hi p hp => by have := (wrongF_0 (h2 i hi)).2 p hp; omega⟩
theorem Check_p {g : List (List Int)} {Q : Int → Prop} (h : ∀ r, IsChk g r → Q r) : graph_Graph_Check_p g Q := by
  unfold graph_Graph_Check_p
  simp only [inR_i64]
  intro _
  refine ⟨fun hl => h _ (Or.inl ⟨by omega, rfl⟩), fun hl => ?_⟩
  refine ⟨fun i => ∃ k : Nat, i = k ∧ k ≤ g.length ∧ ∀ j : Nat, j < k → wrongF ((j : Int) + 1) (lget g (j : Int)) = 0, fun i => (g.length - i).toNat, ⟨0, rfl, by omega, fun j hj => by omega⟩, ?_⟩
  rintro _ ⟨k, rfl, hk, hj⟩ _
  refine ⟨fun hi => ⟨inL_nat.2 (by omega), fun _ => ⟨by omega, wrong_p (by omega) fun _ => ⟨fun hn => h _ (Or.inr ⟨by omega, Or.inl ⟨k, by omega, hj, hn, rfl⟩⟩), fun he => ⟨by omega, ⟨k + 1, rfl, by omega, fun j hjk => ?_⟩, by dsimp only; omega⟩⟩⟩⟩, fun hi => h _ (Or.inr ⟨by omega, Or.inr ⟨fun j hjl => hj j (by omega), rfl⟩⟩)⟩
  rcases Nat.lt_or_ge j k with h1 | h1
  · exact hj j h1
  · obtain rfl : j = k := by omega
    exact he
theorem CheckR_p {g : List (List Int)} {Q : Int → Prop} (h : ∀ r, IsChk g r → Q r) : rectoref17_Check_p g Q := by
  unfold rectoref17_Check_p
  simp only [inR_i64]
  intro _
  refine ⟨fun hl => h _ (Or.inl ⟨by omega, rfl⟩), fun hl => ?_⟩
  refine ⟨fun i => ∃ k : Nat, i = k ∧ k ≤ g.length ∧ ∀ j : Nat, j < k → wrongF ((j : Int) + 1) (lget g (j : Int)) = 0, fun i => (g.length - i).toNat, ⟨0, rfl, by omega, fun j hj => by omega⟩, ?_⟩
  rintro _ ⟨k, rfl, hk, hj⟩ _
  refine ⟨fun hi => ?_, fun hi => h _ (Or.inr ⟨by omega, Or.inr ⟨fun j hjl => hj j (by omega), rfl⟩⟩)⟩
  have hk' : k < g.length := by omega
  have hgin : inL g (k : Int) := inL_nat.2 hk'
  have bad : ∀ r, wrongF ((k : Int) + 1) (lget g (k : Int)) = r → r ≠ 0 → Q r := fun r h1 h2 => h _ (Or.inr ⟨by omega, Or.inl ⟨k, hk', hj, by rw [h1]; exact h2, h1.symm⟩⟩)
  generalize hl' : lget g (k : Int) = l at bad
  refine ⟨hgin, fun _ => ⟨fun h2 => bad 1 (by unfold wrongF; rw [if_pos (Or.inl (by omega))]) (by decide), fun h2 => ?_⟩⟩
  refine ⟨fun q => ∃ t : Nat, q = t ∧ t ≤ l.length ∧ ∀ p ∈ l.take t, ¬ (p < 1 ∨ p ≥ (k : Int) + 1), fun q => (l.length - q).toNat, ⟨0, rfl, by omega, by simp⟩, ?_⟩
  rintro _ ⟨t, rfl, ht, hp⟩ _
  refine ⟨hgin, fun _ => ⟨fun hi2 => ?_, fun hi2 => ?_⟩⟩
  · have ht' : t < l.length := by omega
    have htk := take_lget ht'
    have hlin : inL l (t : Int) := inL_nat.2 ht'
    have hm := lget_mem hlin
    generalize lget l (t : Int) = x at htk hm
    refine ⟨fun b => b = decide (x < 1 ∨ x ≥ (k : Int) + 1), ?_, hgin, fun _ => ⟨hlin, fun _ => ⟨fun h3 => (decide_eq_true (Or.inl h3)).symm, fun h3 => ⟨hgin, fun _ => ⟨hlin, fun _ => ?_⟩⟩⟩⟩⟩
    · rintro b rfl
      refine ⟨fun hb => bad 1 (by unfold wrongF; rw [if_pos (Or.inr ⟨x, hm, of_decide_eq_true hb⟩)]) (by decide), fun hb => ⟨by omega, ⟨t + 1, rfl, by omega, fun p hpm => ?_⟩, by dsimp only; omega⟩⟩
      rw [htk] at hpm
      rcases List.mem_append.1 hpm with h4 | h4
      · exact hp p h4
      · simp at h4; subst h4; exact of_decide_eq_false hb
    · exact decide_eq_decide.2 (by omega)
  · rw [List.take_of_length_le (by omega)] at hp
    have hno : ¬ (2 < l.length ∨ ∃ p ∈ l, p < 1 ∨ p ≥ (k : Int) + 1) := by
      rintro (h3 | ⟨p, h3, h4⟩)
      · omega
      · exact hp p h3 h4
    refine ⟨fun b => b = decide (l.length = 2 ∧ lget l 0 = lget l 1), ?_, hgin, fun _ => ⟨fun h3 => ⟨hgin, fun _ => ⟨⟨by omega, by omega⟩, fun _ => ⟨hgin, fun _ => ⟨⟨by omega, by omega⟩, fun _ => ?_⟩⟩⟩⟩, fun h3 => (decide_eq_false (fun e => h3 (by omega))).symm⟩⟩
    · rintro b rfl
      refine ⟨fun hb => bad 6 (by unfold wrongF; rw [if_neg hno, if_pos (of_decide_eq_true hb)]) (by decide), fun hb => ⟨by omega, ⟨k + 1, rfl, by omega, fun j hjk => ?_⟩, by dsimp only; omega⟩⟩
      rcases Nat.lt_or_ge j k with h1 | h1
      · exact hj j h1
      · obtain rfl : j = k := by omega
        rw [hl']; unfold wrongF; rw [if_neg hno, if_neg (of_decide_eq_false hb)]
    · have : l.length = 2 := by omega
      simp [this]
theorem few_p {g : List (List Int)} {Q : Bool → Prop} (h : ∀ b, Q b) : rectolaw17_few_p g Q := by
  unfold rectolaw17_few_p
  simp only [inR_i64]
  intro _
  refine ⟨fun _ => h _, fun _ => ?_⟩
  refine ⟨fun i => 0 ≤ i ∧ i ≤ g.length, fun i => (g.length - i).toNat, ⟨by omega, by omega⟩, ?_⟩
  rintro i ⟨h0, h1⟩ _
  refine ⟨fun b => b = true → i < g.length ∧ i < 200, ?_, fun hi hb => ⟨hi, of_decide_eq_true hb⟩, fun hi hb => by simp at hb⟩
  intro b hb
  exact ⟨fun ht => ⟨⟨h0, (hb ht).1⟩, fun _ => ⟨fun _ => h _, fun _ => ⟨by have := hb ht; omega, ⟨by omega, by have := hb ht; omega⟩, by have := hb ht; dsimp only; omega⟩⟩⟩, fun _ => h _⟩

/-! ### What is known -/
theorem rch_iff {g : List (List Int)} {c S : List Int} (hc : ∀ x ∈ c, 1 ≤ x → x ≤ g.length → x ∈ S) (hcl : ∀ i ∈ S, ∀ k ∈ lget g (i - 1), 1 ≤ k → k ≤ g.length → k ∈ S) (hs : ∀ x ∈ S, Rch g c x) (k : Int) : Rch g c k ↔ k ∈ S := by
  refine ⟨fun h => ?_, hs k⟩
  induction h with
  | base h1 h2 h3 => exact hc _ h1 h2 h3
  | step _ h1 h2 h3 ih => exact hcl _ ih _ h1 h2 h3
def g4 : List (List Int) := [[], [1], [1], [2, 3]]
theorem g4_vg : VG g4 := ⟨by decide, by decide, by decide⟩
theorem g4_1 (k : Int) : Rch g4 [1] k ↔ k ∈ [(1 : Int)] := rch_iff (by decide) (by decide) (fun x hx => by simp at hx; subst hx; exact .base (by decide) (by decide) (by decide)) k
theorem g4_2 (k : Int) : Rch g4 [2] k ↔ k ∈ [(2 : Int), 1] := rch_iff (by decide) (by decide) (fun x hx => by
  have h2 : Rch g4 [2] 2 := .base (by decide) (by decide) (by decide)
  simp at hx; rcases hx with rfl | rfl
  · exact h2
  · exact .step h2 (by decide) (by decide) (by decide)) k
theorem g4_3 (k : Int) : Rch g4 [3] k ↔ k ∈ [(3 : Int), 1] := rch_iff (by decide) (by decide) (fun x hx => by
  have h2 : Rch g4 [3] 3 := .base (by decide) (by decide) (by decide)
  simp at hx; rcases hx with rfl | rfl
  · exact h2
  · exact .step h2 (by decide) (by decide) (by decide)) k
theorem g4_4 (k : Int) : Rch g4 [4] k ↔ k ∈ [(4 : Int), 2, 3, 1] := rch_iff (by decide) (by decide) (fun x hx => by
  have h4 : Rch g4 [4] 4 := .base (by decide) (by decide) (by decide)
  have h2 : Rch g4 [4] 2 := .step h4 (by decide) (by decide) (by decide)
  simp at hx; rcases hx with rfl | rfl | rfl | rfl
  · exact h4
  · exact h2
  · exact .step h4 (by decide) (by decide) (by decide)
  · exact .step h2 (by decide) (by decide) (by decide)) k
theorem anc4 : idsF g4.length (ancF g4 [2]) = [1, 2] := by
  rw [idsF_congr (q := fun (k : Nat) => decide (((k : Int) + 1) ∈ [(2 : Int), 1])) fun k _ => by unfold ancF; exact decide_eq_decide.2 (g4_2 _)]; decide
theorem onl4 : idsF g4.length (onlF g4 4 2) = [3, 4] := by
  rw [idsF_congr (q := fun (k : Nat) => decide (((k : Int) + 1) ∈ [(4 : Int), 2, 3, 1] ∧ ¬ ((k : Int) + 1) ∈ [(2 : Int), 1])) fun k _ => by unfold onlF; exact decide_eq_decide.2 (by rw [g4_4, g4_2])]; decide
theorem both4 {a b : Int} {S T : List Int} (ha : ∀ k, Rch g4 [a] k ↔ k ∈ S) (hb : ∀ k, Rch g4 [b] k ↔ k ∈ T) : both g4 a b = fun (k : Nat) => decide (((k : Int) + 1) ∈ S ∧ ((k : Int) + 1) ∈ T) := by
  funext k; unfold both; exact decide_eq_decide.2 (by rw [ha, hb])
theorem bas4_23 : idsF g4.length (basF g4 2 3) = [1] := by
  have hp : parF g4 (both g4 2 3) = [] := by rw [both4 g4_2 g4_3]; decide
  have hr : ∀ k, Rch g4 [] k ↔ k ∈ ([] : List Int) := rch_iff (by simp) (by simp) (by simp)
  rw [idsF_congr (q := fun (k : Nat) => decide (((k : Int) + 1) ∈ [(2 : Int), 1] ∧ ((k : Int) + 1) ∈ [(3 : Int), 1]) && !decide (((k : Int) + 1) ∈ ([] : List Int))) fun k _ => by
    unfold basF; rw [hp, both4 g4_2 g4_3]; congr 1; exact congrArg (! ·) (decide_eq_decide.2 (hr _))]
  decide
theorem bas4_43 : idsF g4.length (basF g4 4 3) = [3] := by
  have hp : parF g4 (both g4 4 3) = [1] := by rw [both4 g4_4 g4_3]; decide
  rw [idsF_congr (q := fun (k : Nat) => decide (((k : Int) + 1) ∈ [(4 : Int), 2, 3, 1] ∧ ((k : Int) + 1) ∈ [(3 : Int), 1]) && !decide (((k : Int) + 1) ∈ [(1 : Int)])) fun k _ => by
    unfold basF; rw [hp, both4 g4_4 g4_3]; congr 1; exact congrArg (! ·) (decide_eq_decide.2 (g4_1 _))]
  decide
open Classical in
theorem known17_p {Q : Bool → Prop} (h : Q true) : rectolaw17_known_p Q := by
  unfold rectolaw17_known_p
  have eg : [([] : List Int), [(1 : Int)], [(1 : Int)], [(2 : Int), (3 : Int)]] = g4 := rfl
  rw [eg]
  refine Ancestors_p g4_vg (by decide) fun _ => Only_p g4_vg fun _ => ?_
  rw [anc4, onl4]
  refine ⟨fun b => b = true, by rintro b rfl; exact h, ?_⟩
  refine Check_p fun r hr _ => ⟨fun _ => ⟨fun _ => Is_p g4_vg ⟨fun _ => Is_p g4_vg ⟨fun hb => ?_, fun _ => Base_p g4_vg (fun he => ?_) fun _ _ => ⟨fun _ => Bases_p g4_vg fun _ => ?_, fun hn => ?_⟩⟩, fun hb => ?_⟩, fun hn => ?_⟩, fun hn => ?_⟩
  · have := of_decide_eq_true hb
    rw [g4_1] at this; simp at this
  · rw [bas4_23] at he; cases he
  · rw [bas4_43]
    refine ⟨fun _ => ⟨fun _ => ⟨by decide, fun _ => ⟨fun _ => Check_p fun r hr _ => ?_, fun hn => absurd rfl hn⟩⟩, fun hn => absurd rfl hn⟩, fun hn => absurd rfl hn⟩
    rw [hr.uniq (s := 1) (Or.inr ⟨by decide, Or.inl ⟨0, by decide, by decide, by decide, by decide⟩⟩)]
    rfl
  · rw [bas4_23] at hn; exact absurd rfl hn
  · have := of_decide_eq_false hb
    rw [g4_4] at this; simp at this
  · exact absurd rfl hn
  · exact absurd (hr.uniq (s := 0) (Or.inr ⟨by decide, Or.inr ⟨by decide, rfl⟩⟩)) hn

open Classical in
theorem GraphAny_p {g : List (List Int)} {a b : Int} {Q : Bool → Prop} (h : Q true) : rectolaw17_GraphAny_p g a b Q := by
  unfold rectolaw17_GraphAny_p
  intro _ _ _
  refine known17_p ⟨fun h => by simp at h, fun _ => few_p fun c => ⟨fun _ => h, fun _ => ?_⟩⟩
  refine Check_p fun r hr _ => CheckR_p fun r' hr' _ => ⟨fun hn => absurd (hr.uniq hr') hn, fun _ => CheckR_p fun r2 hr2 _ => ⟨fun _ => h, fun h0 => ?_⟩⟩
  subst h0
  have v := hr2.vg
  refine ⟨fun b => b = true, by rintro b rfl; exact h, ?_⟩
  refine Ancestors_p v (by simp) fun _ => AncestorsR_p v (by simp) fun _ => Ints_p ⟨fun _ => ?_, fun hf => by simp at hf⟩
  refine Ancestors_p v (by simp) fun _ => AncestorsR_p v (by simp) fun _ => Ints_p ⟨fun _ => ?_, fun hf => by simp at hf⟩
  refine Is_p v (IsR_p v ⟨fun _ => ?_, fun hn => absurd rfl hn⟩)
  have rest : graph_Graph_Bases_p g a b (fun r351 => r351.length ≤ 9223372036854775807 → rectoref17_Bases_p g a b (fun r360 => r360.length ≤ 9223372036854775807 → rectolaw8_Ints_p r351 r360 (fun r368 => (r368 = true → graph_Graph_Only_p g a b (fun r377 => r377.length ≤ 9223372036854775807 → rectoref17_Only_p g a b (fun r386 => r386.length ≤ 9223372036854775807 → rectolaw8_Ints_p r377 r386 (fun r394 => r394 = true)))) ∧ (r368 = false → false = true)))) := by
    refine Bases_p v fun _ => BasesR_p v fun _ => Ints_p ⟨fun _ => ?_, fun hf => by simp at hf⟩
    exact Only_p v fun _ => OnlyR_p v fun _ => Ints_p (by simp)
  refine Base_p v (fun he _ => BaseR_p v (fun _ _ => ⟨fun _ => rest, fun hn => absurd rfl hn⟩) fun hn => absurd he hn) fun he _ => BaseR_p v (fun hn => absurd hn he) fun _ _ => ⟨fun _ => rest, fun hn => absurd rfl hn⟩

/-! ### Bases -/
open Classical in
theorem both_eq {g : List (List Int)} {a b : Int} {k : Nat} : both g a b k = true ↔ Rch g [a] ((k : Int) + 1) ∧ Rch g [b] ((k : Int) + 1) := by unfold both; exact decide_eq_true_iff
open Classical in
theorem mem_bas {g : List (List Int)} {a b x : Int} : x ∈ idsF g.length (basF g a b) ↔ Rch g [a] x ∧ Rch g [b] x ∧ ¬ Rch g (parF g (both g a b)) x := by
  rw [mem_idsF]
  unfold basF
  constructor
  · rintro ⟨h1, h2, h3⟩
    rw [Bool.and_eq_true, both_eq] at h3
    have e : ((x.toNat - 1 : Nat) : Int) + 1 = x := by omega
    rw [e] at h3
    exact ⟨h3.1.1, h3.1.2, by simpa using h3.2⟩
  · rintro ⟨h1, h2, h3⟩
    have := h1.rng
    have e : ((x.toNat - 1 : Nat) : Int) + 1 = x := by omega
    refine ⟨this.1, this.2, ?_⟩
    rw [Bool.and_eq_true, both_eq, e]
    exact ⟨⟨h1, h2⟩, by simpa using h3⟩
open Classical in
theorem mem_anc {g : List (List Int)} {c : List Int} {x : Int} : x ∈ idsF g.length (ancF g c) ↔ Rch g c x := by
  rw [mem_idsF]
  unfold ancF
  constructor
  · rintro ⟨h1, h2, h3⟩
    have e : ((x.toNat - 1 : Nat) : Int) + 1 = x := by omega
    rw [e] at h3; exact of_decide_eq_true h3
  · intro h
    have := h.rng
    have e : ((x.toNat - 1 : Nat) : Int) + 1 = x := by omega
    exact ⟨this.1, this.2, by rw [e]; exact decide_eq_true h⟩
theorem basF_comm (g : List (List Int)) (a b : Int) : basF g a b = basF g b a := by
  have hb : both g a b = both g b a := by funext k; unfold both; exact decide_eq_decide.2 And.comm
  funext k; unfold basF; rw [hb]
theorem bas_apart {g : List (List Int)} {a b x y : Int} (hx : x ∈ idsF g.length (basF g a b)) (hy : y ∈ idsF g.length (basF g a b)) (hne : x ≠ y) : ¬ Rch g [y] x := fun h => by
  obtain ⟨_, _, hx3⟩ := mem_bas.1 hx
  obtain ⟨hy1, hy2, _⟩ := mem_bas.1 hy
  have hr := hy1.rng
  obtain ⟨j, hj⟩ : ∃ j : Nat, y - 1 = j := nat_of (by omega)
  have e : (j : Int) + 1 = y := by omega
  rcases h.split with h1 | h1
  · exact hne h1
  · rw [hj] at h1
    exact hx3 (h1.to_par (by omega) (both_eq.2 (by rw [e]; exact ⟨hy1, hy2⟩)))
theorem bas_under {g : List (List Int)} (v : VG g) {a b : Int} : ∀ (m : Nat) (x : Int), (g.length : Int) - x < m → Rch g [a] x → Rch g [b] x → ∃ y ∈ idsF g.length (basF g a b), Rch g [y] x
  | 0, x, hm, ha, _ => by have := ha.rng; omega
  | m + 1, x, hm, ha, hb => by
    by_cases hp : Rch g (parF g (both g a b)) x
    · obtain ⟨k, hk, hbo, hr⟩ := hp.of_par
      have hbo := both_eq.1 hbo
      have hle := Rch.le v (m := (k : Int)) (fun y hy => (v.old k hk y hy).2) hr
      obtain ⟨y, hy, hry⟩ := bas_under v m ((k : Int) + 1) (by omega) hbo.1 hbo.2
      exact ⟨y, hy, (hr.up hk).one hry⟩
    · exact ⟨x, mem_bas.2 ⟨ha, hb, hp⟩, Rch.self ha.rng.1 ha.rng.2⟩
theorem bas_self {g : List (List Int)} (v : VG g) {a b : Int} (h : Rch g [b] a) : idsF g.length (basF g a b) = [a] := by
  have hr := h.rng
  have hsub : ∀ x, Rch g [a] x → Rch g [b] x := fun x hx => hx.one h
  have hin : a ∈ idsF g.length (basF g a b) := by
    refine mem_bas.2 ⟨Rch.self hr.1 hr.2, h, fun hp => ?_⟩
    obtain ⟨k, hk, hbo, hrk⟩ := hp.of_par
    have hka := Rch.le v (m := a) (by simp) (both_eq.1 hbo).1
    have := Rch.le v (m := (k : Int)) (fun y hy => (v.old k hk y hy).2) hrk
    omega
  have hall : ∀ x ∈ idsF g.length (basF g a b), x = a := fun x hx => by
    obtain ⟨h1, h2, h3⟩ := mem_bas.1 hx
    rcases h1.split with e | h4
    · exact e
    · obtain ⟨j, hj⟩ : ∃ j : Nat, a - 1 = j := nat_of (by omega)
      rw [hj] at h4
      have e : (j : Int) + 1 = a := by omega
      exact absurd (h4.to_par (by omega) (both_eq.2 (by rw [e]; exact ⟨Rch.self hr.1 hr.2, h⟩))) h3
  have hnd := idsF_nodup g.length (basF g a b)
  generalize idsF g.length (basF g a b) = L at hin hall hnd
  match L, hin, hall, hnd with
  | [x], _, hall, _ => rw [hall x (by simp)]
  | x :: y :: r, _, hall, hnd =>
    have h1 := hall x (by simp)
    have h2 := hall y (by simp)
    rw [h1, h2] at hnd
    simp at hnd

open Classical in
theorem GraphBases_p {g : List (List Int)} {a b : Int} {Q : Bool → Prop} (h : Q true) : rectolaw17_GraphBases_p g a b Q := by
  unfold rectolaw17_GraphBases_p
  simp only [inR_i64]
  intro _ _ _
  refine known17_p ⟨fun h => by simp at h, fun _ => ?_⟩
  refine ⟨fun s => s = false → VG g ∧ 1 ≤ a ∧ a ≤ g.length ∧ 1 ≤ b ∧ b ≤ g.length, ?_, few_p fun c => ⟨fun _ => CheckR_p fun r hr _ => ⟨fun h0 => ⟨fun _ hf => by simp at hf, fun h1 => ⟨fun _ hf => by simp at hf, fun h2 => ⟨fun _ hf => by simp at hf, fun h3 hf => ?_⟩⟩⟩, fun _ hf => by simp at hf⟩, fun _ hf => by simp at hf⟩⟩
  rotate_left
  · subst h0
    have := of_decide_eq_false hf
    exact ⟨hr.vg, by omega, by omega, by omega, by omega⟩
  intro s hs
  refine ⟨fun _ => h, fun hf => ?_⟩
  obtain ⟨v, ha1, ha2, hb1, hb2⟩ := hs hf
  have hg := v.len
  have hBlen := idsF_len g.length (basF g a b)
  refine Bases_p v fun _ => ?_
  have hsw : idsF g.length (basF g b a) = idsF g.length (basF g a b) := by rw [basF_comm]
  refine ⟨fun s => s = false, ?_, Bases_p v fun _ => Ints_p ⟨fun _ => ?_, fun hf => by rw [hsw] at hf; simp at hf⟩⟩
  rotate_left
  · refine Base_p v (fun he _ => Base_p v (fun _ _ => by simp) fun hn => absurd (hsw.trans he) hn) fun hn _ => Base_p v (fun he => absurd (hsw.symm.trans he) hn) fun _ _ => ?_
    rw [hsw]; simp
  rintro s rfl
  refine ⟨fun hf => by simp at hf, fun _ => ?_⟩
  have mb := @mem_bas g a b
  have hap := @bas_apart g a b
  have hun := @bas_under g v a b
  have hself := @bas_self g v a b
  have hnd := idsF_nodup g.length (basF g a b)
  have hbase : ∀ (Q : Int → Prop), (∀ r, (Rch g [b] a → r = a) → Q r) → graph_Graph_Base_p g a b Q := fun Q hQ => by
    refine Base_p v (fun he => hQ _ fun hr => ?_) fun he => hQ _ fun hr => ?_
    · rw [bas_self v hr] at he; cases he
    · rw [bas_self v hr]; rfl
  generalize idsF g.length (basF g a b) = B at *
  refine ⟨fun i => 0 ≤ i ∧ i ≤ B.length, fun i => (B.length - i).toNat, ⟨by omega, by omega⟩, ?_⟩
  rintro i ⟨hi0, hi1⟩ _
  refine ⟨fun hi => ?_, fun hi => ?_⟩
  · have hiin : inL B i := ⟨hi0, hi⟩
    have hm := mb.1 (lget_mem hiin)
    refine ⟨fun s => s = false, ?_, hiin, fun _ => Is_p v ⟨fun _ => ⟨hiin, fun _ => Is_p v (by simp [hm.2.1])⟩, fun hf => absurd hm.1 (of_decide_eq_false hf)⟩⟩
    rintro s rfl
    refine ⟨fun hf => by simp at hf, fun _ => ?_⟩
    refine ⟨fun k => 0 ≤ k ∧ k ≤ B.length, fun k => (B.length - k).toNat, ⟨by omega, by omega⟩, ?_⟩
    rintro k ⟨hk0, hk1⟩ _
    refine ⟨fun hk => ?_, fun hk => ⟨by omega, ⟨by omega, by omega⟩, by dsimp only; omega⟩⟩
    have hkin : inL B k := ⟨hk0, hk⟩
    refine ⟨fun s => s = false, ?_, fun _ => rfl, fun hne => ⟨hiin, fun _ => ⟨hkin, fun _ => Is_p v ?_⟩⟩⟩
    · rintro s rfl
      exact ⟨fun hf => by simp at hf, fun _ => ⟨by omega, ⟨by omega, by omega⟩, by dsimp only; omega⟩⟩
    · exact decide_eq_false (hap (lget_mem hiin) (lget_mem hkin) (lget_inj hnd hiin hkin hne))
  · refine Ancestors_p v (by simp) fun _ => ?_
    have ma := @mem_anc g [a]
    have hAlen := idsF_len g.length (ancF g [a])
    generalize idsF g.length (ancF g [a]) = A at *
    refine ⟨fun i => 0 ≤ i ∧ i ≤ A.length, fun i => (A.length - i).toNat, ⟨by omega, by omega⟩, ?_⟩
    rintro i ⟨hi0, hi1⟩ _
    refine ⟨fun hi => ?_, fun hi => ?_⟩
    · have hiin : inL A i := ⟨hi0, hi⟩
      have hm := ma.1 (lget_mem hiin)
      refine ⟨True, fun _ => ⟨by omega, ⟨by omega, by omega⟩, by dsimp only; omega⟩, hiin, fun _ => Is_p v ⟨fun _ => trivial, fun hb => ?_⟩⟩
      have hb : Rch g [b] (lget A i) := of_decide_eq_true (by simpa using hb)
      obtain ⟨y, hy, hry⟩ := hun (g.length + 1) _ (by have := hm.rng; omega) hm hb
      refine ⟨fun u k => ∃ t : Nat, k = t ∧ t ≤ B.length ∧ (u = true ∨ ∀ z ∈ B.take t, ¬ Rch g [z] (lget A i)), fun _ k => (B.length - k).toNat, ⟨0, rfl, by omega, Or.inr (by simp)⟩, ?_⟩
      rintro u _ ⟨t, rfl, ht, hu⟩ _
      refine ⟨fun hk => ?_, fun hk => ⟨fun hf => ?_, fun _ => trivial⟩⟩
      · have ht' : t < B.length := by omega
        have hkin : inL B (t : Int) := inL_nat.2 ht'
        have htk := take_lget ht'
        refine ⟨fun u' => u' = true ∨ ∀ z ∈ B.take (t + 1), ¬ Rch g [z] (lget A i), ?_, fun _ => Or.inl rfl, fun hnu => ⟨hiin, fun _ => ⟨hkin, fun _ => Is_p v ⟨fun _ => Or.inl rfl, fun hf => Or.inr ?_⟩⟩⟩⟩
        · intro u' hu'
          exact ⟨by omega, ⟨t + 1, rfl, by omega, hu'⟩, by dsimp only; omega⟩
        · intro z hz
          rw [htk] at hz
          rcases List.mem_append.1 hz with h1 | h1
          · exact (hu.resolve_left hnu) z h1
          · simp at h1; subst h1; exact of_decide_eq_false hf
      · have hu' : ¬ u = true := by simpa using hf
        have := hu.resolve_left hu' y (by rw [List.take_of_length_le (by omega)]; exact hy)
        exact absurd hry this
    · refine ⟨fun c => c = true, by rintro _ rfl; exact h, Is_p v ⟨fun hr => ?_, fun _ => rfl⟩⟩
      have hr := of_decide_eq_true hr
      have hB := hself hr
      refine hbase _ fun r hra _ => ⟨fun _ => by rw [hB]; rfl, fun hn => absurd (hra hr) hn⟩

/-! ### Chains -/
def chain (N X n : Nat) : List (List Int) := (List.range n).map fun (i : Nat) => if i = 0 then [] else if i = N + X then [(N : Int)] else [(i : Int)]
theorem chain_len (N X n : Nat) : (chain N X n).length = n := by simp [chain]
theorem chain_get {N X n i : Nat} (h : i < n) : lget (chain N X n) (i : Int) = if i = 0 then [] else if i = N + X then [(N : Int)] else [(i : Int)] := by
  rw [lget_lt (by rw [chain_len]; exact h)]; simp [chain]
theorem chain_snoc (N X n : Nat) : chain N X (n + 1) = chain N X n ++ [if n = 0 then [] else if n = N + X then [(N : Int)] else [(n : Int)]] := by
  unfold chain; rw [List.range_succ, List.map_append]; rfl
theorem chain_chk {N X n : Nat} (hN : 1 ≤ N) (hn : n ≤ 1024) : IsChk (chain N X n) 0 := by
  refine Or.inr ⟨by rw [chain_len]; exact hn, Or.inr ⟨fun j hj => ?_, rfl⟩⟩
  rw [chain_len] at hj
  rw [chain_get hj]
  have h1 : ∀ p : Int, 1 ≤ p → p < (j : Int) + 1 → wrongF ((j : Int) + 1) [p] = 0 := fun p h1 h2 => by
    unfold wrongF
    rw [if_neg (by simp; omega), if_neg (by simp)]
  split
  · simp [wrongF]
  · split
    · exact h1 _ (by omega) (by omega)
    · exact h1 _ (by omega) (by omega)
theorem cnt_ind {p : Nat → Bool} (f : Nat → Nat) (h0 : f 0 = 0) (hs : ∀ n, f (n + 1) = f n + if p n then 1 else 0) : ∀ n, ((List.range n).filter p).length = f n
  | 0 => by simp [h0]
  | n + 1 => by
    rw [List.range_succ, List.filter_append, List.length_append, cnt_ind f h0 hs n, hs n]
    cases h : p n <;> simp [h]
theorem idsF_count {n : Nat} {p : Nat → Bool} (f : Nat → Nat) (h0 : f 0 = 0) (hs : ∀ n, f (n + 1) = f n + if p n then 1 else 0) : (idsF n p).length = f n := by
  unfold idsF; rw [List.length_map]; exact cnt_ind f h0 hs n
theorem idsF_countP {n : Nat} (P : Nat → Prop) [DecidablePred P] (f : Nat → Nat) (h0 : f 0 = 0) (hs : ∀ n, (P n → f (n + 1) = f n + 1) ∧ (¬ P n → f (n + 1) = f n)) : (idsF n fun k => decide (P k)).length = f n :=
  idsF_count f h0 fun n => by
    by_cases h : P n
    · rw [(hs n).1 h]; simp [h]
    · rw [(hs n).2 h]; simp [h]
section
variable {N X Y : Nat}
/-- Down a chain. -/
theorem chain_down {n : Nat} {m : Int} : ∀ (d : Nat) (k : Int), m = k + d → 1 ≤ k → m ≤ n → (∀ j : Int, k < j → j ≤ m → j ≠ (N : Int) + X + 1) → Rch (chain N X n) [m] k
  | 0, k, h, h1, h2, _ => by
    have : m = k := by omega
    subst this
    exact Rch.self h1 (by rw [chain_len]; exact h2)
  | d + 1, k, h, h1, h2, hj => by
    have ih := chain_down (n := n) (m := m) d (k + 1) (by omega) (by omega) h2 fun j h3 h4 => hj j (by omega) h4
    obtain ⟨i, hi⟩ := nat_of (show 0 ≤ k by omega)
    subst hi
    refine .step ih ?_ h1 (by rw [chain_len]; omega)
    rw [Int.add_sub_cancel, chain_get (by omega), if_neg (by omega), if_neg (fun e => hj ((i : Int) + 1) (by omega) (by omega) (by omega))]
    simp
theorem rch_sub {g : List (List Int)} {c : List Int} (S : Int → Prop) (hc : ∀ x ∈ c, S x) (hcl : ∀ i, S i → 1 ≤ i → i ≤ g.length → ∀ k ∈ lget g (i - 1), S k) {x : Int} (h : Rch g c x) : S x := by
  induction h with
  | base h1 _ _ => exact hc _ h1
  | step hr h1 _ _ ih => exact hcl _ ih hr.rng.1 hr.rng.2 _ h1
theorem chain_par {n : Nat} {i k : Int} (h1 : 1 ≤ i) (h2 : i ≤ n) (h : k ∈ lget (chain N X n) (i - 1)) : (i = (N : Int) + X + 1 ∧ k = N) ∨ (i ≠ (N : Int) + X + 1 ∧ k = i - 1) := by
  obtain ⟨j, hj⟩ := nat_of (show 0 ≤ i - 1 by omega)
  rw [hj, chain_get (by omega)] at h
  split at h
  · cases h
  · split at h
    · simp at h; left; omega
    · simp at h; right; omega
theorem rch_low {n : Nat} {m : Int} (hm : m ≤ (N : Int) + X) (hmn : m ≤ n) (k : Int) : Rch (chain N X n) [m] k ↔ 1 ≤ k ∧ k ≤ m := by
  constructor
  · intro h
    refine ⟨h.rng.1, rch_sub (fun k => k ≤ m) (by simp) (fun i hi h1 h2 k hk => ?_) h⟩
    rw [chain_len] at h2
    rcases chain_par h1 h2 hk with ⟨h3, h4⟩ | ⟨h3, h4⟩ <;> omega
  · rintro ⟨h1, h2⟩
    exact chain_down (m - k).toNat k (by omega) h1 hmn fun j h3 h4 => by omega
theorem rch_high {n : Nat} {m : Int} (hN : 1 ≤ N) (hm : (N : Int) + X < m) (hmn : m ≤ n) (k : Int) : Rch (chain N X n) [m] k ↔ (1 ≤ k ∧ k ≤ N) ∨ ((N : Int) + X < k ∧ k ≤ m) := by
  have htop : Rch (chain N X n) [m] ((N : Int) + X + 1) := chain_down (m - ((N : Int) + X + 1)).toNat _ (by omega) (by omega) hmn fun j h3 h4 => by omega
  have hN2 : Rch (chain N X n) [m] N := by
    refine .step htop ?_ (by omega) (by rw [chain_len]; omega)
    rw [Int.add_sub_cancel, show (N : Int) + X = ((N + X : Nat) : Int) from by simp, chain_get (by omega), if_neg (by omega), if_pos rfl]; simp
  constructor
  · intro h
    refine rch_sub (fun k => (1 ≤ k ∧ k ≤ N) ∨ ((N : Int) + X < k ∧ k ≤ m)) (by simp; omega) (fun i hi h1 h2 k hk => ?_) h |>.imp (fun h3 => ⟨h.rng.1, h3.2⟩) id |> fun h => h
    rw [chain_len] at h2
    have hv := (chain_chk (N := N) (X := X) (n := n) hN)
    rcases chain_par h1 h2 hk with ⟨h3, h4⟩ | ⟨h3, h4⟩
    · left; omega
    · rcases hi with h5 | h5
      · by_cases h6 : 1 ≤ k
        · left; omega
        · obtain ⟨j, hj⟩ := nat_of (show 0 ≤ i - 1 by omega)
          have : j = 0 := by omega
          subst this
          rw [hj, chain_get (by omega), if_pos rfl] at hk; cases hk
      · right; omega
  · rintro (⟨h1, h2⟩ | ⟨h1, h2⟩)
    · exact (((rch_low (N := N) (X := X) (n := n) (m := (N : Int)) (by omega) (by omega) k).2 ⟨h1, h2⟩).one hN2)
    · exact chain_down (m - k).toNat k (by omega) (by omega) hmn fun j h3 h4 => by omega
end

open Classical in
theorem GraphChains_p {stem a b : Int} {Q : Bool → Prop} (h : Q true) : rectolaw17_GraphChains_p stem a b Q := by
  unfold rectolaw17_GraphChains_p
  simp only [inR_i64, inR_u8]
  intro _ _ _
  refine known17_p ⟨fun h => by simp at h, fun _ => ?_⟩
  obtain ⟨N, hN⟩ : ∃ N : Nat, 1 + stem % 20 = N := nat_of (by omega)
  obtain ⟨X, hX⟩ : ∃ N : Nat, 1 + a % 20 = N := nat_of (by omega)
  obtain ⟨Y, hY⟩ : ∃ N : Nat, 1 + b % 20 = N := nat_of (by omega)
  have bN : 1 ≤ N ∧ N ≤ 20 := by omega
  have bX : 1 ≤ X ∧ X ≤ 20 := by omega
  have bY : 1 ≤ Y ∧ Y ≤ 20 := by omega
  rw [hN, hX, hY]
  clear hN hX hY
  refine ⟨by omega, by omega, by omega, ?_⟩
  refine ⟨fun g i => ∃ k : Nat, i = (k : Int) + 1 ∧ k ≤ N + X + Y ∧ g = chain N X k, fun _ i => ((N : Int) + X + Y + 1 - i).toNat, ⟨0, rfl, by omega, rfl⟩, ?_⟩
  rintro _ _ ⟨k, rfl, hk, rfl⟩ _ _
  have hcl := chain_len N X k
  refine ⟨by omega, by omega, ?_⟩
  rintro _ rfl
  refine ⟨fun hi => ?_, fun hi => ?_⟩
  · have hs := chain_snoc N X k
    refine ⟨fun g => g = chain N X (k + 1), ?_, fun h1 => ⟨by simp; omega, ?_⟩, fun h1 => ⟨by omega, by omega, ?_⟩⟩
    · rintro _ rfl _
      exact ⟨by omega, ⟨k + 1, by omega, by omega, rfl⟩, by dsimp only; omega⟩
    · rw [hs, if_pos (by omega)]
    · rintro _ rfl
      refine ⟨fun h2 => ⟨by simp; omega, ?_⟩, fun h2 => ⟨by omega, by simp; omega, ?_⟩⟩
      · rw [hs, if_neg (by omega), if_pos (by omega)]
      · rw [hs, if_neg (by omega), if_neg (by omega), Int.add_sub_cancel]
  obtain rfl : k = N + X + Y := by omega
  have hchk := chain_chk (N := N) (X := X) (n := N + X + Y) bN.1 (by omega)
  have v := hchk.vg
  have low := fun (m : Int) (hm : m ≤ (N : Int) + X) => rch_low (N := N) (X := X) (n := N + X + Y) (m := m) hm (by omega)
  have high := fun (m : Int) (hm : (N : Int) + X < m) (h2 : m ≤ (N : Int) + X + Y) => rch_high (N := N) (X := X) (n := N + X + Y) (m := m) bN.1 hm (by omega)
  have hget := fun (i : Nat) (hi : i < N + X + Y) => chain_get (N := N) (X := X) hi
  generalize hg : chain N X (N + X + Y) = g at *
  have eN : idsF g.length (basF g ((N : Int) + X) ((N : Int) + X + Y)) = [(N : Int)] := by
    have hall : ∀ x ∈ idsF g.length (basF g ((N : Int) + X) ((N : Int) + X + Y)), x = N := fun x hx => by
      obtain ⟨h1, h2, h3⟩ := mem_bas.1 hx
      rw [low _ (by omega)] at h1
      rw [high _ (by omega) (by omega)] at h2
      rcases h2 with h2 | h2
      · by_cases hxn : x = N
        · exact hxn
        · exfalso
          obtain ⟨j, rfl⟩ := nat_of (show 0 ≤ x by omega)
          refine h3 (.base (mem_parF.2 ⟨j, by omega, both_eq.2 ⟨(low _ (by omega) _).2 ⟨by omega, by omega⟩, (high _ (by omega) (by omega) _).2 (Or.inl ⟨by omega, by omega⟩)⟩, ?_⟩) (by omega) (by omega))
          rw [hget j (by omega), if_neg (by omega), if_neg (by omega)]; simp
      · omega
    have hin : (N : Int) ∈ idsF g.length (basF g ((N : Int) + X) ((N : Int) + X + Y)) := by
      refine mem_bas.2 ⟨(low _ (by omega) _).2 ⟨by omega, by omega⟩, (high _ (by omega) (by omega) _).2 (Or.inl ⟨by omega, by omega⟩), fun hp => ?_⟩
      obtain ⟨k, hk, hbo, hr⟩ := hp.of_par
      have hle := Rch.le v (m := (k : Int)) (fun y hy => (v.old k hk y hy).2) hr
      have hbo := both_eq.1 hbo
      rw [low _ (by omega), high _ (by omega) (by omega)] at hbo
      omega
    have hnd := idsF_nodup g.length (basF g ((N : Int) + X) ((N : Int) + X + Y))
    generalize idsF g.length (basF g ((N : Int) + X) ((N : Int) + X + Y)) = L at hin hall hnd
    match L, hin, hall, hnd with
    | [x], _, hall, _ => rw [hall x (by simp)]
    | x :: y :: r, _, hall, hnd =>
      have h1 := hall x (by simp)
      have h2 := hall y (by simp)
      rw [h1, h2] at hnd
      simp at hnd
  have eB : idsF g.length (basF g ((N : Int) + X) N) = [(N : Int)] := by
    rw [basF_comm]; exact bas_self v ((low _ (by omega) _).2 ⟨by omega, by omega⟩)
  have c1 : (idsF g.length (ancF g [(N : Int) + X])).length = N + X := by
    rw [idsF_congr (q := fun (k : Nat) => decide (k < N + X)) fun k hk => by unfold ancF; exact decide_eq_decide.2 (by rw [low _ (by omega)]; omega)]
    rw [idsF_countP _ (fun n => min n (N + X)) (by simp) (fun n => ⟨fun h => by omega, fun h => by omega⟩)]
    omega
  have c2 : (idsF g.length (ancF g [(N : Int) + X + Y])).length = N + Y := by
    rw [idsF_congr (q := fun (k : Nat) => decide (k < N ∨ N + X ≤ k ∧ k < N + X + Y)) fun k hk => by unfold ancF; exact decide_eq_decide.2 (by rw [high _ (by omega) (by omega)]; omega)]
    rw [idsF_countP _ (fun n => min n N + (min n (N + X + Y) - (N + X))) (by simp) (fun n => ⟨fun h => by omega, fun h => by omega⟩)]
    omega
  have c3 : (idsF g.length (onlF g ((N : Int) + X) ((N : Int) + X + Y))).length = X := by
    rw [idsF_congr (q := fun (k : Nat) => decide (N ≤ k ∧ k < N + X)) fun k hk => by unfold onlF; exact decide_eq_decide.2 (by rw [low _ (by omega), high _ (by omega) (by omega)]; omega)]
    rw [idsF_countP _ (fun n => min n (N + X) - N) (by simp) (fun n => ⟨fun h => by omega, fun h => by omega⟩)]
    omega
  have c4 : (idsF g.length (onlF g ((N : Int) + X + Y) N)).length = Y := by
    rw [idsF_congr (q := fun (k : Nat) => decide (N + X ≤ k ∧ k < N + X + Y)) fun k hk => by unfold onlF; exact decide_eq_decide.2 (by rw [high _ (by omega) (by omega), low _ (by omega)]; omega)]
    rw [idsF_countP _ (fun n => min n (N + X + Y) - (N + X)) (by simp) (fun n => ⟨fun h => by omega, fun h => by omega⟩)]
    omega
  refine ⟨fun c => c = true, by rintro _ rfl; exact h, ?_⟩
  refine Check_p fun r hr _ => ⟨fun _ => ⟨by omega, by omega, by omega, ?_⟩, fun hn => absurd (hr.uniq hchk) hn⟩
  rintro _ rfl
  refine Base_p v (fun he => by rw [eN] at he; cases he) fun _ _ => ⟨fun _ => ⟨by omega, ?_⟩, fun hn => by rw [eN] at hn; exact absurd rfl hn⟩
  refine Ancestors_p v (by simp) fun _ => ⟨by omega, fun _ => ⟨by omega, by omega, ?_⟩, fun hn => absurd (by rw [c1]; simp) hn⟩
  rintro _ rfl
  refine Ancestors_p v (by simp) fun _ => ⟨by omega, fun _ => ⟨by omega, by omega, by omega, ?_⟩, fun hn => absurd (by rw [c2]; simp) hn⟩
  rintro _ rfl
  refine Only_p v fun _ => ⟨fun _ => ⟨by omega, by omega, ?_⟩, fun hn => absurd (by rw [c3]) hn⟩
  rintro _ rfl
  refine Only_p v fun _ => ⟨fun _ => ⟨by omega, ?_⟩, fun hn => absurd (by rw [c4]) hn⟩
  refine Bases_p v fun _ => ?_
  rw [eB]; rfl
end Go.Proofs.Ytmepomdpjlbaaaa
