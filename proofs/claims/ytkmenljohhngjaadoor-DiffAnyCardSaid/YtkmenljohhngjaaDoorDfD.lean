/- The plain law of DiffAny. -/
import Derived.Test.YtkmenljohhngjaaDoorDfB
import Derived.Test.YtkmenljohhngjaaDoorDfT
namespace Go.Proofs.YtkmenljohhngjaaDoor
open Go
def toR (e : PEd) : S_rectoref11_Edit := ⟨e.op, e.line⟩
abbrev linesW : ByteArray := ByteArray.mk #[108, 105, 110, 101, 115]
def longW (A B : List ByteArray) : S_rectoref3_Wrong := if A.length > 256 then ⟨[⟨linesW, 0⟩], 4⟩ else if B.length > 256 then ⟨[⟨linesW, 1⟩], 4⟩ else ⟨[], 0⟩
theorem long_p {A B : List ByteArray} {Q : S_rectoref3_Wrong → Prop} (h : Q (longW A B)) : rectoref11_long_p A B Q := by
  unfold rectoref11_long_p; intro _ _
  unfold longW at h
  refine ⟨fun h1 => ?_, fun h1 => ⟨fun h2 => ?_, fun h2 => ?_⟩⟩
  · unfold rectoref3_At_p; intro _ _ _ _ _
    rwa [if_pos (by omega)] at h
  · unfold rectoref3_At_p; intro _ _ _ _ _
    rwa [if_neg (by omega), if_pos (by omega)] at h
  · rwa [if_neg (by omega), if_neg (by omega)] at h
theorem rLines_p {A B : List ByteArray} {Q : List S_rectoref11_Edit → S_rectoref3_Wrong → Prop} (h1 : 256 < A.length → Q [] ⟨[⟨linesW, 0⟩], 4⟩) (h2 : A.length ≤ 256 → 256 < B.length → Q [] ⟨[⟨linesW, 1⟩], 4⟩)
    (h3 : A.length ≤ 256 → B.length ≤ 256 → Q ((ed A B).map toR) ⟨[], 0⟩) : rectoref11_Lines_p A B Q := by
  unfold rectoref11_Lines_p; intro _ _
  refine long_p (fun _ _ => ?_)
  by_cases hA : 256 < A.length
  · have e : longW A B = ⟨[⟨linesW, 0⟩], 4⟩ := if_pos hA
    rw [e]
    exact ⟨fun _ => h1 hA, fun hx => absurd hx (by decide)⟩
  by_cases hB : 256 < B.length
  · have e : longW A B = ⟨[⟨linesW, 1⟩], 4⟩ := (if_neg hA).trans (if_pos hB)
    rw [e]
    exact ⟨fun _ => h2 (by omega) hB, fun hx => absurd hx (by decide)⟩
  have e : longW A B = ⟨[], 0⟩ := (if_neg hA).trans (if_neg hB)
  rw [e]
  refine ⟨fun hx => absurd rfl hx, fun _ => common_p (by omega) (by omega) (fun _ => ?_)⟩
  have hA : A.length ≤ 256 := by omega
  have hB : B.length ≤ 256 := by omega
  have he := ed_len A B
  simp only [inR_i64]
  refine ⟨fun L i j => ∃ p q : Nat, i = p ∧ j = q ∧ p ≤ A.length ∧ q ≤ B.length ∧ L ++ (E A B p q).map toR = (ed A B).map toR ∧ L.length ≤ p + q, fun L i j => ((A.length - i) + (B.length - j)).toNat, ⟨0, 0, rfl, rfl, by omega, by omega, by simp [E_start], by simp⟩, ?_⟩
  rintro L _ _ ⟨i, j, rfl, rfl, hi, hj, hE, hl⟩ _ _ _
  have fin : ∀ (p q : Nat) (x : S_rectoref11_Edit), p ≤ A.length → q ≤ B.length → i + j < p + q → i ≤ p → j ≤ q → (E A B i j).map toR = x :: (E A B p q).map toR →
      (L.length + [x].length) * 24 ≤ 140737488355328 ∧ (∃ p' q' : Nat, (p : Int) = p' ∧ (q : Int) = q' ∧ p' ≤ A.length ∧ q' ≤ B.length ∧ (L ++ [x]) ++ (E A B p' q').map toR = (ed A B).map toR ∧ (L ++ [x]).length ≤ p' + q') ∧
      (((A.length : Int) - p) + (B.length - q)).toNat < ((A.length - (i : Int)) + (B.length - (j : Int))).toNat := by
    intro p q x hp hq hlt hip hjq he
    refine ⟨by simp; omega, ⟨p, q, rfl, rfl, hp, hq, by rw [← hE, he]; simp, by simp; omega⟩, by omega⟩
  refine ⟨fun c => c = decide (i < A.length ∨ j < B.length), ?_, fun h => ?_, fun h => ?_⟩
  · rintro _ rfl
    refine ⟨fun hc => ?_, fun hc => ?_⟩
    · have hc := of_decide_eq_true hc
      refine ⟨fun c => c = decide (stepF A B i j = 1), ?_, fun h => ⟨fun h4 => ⟨inL_nat.2 (by omega), fun _ => ⟨inL_nat.2 (by omega), fun _ => ?_⟩⟩, fun h4 => ?_⟩, fun h => ?_⟩
      · rintro _ rfl
        refine ⟨fun hs => ?_, fun hs => ?_⟩
        · obtain ⟨g1, g2, g3⟩ := stepF_1 (of_decide_eq_true hs)
          refine ⟨inL_nat.2 g1, fun _ => ?_⟩
          rw [lget_lt g1]
          obtain ⟨f1, f2, f3⟩ := fin (i + 1) (j + 1) ⟨1, A[i]⟩ g1 g2 (by omega) (by omega) (by omega) (by rw [g3]; rfl)
          exact ⟨f1, by omega, by omega, f2, f3⟩
        · have hs1 := of_decide_eq_false hs
          refine ⟨fun c => c = decide (stepF A B i j = 2), ?_, fun h => ⟨fun h4 => ?_, fun h4 => ?_⟩, fun h => ?_⟩
          · rintro _ rfl
            refine ⟨fun hs => ?_, fun hs => ?_⟩
            · obtain ⟨g1, g3⟩ := stepF_2 (of_decide_eq_true hs)
              refine ⟨inL_nat.2 g1, fun _ => ?_⟩
              rw [lget_lt g1]
              obtain ⟨f1, f2, f3⟩ := fin (i + 1) j ⟨2, A[i]⟩ g1 hj (by omega) (by omega) (by omega) (by rw [g3]; rfl)
              exact ⟨f1, by omega, f2, f3⟩
            · have hs2 := of_decide_eq_false hs
              have hs3 : stepF A B i j = 3 := by rcases stepF_or A B i j with h | h | h; exact absurd h hs1; exact absurd h hs2; exact h
              obtain ⟨g1, g3⟩ := stepF_3 hs3 hc
              refine ⟨inL_nat.2 g1, fun _ => ?_⟩
              rw [lget_lt g1]
              obtain ⟨f1, f2, f3⟩ := fin i (j + 1) ⟨3, B[j]⟩ hi g1 (by omega) (by omega) (by omega) (by rw [g3]; rfl)
              exact ⟨f1, by omega, f2, f3⟩
          · exact (decide_eq_true (stepF_last (by omega) (by omega))).symm
          · have hi2 : i < A.length := by omega
            have hj2 : j < B.length := by omega
            have e1 : (i : Int) + 1 = ((i + 1 : Nat) : Int) := rfl
            have e2 : (j : Int) + 1 = ((j + 1 : Nat) : Int) := rfl
            have r1 : lget (tabT A B) ((i : Int) + 1) = rowT A B (i + 1) := by rw [e1, tabT_get (by omega)]
            have r2 : lget (tabT A B) (i : Int) = rowT A B i := tabT_get hi
            refine ⟨by omega, by rw [e1]; exact inL_nat.2 (by rw [tabT_len]; omega), fun _ => ?_⟩
            rw [r1]
            refine ⟨inL_nat.2 (by rw [rowT_len]; omega), fun _ => ⟨inL_nat.2 (by rw [tabT_len]; omega), fun _ => ⟨by omega, ?_⟩⟩⟩
            rw [r2]
            refine ⟨by rw [e2]; exact inL_nat.2 (by rw [rowT_len]; omega), fun _ => ?_⟩
            rw [e2, rowT_get hj, rowT_get (by omega)]
            refine decide_eq_decide.2 ?_
            have hne : ¬ A[i] = B[j] := fun h => hs1 (stepF_keep hi2 hj2 h)
            constructor
            · intro h; exact stepF_del hi2 hj2 hne (by omega)
            · intro h
              by_cases g : T A B (i + 1) j ≥ T A B i (j + 1)
              · omega
              · rw [stepF_add hi2 hj2 hne g] at h; cases h
          · exact (decide_eq_false (by rw [stepF_rest (by omega)]; decide)).symm
      · rw [lget_lt (show i < A.length by omega), lget_lt (show j < B.length by omega)]
        refine decide_eq_decide.2 ⟨fun h => stepF_keep (by omega) (by omega) h, fun h => ?_⟩
        by_cases hne : A[i] = B[j]
        · exact hne
        · by_cases g : T A B (i + 1) j ≥ T A B i (j + 1)
          · rw [stepF_del (by omega) (by omega) hne g] at h; cases h
          · rw [stepF_add (by omega) (by omega) hne g] at h; cases h
      · exact (decide_eq_false (by rw [stepF_last (by omega) (by omega)]; decide)).symm
      · exact (decide_eq_false (by rw [stepF_rest (by omega)]; decide)).symm
    · have hc := of_decide_eq_false hc
      have hz : E A B i j = [] := E_end (by omega) (by omega)
      rw [hz] at hE
      rw [List.map_nil, List.append_nil] at hE
      rw [hE]
      exact h3 hA hB
  · exact (decide_eq_true (.inl (by omega))).symm
  · exact decide_eq_decide.2 ⟨fun h4 => .inr (by omega), fun h4 => by omega⟩
theorem rCommon_p {A B : List ByteArray} {Q : Int → Prop} (hA : A.length ≤ 100000) (hB : B.length ≤ 100000) (h : Q ((lcs A B : Nat) : Int)) : rectoref11_Common_p A B Q := by
  unfold rectoref11_Common_p; intro _ _
  refine common_p hA hB (fun _ => ?_)
  have e0 : lget (tabT A B) (0 : Int) = rowT A B 0 := tabT_get (Nat.zero_le _)
  have e1 : lget (rowT A B 0) (0 : Int) = ((T A B 0 0 : Nat) : Int) := rowT_get (Nat.zero_le _)
  refine ⟨⟨by omega, by rw [tabT_len]; omega⟩, fun _ => ?_⟩
  rw [e0]
  refine ⟨⟨by omega, by rw [rowT_len]; omega⟩, fun _ => ?_⟩
  rw [e1]; exact h
theorem Edits_p {L : List PEd} {Q : Bool → Prop} (h : Q true) : rectolaw11_Edits_p (L.map toE) (L.map toR) Q := by
  unfold rectolaw11_Edits_p; simp only [inR_i64]; intro _ _
  have hl1 : (L.map toE).length = L.length := List.length_map ..
  have hl2 : (L.map toR).length = L.length := List.length_map ..
  refine ⟨fun hx => absurd (by rw [hl1, hl2]) hx, fun _ => ⟨fun i => 0 ≤ i ∧ i ≤ L.length, fun i => (L.length - i).toNat, ⟨by omega, by omega⟩, ?_⟩⟩
  rintro i ⟨h0, hi⟩ _
  refine ⟨fun hlt => ?_, fun _ => h⟩
  obtain ⟨k, rfl⟩ := nat_of h0
  have hk : k < L.length := by rw [hl1] at hlt; omega
  rw [lget_map toE hk, lget_map toR hk]
  have k1 : inL (L.map toE) (k : Int) := inL_nat.2 (by omega)
  have k2 : inL (L.map toR) (k : Int) := inL_nat.2 (by omega)
  refine ⟨fun s => s = false, ?_, k1, fun _ _ => ⟨k2, fun _ _ => ⟨fun _ => ⟨k1, fun _ _ => ⟨k2, fun _ _ => ?_⟩⟩, fun hx => absurd rfl hx⟩⟩⟩
  · rintro _ rfl
    exact ⟨fun hx => (by cases hx), fun _ => ⟨by omega, ⟨by omega, by omega⟩, by dsimp only; omega⟩⟩
  · show (!decide (L[k].line = L[k].line)) = false
    simp
def toM (m : S_diff_Match) : S_rectoref11_Match := ⟨m.A, m.B, m.N⟩
theorem bump_snoc (o : List S_diff_Match) (i j : Int) : bump (o ++ [⟨i, j, 0⟩]) = o ++ [⟨i, j, 1⟩] := by
  have e : (((o ++ [(⟨i, j, 0⟩ : S_diff_Match)]).length : Int) - 1) = (o.length : Int) := by rw [List.length_append]; simp
  unfold bump
  rw [e, lset_nat, lget_nat]
  have e2 : (o ++ [(⟨i, j, 0⟩ : S_diff_Match)]).getD o.length default = ⟨i, j, 0⟩ := by simp [List.getD]
  rw [e2, List.set_append_right _ _ (Nat.le_refl _)]
  simp
theorem rMatches_p {L : List PEd} {Q : List S_rectoref11_Match → Prop} (hl : L.length ≤ 100000) (hop : ∀ e ∈ L, e.op = 1 ∨ e.op = 2 ∨ e.op = 3) (h : Q ((mF L).out.map toM)) : rectoref11_Matches_p (L.map toR) Q := by
  unfold rectoref11_Matches_p; simp only [inR_i64]; intro _
  have hlen : (L.map toR).length = L.length := List.length_map ..
  refine ⟨fun o i j last x => ∃ k : Nat, x = k ∧ k ≤ L.length ∧ (0 ≤ last ∧ last ≤ 3) ∧ ∃ o', o = o'.map toM ∧ mF (L.take k) = ⟨o', i, j, decide (last = 1)⟩, fun _ _ _ _ x => (L.length - x).toNat, ⟨0, rfl, by omega, by omega, [], rfl, rfl⟩, ?_⟩
  rintro o i j last _ ⟨k, rfl, hk, hlast, o', rfl, hm⟩ _ _ _ _ _
  have hok := mF_ok L k hk
  rw [hm] at hok
  obtain ⟨g1, g2, g3, g4, g5⟩ := hok
  dsimp only at g1 g2 g3 g4 g5
  have hol : (o'.map toM).length = o'.length := List.length_map ..
  refine ⟨fun hi => ?_, fun hi => ?_⟩
  · have hk' : k < L.length := by rw [hlen] at hi; omega
    have hkin : inL (L.map toR) (k : Int) := inL_nat.2 (by omega)
    have hnext : mF (L.take (k + 1)) = mStep ⟨o', i, j, decide (last = 1)⟩ L[k].op := by rw [List.take_succ_eq_append_getElem hk', mF_snoc, hm]
    rw [lget_map toR hk']
    have hop1 := hop L[k] (List.getElem_mem _)
    have hop2 : (toR L[k]).Op = L[k].op := rfl
    rw [hop2]
    generalize L[k].op = op at hnext hop1
    refine ⟨hkin, fun _ _ => ⟨fun o2 i2 j2 => ∃ o3, o2 = o3.map toM ∧ mStep ⟨o', i, j, decide (last = 1)⟩ op = ⟨o3, i2, j2, decide (op = 1)⟩, ?_, fun h1 => ?_, fun h1 => ⟨fun h2 => ⟨by omega, ?_⟩, fun h2 => ⟨fun h3 => ⟨by omega, ?_⟩, fun h3 => absurd hop1 (by omega)⟩⟩⟩⟩
    · rintro o2 i2 j2 ⟨o3, rfl, he⟩ _ _ _
      exact ⟨hkin, fun _ _ => ⟨by omega, ⟨k + 1, rfl, hk', by omega, o3, rfl, by rw [hnext, he]⟩, by dsimp only; omega⟩⟩
    · subst h1
      refine ⟨fun o2 => ∃ o3, o2 = o3.map toM ∧ mStep ⟨o', i, j, decide (last = 1)⟩ 1 = ⟨o3, i + 1, j + 1, true⟩, ?_, fun h1 => ?_, fun h1 => ?_⟩
      · rintro o2 ⟨o3, rfl, he⟩ _
        exact ⟨by omega, by omega, o3, rfl, by rw [he]; rfl⟩
      · have hne : o' ≠ [] := g4 (decide_eq_true h1)
        have hin := last_in hne
        have hb := g5 _ (lget_mem hin)
        have hpos := List.length_pos_iff.2 hne
        obtain ⟨q, hq⟩ : ∃ q : Nat, (o'.length : Int) - 1 = q := ⟨o'.length - 1, by omega⟩
        have hql : q < o'.length := by omega
        have hin2 : inL (o'.map toM) (((o'.map toM).length : Int) - 1) := by rw [hol, hq]; exact inL_nat.2 (by omega)
        have hget : lget (o'.map toM) (((o'.map toM).length : Int) - 1) = toM (lget o' ((o'.length : Int) - 1)) := by rw [hol, hq, lget_map toM hql, lget_lt hql]
        refine ⟨by omega, hin2, fun _ _ _ => ⟨?_, hin2, fun _ _ _ => ?_⟩⟩
        · rw [hget]; show _ ≤ (lget o' _).N + 1 ∧ (lget o' _).N + 1 ≤ _; omega
        · rintro _ rfl
          refine ⟨bump o', ?_, ?_⟩
          · rw [hget]
            unfold bump
            rw [hol, hq, lset_nat, lset_nat, List.map_set]; rfl
          · rw [h1]; simp [mStep]
      · refine ⟨by rw [hol]; show (_ + 1) * 24 ≤ _; omega, o' ++ [⟨i, j, 1⟩], by rw [List.map_append]; rfl, ?_⟩
        simp only [mStep, if_true, decide_eq_false h1]
        rw [if_neg (by decide), bump_snoc]; simp
    · subst h2
      exact ⟨o', rfl, by simp [mStep]⟩
    · subst h3
      exact ⟨o', rfl, by simp [mStep]⟩
  · rw [List.take_of_length_le (by rw [hlen] at hi; omega)] at hm
    rw [hm] at h; exact h
theorem ed_ops (a b : List ByteArray) : ∀ e ∈ ed a b, e.op = 1 ∨ e.op = 2 ∨ e.op = 3 := by
  refine two_ind (P := fun a b => ∀ e ∈ ed a b, e.op = 1 ∨ e.op = 2 ∨ e.op = 3) ?_ ?_ ?_ ?_ a b
  · intro e he; rw [ed] at he; cases he
  · intro y b ih e he; rw [ed] at he
    rcases List.mem_cons.1 he with rfl | he
    · exact .inr (.inr rfl)
    · exact ih e he
  · intro x a ih e he; rw [ed] at he
    rcases List.mem_cons.1 he with rfl | he
    · exact .inr (.inl rfl)
    · exact ih e he
  · intro x y a b h1 h2 h3 e he; rw [ed] at he
    split at he
    · rcases List.mem_cons.1 he with rfl | he
      · exact .inl rfl
      · exact h1 e he
    · split at he
      · rcases List.mem_cons.1 he with rfl | he
        · exact .inr (.inl rfl)
        · exact h2 e he
      · rcases List.mem_cons.1 he with rfl | he
        · exact .inr (.inr rfl)
        · exact h3 e he
theorem linesW_size : linesW.size ≤ 100000 := by decide
theorem DiffAny_p {A B : List ByteArray} {Q : Bool → Prop} (h : Q true) : rectolaw11_DiffAny_p A B Q := by
  unfold rectolaw11_DiffAny_p; intro _ _
  refine known11_p ⟨fun hx => (by cases hx), fun _ => Few_p (fun hA hB => ⟨fun hx => (by cases hx), fun _ => ?_⟩) ⟨fun _ => h, fun hx => (by cases hx)⟩⟩
  -- too many lines
  have bad : ∀ (a : Int), (a = 0 ∨ a = 1) → ∀ (k : Bool → Prop), (∀ s : Bool, s = false → k s) → rectolaw2_Tells_p (.fault linesW a 4) ⟨[⟨linesW, a⟩], 4⟩ (fun r => (r = true → rectolaw2_Tells_p (.fault linesW a 4) ⟨[⟨linesW, a⟩], 4⟩ (fun r => (r = true → rectolaw2_Tells_p (.fault linesW a 4) ⟨[⟨linesW, a⟩], 4⟩ (fun r => (r = true → rectolaw11_Edits_p [] [] (fun r => k (!r))) ∧ (r = false → k true))) ∧ (r = false → k true))) ∧ (r = false → k true)) := by
    intro a ha k hk
    have tell : ∀ {R : Bool → Prop}, R true → rectolaw2_Tells_p (.fault linesW a 4) ⟨[⟨linesW, a⟩], 4⟩ R := fun hR => Tells_fault (by decide) (by decide) linesW_size (inR_i64.2 ⟨by omega, by omega⟩) (by omega) hR
    exact tell ⟨fun _ => tell ⟨fun _ => tell ⟨fun _ => Edits_p (L := []) (hk _ rfl), fun hx => (by cases hx)⟩, fun hx => (by cases hx)⟩, fun hx => (by cases hx)⟩
  by_cases hA2 : 256 < A.length
  · refine Lines_p (fun _ _ => ?_) (fun hx => absurd hx (by omega)) (fun hx => absurd hx (by omega))
    refine rLines_p (fun _ _ _ _ => ?_) (fun hx => absurd hx (by omega)) (fun hx => absurd hx (by omega))
    refine Matches_p (fun _ _ => ?_) (fun hx => absurd hx (by omega)) (fun hx => absurd hx (by omega))
    refine Common_p (fun _ _ => ?_) (fun hx => absurd hx (by omega)) (fun hx => absurd hx (by omega))
    exact ⟨fun s => s = false, by rintro _ rfl; exact ⟨fun hx => (by cases hx), fun _ => ⟨fun _ => by rw [decide_eq_true ⟨rfl, rfl⟩]; exact h, fun hx => absurd hx (show ¬ (4 : Int) = 0 by decide)⟩⟩, bad 0 (.inl rfl) _ fun s hs => hs⟩
  by_cases hB2 : 256 < B.length
  · refine Lines_p (fun hx => absurd hx hA2) (fun _ _ _ => ?_) (fun _ hx => absurd hx (by omega))
    refine rLines_p (fun hx => absurd hx hA2) (fun _ _ _ _ _ => ?_) (fun _ hx => absurd hx (by omega))
    refine Matches_p (fun hx => absurd hx hA2) (fun _ _ _ => ?_) (fun _ hx => absurd hx (by omega))
    refine Common_p (fun hx => absurd hx hA2) (fun _ _ _ => ?_) (fun _ hx => absurd hx (by omega))
    exact ⟨fun s => s = false, by rintro _ rfl; exact ⟨fun hx => (by cases hx), fun _ => ⟨fun _ => by rw [decide_eq_true ⟨rfl, rfl⟩]; exact h, fun hx => absurd hx (show ¬ (4 : Int) = 0 by decide)⟩⟩, bad 1 (.inr rfl) _ fun s hs => hs⟩
  refine Lines_p (fun hx => absurd hx hA2) (fun _ hx => absurd hx hB2) (fun _ _ _ => ?_)
  refine rLines_p (fun hx => absurd hx hA2) (fun _ hx => absurd hx hB2) (fun _ _ _ _ _ => ?_)
  refine Matches_p (fun hx => absurd hx hA2) (fun _ hx => absurd hx hB2) (fun _ _ hml => ?_)
  refine Common_p (fun hx => absurd hx hA2) (fun _ hx => absurd hx hB2) (fun _ _ _ => ?_)
  have hel := ed_len A B
  refine ⟨fun s => s = false, ?_, Tells_nil rfl ⟨fun _ => Tells_nil rfl ⟨fun _ => Tells_nil rfl ⟨fun _ => Edits_p rfl, fun hx => (by cases hx)⟩, fun hx => (by cases hx)⟩, fun hx => (by cases hx)⟩⟩
  rintro _ rfl
  refine ⟨fun hx => (by cases hx), fun _ => ⟨fun hx => absurd rfl hx, fun _ => rMatches_p (by omega) (ed_ops A B) (fun _ => ?_)⟩⟩
  have hmo : ((mF (ed A B)).out.map toM).length = (mF (ed A B)).out.length := List.length_map ..
  refine ⟨fun s => s = false, ?_, fun _ => rCommon_p (by omega) (by omega) (fun _ => ⟨fun _ => ?_, fun hx => absurd rfl hx⟩), fun hx => absurd (by rw [hmo]) hx⟩
  · rintro _ rfl
    refine ⟨fun hx => (by cases hx), fun _ => ?_⟩
    generalize (mF (ed A B)).out = M at hmo hml
    simp only [inR_i64]
    refine ⟨fun i => 0 ≤ i ∧ i ≤ M.length, fun i => (M.length - i).toNat, ⟨by omega, by omega⟩, ?_⟩
    rintro i ⟨h0, hi⟩ _
    refine ⟨fun hlt => ?_, fun _ => h⟩
    obtain ⟨k, rfl⟩ := nat_of h0
    have hk : k < M.length := by omega
    have k1 : inL M (k : Int) := inL_nat.2 hk
    have k2 : inL (M.map toM) (k : Int) := inL_nat.2 (by omega)
    rw [lget_map toM hk, lget_lt hk]
    refine ⟨fun s => s = false, ?_, k1, fun _ _ _ => ⟨k2, fun _ _ _ => ⟨fun _ => ⟨k1, fun _ _ _ => ⟨k2, fun _ _ _ => ⟨fun _ => ⟨k1, fun _ _ _ => ⟨k2, fun _ _ _ => ?_⟩⟩, fun hx => absurd rfl hx⟩⟩⟩, fun hx => absurd rfl hx⟩⟩⟩
    · rintro _ rfl
      exact ⟨fun hx => (by cases hx), fun _ => ⟨by omega, ⟨by omega, by omega⟩, by dsimp only; omega⟩⟩
    · show (!decide (M[k].N = M[k].N)) = false
      simp
  · refine Cost_p (by omega) (fun _ => ?_)
    have hc := ed_cost A B
    have hll := lcs_le A B
    refine ⟨inR_i64.2 ⟨by omega, by omega⟩, inR_i64.2 ⟨by omega, by omega⟩, inR_i64.2 ⟨by omega, by omega⟩, ?_⟩
    show (!decide _) = false
    rw [decide_eq_true (by omega)]; rfl
end Go.Proofs.YtkmenljohhngjaaDoor
