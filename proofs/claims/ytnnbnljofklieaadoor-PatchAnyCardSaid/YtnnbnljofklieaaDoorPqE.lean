/- The document's edits. -/
import Derived.Test.YtnnbnljofklieaaDoorPqC
namespace Go.Proofs.YtnnbnljofklieaaDoor
open Go
def toR (e : PEd) : S_rectoref11_Edit := ⟨e.op, e.line⟩
abbrev linesW : ByteArray := ByteArray.mk #[108, 105, 110, 101, 115]
def longW (A B : List ByteArray) : S_rectoref3_Wrong := if A.length > 256 then ⟨[⟨linesW, 0⟩], 4⟩ else if B.length > 256 then ⟨[⟨linesW, 1⟩], 4⟩ else ⟨[], 0⟩
theorem long_p {A B : List ByteArray} {Q : S_rectoref3_Wrong → Prop} (h : Q (longW A B)) : rectoref11_long_p A B Q := by
  unfold rectoref11_long_p; intro _ _
  unfold longW at h
  refine ⟨fun h1 => ?_, fun h1 => ⟨fun h2 => ?_, fun h2 => ?_⟩⟩
  · unfold rectoref3_At_p; intro _ _ _ _ _
    rwa [if_pos (by omega)] at h
  · unfold rectoref3_At_p; intro _ _ _ _ _
    rwa [if_neg (by omega), if_pos (by omega)] at h
  · rwa [if_neg (by omega), if_neg (by omega)] at h
theorem rLines_p {A B : List ByteArray} {Q : List S_rectoref11_Edit → S_rectoref3_Wrong → Prop} (h1 : 256 < A.length → Q [] ⟨[⟨linesW, 0⟩], 4⟩) (h2 : A.length ≤ 256 → 256 < B.length → Q [] ⟨[⟨linesW, 1⟩], 4⟩)
    (h3 : A.length ≤ 256 → B.length ≤ 256 → Q ((ed A B).map toR) ⟨[], 0⟩) : rectoref11_Lines_p A B Q := by
  unfold rectoref11_Lines_p; intro _ _
  refine long_p (fun _ _ => ?_)
  by_cases hA : 256 < A.length
  · have e : longW A B = ⟨[⟨linesW, 0⟩], 4⟩ := if_pos hA
    rw [e]
    exact ⟨fun _ => h1 hA, fun hx => absurd hx (by decide)⟩
  by_cases hB : 256 < B.length
  · have e : longW A B = ⟨[⟨linesW, 1⟩], 4⟩ := (if_neg hA).trans (if_pos hB)
    rw [e]
    exact ⟨fun _ => h2 (by omega) hB, fun hx => absurd hx (by decide)⟩
  have e : longW A B = ⟨[], 0⟩ := (if_neg hA).trans (if_neg hB)
  rw [e]
  refine ⟨fun hx => absurd rfl hx, fun _ => common_p (by omega) (by omega) (fun _ => ?_)⟩
  have hA : A.length ≤ 256 := by omega
  have hB : B.length ≤ 256 := by omega
  have he := ed_len A B
  simp only [inR_i64]
  refine ⟨fun L i j => ∃ p q : Nat, i = p ∧ j = q ∧ p ≤ A.length ∧ q ≤ B.length ∧ L ++ (E A B p q).map toR = (ed A B).map toR ∧ L.length ≤ p + q, fun L i j => ((A.length - i) + (B.length - j)).toNat, ⟨0, 0, rfl, rfl, by omega, by omega, by simp [E_start], by simp⟩, ?_⟩
  rintro L _ _ ⟨i, j, rfl, rfl, hi, hj, hE, hl⟩ _ _ _
  have fin : ∀ (p q : Nat) (x : S_rectoref11_Edit), p ≤ A.length → q ≤ B.length → i + j < p + q → i ≤ p → j ≤ q → (E A B i j).map toR = x :: (E A B p q).map toR →
      (L.length + [x].length) * 24 ≤ 140737488355328 ∧ (∃ p' q' : Nat, (p : Int) = p' ∧ (q : Int) = q' ∧ p' ≤ A.length ∧ q' ≤ B.length ∧ (L ++ [x]) ++ (E A B p' q').map toR = (ed A B).map toR ∧ (L ++ [x]).length ≤ p' + q') ∧
      (((A.length : Int) - p) + (B.length - q)).toNat < ((A.length - (i : Int)) + (B.length - (j : Int))).toNat := by
    intro p q x hp hq hlt hip hjq he
    refine ⟨by simp; omega, ⟨p, q, rfl, rfl, hp, hq, by rw [← hE, he]; simp, by simp; omega⟩, by omega⟩
  refine ⟨fun c => c = decide (i < A.length ∨ j < B.length), ?_, fun h => ?_, fun h => ?_⟩
  · rintro _ rfl
    refine ⟨fun hc => ?_, fun hc => ?_⟩
    · have hc := of_decide_eq_true hc
      refine ⟨fun c => c = decide (stepF A B i j = 1), ?_, fun h => ⟨fun h4 => ⟨inL_nat.2 (by omega), fun _ => ⟨inL_nat.2 (by omega), fun _ => ?_⟩⟩, fun h4 => ?_⟩, fun h => ?_⟩
      · rintro _ rfl
        refine ⟨fun hs => ?_, fun hs => ?_⟩
        · obtain ⟨g1, g2, g3⟩ := stepF_1 (of_decide_eq_true hs)
          refine ⟨inL_nat.2 g1, fun _ => ?_⟩
          rw [lget_lt g1]
          obtain ⟨f1, f2, f3⟩ := fin (i + 1) (j + 1) ⟨1, A[i]⟩ g1 g2 (by omega) (by omega) (by omega) (by rw [g3]; rfl)
          exact ⟨f1, by omega, by omega, f2, f3⟩
        · have hs1 := of_decide_eq_false hs
          refine ⟨fun c => c = decide (stepF A B i j = 2), ?_, fun h => ⟨fun h4 => ?_, fun h4 => ?_⟩, fun h => ?_⟩
          · rintro _ rfl
            refine ⟨fun hs => ?_, fun hs => ?_⟩
            · obtain ⟨g1, g3⟩ := stepF_2 (of_decide_eq_true hs)
              refine ⟨inL_nat.2 g1, fun _ => ?_⟩
              rw [lget_lt g1]
              obtain ⟨f1, f2, f3⟩ := fin (i + 1) j ⟨2, A[i]⟩ g1 hj (by omega) (by omega) (by omega) (by rw [g3]; rfl)
              exact ⟨f1, by omega, f2, f3⟩
            · have hs2 := of_decide_eq_false hs
              have hs3 : stepF A B i j = 3 := by rcases stepF_or A B i j with h | h | h; exact absurd h hs1; exact absurd h hs2; exact h
              obtain ⟨g1, g3⟩ := stepF_3 hs3 hc
              refine ⟨inL_nat.2 g1, fun _ => ?_⟩
              rw [lget_lt g1]
              obtain ⟨f1, f2, f3⟩ := fin i (j + 1) ⟨3, B[j]⟩ hi g1 (by omega) (by omega) (by omega) (by rw [g3]; rfl)
              exact ⟨f1, by omega, f2, f3⟩
          · exact (decide_eq_true (stepF_last (by omega) (by omega))).symm
          · have hi2 : i < A.length := by omega
            have hj2 : j < B.length := by omega
            have e1 : (i : Int) + 1 = ((i + 1 : Nat) : Int) := rfl
            have e2 : (j : Int) + 1 = ((j + 1 : Nat) : Int) := rfl
            have r1 : lget (tabT A B) ((i : Int) + 1) = rowT A B (i + 1) := by rw [e1, tabT_get (by omega)]
            have r2 : lget (tabT A B) (i : Int) = rowT A B i := tabT_get hi
            refine ⟨by omega, by rw [e1]; exact inL_nat.2 (by rw [tabT_len]; omega), fun _ => ?_⟩
            rw [r1]
            refine ⟨inL_nat.2 (by rw [rowT_len]; omega), fun _ => ⟨inL_nat.2 (by rw [tabT_len]; omega), fun _ => ⟨by omega, ?_⟩⟩⟩
            rw [r2]
            refine ⟨by rw [e2]; exact inL_nat.2 (by rw [rowT_len]; omega), fun _ => ?_⟩
            rw [e2, rowT_get hj, rowT_get (by omega)]
            refine decide_eq_decide.2 ?_
            have hne : ¬ A[i] = B[j] := fun h => hs1 (stepF_keep hi2 hj2 h)
            constructor
            · intro h; exact stepF_del hi2 hj2 hne (by omega)
            · intro h
              by_cases g : T A B (i + 1) j ≥ T A B i (j + 1)
              · omega
              · rw [stepF_add hi2 hj2 hne g] at h; cases h
          · exact (decide_eq_false (by rw [stepF_rest (by omega)]; decide)).symm
      · rw [lget_lt (show i < A.length by omega), lget_lt (show j < B.length by omega)]
        refine decide_eq_decide.2 ⟨fun h => stepF_keep (by omega) (by omega) h, fun h => ?_⟩
        by_cases hne : A[i] = B[j]
        · exact hne
        · by_cases g : T A B (i + 1) j ≥ T A B i (j + 1)
          · rw [stepF_del (by omega) (by omega) hne g] at h; cases h
          · rw [stepF_add (by omega) (by omega) hne g] at h; cases h
      · exact (decide_eq_false (by rw [stepF_last (by omega) (by omega)]; decide)).symm
      · exact (decide_eq_false (by rw [stepF_rest (by omega)]; decide)).symm
    · have hc := of_decide_eq_false hc
      have hz : E A B i j = [] := E_end (by omega) (by omega)
      rw [hz] at hE
      rw [List.map_nil, List.append_nil] at hE
      rw [hE]
      exact h3 hA hB
  · exact (decide_eq_true (.inl (by omega))).symm
  · exact decide_eq_decide.2 ⟨fun h4 => .inr (by omega), fun h4 => by omega⟩
theorem ed_ops (a b : List ByteArray) : ∀ e ∈ ed a b, e.op = 1 ∨ e.op = 2 ∨ e.op = 3 := by
  refine two_ind (P := fun a b => ∀ e ∈ ed a b, e.op = 1 ∨ e.op = 2 ∨ e.op = 3) ?_ ?_ ?_ ?_ a b
  · intro e he; rw [ed] at he; cases he
  · intro y b ih e he; rw [ed] at he
    rcases List.mem_cons.1 he with rfl | he
    · exact .inr (.inr rfl)
    · exact ih e he
  · intro x a ih e he; rw [ed] at he
    rcases List.mem_cons.1 he with rfl | he
    · exact .inr (.inl rfl)
    · exact ih e he
  · intro x y a b h1 h2 h3 e he; rw [ed] at he
    split at he
    · rcases List.mem_cons.1 he with rfl | he
      · exact .inl rfl
      · exact h1 e he
    · split at he
      · rcases List.mem_cons.1 he with rfl | he
        · exact .inr (.inl rfl)
        · exact h2 e he
      · rcases List.mem_cons.1 he with rfl | he
        · exact .inr (.inr rfl)
        · exact h3 e he
end Go.Proofs.YtnnbnljofklieaaDoor
