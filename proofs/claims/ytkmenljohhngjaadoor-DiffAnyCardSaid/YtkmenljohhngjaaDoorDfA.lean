/- What the functions of the difference of two rows of lines compute: plain proofs over their predicates. -/
import Derived.Test.YtkmenljohhngjaaDoorDf7
import Derived.Test.YtkmenljohhngjaaDoorDiff
import Derived.Test.YtkmenljohhngjaaDoorPure
namespace Go.Proofs.YtkmenljohhngjaaDoor
open Go

theorem at_p {A B : List ByteArray} {p i j : Nat} (hi : i ≤ A.length) (hj : j ≤ B.length) (hp : p ≤ i * (B.length + 1) + j) (hA : A.length ≤ 256) (hB : B.length ≤ 256) {Q : Int → Prop} (h : Q ((T A B i j : Nat) : Int)) : diff_table_at_p ⟨A, B, tb A B p⟩ i j Q := by
  unfold diff_table_at_p
  simp only [inR_i64, inL]
  intro _ _ _ _ _
  have e : (i : Int) * ((B.length : Int) + 1) = ((i * (B.length + 1) : Nat) : Int) := by simp
  have h1 := at_le (nb := B.length) (i := i) (by omega) (by omega)
  have h2 : i * (B.length + 1) + j < (tb A B p).length := by rw [tb_len]; exact at_lt hi hj
  have e2 : (i : Int) * ((B.length : Int) + 1) + (j : Int) = ((i * (B.length + 1) + j : Nat) : Int) := by rw [e]; simp
  rw [e2, e, lget_lt h2, tb_get A B hj hp h2]
  exact ⟨by omega, by omega, by omega, by omega, fun _ => h⟩

theorem made_p {A B : List ByteArray} {Q : Option S_diff_table → PErr → Prop} (h1 : 256 < A.length → Q none (.fault (ByteArray.mk #[108, 105, 110, 101, 115]) 0 4)) (h2 : A.length ≤ 256 → 256 < B.length → Q none (.fault (ByteArray.mk #[108, 105, 110, 101, 115]) 1 4))
    (h3 : A.length ≤ 256 → B.length ≤ 256 → Q (some ⟨A, B, tb A B 0⟩) .nil) : diff_made_p A B Q := by
  unfold diff_made_p
  simp only [inR_i64]
  intro _ _
  refine ⟨fun h => h1 (by omega), fun ha => ⟨fun h => h2 (by omega) (by omega), fun hb => ?_⟩⟩
  have hA : A.length ≤ 256 := by omega
  have hB : B.length ≤ 256 := by omega
  have h1 := at_le (nb := B.length) (i := A.length + 1) (by omega) (by omega)
  have e : ((A.length : Int) + 1) * ((B.length : Int) + 1) = (((A.length + 1) * (B.length + 1) : Nat) : Int) := by simp
  rw [e]
  refine ⟨by omega, by omega, by omega, by omega, by omega, ?_⟩
  refine ⟨fun i L => ∃ k : Nat, i = (k : Int) - 1 ∧ k ≤ A.length ∧ L = tb A B (k * (B.length + 1)), fun i _ => (i + 1).toNat, ⟨A.length, rfl, Nat.le_refl _, ?_⟩, ?_⟩
  · rw [Int.toNat_natCast]; exact tb_init A B
  rintro _ _ ⟨k, rfl, hk, rfl⟩ _ _
  refine ⟨fun hk0 => ⟨by omega, ?_⟩, fun hk0 => ?_⟩
  · obtain ⟨i, rfl⟩ : ∃ i, k = i + 1 := ⟨k - 1, by omega⟩
    have ei : ((i + 1 : Nat) : Int) - 1 = (i : Int) := by omega
    rw [ei]
    refine ⟨fun j L => ∃ q : Nat, j = (q : Int) - 1 ∧ q ≤ B.length ∧ L = tb A B (i * (B.length + 1) + q), fun j _ => (j + 1).toNat, ⟨B.length, rfl, Nat.le_refl _, tb_skip A B i⟩, ?_⟩
    rintro _ _ ⟨q, rfl, hq, rfl⟩ _ _
    refine ⟨fun hq0 => ?_, fun hq0 => ?_⟩
    · obtain ⟨j, rfl⟩ : ∃ j, q = j + 1 := ⟨q - 1, by omega⟩
      have ej : ((j + 1 : Nat) : Int) - 1 = (j : Int) := by omega
      have hi : i < A.length := hk
      have hj : j < B.length := hq
      have hp : i * (B.length + 1) + (j + 1) ≤ (i + 1) * (B.length + 1) := by rw [Nat.add_mul]; omega
      have hb3 := at_le (nb := B.length) (i := i) (by omega) (by omega)
      have ee : (i : Int) * ((B.length : Int) + 1) = ((i * (B.length + 1) : Nat) : Int) := by simp
      have ee2 : (i : Int) * ((B.length : Int) + 1) + (j : Int) = ((i * (B.length + 1) + j : Nat) : Int) := by rw [ee]; simp
      have hlen : (tb A B (i * (B.length + 1) + (j + 1))).length = (A.length + 1) * (B.length + 1) := tb_len _ _ _
      have hin := at_lt (na := A.length) (nb := B.length) (i := i) (j := j) (by omega) (by omega)
      rw [ej]
      refine ⟨by omega, at_p (i := i + 1) (j := j) (by omega) (by omega) (by omega) hA hB fun _ => ⟨by omega, at_p (i := i) (j := j + 1) (by omega) (by omega) (by omega) hA hB fun _ => ?_⟩⟩
      refine ⟨inL_nat.2 hi, fun _ => ⟨inL_nat.2 hj, fun _ => ?_⟩⟩
      refine ⟨fun r => r = ((T A B i j : Nat) : Int), ?_, ?_, ?_⟩
      · rintro _ rfl _
        rw [ee2, ee]
        refine ⟨by omega, by omega, by omega, by rw [inL_nat, hlen]; exact hin, fun _ => ⟨by omega, ⟨j, rfl, by omega, ?_⟩, by dsimp only; omega⟩⟩
        rw [lset_nat]
        exact tb_set A B (i := i) (j := j) (by omega) rfl
      · intro he
        rw [lget_lt hi, lget_lt hj] at he
        refine ⟨by omega, by omega, at_p (i := i + 1) (j := j + 1) (by omega) (by omega) (by rw [Nat.add_mul]; omega) hA hB fun _ => ?_⟩
        have := T_le A B (i + 1) (j + 1)
        rw [T_eq A B hi hj he]
        exact ⟨by omega, by simp⟩
      · intro he
        rw [lget_lt hi, lget_lt hj] at he
        rw [T_ne A B hi hj he]
        omega
    · obtain rfl : q = 0 := by omega
      exact ⟨by omega, ⟨i, rfl, by omega, rfl⟩, by dsimp only; omega⟩
  · obtain rfl : k = 0 := by omega
    have := h3 hA hB
    rwa [Nat.zero_mul]

theorem step_p {A B : List ByteArray} {i j : Nat} (hi : i ≤ A.length) (hj : j ≤ B.length) (hA : A.length ≤ 256) (hB : B.length ≤ 256) {Q : Int → Prop} (h : Q (stepF A B i j)) : diff_table_step_p ⟨A, B, tb A B 0⟩ i j Q := by
  unfold diff_table_step_p
  simp only [inR_i64]
  intro _ _ _ _ _
  refine ⟨fun c => c = decide (∃ (hi : i < A.length) (hj : j < B.length), A[i] = B[j]), ?_, ?_⟩
  · rintro _ rfl
    refine ⟨fun hc => ?_, fun hc => ?_⟩
    · obtain ⟨h1, h2, h3⟩ := of_decide_eq_true hc
      rwa [stepF_keep h1 h2 h3] at h
    · have hn := of_decide_eq_false hc
      refine ⟨fun c => c = decide (i < A.length ∧ (j = B.length ∨ T A B (i + 1) j ≥ T A B i (j + 1))), ?_, ?_, ?_⟩
      · rintro _ rfl
        refine ⟨fun hd => ?_, fun hd => ?_⟩
        · obtain ⟨h1, h2⟩ := of_decide_eq_true hd
          by_cases h3 : j < B.length
          · rwa [stepF_del h1 h3 (fun e => hn ⟨h1, h3, e⟩) (by omega)] at h
          · rwa [stepF_last h1 h3] at h
        · have hd := of_decide_eq_false hd
          by_cases h1 : i < A.length
          · have h3 : j < B.length := by
              rcases Nat.lt_or_ge j B.length with h3 | h3
              · exact h3
              · exact absurd ⟨h1, Or.inl (by omega)⟩ hd
            rwa [stepF_add h1 h3 (fun e => hn ⟨h1, h3, e⟩) (fun e => hd ⟨h1, Or.inr e⟩)] at h
          · rwa [stepF_rest h1] at h
      · intro h1
        have h1 : i < A.length := by omega
        refine ⟨fun h2 => ?_, fun h2 => ?_⟩
        · have h2 : j = B.length := by omega
          simp [h1, h2]
        · have h2 : j < B.length := by omega
          refine ⟨by omega, at_p (i := i + 1) (by omega) (by omega) (by omega) hA hB fun _ => ⟨by omega, at_p (j := j + 1) (by omega) (by omega) (by omega) hA hB fun _ => ?_⟩⟩
          have : ¬ j = B.length := by omega
          simp [h1, this]
      · intro h1
        have h1 : ¬ i < A.length := by omega
        simp [h1]
  · refine ⟨fun h1 => ?_, fun h1 => ?_⟩
    · have h1 : i < A.length := by omega
      refine ⟨fun h2 => ?_, fun h2 => ?_⟩
      · have h2 : j < B.length := by omega
        refine ⟨inL_nat.2 h1, fun _ => ⟨inL_nat.2 h2, fun _ => ?_⟩⟩
        rw [lget_lt h1, lget_lt h2]
        simp [h1, h2]
      · have h2 : ¬ j < B.length := by omega
        simp [h2]
    · have h1 : ¬ i < A.length := by omega
      simp [h1]

def toE (e : PEd) : S_diff_Edit := ⟨e.op, e.line⟩
theorem clipE_p {L : List S_diff_Edit} {Q : List S_diff_Edit → Prop} (h : Q L) : slices_Clip_diff_Edit_diff_Edit_p L Q := by
  unfold slices_Clip_diff_Edit_diff_Edit_p
  exact fun _ => ⟨by omega, h⟩
theorem clipM_p {L : List S_diff_Match} {Q : List S_diff_Match → Prop} (h : Q L) : slices_Clip_diff_Match_diff_Match_p L Q := by
  unfold slices_Clip_diff_Match_diff_Match_p
  exact fun _ => ⟨by omega, h⟩

theorem Lines_p {A B : List ByteArray} {Q : List S_diff_Edit → PErr → Prop} (h1 : 256 < A.length → Q [] (.fault (ByteArray.mk #[108, 105, 110, 101, 115]) 0 4)) (h2 : A.length ≤ 256 → 256 < B.length → Q [] (.fault (ByteArray.mk #[108, 105, 110, 101, 115]) 1 4))
    (h3 : A.length ≤ 256 → B.length ≤ 256 → Q ((ed A B).map toE) .nil) : diff_Lines_p A B Q := by
  unfold diff_Lines_p
  simp only [inR_i64]
  intro _ _
  refine made_p (fun hA => ⟨fun _ => h1 hA, fun h => by simp [PErr.isNil] at h⟩) (fun hA hB => ⟨fun _ => h2 hA hB, fun h => by simp [PErr.isNil] at h⟩) fun hA hB => ⟨fun h => by simp [PErr.isNil] at h, fun _ => ⟨_, rfl, fun _ _ _ => ?_⟩⟩
  have he := ed_len A B
  refine ⟨fun L i j => ∃ p q : Nat, i = p ∧ j = q ∧ p ≤ A.length ∧ q ≤ B.length ∧ L.length = (L.map fun e => e).length ∧ L ++ (E A B p q).map toE = (ed A B).map toE ∧ L.length ≤ p + q, fun L i j => ((A.length - i) + (B.length - j)).toNat, ⟨0, 0, rfl, rfl, by omega, by omega, by simp, by simp [E_start], by simp⟩, ?_⟩
  rintro L _ _ ⟨i, j, rfl, rfl, hi, hj, -, hE, hl⟩ _ _ _
  refine ⟨fun c => c = decide (i < A.length ∨ j < B.length), ?_, ?_⟩
  · rintro _ rfl
    refine ⟨fun hc => step_p hi hj hA hB fun _ => ?_, fun hc => ?_⟩
    · have hc := of_decide_eq_true hc
      have fin : ∀ (p q : Nat) (x : S_diff_Edit), p ≤ A.length → q ≤ B.length → i + j < p + q → i ≤ p → j ≤ q → (E A B i j).map toE = x :: (E A B p q).map toE →
          (L.length + [x].length) * 24 ≤ 140737488355328 ∧ (∃ p' q' : Nat, (p : Int) = p' ∧ (q : Int) = q' ∧ p' ≤ A.length ∧ q' ≤ B.length ∧ (L ++ [x]).length = ((L ++ [x]).map fun e => e).length ∧ (L ++ [x]) ++ (E A B p' q').map toE = (ed A B).map toE ∧ (L ++ [x]).length ≤ p' + q') ∧
          (((A.length : Int) - p) + (B.length - q)).toNat < ((A.length - (i : Int)) + (B.length - (j : Int))).toNat := by
        intro p q x hp hq hlt hip hjq he
        refine ⟨by simp; omega, ⟨p, q, rfl, rfl, hp, hq, by simp, by rw [← hE, he]; simp, by simp; omega⟩, by omega⟩
      refine ⟨fun i' j' x => ∃ p q : Nat, i' = p ∧ j' = q ∧ p ≤ A.length ∧ q ≤ B.length ∧ i + j < p + q ∧ i ≤ p ∧ j ≤ q ∧ (E A B i j).map toE = ⟨stepF A B i j, x⟩ :: (E A B p q).map toE, ?_, ?_⟩
      · rintro _ _ x ⟨p, q, rfl, rfl, h1, h2, h3, h4, h5, h6⟩ _ _ _
        exact fin p q _ h1 h2 h3 h4 h5 h6
      · refine ⟨fun j' => ∃ hi : i < A.length, ∃ q : Nat, j' = q ∧ q ≤ B.length ∧ j ≤ q ∧ (E A B i j).map toE = ⟨stepF A B i j, A[i]⟩ :: (E A B (i + 1) q).map toE, ?_, ?_, ?_⟩
        · rintro _ ⟨hi', q, rfl, hq, hjq, he⟩ _
          refine ⟨inL_nat.2 hi', fun _ => ⟨by omega, i + 1, q, rfl, rfl, hi', hq, by omega, by omega, hjq, ?_⟩⟩
          rw [lget_lt hi']; exact he
        · intro hs
          obtain ⟨h1, h2, h3⟩ := stepF_1 hs
          exact ⟨by omega, h1, j + 1, rfl, h2, by omega, by rw [h3, hs]; rfl⟩
        · intro hs1
          refine ⟨fun hs => ?_, fun hs2 => ⟨fun hs => ?_, fun hs3 => ?_⟩⟩
          · obtain ⟨h1, h3⟩ := stepF_2 hs
            exact ⟨h1, j, rfl, hj, by omega, by rw [h3, hs]; rfl⟩
          · obtain ⟨h1, h3⟩ := stepF_3 hs hc
            refine ⟨inL_nat.2 h1, fun _ => ⟨by omega, i, j + 1, rfl, rfl, hi, h1, by omega, by omega, by omega, ?_⟩⟩
            rw [lget_lt h1, h3, hs]; rfl
          · rcases stepF_or A B i j with h | h | h <;> contradiction
    · have hc := of_decide_eq_false hc
      refine clipE_p fun _ => ?_
      have hz : E A B i j = [] := E_end (by omega) (by omega)
      rw [hz] at hE
      rw [List.map_nil, List.append_nil] at hE
      rw [hE]
      exact h3 hA hB
  · refine ⟨fun h => ?_, fun h => ?_⟩
    · have : i < A.length := by omega
      simp [this]
    · have : ¬ i < A.length := by omega
      simp [this]

theorem Common_p {A B : List ByteArray} {Q : Int → PErr → Prop} (h1 : 256 < A.length → Q 0 (.fault (ByteArray.mk #[108, 105, 110, 101, 115]) 0 4)) (h2 : A.length ≤ 256 → 256 < B.length → Q 0 (.fault (ByteArray.mk #[108, 105, 110, 101, 115]) 1 4))
    (h3 : A.length ≤ 256 → B.length ≤ 256 → Q ((lcs A B : Nat) : Int) .nil) : diff_Common_p A B Q := by
  unfold diff_Common_p
  intro _ _
  refine made_p (fun hA => ⟨fun _ => h1 hA, fun h => by simp [PErr.isNil] at h⟩) (fun hA hB => ⟨fun _ => h2 hA hB, fun h => by simp [PErr.isNil] at h⟩) fun hA hB => ⟨fun h => by simp [PErr.isNil] at h, fun _ => ⟨_, rfl, fun _ _ _ => ?_⟩⟩
  exact at_p (i := 0) (j := 0) (by omega) (by omega) (by omega) hA hB fun _ => h3 hA hB

theorem Few_p {A B : List ByteArray} {Q : Bool → Prop} (h1 : A.length ≤ 300 → B.length ≤ 300 → Q true) (h0 : Q false) : rectolaw11_Few_p A B Q := by
  unfold rectolaw11_Few_p
  simp only [inR_i64]
  intro _ _
  refine ⟨⟨fun _ => trivial, fun ha => ⟨fun _ => trivial, fun hb => ⟨fun _ => ⟨fun _ => ⟨?_, trivial⟩, fun _ => trivial⟩, fun _ => trivial⟩⟩⟩, fun _ => h0, fun hn => ?_⟩
  · have := Nat.mul_le_mul (show A.length ≤ 300 by omega) (show B.length ≤ 300 by omega)
    rw [← Int.natCast_mul]; omega
  have hA : A.length ≤ 300 := by omega
  have hB : B.length ≤ 300 := by omega
  refine ⟨fun i => 0 ≤ i ∧ i ≤ A.length, fun i => (A.length - i).toNat, ⟨by omega, by omega⟩, fun i ⟨h2, h3⟩ _ => ⟨fun hi => ⟨⟨by omega, by omega⟩, fun _ => ⟨fun _ => h0, fun _ => ⟨by omega, ⟨by omega, by omega⟩, by dsimp only; omega⟩⟩⟩, fun _ => ?_⟩⟩
  exact ⟨fun i => 0 ≤ i ∧ i ≤ B.length, fun i => (B.length - i).toNat, ⟨by omega, by omega⟩, fun i ⟨h2, h3⟩ _ => ⟨fun hi => ⟨⟨by omega, by omega⟩, fun _ => ⟨fun _ => h0, fun _ => ⟨by omega, ⟨by omega, by omega⟩, by dsimp only; omega⟩⟩⟩, fun _ => h1 hA hB⟩⟩

theorem Cost_p {l : List PEd} {Q : Int → Prop} (hl : l.length ≤ 100000) (h : Q ((cost l : Nat) : Int)) : diff_Cost_p (l.map toE) Q := by
  unfold diff_Cost_p
  simp only [inR_i64]
  intro _
  refine ⟨fun n i => ∃ k : Nat, i = k ∧ k ≤ l.length ∧ n = ((cost (l.take k) : Nat) : Int) ∧ cost (l.take k) ≤ k, fun _ i => ((l.map toE).length - i).toNat, ⟨0, rfl, by omega, by simp [cost], by simp [cost]⟩, ?_⟩
  rintro _ _ ⟨k, rfl, hk, rfl, hc⟩ _ _
  have hlen : (l.map toE).length = l.length := by simp
  refine ⟨fun hi => ?_, fun hi => ?_⟩
  · have hk' : k < l.length := by omega
    have ht : cost (l.take (k + 1)) = cost (l.take k) + if l[k].op = 1 then 0 else 1 := by
      rw [List.take_succ_eq_append_getElem hk']; unfold cost; rw [List.filter_append, List.length_append]
      by_cases h1 : l[k].op = 1 <;> simp [h1]
    rw [lget_map toE hk']
    refine ⟨fun n => n = ((cost (l.take (k + 1)) : Nat) : Int), ?_, inL_nat.2 (by simpa using hk'), fun _ _ => ⟨fun h1 => ?_, fun h1 => ?_⟩⟩
    · rintro _ rfl _
      refine ⟨by omega, ⟨k + 1, rfl, by omega, rfl, ?_⟩, by dsimp only; omega⟩
      rw [ht]; split <;> omega
    · have h1 : ¬ l[k].op = 1 := h1
      rw [if_neg h1] at ht
      exact ⟨by omega, by omega⟩
    · have h1 : l[k].op = 1 := h1
      rw [if_pos h1] at ht
      omega
  · rwa [List.take_of_length_le (by omega)]

/-- One edit on the rows of lines that are kept. -/
structure MSt where
  out : List S_diff_Match
  i : Int
  j : Int
  row : Bool
def bump (o : List S_diff_Match) : List S_diff_Match := lset o ((o.length : Int) - 1) ⟨(lget o ((o.length : Int) - 1)).A, (lget o ((o.length : Int) - 1)).B, (lget o ((o.length : Int) - 1)).N + 1⟩
def mStep (s : MSt) (op : Int) : MSt :=
  ⟨if op = 1 then bump (if s.row then s.out else s.out ++ [⟨s.i, s.j, 0⟩]) else s.out, if op = 3 then s.i else s.i + 1, if op = 2 then s.j else s.j + 1, decide (op = 1)⟩
def mF (l : List PEd) : MSt := l.foldl (fun s e => mStep s e.op) ⟨[], 0, 0, false⟩
structure MOk (k : Nat) (s : MSt) : Prop where
  i : 0 ≤ s.i ∧ s.i ≤ k
  j : 0 ≤ s.j ∧ s.j ≤ k
  len : s.out.length ≤ k
  row : s.row = true → s.out ≠ []
  n : ∀ m ∈ s.out, 0 ≤ m.N ∧ m.N ≤ k
theorem bump_ok {k : Nat} {o : List S_diff_Match} (ho : o ≠ []) (hn : ∀ m ∈ o, 0 ≤ m.N ∧ m.N ≤ k) : (bump o).length = o.length ∧ ∀ m ∈ bump o, 0 ≤ m.N ∧ m.N ≤ (k + 1 : Nat) := by
  refine ⟨len_lset _ _ _, fun m hm => ?_⟩
  rcases List.mem_or_eq_of_mem_set hm with h | h
  · have := hn m h; omega
  · have := hn _ (lget_mem (last_in ho)); subst h; dsimp only; omega
theorem mStep_ok {k : Nat} {s : MSt} (h : MOk k s) (op : Int) : MOk (k + 1) (mStep s op) := by
  obtain ⟨h1, h2, h3, h4, h5⟩ := h
  have hw : ∀ m ∈ s.out, 0 ≤ m.N ∧ m.N ≤ (k + 1 : Nat) := fun m hm => by have := h5 m hm; omega
  have hc : (if s.row then s.out else s.out ++ [⟨s.i, s.j, 0⟩]) ≠ [] ∧ (∀ m ∈ (if s.row then s.out else s.out ++ [⟨s.i, s.j, 0⟩]), 0 ≤ m.N ∧ m.N ≤ k) ∧ (if s.row then s.out else s.out ++ [⟨s.i, s.j, 0⟩]).length ≤ k + 1 := by
    cases hr : s.row with
    | true => exact ⟨h4 hr, h5, Nat.le_succ_of_le h3⟩
    | false =>
      refine ⟨by simp, fun m hm => ?_, by simp; omega⟩
      simp at hm
      rcases hm with h | h
      · exact h5 m h
      · subst h; dsimp only; omega
  refine ⟨?_, ?_, ?_, ?_, ?_⟩
  · unfold mStep; dsimp only; split <;> omega
  · unfold mStep; dsimp only; split <;> omega
  · unfold mStep; dsimp only; split
    · rw [(bump_ok hc.1 hc.2.1).1]; exact hc.2.2
    · omega
  · intro hr
    unfold mStep at hr ⊢; dsimp only at hr ⊢
    rw [if_pos (of_decide_eq_true hr)]
    intro hz
    have := (bump_ok hc.1 hc.2.1).1
    rw [hz] at this
    exact hc.1 (List.eq_nil_of_length_eq_zero this.symm)
  · unfold mStep; dsimp only; split
    · exact (bump_ok hc.1 hc.2.1).2
    · exact hw
theorem mF_snoc (l : List PEd) (e : PEd) : mF (l ++ [e]) = mStep (mF l) e.op := by unfold mF; rw [List.foldl_append]; rfl
theorem mF_ok (l : List PEd) : ∀ k, k ≤ l.length → MOk k (mF (l.take k))
  | 0, _ => by rw [List.take_zero]; exact ⟨by simp [mF], by simp [mF], by simp [mF], by simp [mF], by simp [mF]⟩
  | k + 1, h => by rw [List.take_succ_eq_append_getElem h, mF_snoc]; exact mStep_ok (mF_ok l k (by omega)) _

theorem Matches_p {A B : List ByteArray} {Q : List S_diff_Match → PErr → Prop} (h1 : 256 < A.length → Q [] (.fault (ByteArray.mk #[108, 105, 110, 101, 115]) 0 4)) (h2 : A.length ≤ 256 → 256 < B.length → Q [] (.fault (ByteArray.mk #[108, 105, 110, 101, 115]) 1 4))
    (h3 : A.length ≤ 256 → B.length ≤ 256 → Q (mF (ed A B)).out .nil) : diff_Matches_p A B Q := by
  unfold diff_Matches_p
  simp only [inR_i64]
  intro _ _
  refine Lines_p (fun hA _ => ⟨fun _ => h1 hA, fun h => by simp [PErr.isNil] at h⟩) (fun hA hB _ => ⟨fun _ => h2 hA hB, fun h => by simp [PErr.isNil] at h⟩) fun hA hB _ => ⟨fun h => by simp [PErr.isNil] at h, fun _ => ?_⟩
  have hl := ed_len A B
  generalize ed A B = l at hl h3
  have hlen : (l.map toE).length = l.length := by simp
  refine ⟨fun o i j r x => ∃ k : Nat, x = k ∧ k ≤ l.length ∧ mF (l.take k) = ⟨o, i, j, r⟩, fun _ _ _ _ x => ((l.map toE).length - x).toNat, ⟨0, rfl, by omega, rfl⟩, ?_⟩
  rintro o i j r _ ⟨k, rfl, hk, hm⟩ _ _ _ _
  have hok := mF_ok l k hk
  rw [hm] at hok
  obtain ⟨g1, g2, g3, g4, g5⟩ := hok
  dsimp only at g1 g2 g3 g4 g5
  refine ⟨fun hi => ?_, fun hi => clipM_p fun _ => ?_⟩
  · have hk' : k < l.length := by omega
    have hnext : mF (l.take (k + 1)) = mStep ⟨o, i, j, r⟩ l[k].op := by rw [List.take_succ_eq_append_getElem hk', mF_snoc, hm]
    rw [lget_map toE hk']
    have hop : (toE l[k]).Op = l[k].op := rfl
    rw [hop]
    generalize l[k].op = op at hnext
    refine ⟨fun o' i' j' => mStep ⟨o, i, j, r⟩ op = ⟨o', i', j', decide (op = 1)⟩, ?_, inL_nat.2 (by simpa using hk'), fun _ _ => ?_⟩
    · rintro o' i' j' he _ _ _
      exact ⟨by omega, ⟨k + 1, rfl, by omega, by rw [hnext, he]⟩, by dsimp only; omega⟩
    refine ⟨fun o' => o' = (mStep ⟨o, i, j, r⟩ op).out, ?_, fun h1 => ?_, fun h1 => ?_⟩
    · rintro _ rfl _
      refine ⟨fun i' => i' = (mStep ⟨o, i, j, r⟩ op).i, ?_, fun h3 => ⟨by omega, ?_⟩, fun h3 => ?_⟩
      · rintro _ rfl _
        refine ⟨fun h2 => ⟨by omega, ?_⟩, fun h2 => ?_⟩
        · simp [mStep, h2]
        · simp [mStep, h2]
      · simp [mStep, h3]
      · simp [mStep, h3]
    · refine ⟨fun o' => o' = (if r then o else o ++ [⟨i, j, 0⟩]) ∧ o' ≠ [] ∧ ∀ m ∈ o', 0 ≤ m.N ∧ m.N ≤ k, ?_, fun hr => ⟨by simp; omega, ?_⟩, fun hr => ?_⟩
      · rintro o' ⟨he, hne, hn⟩ _
        have hin := last_in hne
        have hb := hn _ (lget_mem hin)
        refine ⟨by omega, hin, fun _ _ _ => ⟨by omega, hin, fun _ _ _ => ?_⟩⟩
        rintro _ rfl
        simp only [mStep, if_pos h1, ← he]
        rfl
      · have hr' : r = false := by simpa using hr
        subst hr'
        refine ⟨by simp, by simp, fun m hm => ?_⟩
        simp at hm
        rcases hm with h | h
        · exact g5 m h
        · subst h; dsimp only; omega
      · have hr' : r = true := by simpa using hr
        subst hr'
        exact ⟨by simp, g4 rfl, g5⟩
    · simp [mStep, h1]
  · have := h3 hA hB
    rw [List.take_of_length_le (by omega)] at hm
    rwa [hm] at this
theorem ed_known : ed [ByteArray.mk #[97], ByteArray.mk #[98]] [ByteArray.mk #[97], ByteArray.mk #[99]] = [⟨1, ByteArray.mk #[97]⟩, ⟨2, ByteArray.mk #[98]⟩, ⟨3, ByteArray.mk #[99]⟩] := by
  simp [ed, lcs]
theorem lcs_known : lcs [ByteArray.mk #[97], ByteArray.mk #[98]] [ByteArray.mk #[97], ByteArray.mk #[99]] = 1 := by
  simp [lcs]
theorem known11_p {Q : Bool → Prop} (h : Q true) : rectolaw11_known_p Q := by
  unfold rectolaw11_known_p
  refine Lines_p (by simp) (by simp) fun _ _ _ => ?_
  refine Matches_p (by simp) (by simp) fun _ _ _ => ?_
  refine Common_p (by simp) (by simp) fun _ _ _ => ?_
  rw [ed_known, lcs_known]
  refine ⟨fun c => c = true, by rintro _ rfl; exact h, ?_⟩
  refine ⟨fun _ => ⟨fun _ => ⟨fun _ => ⟨fun _ => ⟨by decide, fun _ _ => ⟨fun _ => ⟨by decide, fun _ _ => ⟨fun _ => ⟨by decide, fun _ _ => ⟨fun _ => ⟨by decide, fun _ _ => ⟨fun _ => ⟨fun _ => ⟨by decide, fun _ _ _ => ⟨fun _ => ⟨fun _ => ?_, fun h => absurd rfl h⟩, fun h => absurd rfl h⟩⟩, fun h => absurd rfl h⟩, fun h => absurd rfl h⟩⟩, fun h => absurd rfl h⟩⟩, fun h => absurd rfl h⟩⟩, fun h => absurd rfl h⟩⟩, fun h => absurd rfl h⟩, fun h => absurd rfl h⟩, fun h => absurd rfl h⟩, fun h => absurd rfl h⟩
  exact Cost_p (l := [⟨1, ByteArray.mk #[97]⟩, ⟨2, ByteArray.mk #[98]⟩, ⟨3, ByteArray.mk #[99]⟩]) (by decide) fun _ => rfl

end Go.Proofs.YtkmenljohhngjaaDoor
