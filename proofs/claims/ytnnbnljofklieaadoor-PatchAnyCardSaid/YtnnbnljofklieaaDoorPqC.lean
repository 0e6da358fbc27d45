/- The document's table of common rows, and its edits. -/
import Derived.Test.YtnnbnljofklieaaDoorPq8
import Derived.Test.YtnnbnljofklieaaDoorDiff
namespace Go.Proofs.YtnnbnljofklieaaDoor
open Go
theorem lcs_mono (a : List ByteArray) : ∀ b, (∀ y, lcs a (y :: b) ≤ lcs a b + 1) ∧ (∀ x, lcs a b ≤ lcs (x :: a) b) := by
  induction a with
  | nil => intro b; exact ⟨fun y => by rw [lcs_nil]; omega, fun x => by rw [lcs_nil]; omega⟩
  | cons w a ih =>
    have h1 : ∀ b y, lcs (w :: a) (y :: b) ≤ lcs (w :: a) b + 1 := fun b y => by
      have h2 := (ih b).2 w
      have h3 := (ih b).1 y
      rw [lcs_cons]; split
      · omega
      · omega
    intro b
    refine ⟨h1 b, fun x => ?_⟩
    cases b with
    | nil => rw [lcs_nil']; omega
    | cons z b =>
      have h2 := h1 b z
      rw [lcs_cons x z]; split
      · exact h2
      · omega
theorem T_mono (a b : List ByteArray) (i j : Nat) : T a b (i + 1) j ≤ T a b (i + 1) (j + 1) + 1 ∧ T a b i (j + 1) ≤ T a b (i + 1) (j + 1) + 1 := by
  unfold T
  constructor
  · by_cases h : j < b.length
    · rw [List.drop_eq_getElem_cons h]; exact (lcs_mono _ _).1 _
    · rw [show b.drop j = [] from List.drop_of_length_le (by omega), lcs_nil']; omega
  · by_cases h : i < a.length
    · rw [List.drop_eq_getElem_cons h, lcs_comm, lcs_comm (a.drop (i + 1))]; exact (lcs_mono _ _).1 _
    · rw [show a.drop i = [] from List.drop_of_length_le (by omega), lcs_nil]; omega
def rowT (a b : List ByteArray) (i : Nat) : List Int := (List.range (b.length + 1)).map fun j => ((T a b i j : Nat) : Int)
def tabT (a b : List ByteArray) : List (List Int) := (List.range (a.length + 1)).map fun i => rowT a b i
theorem rowT_len (a b : List ByteArray) (i : Nat) : (rowT a b i).length = b.length + 1 := by simp [rowT]
theorem tabT_len (a b : List ByteArray) : (tabT a b).length = a.length + 1 := by simp [tabT]
theorem rowT_get {a b : List ByteArray} {i j : Nat} (hj : j ≤ b.length) : lget (rowT a b i) (j : Int) = ((T a b i j : Nat) : Int) := by
  rw [lget_lt (by rw [rowT_len]; omega)]; simp [rowT]
theorem tabT_get {a b : List ByteArray} {i : Nat} (hi : i ≤ a.length) : lget (tabT a b) (i : Int) = rowT a b i := by
  rw [lget_lt (by rw [tabT_len]; omega)]; simp [tabT]
theorem lget_set {α : Type} [Inhabited α] {L : List α} {i j : Nat} {v : α} (hi : i < L.length) : lget (lset L (i : Int) v) (j : Int) = if i = j then v else lget L (j : Int) := by
  rw [lset_nat, lget_nat, lget_nat, List.getD, List.getElem?_set]
  by_cases h : i = j
  · subst h; rw [if_pos rfl, if_pos hi, if_pos rfl]; rfl
  · rw [if_neg h, if_neg h]; rfl
theorem ext_lget {α : Type} [Inhabited α] {L M : List α} (hl : L.length = M.length) (h : ∀ k : Nat, k < L.length → lget L (k : Int) = lget M (k : Int)) : L = M := by
  apply List.ext_getElem hl
  intro k h1 h2
  have := h k h1
  rwa [lget_lt h1, lget_lt h2] at this
/-- rows from k on are done -/
def Done (a b : List ByteArray) (k : Nat) (o : List (List Int)) : Prop := o.length = a.length + 1 ∧ ∀ r : Nat, k ≤ r → r < a.length + 1 → lget o (r : Int) = rowT a b r
/-- in row i the places from c on are done -/
def DoneR (a b : List ByteArray) (i c : Nat) (o : List (List Int)) : Prop :=
  Done a b (i + 1) o ∧ (lget o (i : Int)).length = b.length + 1 ∧ (∀ q : Nat, c ≤ q → q ≤ b.length → lget (lget o (i : Int)) (q : Int) = ((T a b i q : Nat) : Int)) ∧ ∀ q : Nat, q < c → lget (lget o (i : Int)) (q : Int) = 0
theorem DoneR.full {a b : List ByteArray} {i : Nat} {o : List (List Int)} (h : DoneR a b i 0 o) : Done a b i o := by
  obtain ⟨⟨h1, h2⟩, h3, h4, _⟩ := h
  refine ⟨h1, fun r hr hr2 => ?_⟩
  by_cases e : r = i
  · subst e
    refine ext_lget (by rw [h3, rowT_len]) fun q hq => ?_
    rw [h4 q (Nat.zero_le _) (by omega), rowT_get (by omega)]
  · exact h2 r (by omega) hr2
theorem inR_T (a b : List ByteArray) (i j : Nat) (h : a.length ≤ 100000) : -9223372036854775808 ≤ ((T a b i j : Nat) : Int) ∧ ((T a b i j : Nat) : Int) + 1 ≤ 9223372036854775807 := by
  have := (T_le a b i j).1; omega
theorem common_p {a b : List ByteArray} {Q : List (List Int) → Prop} (ha : a.length ≤ 100000) (hb : b.length ≤ 100000) (h : Q (tabT a b)) : rectoref11_common_p a b Q := by
  unfold rectoref11_common_p; simp only [inR_i64]; intro _ _
  refine ⟨by omega, ⟨by omega, by omega⟩, fun i o => ∃ k : Nat, i = (k : Int) - 1 ∧ k ≤ a.length + 1 ∧ Done a b k o, fun i _ => (i + 1).toNat, ⟨a.length + 1, by omega, Nat.le_refl _, by simp, fun r h1 h2 => by omega⟩, ?_⟩
  rintro _ o ⟨k, rfl, hk, hd⟩ _
  refine ⟨fun hge => ?_, fun hlt => ?_⟩
  · obtain ⟨i, rfl⟩ : ∃ i, k = i + 1 := ⟨k - 1, by omega⟩
    have ei : ((i + 1 : Nat) : Int) - 1 = (i : Int) := by omega
    rw [ei]
    have hol := hd.1
    refine ⟨by omega, ⟨by omega, by omega⟩, ⟨⟨by omega, by omega⟩, inL_nat.2 (by omega)⟩, ?_⟩
    rintro _ rfl
    have et : ((b.length : Int) + 1).toNat = b.length + 1 := by omega
    rw [et]
    have hz : ∀ q : Nat, q ≤ b.length → lget (List.replicate (b.length + 1) (default : Int)) (q : Int) = 0 := fun q hq => by rw [lget_lt (by simp; omega)]; simp
    refine ⟨by omega, fun j o2 => ∃ c : Nat, j = (c : Int) - 1 ∧ c ≤ b.length ∧ DoneR a b i c o2, fun j _ => (j + 1).toNat, ⟨b.length, rfl, Nat.le_refl _, ⟨by rw [len_lset]; exact hol, fun r h1 h2 => ?_⟩, ?_, fun q h1 h2 => ?_, fun q h1 => ?_⟩, ?_⟩
    · rw [lget_set (by omega), if_neg (by omega)]; exact hd.2 r h1 h2
    · rw [lget_set (by omega), if_pos rfl]; simp
    · rw [lget_set (by omega), if_pos rfl, hz q h2, T_end' _ _ _ h1]; rfl
    · rw [lget_set (by omega), if_pos rfl, hz q (by omega)]
    · rintro _ o2 ⟨c, rfl, hc, hr⟩ _
      have hr0 := hr
      obtain ⟨⟨g1, g2⟩, g3, g4, g5⟩ := hr
      refine ⟨fun s => s = decide (0 ≤ (c : Int) - 1 ∧ (i : Int) < a.length), ?_, fun h1 => decide_eq_decide.2 ⟨fun h2 => ⟨h1, h2⟩, fun h2 => h2.2⟩, fun h1 => (decide_eq_false fun h2 => h1 h2.1).symm⟩
      rintro _ rfl
      refine ⟨fun hs => ?_, fun hs => ?_⟩
      · obtain ⟨hs1, hs2⟩ := of_decide_eq_true hs
        obtain ⟨j, rfl⟩ : ∃ j, c = j + 1 := ⟨c - 1, by omega⟩
        have ej : ((j + 1 : Nat) : Int) - 1 = (j : Int) := by omega
        rw [ej]
        have hi : i < a.length := by omega
        have hil : i < o2.length := by omega
        have e1 : (i : Int) + 1 = ((i + 1 : Nat) : Int) := rfl
        have e2 : (j : Int) + 1 = ((j + 1 : Nat) : Int) := rfl
        have r1 : lget o2 ((i : Int) + 1) = rowT a b (i + 1) := by rw [e1]; exact g2 (i + 1) (Nat.le_refl _) (by omega)
        have v1 : lget (lget o2 ((i : Int) + 1)) (j : Int) = ((T a b (i + 1) j : Nat) : Int) := by rw [r1, rowT_get (by omega)]
        have v2 : lget (lget o2 ((i : Int) + 1)) ((j : Int) + 1) = ((T a b (i + 1) (j + 1) : Nat) : Int) := by rw [r1, e2, rowT_get (by omega)]
        have v3 : lget (lget o2 (i : Int)) ((j : Int) + 1) = ((T a b i (j + 1) : Nat) : Int) := by rw [e2]; exact g4 (j + 1) (Nat.le_refl _) (by omega)
        have hjl : j < (lget o2 (i : Int)).length := by omega
        -- a cell of row i, set
        have put : ∀ (o3 : List (List Int)) (v : Int), o3.length = o2.length → (∀ r : Nat, r ≠ i → lget o3 (r : Int) = lget o2 (r : Int)) → (lget o3 (i : Int)).length = b.length + 1 → (∀ q : Nat, q ≠ j → lget (lget o3 (i : Int)) (q : Int) = lget (lget o2 (i : Int)) (q : Int)) →
            (lset o3 (i : Int) (lset (lget o3 (i : Int)) (j : Int) v)).length = o2.length ∧ (∀ r : Nat, r ≠ i → lget (lset o3 (i : Int) (lset (lget o3 (i : Int)) (j : Int) v)) (r : Int) = lget o2 (r : Int)) ∧ (lget (lset o3 (i : Int) (lset (lget o3 (i : Int)) (j : Int) v)) (i : Int)).length = b.length + 1 ∧ (∀ q : Nat, q ≠ j → lget (lget (lset o3 (i : Int) (lset (lget o3 (i : Int)) (j : Int) v)) (i : Int)) (q : Int) = lget (lget o2 (i : Int)) (q : Int)) ∧ lget (lget (lset o3 (i : Int) (lset (lget o3 (i : Int)) (j : Int) v)) (i : Int)) (j : Int) = v := by
          intro o3 v p1 p2 p3 p4
          have hi3 : i < o3.length := by omega
          have hj3 : j < (lget o3 (i : Int)).length := by omega
          have ei : lget (lset o3 (i : Int) (lset (lget o3 (i : Int)) (j : Int) v)) (i : Int) = lset (lget o3 (i : Int)) (j : Int) v := by rw [lget_set hi3, if_pos rfl]
          refine ⟨by rw [len_lset]; exact p1, fun r hr => by rw [lget_set hi3, if_neg (fun e => hr e.symm)]; exact p2 r hr, by rw [ei, len_lset]; exact p3, fun q hq => by rw [ei, lget_set hj3, if_neg (fun e => hq e.symm)]; exact p4 q hq, by rw [ei, lget_set hj3, if_pos rfl]⟩
        -- what a row of rows like that gives, when its cell is right
        have fin : ∀ o3 : List (List Int), o3.length = o2.length → (∀ r : Nat, r ≠ i → lget o3 (r : Int) = lget o2 (r : Int)) → (lget o3 (i : Int)).length = b.length + 1 → (∀ q : Nat, q ≠ j → lget (lget o3 (i : Int)) (q : Int) = lget (lget o2 (i : Int)) (q : Int)) → lget (lget o3 (i : Int)) (j : Int) = ((T a b i j : Nat) : Int) → DoneR a b i j o3 := by
          intro o3 p1 p2 p3 p4 p5
          refine ⟨⟨by omega, fun r hr hr2 => by rw [p2 r (by omega)]; exact g2 r hr hr2⟩, p3, fun q hq hq2 => ?_, fun q hq => by rw [p4 q (by omega)]; exact g5 q (by omega)⟩
          by_cases e : q = j
          · subst e; exact p5
          · rw [p4 q e]; exact g4 q (by omega) hq2
        have lrow : ∀ o3 : List (List Int), (∀ r : Nat, r ≠ i → lget o3 (r : Int) = lget o2 (r : Int)) → lget o3 ((i : Int) + 1) = rowT a b (i + 1) := fun o3 p => by rw [e1, p (i + 1) (by omega), ← e1, r1]
        refine ⟨fun o3 => DoneR a b i j o3, fun o3 h3 => ⟨by omega, ⟨j, by omega, by omega, h3⟩, by dsimp only; omega⟩, ⟨⟨by omega, by omega⟩, inL_nat.2 hil⟩, by omega, ⟨⟨by omega, by omega⟩, by rw [e1]; exact inL_nat.2 (by omega)⟩, by rw [r1]; exact inL_nat.2 (by rw [rowT_len]; omega), fun _ => ⟨inL_nat.2 hjl, fun _ => ?_⟩⟩
        rintro _ rfl
        obtain ⟨p1, p2, p3, p4, p5⟩ := put o2 (lget (lget o2 ((i : Int) + 1)) (j : Int)) rfl (fun _ _ => rfl) g3 (fun _ _ => rfl)
        replace p5 := p5.trans v1
        generalize hl1 : lset o2 (i : Int) (lset (lget o2 (i : Int)) (j : Int) (lget (lget o2 ((i : Int) + 1)) (j : Int))) = l1 at p1 p2 p3 p4 p5 ⊢
        have w3 : lget (lget l1 (i : Int)) ((j : Int) + 1) = ((T a b i (j + 1) : Nat) : Int) := by rw [e2, p4 (j + 1) (by omega), ← e2, v3]
        have il1 : inL l1 (i : Int) := inL_nat.2 (by omega)
        have ij1 : inL (lget l1 (i : Int)) (j : Int) := inL_nat.2 (by omega)
        have ij2 : inL (lget l1 (i : Int)) ((j : Int) + 1) := by rw [e2]; exact inL_nat.2 (by omega)
        -- the last test
        refine ⟨⟨⟨by omega, by omega⟩, il1⟩, by omega, ij2, fun _ => ⟨⟨⟨by omega, by omega⟩, il1⟩, ij1, fun _ => ⟨fun o3 => o3.length = o2.length ∧ (∀ r : Nat, r ≠ i → lget o3 (r : Int) = lget o2 (r : Int)) ∧ (lget o3 (i : Int)).length = b.length + 1 ∧ (∀ q : Nat, q ≠ j → lget (lget o3 (i : Int)) (q : Int) = lget (lget o2 (i : Int)) (q : Int)) ∧ lget (lget o3 (i : Int)) (j : Int) = ((max (T a b (i + 1) j) (T a b i (j + 1)) : Nat) : Int), ?_, fun hgt => ?_, fun hgt => ?_⟩⟩⟩
        · rintro o3 ⟨s1, s2, s3, s4, s5⟩
          have hm := T_mono a b i j
          have b1 := inR_T a b (i + 1) (j + 1) ha
          have io3 : inL o3 (i : Int) := inL_nat.2 (by omega)
          have io4 : inL o3 ((i : Int) + 1) := by rw [e1]; exact inL_nat.2 (by omega)
          have ij3 : inL (lget o3 (i : Int)) (j : Int) := inL_nat.2 (by omega)
          have lr := lrow o3 s2
          have x2 : lget (lget o3 ((i : Int) + 1)) ((j : Int) + 1) = ((T a b (i + 1) (j + 1) : Nat) : Int) := by rw [lr, e2, rowT_get (by omega)]
          have ij4 : inL (lget o3 ((i : Int) + 1)) ((j : Int) + 1) := by rw [lr, e2]; exact inL_nat.2 (by rw [rowT_len]; omega)
          have hja : j < b.length := by omega
          refine ⟨fun s => s = decide (a[i] = b[j] ∧ ((T a b (i + 1) (j + 1) : Nat) : Int) + 1 > ((max (T a b (i + 1) j) (T a b i (j + 1)) : Nat) : Int)), ?_, inL_nat.2 hi, fun _ => ⟨inL_nat.2 hja, fun _ => ⟨fun heq => ?_, fun hne => ?_⟩⟩⟩
          · rintro _ rfl
            refine ⟨fun ht => ?_, fun hf => ?_⟩
            · obtain ⟨t1, t2⟩ := of_decide_eq_true ht
              refine ⟨⟨⟨by omega, by omega⟩, io3⟩, by omega, ⟨⟨by omega, by omega⟩, io4⟩, by omega, ij4, fun _ => ⟨by rw [x2]; omega, ?_⟩⟩
              rintro _ rfl
              refine ⟨ij3, fun _ => ?_⟩
              rintro _ rfl
              obtain ⟨u1, u2, u3, u4, u5⟩ := put o3 (lget (lget o3 ((i : Int) + 1)) ((j : Int) + 1) + 1) s1 s2 s3 s4
              refine fin _ u1 u2 u3 u4 ?_
              rw [u5, x2, T_eq a b hi hja t1]; rfl
            · have hf := of_decide_eq_false hf
              refine fin _ s1 s2 s3 s4 ?_
              rw [s5]
              by_cases t1 : a[i] = b[j]
              · rw [T_eq a b hi hja t1]
                have : ¬ ((T a b (i + 1) (j + 1) : Nat) : Int) + 1 > ((max (T a b (i + 1) j) (T a b i (j + 1)) : Nat) : Int) := fun t2 => hf ⟨t1, t2⟩
                omega
              · rw [T_ne a b hi hja t1]
          · rw [lget_lt hi, lget_lt hja] at heq
            refine ⟨by omega, ⟨⟨by omega, by omega⟩, io4⟩, by omega, ij4, fun _ => ⟨by rw [x2]; omega, ?_⟩⟩
            rintro _ rfl
            refine ⟨⟨⟨by omega, by omega⟩, io3⟩, ij3, fun _ => ?_⟩
            rw [x2, s5]
            exact decide_eq_decide.2 ⟨fun h => ⟨heq, h⟩, fun h => h.2⟩
          · rw [lget_lt hi, lget_lt hja] at hne
            exact (decide_eq_false fun h => hne h.1).symm
        · refine ⟨⟨⟨by omega, by omega⟩, il1⟩, ⟨⟨by omega, by omega⟩, il1⟩, by omega, ij2, fun _ => ⟨ij1, fun _ => ?_⟩⟩
          rintro _ rfl
          obtain ⟨u1, u2, u3, u4, u5⟩ := put l1 (lget (lget l1 (i : Int)) ((j : Int) + 1)) p1 p2 p3 p4
          refine ⟨u1, u2, u3, u4, ?_⟩
          rw [w3, p5] at hgt
          rw [u5, w3]; omega
        · refine ⟨p1, p2, p3, p4, ?_⟩
          rw [w3, p5] at hgt
          rw [p5]; omega
      · have hs := of_decide_eq_false hs
        refine ⟨by omega, ⟨i, rfl, by omega, ?_⟩, by dsimp only; omega⟩
        by_cases hc0 : c = 0
        · subst hc0; exact hr0.full
        · have hi : a.length ≤ i := by
            rcases Nat.lt_or_ge i a.length with h1 | h1
            · exact absurd ⟨by omega, by omega⟩ hs
            · exact h1
          refine DoneR.full ⟨⟨g1, g2⟩, g3, fun q _ hq => ?_, fun q hq => by omega⟩
          rcases Nat.lt_or_ge q c with h1 | h1
          · rw [g5 q h1, T_end _ _ _ hi]; rfl
          · exact g4 q h1 hq
  · have hk0 : k = 0 := by omega
    subst hk0
    refine ⟨by rw [hd.1]; rfl, ?_⟩
    have : o = tabT a b := ext_lget (by rw [hd.1, tabT_len]) fun r hr => by rw [hd.2 r (Nat.zero_le _) (by rw [hd.1] at hr; exact hr), tabT_get (by rw [hd.1] at hr; omega)]
    rw [this]; exact h
end Go.Proofs.YtnnbnljofklieaaDoor
