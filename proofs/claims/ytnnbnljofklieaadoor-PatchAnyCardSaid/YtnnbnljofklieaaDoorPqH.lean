/- Plain laws of chapter 12: pieces, cut out of edits. -/
import Derived.Test.YtnnbnljofklieaaDoorPqK
import Derived.Test.YtnnbnljofklieaaDoorPqE
import Derived.Test.YtnnbnljofklieaaDoorRuns
namespace Go.Proofs.YtnnbnljofklieaaDoor
open Go
theorem okB_take {l : List S_diff_Edit} (h : okB l = true) (k : Nat) : okB (l.take k) = true := by
  unfold okB at *; rw [List.all_eq_true] at *; exact fun x hx => h x (List.mem_of_mem_take hx)
theorem okB_drop {l : List S_diff_Edit} (h : okB l = true) (k : Nat) : okB (l.drop k) = true := by
  unfold okB at *; rw [List.all_eq_true] at *; exact fun x hx => h x (List.mem_of_mem_drop hx)
theorem hunkC_eq {l : List S_diff_Edit} (h : okB l = true) (i j : Nat) : hunkC l (i : Int) (j : Int) = ⟨(dels (l.take i) : Int), (dels ((l.take j).drop i) : Int), (adds (l.take i) : Int), (adds ((l.take j).drop i) : Int), (l.take j).drop i⟩ := by
  unfold hunkC cntC; simp only [Int.toNat_natCast]; rw [if_pos (okB_take h i), if_pos (okB_drop (okB_take h j) i)]
abbrev hC (M : List S_diff_Edit) (p : Nat × Nat) : S_patch_Hunk := hunkC M (p.1 : Int) (p.2 : Int)
/-- What is marked by the changes among the first edits. -/
def mkd (M : List S_diff_Edit) (r i j : Nat) : Prop := j < M.length ∧ ∃ c, c < i ∧ c < M.length ∧ ¬ (lget M (c : Int)).Op = 1 ∧ c ≤ j + r ∧ j ≤ c + r
theorem mkd_zero (M : List S_diff_Edit) (r j : Nat) : ¬ mkd M r 0 j := fun ⟨_, c, h, _⟩ => by omega
theorem mkd_keep {M : List S_diff_Edit} {r i : Nat} (h : (lget M (i : Int)).Op = 1) (j : Nat) : mkd M r (i + 1) j ↔ mkd M r i j := by
  constructor
  · rintro ⟨h0, c, h1, h2, h3, h4⟩
    refine ⟨h0, c, ?_, h2, h3, h4⟩
    rcases Nat.lt_or_ge c i with g | g
    · exact g
    · rw [show c = i by omega] at h3; exact absurd h h3
  · rintro ⟨h0, c, h1, h2, h3, h4⟩; exact ⟨h0, c, by omega, h2, h3, h4⟩
theorem mkd_new {M : List S_diff_Edit} {r i : Nat} (hi : i < M.length) (h : ¬ (lget M (i : Int)).Op = 1) (j : Nat) : mkd M r (i + 1) j ↔ mkd M r i j ∨ (i - r ≤ j ∧ j < min (i + 1 + r) M.length) := by
  constructor
  · rintro ⟨h0, c, h1, h2, h3, h4⟩
    rcases Nat.lt_or_ge c i with g | g
    · exact .inl ⟨h0, c, g, h2, h3, h4⟩
    · exact .inr ⟨by omega, by omega⟩
  · rintro (⟨h0, c, h1, h2, h3, h4⟩ | ⟨h1, h2⟩)
    · exact ⟨h0, c, by omega, h2, h3, h4⟩
    · exact ⟨by omega, i, by omega, hi, h, by omega, by omega⟩
/-! patch.Hunks -/
def HSt (M : List S_diff_Edit) (r k : Nat) (out : List S_patch_Hunk) (f t : Int) : Prop :=
  (t = -1 ∧ f = 0 ∧ out = [] ∧ RevR (mkd M r k) M.length []) ∨ ∃ (a b : Nat) (R : List (Nat × Nat)), f = a ∧ t = b ∧ RevR (mkd M r k) M.length ((a, b) :: R) ∧ a ≤ k - r ∧ b ≤ k + r ∧ R.length < k ∧ out = R.reverse.map (hC M)
theorem HSt.keep {M : List S_diff_Edit} {r k : Nat} {out : List S_patch_Hunk} {f t : Int} (h : HSt M r k out f t) (h1 : (lget M (k : Int)).Op = 1) : HSt M r (k + 1) out f t := by
  rcases h with ⟨rfl, rfl, rfl, h⟩ | ⟨a, b, R, rfl, rfl, h, h2, h3, h4, h5⟩
  · exact .inl ⟨rfl, rfl, rfl, h.cong fun j _ => (mkd_keep h1 j).symm⟩
  · exact .inr ⟨a, b, R, rfl, rfl, h.cong fun j _ => (mkd_keep h1 j).symm, by omega, by omega, by omega, h5⟩
theorem HSt.first {M : List S_diff_Edit} {r k : Nat} {out : List S_patch_Hunk} {f t : Int} (h : HSt M r k out f t) (hk : k < M.length) (h1 : ¬ (lget M (k : Int)).Op = 1) (ht : t < 0) : HSt M r (k + 1) out ((k - r : Nat) : Int) ((min (k + 1 + r) M.length : Nat) : Int) := by
  rcases h with ⟨rfl, rfl, rfl, h⟩ | ⟨a, b, R, rfl, rfl, h, h2, h3, h4, h5⟩
  · exact .inr ⟨k - r, min (k + 1 + r) M.length, [], rfl, rfl, h.first (mkd_new hk h1) (by omega) (by omega), by omega, by omega, by simp, rfl⟩
  · omega
theorem HSt.join {M : List S_diff_Edit} {r k : Nat} {out : List S_patch_Hunk} {f t : Int} (h : HSt M r k out f t) (hk : k < M.length) (h1 : ¬ (lget M (k : Int)).Op = 1) (ht : ¬ t < 0) (ha : ¬ ((k - r : Nat) : Int) > t) : HSt M r (k + 1) out f ((min (k + 1 + r) M.length : Nat) : Int) := by
  rcases h with ⟨rfl, rfl, rfl, h⟩ | ⟨a, b, R, rfl, rfl, h, h2, h3, h4, h5⟩
  · omega
  · have hbn : b ≤ M.length := h.2.1
    exact .inr ⟨a, min (k + 1 + r) M.length, R, rfl, rfl, h.join (mkd_new hk h1) (by omega) h2 (by omega) (by omega), by omega, by omega, by omega, h5⟩
theorem HSt.part {M : List S_diff_Edit} {r k : Nat} {out : List S_patch_Hunk} {f t : Int} (h : HSt M r k out f t) (hk : k < M.length) (h1 : ¬ (lget M (k : Int)).Op = 1) (ha : ((k - r : Nat) : Int) > t) (ht : ¬ t < 0) : HSt M r (k + 1) (out ++ [hunkC M f t]) ((k - r : Nat) : Int) ((min (k + 1 + r) M.length : Nat) : Int) := by
  rcases h with ⟨rfl, rfl, rfl, h⟩ | ⟨a, b, R, rfl, rfl, h, h2, h3, h4, h5⟩
  · omega
  · refine .inr ⟨k - r, min (k + 1 + r) M.length, (a, b) :: R, rfl, rfl, h.part (mkd_new hk h1) (by omega) (by omega) (by omega), by omega, by omega, by simp; omega, ?_⟩
    rw [h5, List.reverse_cons, List.map_append]; rfl
theorem HSt.rng {M : List S_diff_Edit} {r k : Nat} {out : List S_patch_Hunk} {f t : Int} (h : HSt M r k out f t) (ht : ¬ t < 0) : 0 ≤ f ∧ f ≤ t ∧ t ≤ (M.length : Int) := by
  rcases h with ⟨rfl, rfl, rfl, h⟩ | ⟨a, b, R, rfl, rfl, h, h2, h3, h4, h5⟩
  · omega
  · have := h.1; have := h.2.1; omega
theorem HSt.len {M : List S_diff_Edit} {r k : Nat} {out : List S_patch_Hunk} {f t : Int} (h : HSt M r k out f t) : out.length ≤ k := by
  rcases h with ⟨rfl, rfl, rfl, h⟩ | ⟨a, b, R, rfl, rfl, h, h2, h3, h4, h5⟩
  · simp
  · rw [h5, List.length_map, List.length_reverse]; omega
theorem pHunks_p {M : List S_diff_Edit} {around : Int} {Q : List S_patch_Hunk → Prop} {r : Nat} (hr : min (max around (0 : Int)) (16 : Int) = (r : Int)) (hr16 : r ≤ 16) (hl : M.length ≤ 1000) (h : ∀ R, RevR (mkd M r M.length) M.length R → R.length ≤ M.length → Q (R.reverse.map (hC M))) : patch_Hunks_p M around Q := by
  unfold patch_Hunks_p; rw [hr]; simp only [inR_i64]; intro _ _
  refine ⟨fun out f t s => ∃ k : Nat, s = k ∧ k ≤ M.length ∧ HSt M r k out f t, fun _ _ _ s => M.length - s.toNat, ⟨0, rfl, Nat.zero_le _, .inl ⟨rfl, rfl, rfl, fun j _ => mkd_zero M r j⟩⟩, ?_⟩
  rintro out f t _ ⟨k, rfl, hk, hst⟩ _ _ _ _
  have hol := hst.len
  refine ⟨fun hlt => ?_, fun hge => ?_⟩
  · have hkl : k < M.length := by omega
    have ha : max ((k : Int) - (r : Int)) 0 = ((k - r : Nat) : Int) := by omega
    have hb : min ((k : Int) + 1 + (r : Int)) (M.length : Int) = ((min (k + 1 + r) M.length : Nat) : Int) := by omega
    rw [ha, hb]
    refine ⟨fun o f2 t2 => HSt M r (k + 1) o f2 t2, ?_, inL_nat.2 hkl, fun _ _ => ⟨fun h1 => hst.keep h1, fun n1 => ⟨by omega, by omega, by omega, fun o f2 => HSt M r (k + 1) o f2 ((min (k + 1 + r) M.length : Nat) : Int), ?_, fun ht => hst.first hkl n1 ht, fun ht => ⟨fun hg => phunk_p (by omega) (hst.rng ht) (fun _ _ _ _ _ => ⟨?_, hst.part hkl n1 hg ht⟩), fun hg => hst.join hkl n1 ht hg⟩⟩⟩⟩
    · rintro o f2 t2 h2 _ _ _
      exact ⟨by omega, ⟨k + 1, rfl, hkl, h2⟩, by dsimp only; omega⟩
    · intro o f2 h2 _ _; exact h2
    · show (out.length + 1) * 56 ≤ _; omega
  · have : k = M.length := by omega
    subst this
    refine ⟨fun o => ∃ R, RevR (mkd M r M.length) M.length R ∧ R.length ≤ M.length ∧ o = R.reverse.map (hC M), ?_, fun ht => phunk_p (by omega) (hst.rng (by omega)) (fun _ _ _ _ _ => ⟨?_, ?_⟩), fun ht => ?_⟩
    · rintro o ⟨R, h1, h2, rfl⟩ _
      unfold slices_Clip_patch_Hunk_patch_Hunk_p
      exact fun _ => ⟨⟨by omega, by omega⟩, fun _ => h R h1 h2⟩
    · show (out.length + 1) * 56 ≤ _; omega
    · rcases hst with ⟨rfl, rfl, rfl, h⟩ | ⟨a, b, R, rfl, rfl, h, h2, h3, h4, h5⟩
      · omega
      · exact ⟨(a, b) :: R, h, by simp; omega, by rw [h5, List.reverse_cons, List.map_append]; rfl⟩
    · rcases hst with ⟨rfl, rfl, rfl, h⟩ | ⟨a, b, R, rfl, rfl, h, h2, h3, h4, h5⟩
      · exact ⟨[], h, Nat.zero_le _, rfl⟩
      · omega
/-! rectoref11.Hunks -/
def toRE (e : S_diff_Edit) : S_rectoref11_Edit := ⟨e.Op, e.Line⟩
def toRH (h : S_patch_Hunk) : S_rectoref11_Hunk := ⟨h.At, h.Del, h.To, h.Add, h.Lines.map toRE⟩
theorem hkI_dels (M : List S_diff_Edit) (k : Nat) : hkI (M.map toRE) k = (dels (M.take k) : Int) := by
  unfold hkI dels; rw [← List.map_take, List.filter_map, List.length_map]; rfl
theorem hkJ_adds (M : List S_diff_Edit) (k : Nat) : hkJ (M.map toRE) k = (adds (M.take k) : Int) := by
  unfold hkJ adds; rw [← List.map_take, List.filter_map, List.length_map]; rfl
theorem seg_next {M : List S_diff_Edit} {f k : Nat} (hf : f ≤ k) (hk : k < M.length) : (M.take (k + 1)).drop f = (M.take k).drop f ++ [lget M (k : Int)] := by
  rw [take_lget hk, List.drop_append_of_le_length (by rw [List.length_take]; omega)]
theorem dels_snoc (l : List S_diff_Edit) (e : S_diff_Edit) : dels (l ++ [e]) = dels l + (if e.Op = 3 then 0 else 1) := by
  unfold dels; rw [List.filter_append, List.length_append]
  by_cases h : e.Op = 3 <;> simp [h]
theorem adds_snoc (l : List S_diff_Edit) (e : S_diff_Edit) : adds (l ++ [e]) = adds l + (if e.Op = 2 then 0 else 1) := by
  unfold adds; rw [List.filter_append, List.length_append]
  by_cases h : e.Op = 2 <;> simp [h]
theorem toRH_new {M : List S_diff_Edit} (ho : okB M = true) (k : Nat) : toRH (hunkC M (k : Int) (k : Int)) = ⟨hkI (M.map toRE) k, 0, hkJ (M.map toRE) k, 0, []⟩ := by
  have e : (M.take k).drop k = [] := by rw [List.drop_eq_nil_iff, List.length_take]; omega
  rw [hunkC_eq ho, hkI_dels, hkJ_adds, e]; rfl
theorem toRH_more {M : List S_diff_Edit} (ho : okB M = true) {f k : Nat} (hf : f ≤ k) (hk : k < M.length) : toRH (hunkC M (f : Int) ((k + 1 : Nat) : Int)) = hkAdd (lget (M.map toRE) (k : Int)) (toRH (hunkC M (f : Int) (k : Int))) := by
  rw [hunkC_eq ho, hunkC_eq ho, lgetM toRE hk, seg_next hf hk, dels_snoc, adds_snoc]
  unfold toRH hkAdd toRE
  dsimp only
  rw [List.map_append]
  congr 1
  · by_cases h : (lget M (k : Int)).Op = 3 <;> simp [h]
  · by_cases h : (lget M (k : Int)).Op = 2 <;> simp [h]
theorem hkRun_runs {M : List S_diff_Edit} (ho : okB M = true) (s : List Bool) : ∀ k, k ≤ M.length → ∃ R, RevR (fun j => lget s (j : Int) = true) k R ∧ hkRun (M.map toRE) s k = R.reverse.map fun p => toRH (hC M p) := by
  intro k
  induction k with
  | zero => exact fun _ => ⟨[], fun j hj => by omega, rfl⟩
  | succ k ih =>
    intro hk
    obtain ⟨R, h1, h2⟩ := ih (by omega)
    cases hm : lget s (k : Int) with
    | false => exact ⟨R, h1.skip (by rw [hm]; decide), by rw [hkRun_not hm, h2]⟩
    | true =>
      cases hn : hkNew s k with
      | true =>
        refine ⟨(k, k + 1) :: R, h1.new hm (fun h0 hp => ?_), ?_⟩
        · unfold hkNew at hn
          rw [decide_eq_false (by omega), Bool.false_or] at hn
          have : ((k - 1 : Nat) : Int) = (k : Int) - 1 := by omega
          rw [this] at hp; rw [hp] at hn; cases hn
        · rw [hkRun_new hm hn, h2, List.reverse_cons, List.map_append]
          show _ = _ ++ [toRH (hunkC M (k : Int) ((k + 1 : Nat) : Int))]
          rw [toRH_more ho (Nat.le_refl k) (by omega), toRH_new ho]
      | false =>
        have h0 : ¬ k = 0 ∧ lget s ((k : Int) - 1) = true := by
          unfold hkNew at hn
          simpa using hn
        have hp : lget s ((k - 1 : Nat) : Int) = true := by rw [show ((k - 1 : Nat) : Int) = (k : Int) - 1 by omega]; exact h0.2
        obtain ⟨f, R', rfl, hf, h3⟩ := RevR.more h1 hm (by omega) hp
        refine ⟨(f, k + 1) :: R', h3, ?_⟩
        rw [List.reverse_cons, List.map_append] at h2
        rw [hkRun_old hm hn h2, List.reverse_cons, List.map_append]
        show _ ++ [hkAdd _ (toRH (hunkC M (f : Int) (k : Int)))] = _ ++ [toRH (hunkC M (f : Int) ((k + 1 : Nat) : Int))]
        rw [toRH_more ho (by omega) (by omega)]
/-- What is marked when so many edits have been looked at. -/
def mkT (M : List S_diff_Edit) (r i j : Nat) : Prop := ∃ c, c < i ∧ ¬ (lget M (c : Int)).Op = 1 ∧ c ≤ j + r ∧ j ≤ c + r ∧ ∀ d, i ≤ d → d ≤ j → (lget M (d : Int)).Op = 1
def mkU (M : List S_diff_Edit) (r i j : Nat) : Prop := mkT M r i j ∨ (i - r ≤ j ∧ j ≤ i)
def Marks (M : List S_diff_Edit) (s : List Bool) (P : Nat → Prop) : Prop := s.length = M.length ∧ ∀ j, j < M.length → (lget s (j : Int) = true ↔ P j)
theorem Marks.cong {M : List S_diff_Edit} {s : List Bool} {P P' : Nat → Prop} (h : Marks M s P) (e : ∀ j, j < M.length → (P j ↔ P' j)) : Marks M s P' := ⟨h.1, fun j hj => (h.2 j hj).trans (e j hj)⟩
theorem Marks.set {M : List S_diff_Edit} {s : List Bool} {P : Nat → Prop} (h : Marks M s P) {i : Nat} (hi : i < M.length) : Marks M (lset s (i : Int) true) (fun j => P j ∨ j = i) := by
  refine ⟨by rw [len_lset]; exact h.1, fun j hj => ?_⟩
  rw [lget_set (by rw [h.1]; exact hi)]
  by_cases e : i = j
  · rw [if_pos e]; exact ⟨fun _ => .inr e.symm, fun _ => rfl⟩
  · rw [if_neg e, h.2 j hj]; exact ⟨fun h => .inl h, fun h => h.resolve_right fun x => e x.symm⟩
theorem mkT_keep {M : List S_diff_Edit} {r i : Nat} (h : (lget M (i : Int)).Op = 1) (j : Nat) : mkT M r i j ↔ mkT M r (i + 1) j := by
  constructor
  · rintro ⟨c, h1, h2, h3, h4, h5⟩; exact ⟨c, by omega, h2, h3, h4, fun d a b => h5 d (by omega) b⟩
  · rintro ⟨c, h1, h2, h3, h4, h5⟩
    refine ⟨c, ?_, h2, h3, h4, fun d a b => ?_⟩
    · rcases Nat.lt_or_ge c i with g | g
      · exact g
      · rw [show c = i by omega] at h2; exact absurd h h2
    · rcases Nat.lt_or_ge i d with g | g
      · exact h5 d g b
      · rw [show d = i by omega]; exact h
theorem mkT_new {M : List S_diff_Edit} {r i : Nat} (h : ¬ (lget M (i : Int)).Op = 1) (j : Nat) : mkT M r (i + 1) j ↔ mkU M r i j ∨ (i < j ∧ j ≤ i + r ∧ ∀ d, i < d → d ≤ j → (lget M (d : Int)).Op = 1) := by
  constructor
  · rintro ⟨c, h1, h2, h3, h4, h5⟩
    rcases Nat.lt_or_ge i j with g | g
    · exact .inr ⟨g, by omega, fun d a b => h5 d a b⟩
    · rcases Nat.lt_or_ge j (i - r) with q | q
      · refine .inl (.inl ⟨c, ?_, h2, h3, h4, fun d a b => by omega⟩)
        omega
      · exact .inl (.inr ⟨q, g⟩)
  · rintro ((⟨c, h1, h2, h3, h4, h5⟩ | ⟨h1, h2⟩) | ⟨h1, h2, h3⟩)
    · exact ⟨c, by omega, h2, h3, h4, fun d a b => h5 d (by omega) b⟩
    · exact ⟨i, by omega, h, by omega, by omega, fun d a b => by omega⟩
    · exact ⟨i, by omega, h, by omega, by omega, fun d a b => h3 d a b⟩
theorem rHunks_p {M : List S_diff_Edit} {around : Int} {Q : List S_rectoref11_Hunk → Prop} {r : Nat} (hr : min (max around (0 : Int)) (16 : Int) = (r : Int)) (hr16 : r ≤ 16) (ho : okB M = true) (hl : M.length ≤ 1000) (h : ∀ R, RevR (mkd M r M.length) M.length R → Q (R.reverse.map fun p => toRH (hC M p))) : rectoref11_Hunks_p (M.map toRE) around Q := by
  have hlen : (M.map toRE).length = M.length := List.length_map _
  have hget : ∀ k : Nat, k < M.length → lget (M.map toRE) (k : Int) = toRE (lget M (k : Int)) := fun k hk => lgetM toRE hk
  unfold rectoref11_Hunks_p; rw [hlen]; simp only [inR_i64]; intro _ _
  refine ⟨fun x => x = max around 0, ?_, fun h0 => by omega, fun h0 => by omega⟩
  rintro _ rfl _
  refine ⟨fun x => x = (r : Int), ?_, fun h0 => by omega, fun h0 => by omega⟩
  rintro _ rfl _
  refine ⟨⟨by omega, by omega⟩, fun s i => ∃ k : Nat, i = k ∧ k ≤ M.length ∧ Marks M s (mkT M r k), fun _ i => M.length - i.toNat, ⟨0, rfl, Nat.zero_le _, by simp, fun j hj => ?_⟩, ?_⟩
  · rw [lget_lt (by simpa using hj)]
    simp only [List.getElem_replicate]
    exact ⟨fun hx => (by cases hx), fun ⟨c, hc, _⟩ => by omega⟩
  rintro s _ ⟨k, rfl, hk, hm⟩ _ _
  refine ⟨fun hlt => ?_, fun hge => ?_⟩
  · have hkl : k < M.length := by omega
    have hin : inL (M.map toRE) (k : Int) := inL_nat.2 (by rw [hlen]; exact hkl)
    rw [hget k hkl]
    refine ⟨fun s2 => Marks M s2 (mkT M r (k + 1)), fun s2 h2 _ => ⟨by omega, ⟨k + 1, rfl, hkl, h2⟩, by dsimp only; omega⟩, hin, fun _ _ => ⟨fun h1 => hm.cong fun j _ => mkT_keep h1 j, fun n1 => ?_⟩⟩
    have n1 : ¬ (lget M (k : Int)).Op = 1 := n1
    have hm1 := hm.set hkl
    refine ⟨inL_nat.2 (by rw [hm.1]; exact hkl), fun s2 sd => (sd = -1 ∧ Marks M s2 fun j => mkT M r k j ∨ j = k) ∨ (sd = 1 ∧ Marks M s2 (mkU M r k)) ∨ (sd = 3 ∧ Marks M s2 (mkT M r (k + 1))), fun _ sd => (3 - sd).toNat, .inl ⟨rfl, hm1⟩, ?_⟩
    rintro s2 sd hsd _ _
    refine ⟨fun hle => ⟨by omega, ?_⟩, fun hgt => ?_⟩
    · rcases hsd with ⟨rfl, hs2⟩ | ⟨rfl, hs2⟩ | ⟨rfl, _⟩
      · -- to the left
        refine ⟨fun s3 nn x => ∃ q : Nat, nn = (r : Int) - q ∧ x = (k : Int) + -1 - q ∧ q ≤ r ∧ q ≤ k ∧ Marks M s3 fun j => mkT M r k j ∨ (k - q ≤ j ∧ j ≤ k), fun _ nn _ => nn.toNat, ⟨0, by omega, by omega, by omega, by omega, hs2.cong fun j _ => ⟨fun h => h.imp id fun h => ⟨by omega, by omega⟩, fun h => h.imp id fun h => by omega⟩⟩, ?_⟩
        rintro s3 _ _ ⟨q, rfl, rfl, hqr, hqk, hs3⟩ _ _ _
        have leave : (q = k ∨ q = r ∨ (q < k ∧ ¬ (lget M ((k - 1 - q : Nat) : Int)).Op = 1)) → Marks M s3 (mkU M r k) := fun hc => hs3.cong fun j hj => by
          unfold mkU
          refine ⟨fun h => h.imp id fun h => ⟨by omega, h.2⟩, fun h => ?_⟩
          rcases h with h | ⟨h1, h2⟩
          · exact .inl h
          · rcases Nat.lt_or_ge j (k - q) with g | g
            · rcases hc with hc | hc | ⟨hc1, hc2⟩
              · omega
              · omega
              · exact .inl ⟨k - 1 - q, by omega, hc2, by omega, by omega, fun d a b => by omega⟩
            · exact .inr ⟨g, h2⟩
        refine ⟨fun b => (b = true → q < k ∧ q < r ∧ (lget M ((k - 1 - q : Nat) : Int)).Op = 1) ∧ (b = false → Marks M s3 (mkU M r k)), ?_, fun h0 => ⟨fun h1 => ⟨fun h2 => ?_, fun h2 => ⟨fun hx => (by cases hx), fun _ => leave (by omega)⟩⟩, fun h1 => absurd (by omega) h1⟩, fun h0 => ⟨fun hx => (by cases hx), fun _ => leave (by omega)⟩⟩
        · rintro b ⟨hb1, hb2⟩
          refine ⟨fun hb => ?_, fun hb => ⟨by omega, .inr (.inl ⟨by omega, hb2 hb⟩), by dsimp only; omega⟩⟩
          obtain ⟨g1, g2, g3⟩ := hb1 hb
          have e : (k : Int) + -1 - q = ((k - 1 - q : Nat) : Int) := by omega
          rw [e]
          refine ⟨inL_nat.2 (by rw [hs3.1]; omega), by omega, by omega, ⟨q + 1, by omega, by omega, by omega, by omega, (hs3.set (by omega)).cong fun j hj => ?_⟩, by dsimp only; omega⟩
          constructor
          · rintro ((h | h) | h)
            · exact .inl h
            · exact .inr ⟨by omega, h.2⟩
            · exact .inr ⟨by omega, by omega⟩
          · rintro (h | h)
            · exact .inl (.inl h)
            · rcases Nat.lt_or_ge j (k - q) with g | g
              · exact .inr (by omega)
              · exact .inl (.inr ⟨g, h.2⟩)
        · have e : (k : Int) + -1 - q = ((k - 1 - q : Nat) : Int) := by omega
          rw [e, hget _ (by omega)]
          refine ⟨inL_nat.2 (by rw [hlen]; omega), fun _ _ => ⟨fun hx => ⟨by omega, by omega, of_decide_eq_true hx⟩, fun hx => leave (.inr (.inr ⟨by omega, of_decide_eq_false hx⟩))⟩⟩
      · -- to the right
        refine ⟨fun s3 nn x => ∃ q : Nat, nn = (r : Int) - q ∧ x = (k : Int) + 1 + q ∧ q ≤ r ∧ (∀ d, k < d → d ≤ k + q → (lget M (d : Int)).Op = 1) ∧ Marks M s3 fun j => mkU M r k j ∨ (k < j ∧ j ≤ k + q), fun _ nn _ => nn.toNat, ⟨0, by omega, by omega, by omega, fun d a b => by omega, hs2.cong fun j _ => ⟨fun h => .inl h, fun h => h.resolve_right fun h => by omega⟩⟩, ?_⟩
        rintro s3 _ _ ⟨q, rfl, rfl, hqr, hkeep, hs3⟩ _ _ _
        have leave : (M.length ≤ k + 1 + q ∨ q = r ∨ ¬ (lget M ((k + 1 + q : Nat) : Int)).Op = 1) → Marks M s3 (mkT M r (k + 1)) := fun hc => hs3.cong fun j hj => by
          rw [mkT_new n1]
          refine ⟨fun h => h.imp id fun h => ⟨h.1, by omega, fun d a b => hkeep d a (by omega)⟩, fun h => h.imp id fun h => ⟨h.1, ?_⟩⟩
          rcases hc with hc | hc | hc
          · omega
          · omega
          · rcases Nat.lt_or_ge (k + q) j with g | g
            · exact absurd (h.2.2 (k + 1 + q) (by omega) (by omega)) hc
            · exact g
        refine ⟨fun b => (b = true → k + 1 + q < M.length ∧ q < r ∧ (lget M ((k + 1 + q : Nat) : Int)).Op = 1) ∧ (b = false → Marks M s3 (mkT M r (k + 1))), ?_, fun h0 => ⟨fun h1 => ⟨fun h2 => ?_, fun h2 => ⟨fun hx => (by cases hx), fun _ => leave (by omega)⟩⟩, fun h1 => ⟨fun hx => (by cases hx), fun _ => leave (by omega)⟩⟩, fun h0 => absurd (by omega) h0⟩
        · rintro b ⟨hb1, hb2⟩
          refine ⟨fun hb => ?_, fun hb => ⟨by omega, .inr (.inr ⟨by omega, hb2 hb⟩), by dsimp only; omega⟩⟩
          obtain ⟨g1, g2, g3⟩ := hb1 hb
          have e : (k : Int) + 1 + q = ((k + 1 + q : Nat) : Int) := by omega
          rw [e]
          refine ⟨inL_nat.2 (by rw [hs3.1]; omega), by omega, by omega, ⟨q + 1, by omega, by omega, by omega, fun d a b => ?_, (hs3.set (by omega)).cong fun j hj => ?_⟩, by dsimp only; omega⟩
          · rcases Nat.lt_or_ge (k + q) d with g | g
            · rw [show d = k + 1 + q by omega]; exact g3
            · exact hkeep d a g
          · constructor
            · rintro ((h | h) | h)
              · exact .inl h
              · exact .inr ⟨h.1, by omega⟩
              · exact .inr ⟨by omega, by omega⟩
            · rintro (h | h)
              · exact .inl (.inl h)
              · rcases Nat.lt_or_ge (k + q) j with g | g
                · exact .inr (by omega)
                · exact .inl (.inr ⟨h.1, g⟩)
        · have e : (k : Int) + 1 + q = ((k + 1 + q : Nat) : Int) := by omega
          rw [e, hget _ (by omega)]
          refine ⟨inL_nat.2 (by rw [hlen]; omega), fun _ _ => ⟨fun hx => ⟨by omega, by omega, of_decide_eq_true hx⟩, fun hx => leave (.inr (.inr (of_decide_eq_false hx)))⟩⟩
      · omega
    · rcases hsd with ⟨rfl, _⟩ | ⟨rfl, _⟩ | ⟨_, hs2⟩
      · omega
      · omega
      · exact hs2
  · have : k = M.length := by omega
    subst this
    obtain ⟨R, h1, h2⟩ := hkRun_runs ho s M.length (Nat.le_refl _)
    refine ⟨hm.1, by omega, ?_⟩
    rw [h2]
    refine h R (h1.cong fun j hj => (hm.2 j hj).trans ?_)
    constructor
    · rintro ⟨c, g1, g2, g3, g4, _⟩; exact ⟨hj, c, g1, g1, g2, g3, g4⟩
    · rintro ⟨_, c, g1, _, g2, g3, g4⟩; exact ⟨c, g1, g2, g3, g4, fun d a b => by omega⟩
end Go.Proofs.YtnnbnljofklieaaDoor
