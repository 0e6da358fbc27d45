/- The plain law of JournalPlays. -/
import Derived.Test.YtlkfoebophjhfaaGreatDoorJ6j
namespace Go.Proofs.YtlkfoebophjhfaaGreatDoor
open Go
def Pts (p : ByteArray) : List ByteArray := if p = ByteArray.mk #[] then [] else partsB p 47
theorem rgood_p {c : Int} {Q : Bool → Prop} (h : Q (goodZ c)) : rectoref1_good_p c Q := by
  unfold rectoref1_good_p; intro _
  have e : ∀ {P : Prop} [Decidable P], (P ↔ ((97 ≤ c ∧ c ≤ 122) ∨ (48 ≤ c ∧ c ≤ 57) ∨ c = 46 ∨ c = 45 ∨ c = 95)) → Q (decide P) := by
    intro P _ hp; rw [decide_eq_decide.2 hp]; exact h
  exact e (by omega)
theorem rUnder_p {p d : ByteArray} {Q : Bool → Prop} (hz : d.size ≤ 1000000) (h : Q (Und p d)) : rectoref1_Under_p p d Q := by
  unfold rectoref1_Under_p; simp only [inR_i64]; intro hm hd
  unfold Und at h
  unfold maxLen at hm hd
  refine ⟨fun he => ?_, fun he => ?_⟩
  · rwa [if_pos he] at h
  rw [if_neg he] at h
  exact ⟨⟨⟨by omega, by omega⟩, fun h1 => ⟨⟨by omega, by omega, by omega⟩, fun _ => ⟨⟨by omega, by omega⟩, trivial⟩, fun _ => trivial⟩, fun _ => trivial⟩, h⟩
theorem rClash_p {a b : ByteArray} {Q : Bool → Prop} (hza : a.size ≤ 1000000) (hzb : b.size ≤ 1000000) (h : Q (Cl a b)) : rectoref1_Clash_p a b Q := by
  unfold rectoref1_Clash_p; intro _ _
  unfold Cl at h
  refine ⟨fun r => r = Cl a b, by rintro _ rfl; exact h, fun ha => ?_, fun ha => ⟨fun hb => ?_, fun hb => rUnder_p hzb ⟨fun h1 => ?_, fun h1 => rUnder_p hza ?_⟩⟩⟩
  · show false = Cl a b; unfold Cl; rw [if_pos ha]
  · show false = Cl a b; unfold Cl; rw [if_neg ha, if_pos hb]
  · show true = Cl a b; unfold Cl; rw [if_neg ha, if_neg hb, h1]; rfl
  · show Und b a = Cl a b; unfold Cl; rw [if_neg ha, if_neg hb, h1]; rfl
theorem rgoods_ok {s : ByteArray} (k : Nat) (hk : k < s.size) : bget s (k : Int) = lget (bytesL s) (k : Int) := by
  rw [bget_LL, lget_lt (by rw [bytesL_len]; exact hk)]
  unfold bytesL
  rw [List.getElem_map, List.getD, Int.toNat_natCast, List.getElem?_eq_getElem (by exact hk)]
  rfl
theorem cutL_snoc (c : UInt8) : ∀ (l : List UInt8) (x : UInt8), cutL c (l ++ [x]) = if x = c then cutL c l ++ [[]] else (cutL c l).set ((cutL c l).length - 1) (((cutL c l).getD ((cutL c l).length - 1) []) ++ [x])
  | [], x => by by_cases hx : x = c <;> simp [cutL, hx]
  | y :: r, x => by
    have ih := cutL_snoc c r x
    have hne := cutL_ne c r
    cases hr : cutL c r with
    | nil => exact absurd hr hne
    | cons a l2 =>
      rw [hr] at ih
      by_cases hx : x = c
      · rw [if_pos hx] at ih ⊢
        by_cases hy : y = c
        · simp [cutL, hy, hr, ih]
        · simp [cutL, hy, hr, ih]
      · rw [if_neg hx] at ih ⊢
        by_cases hy : y = c
        · simp only [List.cons_append, cutL, if_pos hy, ih, hr]
          simp
        · simp only [List.cons_append, cutL, if_neg hy, ih, hr]
          cases l2 with
          | nil => simp
          | cons b bs => simp
theorem rParts_p {p : ByteArray} {Q : List ByteArray → Prop} (hz : p.size ≤ 1000000) (h : Q (Pts p)) : rectoref1_Parts_p p Q := by
  unfold rectoref1_Parts_p; simp only [inR_i64]; intro _
  unfold Pts at h
  refine ⟨fun he => ?_, fun he => ?_⟩
  · rwa [if_pos he] at h
  rw [if_neg he] at h
  refine ⟨fun out i => ∃ k : Nat, i = k ∧ k ≤ p.size ∧ out = (cutL 47 ((LL p).take k)).map mkB ∧ out.length ≤ k + 1, fun _ i => p.size - i.toNat, ⟨0, rfl, Nat.zero_le _, rfl, Nat.le_refl _⟩, ?_⟩
  rintro out _ ⟨k, rfl, hk, ho, hlen⟩ _ _
  refine ⟨fun hlt => ?_, fun hge => ?_⟩
  · have hkl : k < p.size := by omega
    have hkL : k < (LL p).length := hkl
    have hb : bget p (k : Int) = (((LL p)[k]).toNat : Int) := by rw [bget_LL, List.getD, Int.toNat_natCast, List.getElem?_eq_getElem hkL]; rfl
    have hsn := cutL_snoc 47 ((LL p).take k) (LL p)[k]
    rw [← List.take_succ_eq_append_getElem hkL] at hsn
    have hne : out ≠ [] := by rw [ho]; simp [cutL_ne]
    have hpos := List.length_pos_iff.2 hne
    have hlast : (out.length : Int) - 1 = ((out.length - 1 : Nat) : Int) := by omega
    have hsz : ∀ x ∈ out, x.size ≤ p.size := by
      intro x hx
      rw [ho] at hx
      obtain ⟨l, hl, rfl⟩ := List.mem_map.1 hx
      rw [mkB_size]
      have : (cutL 47 ((LL p).take k)) = (partsB (mkB ((LL p).take k)) 47).map LL := by rw [partsB_cut, LL_mkB]
      rw [this] at hl
      obtain ⟨y, hy, rfl⟩ := List.mem_map.1 hl
      have := partsB_le y hy
      rw [mkB_size, List.length_take] at this
      rw [LL_len]; have := Nat.min_le_right k (LL p).length; rw [LL_len] at this; omega
    refine ⟨fun out' => out' = (cutL 47 ((LL p).take (k + 1))).map mkB ∧ out'.length ≤ k + 2, ?_, ⟨by omega, by omega⟩, fun h47 => ⟨?_, ?_⟩, fun h47 => ?_⟩
    · rintro out' ⟨h1, h2⟩ _
      exact ⟨⟨by omega, by omega⟩, ⟨k + 1, rfl, hkl, h1, h2⟩, by dsimp only; omega⟩
    · simp; omega
    · have hx : (LL p)[k] = 47 := UInt8.toNat_inj.1 (by rw [hb] at h47; exact_mod_cast h47)
      rw [if_pos hx] at hsn
      rw [hsn, List.map_append, ← ho]
      exact ⟨rfl, by simp; omega⟩
    · have hx : (LL p)[k] ≠ 47 := fun hx => h47 (by rw [hb, hx]; rfl)
      rw [if_neg hx] at hsn
      have hin : inL out ((out.length : Int) - 1) := last_in hne
      have hle := hsz _ (lget_mem hin)
      have hs1 : (bsub p (k : Int) ((k : Int) + 1)) = mkB [(LL p)[k]] := by
        rw [LL_inj, LL_sub, LL_mkB, show ((k : Int) + 1).toNat = k + 1 from by omega, List.take_succ_eq_append_getElem hkL, Int.toNat_natCast]
        rw [List.drop_append_of_le_length (by rw [List.length_take]; omega), List.drop_of_length_le (by rw [List.length_take]; omega)]; rfl
      have hcat : (lget out ((out.length : Int) - 1) ++ bsub p (k : Int) ((k : Int) + 1)).size ≤ p.size + 1 := by
        rw [ByteArray.size_append, hs1, mkB_size]; simp; omega
      refine ⟨⟨by omega, by omega⟩, ⟨by omega, by omega⟩, hin, fun _ => ⟨⟨by omega, by omega⟩, ⟨by omega, by omega, by omega⟩, by unfold maxLen; omega, hin, fun _ => ?_⟩⟩
      rintro _ rfl
      refine ⟨?_, by rw [len_lset]; omega⟩
      rw [hlast, lset_nat, lget_nat, hs1, hsn, List.map_set]
      have hl2 : (cutL 47 ((LL p).take k)).length = out.length := by rw [ho, List.length_map]
      rw [hl2, ← ho]
      congr 1
      rw [LL_inj, LL_cat, LL_mkB, LL_mkB]
      congr 1
      have hlt2 : out.length - 1 < out.length := by omega
      rw [List.getD, List.getElem?_eq_getElem hlt2, Option.getD_some, List.getD, List.getElem?_eq_getElem (by omega), Option.getD_some]
      have : out[out.length - 1] = mkB ((cutL 47 ((LL p).take k))[out.length - 1]'(by omega)) := by
        have : ∀ (L : List ByteArray) (hL : L = (cutL 47 ((LL p).take k)).map mkB) (m : Nat) (hm : m < L.length) (hm2 : m < (cutL 47 ((LL p).take k)).length), L[m] = mkB ((cutL 47 ((LL p).take k))[m]) := by
          intro L hL m hm hm2; subst hL; rw [List.getElem_map]
        exact this out ho _ hlt2 _
      rw [this, LL_mkB]
  · have hk2 : k = (LL p).length := by rw [LL_len]; omega
    rw [hk2, List.take_length, ← partsB_mk] at ho
    rw [ho]; exact h
theorem rCheck_p {p : ByteArray} {Q : Int → Prop} (h : Q (Chk p)) : rectoref1_Check_p p Q := by
  unfold rectoref1_Check_p; simp only [inR_i64]; intro hm
  unfold Chk at h
  refine ⟨fun hb => ?_, fun hb => ?_⟩
  · rwa [if_pos (by omega)] at h
  rw [if_neg (by omega)] at h
  refine rParts_p (by omega) (fun hl => ?_)
  by_cases he : p = ByteArray.mk #[]
  · have : Pts p = [] := by unfold Pts; rw [if_pos he]
    rw [this]
    refine ⟨fun _ => ?_, fun hn => absurd rfl hn⟩
    subst he
    have e1 : partsB (ByteArray.mk #[]) 47 = [ByteArray.mk #[]] := by rw [partsB_mk]; rfl
    rw [e1] at h
    exact h
  have hP : Pts p = partsB p 47 := by unfold Pts; rw [if_neg he]
  rw [hP] at hl ⊢
  have hne : partsB p 47 ≠ [] := by rw [partsB_mk]; simp [cutL_ne]
  have hpos := List.length_pos_iff.2 hne
  refine ⟨fun hz => absurd hz (by omega), fun _ => ?_⟩
  refine ⟨fun i => ∃ k : Nat, i = k ∧ k ≤ (partsB p 47).length ∧ ((partsB p 47).take k).all partOk = true, fun i => (partsB p 47).length - i.toNat, ⟨0, rfl, Nat.zero_le _, rfl⟩, ?_⟩
  rintro _ ⟨k, rfl, hk, ht⟩ _
  refine ⟨fun hlt => ?_, fun hge => ?_⟩
  · have hkl : k < (partsB p 47).length := by omega
    have hin := inL_nat.2 hkl
    generalize hx : lget (partsB p 47) (k : Int) = x
    have bad : partOk x = false → Q 5 := fun hf => by
      have : (partsB p 47).all partOk = false := by
        rw [Bool.eq_false_iff]; intro ha
        rw [List.all_eq_true] at ha
        have := ha _ (lget_mem hin)
        rw [hx, hf] at this; cases this
      rw [this] at h; exact h
    refine ⟨fun b => b = decide (x = ByteArray.mk #[] ∨ x = ByteArray.mk #[46] ∨ x = ByteArray.mk #[46, 46]), ?_, hin, fun hsz => ⟨fun h1 => ?_, fun h1 => ⟨hin, fun _ => ⟨fun h2 => ?_, fun h2 => ⟨hin, fun _ => ?_⟩⟩⟩⟩⟩
    · rintro b rfl
      refine ⟨fun hb => ?_, fun hb => ?_⟩
      · refine bad ?_
        unfold partOk
        rw [decide_eq_false (fun hc => by rcases of_decide_eq_true hb with h1 | h1 | h1; exact hc.1 h1; exact hc.2.1 h1; exact hc.2.2 h1)]; rfl
      · have hno := of_decide_eq_false hb
        have hok : decide (x ≠ ByteArray.mk #[] ∧ x ≠ ByteArray.mk #[46] ∧ x ≠ ByteArray.mk #[46, 46]) = true := decide_eq_true ⟨fun h1 => hno (.inl h1), fun h1 => hno (.inr (.inl h1)), fun h1 => hno (.inr (.inr h1))⟩
        refine ⟨fun i => ∃ m : Nat, i = m ∧ m ≤ x.size ∧ ((bytesL x).take m).all goodZ = true, fun i => x.size - i.toNat, ⟨0, rfl, Nat.zero_le _, rfl⟩, ?_⟩
        rintro _ ⟨m, rfl, hm2, hg⟩ _
        refine ⟨hin, fun hxs => ⟨fun hlt2 => ⟨hin, fun _ => ⟨⟨by omega, by omega⟩, ?_⟩⟩, fun hge2 => ?_⟩⟩
        · have hml : m < (bytesL x).length := by rw [bytesL_len]; omega
          rw [rgoods_ok m (by omega)]
          refine rgood_p ⟨fun hq => bad ?_, fun hq => ?_⟩
          · unfold partOk; rw [hok, Bool.true_and, Bool.eq_false_iff]; intro ha
            rw [List.all_eq_true] at ha
            have := ha _ (lget_mem (inL_nat.2 hml))
            rw [this] at hq; simp at hq
          · unfold maxLen at hxs
            refine ⟨⟨by omega, by omega⟩, ⟨m + 1, rfl, by omega, ?_⟩, by dsimp only; omega⟩
            rw [take_lget hml, List.all_append, hg]
            have : goodZ (lget (bytesL x) (m : Int)) = true := by simpa using hq
            simp [this]
        · have hxok : partOk x = true := by
            unfold partOk; rw [hok, Bool.true_and]
            rwa [show m = (bytesL x).length from by rw [bytesL_len]; omega, List.take_length] at hg
          refine ⟨⟨by omega, by omega⟩, ⟨k + 1, rfl, hkl, ?_⟩, by dsimp only; omega⟩
          rw [take_lget hkl, List.all_append, ht, hx]
          simp [hxok]
    · exact (decide_eq_true (.inl h1)).symm
    · exact (decide_eq_true (.inr (.inl h2))).symm
    · exact decide_eq_decide.2 ⟨fun h3 => .inr (.inr h3), fun h3 => by rcases h3 with h3 | h3 | h3; exact absurd h3 h1; exact absurd h3 h2; exact h3⟩
  · rw [show k = (partsB p 47).length from by omega, List.take_length] at ht
    rw [ht] at h; exact h
end Go.Proofs.YtlkfoebophjhfaaGreatDoor
namespace Go.Proofs.YtlkfoebophjhfaaGreatDoor
open Go
abbrev Fl := S_rectolaw6_file
/-- a file, as the law tells it -/
def fileOf (v : Vw) (p : ByteArray) : Fl := match v p with
  | some (m, b) => ⟨p, m, strOfNums b⟩
  | none => ⟨p, 0, strOfNums []⟩
/-- all files that are no journal's -/
def allL (x : FL) : List Fl := ((keysB x).filter fun p => !own p).map (fileOf (V x))
theorem all_p {N : Nat} {f : S_simfs_FS} {Q : S_simfs_FS → List Fl → Bool → Prop} (hup : Up N f) (hN : N ≤ 30000) (h : Q f (allL f.files) true) : rectolaw6_all_p f J Q := by
  unfold rectolaw6_all_p
  have hlen : (keysB f.files).length ≤ N := by rw [keysB_len]; exact hup.ok.files.2.1
  refine fun _ => List_p hup.ok (by omega) (fun ho => by rw [hup.off] at ho; cases ho) (fun _ _ _ => ⟨fun h => absurd rfl h, fun _ => ?_⟩)
  refine ⟨fun out i o => ∃ k : Nat, i = k ∧ k ≤ (keysB f.files).length ∧ o = f ∧ out.length ≤ k ∧ out = (((keysB f.files).take k).filter fun p => !own p).map (fileOf (V f.files)), fun _ i _ => (keysB f.files).length - i.toNat, ⟨0, rfl, Nat.zero_le _, rfl, Nat.le_refl _, rfl⟩, ?_⟩
  rintro out _ o ⟨k, rfl, hk, rfl, hol, ho⟩ _ _
  refine ⟨fun hlt => ?_, fun hge => ?_⟩
  · have hkl : k < (keysB o.files).length := by omega
    have hm := lget_mem (inL_nat.2 hkl)
    have hv := V_mem.2 (keysB_mem.1 hm)
    obtain ⟨⟨m, b⟩, hx⟩ := Option.ne_none_iff_exists'.1 hv
    obtain ⟨x1, x2, x3⟩ := V_some hx
    have hf : findS o (lget (keysB o.files) (k : Int)) = (mgetD o.files (lget (keysB o.files) (k : Int)), 0) := by
      unfold findS; rw [if_neg (by rw [hup.off]; exact Bool.false_ne_true), if_neg (by rw [x1]; exact fun h => by cases h)]
    refine ⟨fun out' o' => o' = o ∧ out'.length ≤ k + 1 ∧ out' = (((keysB o.files).take (k + 1)).filter fun p => !own p).map (fileOf (V o.files)), ?_, inL_nat.2 hkl, fun _ => rUnder_p (by decide) ⟨fun hu => ?_, fun hu => ⟨inL_nat.2 hkl, fun _ => Read_p hup.ok fun _ _ => ⟨inL_nat.2 hkl, fun _ => Stat_p fun _ _ _ _ _ => ?_⟩⟩⟩⟩
    · rintro _ _ ⟨rfl, h1, h2⟩ _
      exact ⟨inR_i64.2 ⟨by omega, by omega⟩, ⟨k + 1, by omega, hkl, rfl, h1, h2⟩, by dsimp only; omega⟩
    · refine ⟨rfl, by omega, ?_⟩
      rw [take_lget hkl, List.filter_append, List.map_append, ← ho]
      have : own (lget (keysB o.files) (k : Int)) = true := hu
      simp [this]
    · have hs : statS o (lget (keysB o.files) (k : Int)) = (⟨((mgetD o.files (lget (keysB o.files) (k : Int))).b.length : Int), (mgetD o.files (lget (keysB o.files) (k : Int))).time, (mgetD o.files (lget (keysB o.files) (k : Int))).inode, m⟩, 0) := by
        unfold statS; rw [hf]; simp only [if_true]; rw [x2]
      rw [hs, hf]
      refine ⟨by show inR .i64 ((0 : Int) + 0); decide, fun h => absurd rfl h, fun _ => ⟨inL_nat.2 hkl, fun _ => ⟨by simp; omega, rfl, by simp; omega, ?_⟩⟩⟩
      rw [take_lget hkl, List.filter_append, List.map_append, ← ho]
      have : own (lget (keysB o.files) (k : Int)) = false := hu
      simp only [List.filter_cons, this, Bool.not_false, if_true, List.filter_nil, List.map_cons, List.map_nil]
      rw [x3]
      unfold fileOf; rw [hx]
  · have hkl : k = (keysB o.files).length := by omega
    rw [hkl, List.take_length] at ho
    rw [ho]; exact h
/-! the empty disk -/
abbrev u0 : Vw := fun _ => none
theorem u0_ok : UOk u0 := fun _ h => absurd rfl h
theorem new_up (q : Int) : Up 0 (newF q) := ⟨rfl, newF_ok q, Nat.le_refl _, fun h => by cases h⟩
theorem new_pi (q : Int) : PI u0 (newF q).files := fun _ => rfl
theorem New_p {q : Int} {Q : S_simfs_FS → Prop} (h : Q (newF q)) : simfs_New_p q Q := by unfold simfs_New_p; exact fun _ => h
abbrev pA : ByteArray := ByteArray.mk #[97]
abbrev pB : ByteArray := ByteArray.mk #[98]
abbrev kl : Chs := [⟨pA, false, 1, [120]⟩, ⟨pB, true, 0, []⟩]
theorem kl_good : LGood kl := by
  refine ⟨by decide, fun c hc => ?_, by decide, fun c hc hg => ?_⟩
  · rcases List.mem_cons.1 hc with rfl | hc
    · exact ⟨by decide +kernel, by decide, by decide +kernel⟩
    · rw [List.mem_singleton.1 hc]; exact ⟨by decide +kernel, by decide, by decide +kernel⟩
  · rcases List.mem_cons.1 hc with rfl | hc
    · exact ⟨.inl rfl, by decide⟩
    · rw [List.mem_singleton.1 hc] at hg; cases hg
theorem nextV_in {now : Vw} {l : Chs} {p : ByteArray} (h : nextV now l p ≠ none) : now p ≠ none ∨ ∃ c ∈ l, c.Path = p := by
  by_cases hc : ∃ c ∈ l, c.Path = p
  · exact .inr hc
  · rw [nextV_oth fun c h1 e => hc ⟨c, h1, e⟩] at h; exact .inl h
/-- one file alone -/
theorem NC_one {u : Vw} {a : ByteArray} (h : ∀ p, u p ≠ none → p = a) : NC u := fun p q hp hq => by rw [h p hp, h q hq]; exact Cl_self a
theorem kl_one : ∀ p, nextV u0 kl p ≠ none → p = pA := by
  intro p hp
  rcases nextV_in hp with h | ⟨c, hc, rfl⟩
  · exact absurd rfl h
  · rw [nextV_at kl_good.nd hc] at hp
    rcases List.mem_cons.1 hc with rfl | hc
    · rfl
    · rw [List.mem_singleton.1 hc] at hp; exact absurd rfl hp
theorem known_p {Q : Bool → Prop} (h : Q true) : rectolaw6_known_p Q := by
  unfold rectolaw6_known_p
  refine New_p ?_
  have hnx : nextV u0 kl pA = some (1, [120]) := nextV_at kl_good.nd (c := ⟨pA, false, 1, [120]⟩) (by simp)
  refine Do_up (now := u0) (l := kl) (by decide) u0_ok (new_up 0) (by decide) rfl rfl (new_pi 0) (fun hx => absurd (good_ck kl_good) hx) (fun _ hx => absurd (NC_one kl_one) hx) (fun _ _ ha => by cases ha) (fun _ _ f' _ _ _ _ _ _ h1 _ => by
    have : (0 : Int) < 0 := h1
    omega) (fun hg hnc f' hu hk hp hpi _ _ _ => ?_)
  obtain ⟨x1, x2, x3⟩ := V_some ((hpi pA).trans hnx)
  have hf : findS f' pA = (mgetD f'.files pA, 0) := by
    unfold findS; rw [if_neg (by rw [hu.off]; exact Bool.false_ne_true), if_neg (by rw [x1]; exact fun h => by cases h)]
  refine Read_p hu.ok fun _ _ => Idle_p hu.ok (by decide) (fun ho => by rw [hu.off] at ho; cases ho) (fun _ _ => ?_)
  have ho : ownL f'.files = [] := ownL_nil.2 fun p hp => (hpi p).trans ((u0_ok.next kl_good).own hp)
  refine Recover_idle (u0_ok.next kl_good) hu (by decide) hpi fun _ => ⟨fun b => b = true, by rintro _ rfl; exact h, ?_⟩
  rw [hf, ho, x3]
  refine ⟨by show inR .i64 ((0 : Int) + 0); decide, by show inR .i64 ((0 : Int) + 0 + 0); decide, by show inR .i64 ((0 : Int) + 0 + 0 + 0); decide, fun _ => ⟨fun _ => ⟨fun _ => ?_, fun hx => absurd rfl hx⟩, fun hx => absurd (by decide +kernel) hx⟩, fun hx => absurd rfl hx⟩
  unfold journal_Check_p journal_folder_p
  refine fun _ _ _ => ⟨fun b => b = true, ?_, Check_p fun _ => ⟨fun hx => absurd hx (by decide +kernel), fun _ => rfl⟩⟩
  rintro _ rfl
  exact ⟨fun _ _ => ⟨fun _ _ => rfl, fun hx => by cases hx⟩, fun hx => by cases hx⟩
end Go.Proofs.YtlkfoebophjhfaaGreatDoor
namespace Go.Proofs.YtlkfoebophjhfaaGreatDoor
open Go Go.Sort
theorem sl_eq (a b : ByteArray) : sless a b = decide (LL a < LL b) := by
  unfold sless; rw [bytesLess_eq, ByteArray.toList_eq, ByteArray.toList_eq]
theorem sl_irr (a : ByteArray) : sless a a = false := by rw [sl_eq]; exact decide_eq_false (List.lt_irrefl _)
theorem sl_tr {a b c : ByteArray} (h : sless a b = true) (k : sless b c = true) : sless a c = true := by
  rw [sl_eq] at *; exact decide_eq_true (List.lt_trans (of_decide_eq_true h) (of_decide_eq_true k))
theorem sl_tot {a b : ByteArray} (h : sless a b = false) (hn : a ≠ b) : sless b a = true := by
  rw [sl_eq] at *
  have h := of_decide_eq_false h
  refine decide_eq_true ?_
  by_cases h1 : LL b < LL a
  · exact h1
  · exact absurd (LL_inj.2 (List.le_antisymm (List.not_lt.1 h1) (List.not_lt.1 h))) hn
theorem sl_asym {a b : ByteArray} (h : sless a b = true) : sless b a = false := by
  cases hb : sless b a
  · rfl
  · have := sl_tr h hb; rw [sl_irr] at this; cases this
theorem sl_ne {a b : ByteArray} (h : sless a b = true) : a ≠ b := by rintro rfl; rw [sl_irr] at h; cases h
abbrev SrtB (a : List ByteArray) : Prop := a.Pairwise fun x y => sless x y = true
theorem srt_eq : ∀ {a b : List ByteArray}, SrtB a → SrtB b → (∀ p, p ∈ a ↔ p ∈ b) → a = b
  | [], [], _, _, _ => rfl
  | [], y :: b, _, _, h => by have := (h y).2 (by simp); cases this
  | x :: a, [], _, _, h => by have := (h x).1 (by simp); cases this
  | x :: a, y :: b, ha, hb, h => by
    obtain ⟨a1, a2⟩ := List.pairwise_cons.1 ha
    obtain ⟨b1, b2⟩ := List.pairwise_cons.1 hb
    have e : x = y := by
      rcases List.mem_cons.1 ((h x).1 (by simp)) with e | e
      · exact e
      · rcases List.mem_cons.1 ((h y).2 (by simp)) with e2 | e2
        · exact e2.symm
        · have := sl_asym (b1 x e); rw [a1 y e2] at this; cases this
    subst e
    rw [srt_eq a2 b2 fun p => ?_]
    have hp := h p
    simp only [List.mem_cons] at hp
    constructor
    · intro hm
      rcases hp.1 (.inr hm) with e | e
      · subst e; exact absurd rfl (sl_ne (a1 _ hm))
      · exact e
    · intro hm
      rcases hp.2 (.inr hm) with e | e
      · subst e; exact absurd rfl (sl_ne (b1 _ hm))
      · exact e
theorem keysB_srt {l : FL} (h : ND l) : SrtB (keysB l) := by
  have hn := keysB_nd h
  have ht : ∀ a b c : List UInt8, leB a b = true → leB b c = true → leB a c = true := fun a b c h1 h2 => decide_eq_true (List.le_trans (of_decide_eq_true h1) (of_decide_eq_true h2))
  have hto : ∀ a b : List UInt8, (leB a b || leB b a) = true := fun a b => by
    by_cases h : a ≤ b
    · rw [show leB a b = true from decide_eq_true h]; rfl
    · rw [show leB b a = true from decide_eq_true (List.le_of_lt (List.not_le.1 h)), Bool.or_true]
  have hs : ((keysL l).mergeSort leB).Pairwise (fun a b => leB a b = true) := List.pairwise_mergeSort ht hto _
  have hk : (keysB l).Pairwise (fun a b => sless b a = false) := by
    unfold keysB
    refine List.pairwise_map.2 (hs.imp fun {x y} hxy => ?_)
    rw [sl_eq]
    exact decide_eq_false (List.not_lt.2 (by simpa [LL] using of_decide_eq_true hxy))
  exact (hk.and hn).imp fun {x y} hxy => sl_tot hxy.1 fun e => hxy.2 e.symm
/-- files as the law tells them -/
structure Lst (u : Vw) (a : List Fl) : Prop where
  srt : a.Pairwise fun x y => sless x.path y.path = true
  mem : ∀ x ∈ a, u x.path ≠ none ∧ x = fileOf u x.path
  all : ∀ p, u p ≠ none → ∃ x ∈ a, x.path = p
theorem Lst.eq {u : Vw} {a b : List Fl} (ha : Lst u a) (hb : Lst u b) : a = b := by
  have e : a.map (·.path) = b.map (·.path) := by
    refine srt_eq (List.pairwise_map.2 ha.srt) (List.pairwise_map.2 hb.srt) fun p => ?_
    rw [List.mem_map, List.mem_map]
    constructor
    · rintro ⟨x, hx, rfl⟩; exact hb.all _ (ha.mem x hx).1
    · rintro ⟨x, hx, rfl⟩; exact ha.all _ (hb.mem x hx).1
  have e1 : ∀ {c : List Fl}, Lst u c → c = (c.map (·.path)).map (fileOf u) := fun {c} hc => by
    rw [List.map_map]
    conv => lhs; rw [← List.map_id c]
    exact List.map_congr_left fun x hx => (hc.mem x hx).2
  rw [e1 ha, e1 hb, e]
theorem fileOf_path (u : Vw) (p : ByteArray) : (fileOf u p).path = p := by unfold fileOf; split <;> rfl
theorem PI.lst {u : Vw} {x : FL} (hu : UOk u) (hn : ND x) (h : PI u x) : Lst u (allL x) := by
  have hV : V x = u := funext h
  unfold allL
  rw [hV]
  refine ⟨List.pairwise_map.2 (((keysB_srt hn).filter _).imp fun {a b} hab => by rw [fileOf_path, fileOf_path]; exact hab), fun y hy => ?_, fun p hp => ?_⟩
  · obtain ⟨p, hp, rfl⟩ := List.mem_map.1 hy
    rw [fileOf_path]
    exact ⟨by rw [← h p]; exact V_mem.2 (keysB_mem.1 (List.mem_filter.1 hp).1), rfl⟩
  · refine ⟨fileOf u p, List.mem_map_of_mem (List.mem_filter.2 ⟨keysB_mem.2 (V_mem.1 (by rw [h p]; exact hp)), ?_⟩), fileOf_path u p⟩
    rw [(hu p hp).und.1]; rfl
theorem Lst.nil : Lst u0 [] := ⟨List.Pairwise.nil, fun _ h => (by cases h), fun _ h => absurd rfl h⟩
/-! what the law says of changes -/
theorem same_p {a b : List Fl} {Q : Bool → Prop} (h1 : a = b → Q true) (h2 : a ≠ b → Q false) : rectolaw6_same_p a b Q := by
  unfold rectolaw6_same_p
  refine fun _ _ => ⟨fun hx => h2 (by rintro rfl; exact hx rfl), fun hl => ?_⟩
  have hl : a.length = b.length := by omega
  refine ⟨fun i => ∃ k : Nat, i = k ∧ k ≤ a.length ∧ a.take k = b.take k, fun i => a.length - i.toNat, ⟨0, rfl, Nat.zero_le _, rfl⟩, ?_⟩
  rintro _ ⟨k, rfl, hk, he⟩ _
  refine ⟨fun hlt => ?_, fun hge => ?_⟩
  · have hka : k < a.length := by omega
    have hkb : k < b.length := by omega
    refine ⟨inL_nat.2 hka, fun _ _ _ => ⟨inL_nat.2 hkb, fun _ _ _ => ⟨fun hn => h2 (by rintro rfl; exact hn ⟨rfl, rfl, rfl, trivial⟩), fun hy => ⟨inR_i64.2 ⟨by omega, by omega⟩, ⟨k + 1, by omega, hka, ?_⟩, by dsimp only; omega⟩⟩⟩⟩
    rw [take_lget hka, take_lget hkb, he]
    have : lget a (k : Int) = lget b (k : Int) := by
      obtain ⟨y1, y2, y3, _⟩ := hy
      cases ha : lget a (k : Int); cases hb : lget b (k : Int)
      rw [ha, hb] at y1 y2 y3
      dsimp only at y1 y2 y3
      rw [y1, y2, y3]
    rw [this]
  · have hka : k = a.length := by omega
    subst hka
    rw [List.take_length, hl, List.take_length] at he
    exact h1 he
def Few (l : Chs) : Prop := l.length ≤ 20 ∧ ∀ c ∈ l, c.Path.size ≤ 100 ∧ c.Data.length ≤ 300
theorem few_p {l : Chs} {Q : Bool → Prop} (h1 : Few l → Q true) (h2 : Q false) : rectolaw6_few_p l Q := by
  unfold rectolaw6_few_p
  refine fun _ => ⟨fun _ => h2, fun hl => ?_⟩
  refine ⟨fun i => ∃ k : Nat, i = k ∧ k ≤ l.length ∧ ∀ j : Nat, j < k → (lget l (j : Int)).Path.size ≤ 100 ∧ (lget l (j : Int)).Data.length ≤ 300, fun i => l.length - i.toNat, ⟨0, rfl, Nat.zero_le _, fun j h => absurd h (Nat.not_lt_zero _)⟩, ?_⟩
  rintro _ ⟨k, rfl, hk, hz⟩ _
  refine ⟨fun hlt => ?_, fun hge => ?_⟩
  · have hkl : k < l.length := by omega
    refine ⟨fun b => b = false → (lget l (k : Int)).Path.size ≤ 100 ∧ (lget l (k : Int)).Data.length ≤ 300, ?_, inL_nat.2 hkl, fun _ _ _ => ⟨fun _ h => (by cases h), fun hs => ⟨inL_nat.2 hkl, fun _ _ _ hd => ?_⟩⟩⟩
    · intro b hb
      refine ⟨fun _ => h2, fun hf => ⟨inR_i64.2 ⟨by omega, by omega⟩, ⟨k + 1, by omega, hkl, fun j hj => ?_⟩, by dsimp only; omega⟩⟩
      rcases Nat.lt_or_ge j k with h | h
      · exact hz j h
      · rw [show j = k by omega]; exact hb hf
    · have := of_decide_eq_false hd; exact ⟨by omega, by omega⟩
  · refine h1 ⟨by omega, fun c hc => ?_⟩
    obtain ⟨j, hj, rfl⟩ := mem_at hc
    exact hz j (by omega)
theorem one_p {l : Chs} {k : Nat} {Q : Int → Prop} (hk : k < l.length) (hd : ∀ c ∈ l, c.Path.size ≤ 100 ∧ c.Data.length ≤ 300) (h : Q (chgS l k)) : rectolaw6_one_p J l (k : Int) Q := by
  unfold rectolaw6_one_p
  have hdk := hd _ (lget_mem (inL_nat.2 hk))
  unfold chgS at h
  refine fun _ _ _ => ⟨inL_nat.2 hk, fun _ _ _ => rCheck_p fun _ => ⟨fun h1 => by rwa [if_pos h1] at h, fun h1 => ?_⟩⟩
  rw [if_neg (fun hx => hx h1)] at h
  refine ⟨fun b => b = decide ((lget l k).Path = J ∨ Cl (lget l k).Path J = true), ?_, fun h2 => (decide_eq_true (Or.inl h2)).symm, fun h2 => rClash_p (by omega) (by decide) ?_⟩
  · rintro _ rfl
    refine ⟨fun h2 => by rwa [if_pos (of_decide_eq_true h2)] at h, fun h2 => ?_⟩
    rw [if_neg (of_decide_eq_false h2)] at h
    refine ⟨fun i => ∃ j : Nat, i = j ∧ j ≤ k ∧ ∀ m : Nat, m < j → (lget l (m : Int)).Path ≠ (lget l (k : Int)).Path, fun i => k - i.toNat, ⟨0, rfl, Nat.zero_le _, fun m hm => absurd hm (Nat.not_lt_zero _)⟩, ?_⟩
    rintro _ ⟨j, rfl, hj, hz⟩ _
    refine ⟨fun hlt => ⟨inL_nat.2 (by omega), fun _ _ _ => ⟨fun e => ?_, fun e => ⟨inR_i64.2 ⟨by omega, by omega⟩, ⟨j + 1, by omega, by omega, fun m hm => ?_⟩, by dsimp only; omega⟩⟩⟩, fun hge => ?_⟩
    · rw [if_pos ⟨lget l (j : Int), by rw [List.mem_take_iff_getElem]; exact ⟨j, by omega, (lget_lt (by omega)).symm⟩, e⟩] at h; exact h
    · rcases Nat.lt_or_ge m j with h3 | h3
      · exact hz m h3
      · rw [show m = j by omega]; exact e
    · have hjk : j = k := by omega
      subst hjk
      rw [if_neg (by
        rintro ⟨c, hc, he⟩
        obtain ⟨m, hm, rfl⟩ := List.mem_take_iff_getElem.1 hc
        rw [← lget_lt (by omega)] at he
        exact hz m (by omega) he)] at h
      have h5 : ¬ ((lget l (j : Int)).Gone = false ∧ (lget l (j : Int)).Data.length > 65536) := fun hx => by have := hx.2; omega
      refine ⟨⟨inL_nat.2 hk, fun _ _ _ => ⟨fun _ => trivial, fun _ => ⟨inL_nat.2 hk, fun _ _ _ => ⟨fun _ => trivial, fun _ => ⟨inL_nat.2 hk, fun _ _ _ => trivial⟩⟩⟩⟩⟩, fun h4 => ?_, fun h4 => ?_⟩
      · rwa [if_pos ⟨by simpa using h4.1, h4.2.1, h4.2.2⟩] at h
      · rw [if_neg (fun hx => h4 ⟨by rw [hx.1]; exact Bool.false_ne_true, hx.2.1, hx.2.2⟩), if_neg h5] at h; exact h
  · cases hc : Cl (lget l (k : Int)).Path J
    · exact (decide_eq_false (by rintro (h | h); exact h2 h; cases h)).symm
    · exact (decide_eq_true (Or.inr rfl)).symm
theorem wrong_p {l : Chs} {Q : Int → Prop} (hl : Few l) (h : Q (ckS l)) : rectolaw6_wrong_p J l Q := by
  unfold rectolaw6_wrong_p
  have hl20 := hl.1
  refine fun _ _ => ⟨fun b => b = false, ?_, rCheck_p fun _ => ⟨fun _ => by decide, fun h1 => absurd (by decide +kernel : Chk J = 0) h1⟩⟩
  rintro _ rfl
  refine ⟨fun hx => (by cases hx), fun _ => ⟨fun i => ∃ k : Nat, i = k ∧ k ≤ l.length ∧ ∀ j, j < k → chgS l j = 0, fun i => l.length - i.toNat, ⟨0, rfl, Nat.zero_le _, fun j hj => absurd hj (Nat.not_lt_zero _)⟩, ?_⟩⟩
  rintro _ ⟨k, rfl, hk, hz⟩ _
  refine ⟨fun hlt => ?_, fun hge => ?_⟩
  · have hkl : k < l.length := by omega
    refine one_p hkl hl.2 fun _ => ⟨fun hn => ?_, fun h0 => ⟨inR_i64.2 ⟨by omega, by omega⟩, ⟨k + 1, by omega, hkl, fun j hj => ?_⟩, by dsimp only; omega⟩⟩
    · rwa [ckS_at hkl hz hn] at h
    · rcases Nat.lt_or_ge j k with h3 | h3
      · exact hz j h3
      · rw [show j = k by omega]; exact h0
  · rw [ckS_ok fun i hi => hz i (by omega)] at h; exact h
end Go.Proofs.YtlkfoebophjhfaaGreatDoor
namespace Go.Proofs.YtlkfoebophjhfaaGreatDoor
open Go
def stepV (u : Vw) (c : Ch) : Vw := fun p => if c.Path = p then (if c.Gone = true then none else some (c.Mode, c.Data)) else u p
def afterV (u : Vw) (l : Chs) : Vw := l.foldl stepV u
theorem afterV_take {u : Vw} {l : Chs} {k : Nat} (h : k < l.length) : afterV u (l.take (k + 1)) = stepV (afterV u (l.take k)) (lget l (k : Int)) := by
  unfold afterV; rw [take_lget h, List.foldl_append]; rfl
theorem afterV_next {u : Vw} {l : Chs} (hn : (l.map S_journal_Change.Path).Nodup) : afterV u l = nextV u l := by
  have : ∀ k, k ≤ l.length → afterV u (l.take k) = nextV u (l.take k) := by
    intro k
    induction k with
    | zero => intro _; rfl
    | succ k ih =>
      intro hk
      have hkl : k < l.length := hk
      rw [afterV_take hkl, ih (Nat.le_of_lt hkl)]
      funext p
      rw [nextV_take hn hkl]; rfl
  have h := this l.length (Nat.le_refl _)
  rwa [List.take_length] at h
structure Ins (a : List Fl) (P : ByteArray) (c : Fl) (gone : Bool) (k : Nat) (out : List Fl) (put : Bool) : Prop where
  len : out.length ≤ k + 1
  len0 : put = false → out.length ≤ k
  srt : out.Pairwise fun x y => sless x.path y.path = true
  mem : ∀ x, x ∈ out ↔ (x ∈ a.take k ∧ x.path ≠ P) ∨ (x = c ∧ gone = false ∧ put = true)
  p0 : put = false → gone = false ∧ ∀ x ∈ a.take k, sless P x.path = false
  p1 : put = true → gone = false → ∀ y ∈ a.drop k, sless P y.path = true
section
variable {a : List Fl} {P : ByteArray} {c : Fl} {gone : Bool} {k : Nat} {out : List Fl} {put : Bool}
theorem Ins.start : Ins a P c gone 0 [] gone := by
  refine ⟨Nat.zero_le _, fun _ => Nat.zero_le _, List.Pairwise.nil, fun x => ?_, fun h => ⟨h, fun x hx => by cases hx⟩, fun h1 h2 => by rw [h1] at h2; cases h2⟩
  cases gone <;> simp
theorem snoc_srt {l : List Fl} {x : Fl} (h : l.Pairwise fun x y => sless x.path y.path = true) (hx : ∀ y ∈ l, sless y.path x.path = true) : (l ++ [x]).Pairwise fun x y => sless x.path y.path = true := by
  refine List.pairwise_append.2 ⟨h, List.pairwise_singleton _ _, fun y hy z hz => ?_⟩
  rw [List.mem_singleton.1 hz]; exact hx y hy
theorem Ins.ins (h : Ins a P c gone k out false) (hc : c.path = P) (hd : ∀ y ∈ a.drop k, sless P y.path = true) : Ins a P c gone k (out ++ [c]) true := by
  obtain ⟨g0, g1⟩ := h.p0 rfl
  refine ⟨by rw [List.length_append]; have := h.len0 rfl; simp; omega, fun h => (by cases h), snoc_srt h.srt fun y hy => ?_, fun x => ?_, fun h => (by cases h), fun _ _ => hd⟩
  · rcases (h.mem y).1 hy with ⟨h1, h2⟩ | ⟨_, _, h3⟩
    · rw [hc]; exact sl_tot (g1 y h1) (fun e => h2 e.symm)
    · cases h3
  · rw [List.mem_append, h.mem x, List.mem_singleton]
    constructor
    · rintro ((h1 | ⟨_, _, h3⟩) | h1)
      · exact .inl h1
      · cases h3
      · exact .inr ⟨h1, g0, rfl⟩
    · rintro (h1 | ⟨h1, _, _⟩)
      · exact .inl (.inl h1)
      · exact .inr h1
theorem mem_tk (hk : k < a.length) (x : Fl) : x ∈ a.take (k + 1) ↔ x ∈ a.take k ∨ x = lget a (k : Int) := by rw [take_lget hk, List.mem_append, List.mem_singleton]
theorem dr_eq (hk : k < a.length) : a.drop k = lget a (k : Int) :: a.drop (k + 1) := by rw [List.drop_eq_getElem_cons hk, lget_lt hk]
theorem tk_lt (hs : a.Pairwise fun x y => sless x.path y.path = true) (hk : k < a.length) : ∀ x ∈ a.take k, sless x.path (lget a (k : Int)).path = true := fun x hx => by
  have h := List.pairwise_append.1 (by rw [List.take_append_drop k a]; exact hs)
  exact h.2.2 x hx _ (by rw [dr_eq hk]; simp)
theorem dr_lt (hs : a.Pairwise fun x y => sless x.path y.path = true) (hk : k < a.length) : ∀ y ∈ a.drop (k + 1), sless (lget a (k : Int)).path y.path = true := fun y hy => by
  have h : (a.drop k).Pairwise fun x y => sless x.path y.path = true := hs.sublist (List.drop_sublist k a)
  rw [dr_eq hk] at h
  exact (List.pairwise_cons.1 h).1 y hy
theorem Ins.ne (h : Ins a P c gone k out put) (hc : c.path = P) (hs : a.Pairwise fun x y => sless x.path y.path = true) (hk : k < a.length) (hn : (lget a (k : Int)).path ≠ P) (hp : put = false → sless P (lget a (k : Int)).path = false) : Ins a P c gone (k + 1) (out ++ [lget a (k : Int)]) put := by
  refine ⟨by rw [List.length_append]; have := h.len; simp; omega, fun hpt => by rw [List.length_append]; have := h.len0 hpt; simp; omega, snoc_srt h.srt fun y hy => ?_, fun x => ?_, fun hpt => ⟨(h.p0 hpt).1, fun x hx => ?_⟩, fun h1 h2 y hy => h.p1 h1 h2 y (by rw [dr_eq hk]; exact List.mem_cons_of_mem _ hy)⟩
  · rcases (h.mem y).1 hy with ⟨h1, _⟩ | ⟨rfl, h2, h3⟩
    · exact tk_lt hs hk y h1
    · rw [hc]; exact h.p1 h3 h2 _ (by rw [dr_eq hk]; simp)
  · rw [List.mem_append, h.mem x, List.mem_singleton, mem_tk hk]
    constructor
    · rintro ((⟨h1, h2⟩ | h1) | rfl)
      · exact .inl ⟨.inl h1, h2⟩
      · exact .inr h1
      · exact .inl ⟨.inr rfl, hn⟩
    · rintro (⟨h1 | h1, h2⟩ | h1)
      · exact .inl (.inl ⟨h1, h2⟩)
      · exact .inr h1
      · exact .inl (.inr h1)
  · rcases (mem_tk hk x).1 hx with h1 | rfl
    · exact (h.p0 hpt).2 x h1
    · exact hp hpt
theorem Ins.eq (h : Ins a P c gone k out put) (hk : k < a.length) (he : (lget a (k : Int)).path = P) : Ins a P c gone (k + 1) out put := by
  refine ⟨by have := h.len; omega, fun hpt => by have := h.len0 hpt; omega, h.srt, fun x => ?_, fun hpt => ⟨(h.p0 hpt).1, fun x hx => ?_⟩, fun h1 h2 y hy => h.p1 h1 h2 y (by rw [dr_eq hk]; exact List.mem_cons_of_mem _ hy)⟩
  · rw [h.mem x, mem_tk hk]
    constructor
    · rintro (⟨h1, h2⟩ | h1)
      · exact .inl ⟨.inl h1, h2⟩
      · exact .inr h1
    · rintro (⟨h1 | rfl, h2⟩ | h1)
      · exact .inl ⟨h1, h2⟩
      · exact absurd he h2
      · exact .inr h1
  · rcases (mem_tk hk x).1 hx with h1 | rfl
    · exact (h.p0 hpt).2 x h1
    · rw [he]; exact sl_irr P
theorem Ins.fin {u : Vw} {d : Ch} (ha : Lst u a) (h : Ins a d.Path ⟨d.Path, d.Mode, strOfNums d.Data⟩ d.Gone a.length out true) : Lst (stepV u d) out := by
  have hm := h.mem
  rw [List.take_length] at hm
  refine ⟨h.srt, fun x hx => ?_, fun p hp => ?_⟩
  · rcases (hm x).1 hx with ⟨h1, h2⟩ | ⟨rfl, h2, _⟩
    · have hu : stepV u d x.path = u x.path := by unfold stepV; rw [if_neg (fun e => h2 e.symm)]
      unfold fileOf
      rw [hu]
      exact ha.mem x h1
    · have hu : stepV u d d.Path = some (d.Mode, d.Data) := by unfold stepV; rw [if_pos rfl, if_neg (by rw [h2]; exact Bool.false_ne_true)]
      unfold fileOf
      dsimp only
      rw [hu]
      exact ⟨by simp, rfl⟩
  · by_cases e : d.Path = p
    · refine ⟨_, (hm _).2 (.inr ⟨rfl, ?_, rfl⟩), e⟩
      unfold stepV at hp; rw [if_pos e] at hp
      cases hg : d.Gone
      · rfl
      · rw [if_pos hg] at hp; exact absurd rfl hp
    · have hu : stepV u d p = u p := by unfold stepV; rw [if_neg e]
      rw [hu] at hp
      obtain ⟨x, hx, rfl⟩ := ha.all p hp
      exact ⟨x, (hm x).2 (.inl ⟨hx, fun e2 => e e2.symm⟩), rfl⟩
end
theorem after_p {u : Vw} {a : List Fl} {l : Chs} {Q : List Fl → Bool → Prop} (ha : Lst u a) (hn : a.length ≤ 10000) (hs : ∀ p, u p ≠ none → p.size ≤ 100) (hl : Few l)
    (h : ∀ a' ok, Lst (afterV u l) a' → a'.length ≤ a.length + l.length → (∀ p, afterV u l p ≠ none → p.size ≤ 100) → (ok = true ↔ NC (afterV u l)) → Q a' ok) : rectolaw6_after_p a l Q := by
  have hl20 := hl.1
  unfold rectolaw6_after_p
  refine fun _ _ => ⟨fun a' i => ∃ k : Nat, i = k ∧ k ≤ l.length ∧ Lst (afterV u (l.take k)) a' ∧ a'.length ≤ a.length + k ∧ (∀ p, afterV u (l.take k) p ≠ none → p.size ≤ 100), fun _ i => l.length - i.toNat, ⟨0, rfl, Nat.zero_le _, ha, Nat.le_refl _, hs⟩, ?_⟩
  rintro b _ ⟨k, rfl, hk, hb, hbl, hbs⟩ _ _
  refine ⟨fun hlt => ?_, fun hge => ?_⟩
  · have hkl : k < l.length := by omega
    have hin := (inL_nat (L := l)).2 hkl
    have hfe := hl.2 _ (lget_mem hin)
    refine ⟨hin, fun _ _ _ => ⟨hin, fun _ _ _ => ⟨hin, fun _ _ _ => ⟨hin, fun _ _ _ => ?_⟩⟩⟩⟩
    obtain ⟨d, hd⟩ : ∃ d, d = lget l (k : Int) := ⟨_, rfl⟩
    rw [← hd] at hfe ⊢
    refine ⟨fun out put j => ∃ n : Nat, j = n ∧ n ≤ b.length ∧ Ins b d.Path ⟨d.Path, d.Mode, strOfNums d.Data⟩ d.Gone n out put, fun _ _ j => b.length - j.toNat, ⟨0, rfl, Nat.zero_le _, Ins.start⟩, ?_⟩
    rintro out put _ ⟨n, rfl, hn2, hi⟩ _ _
    have hil := hi.len
    refine ⟨fun hlt2 => ?_, fun hge2 => ?_⟩
    · have hnb : n < b.length := by omega
      have hinb := (inL_nat (L := b)).2 hnb
      refine ⟨fun out' put' => Ins b d.Path ⟨d.Path, d.Mode, strOfNums d.Data⟩ d.Gone (n + 1) out' put', fun out' put' hx _ => ⟨inR_i64.2 ⟨by omega, by omega⟩, ⟨n + 1, by omega, hnb, hx⟩, by dsimp only; omega⟩, ?_⟩
      refine ⟨fun s => (s = true → put = false ∧ sless d.Path (lget b (n : Int)).path = true) ∧ (s = false → put = false → sless d.Path (lget b (n : Int)).path = false), ?_, fun hp => ⟨fun h => (by cases h), fun _ h => by rw [hp] at h; cases h⟩, fun hp => ⟨hinb, fun _ _ _ => ⟨fun hx => ⟨by simpa using hp, ?_⟩, fun hx _ => ?_⟩⟩⟩
      · rintro s ⟨hs1, hs2⟩
        refine ⟨fun out' put' => Ins b d.Path ⟨d.Path, d.Mode, strOfNums d.Data⟩ d.Gone n out' put' ∧ (put' = false → sless d.Path (lget b (n : Int)).path = false), ?_, fun ht => ?_, fun hf => ⟨hi, hs2 hf⟩⟩
        · rintro out' put' ⟨hx, hy⟩ _
          have := hx.len
          exact ⟨hinb, fun _ _ _ => ⟨fun hne => ⟨hinb, fun _ _ _ => ⟨by simp; omega, hx.ne rfl hb.srt hnb hne hy⟩⟩, fun he => hx.eq hnb he⟩⟩
        · obtain ⟨hp, hlt3⟩ := hs1 ht
          subst hp
          refine ⟨by simp; omega, ?_⟩
          rintro _ rfl
          refine ⟨hi.ins rfl fun y hy => ?_, fun h => by cases h⟩
          rw [dr_eq hnb] at hy
          rcases List.mem_cons.1 hy with rfl | hy
          · exact hlt3
          · exact sl_tr hlt3 (dr_lt hb.srt hnb y hy)
      · rw [Bool.not_eq_true', Bool.or_eq_false_iff] at hx
        exact sl_tot hx.1 (of_decide_eq_false hx.2)
      · rw [Bool.not_eq_false', Bool.or_eq_true] at hx
        rcases hx with hx | hx
        · exact sl_asym hx
        · rw [of_decide_eq_true hx]; exact sl_irr _
    · have hnb : n = b.length := by omega
      subst hnb
      have key : ∀ o, Ins b d.Path ⟨d.Path, d.Mode, strOfNums d.Data⟩ d.Gone b.length o true → ∃ k' : Nat, ((k : Int) + 1) = k' ∧ k' ≤ l.length ∧ Lst (afterV u (l.take k')) o ∧ o.length ≤ a.length + k' ∧ (∀ p, afterV u (l.take k') p ≠ none → p.size ≤ 100) := fun o ho => by
        refine ⟨k + 1, by omega, hkl, ?_, by have := ho.len; omega, fun p hp => ?_⟩
        · rw [afterV_take hkl, ← hd]; exact Ins.fin hb ho
        · rw [afterV_take hkl, ← hd] at hp
          unfold stepV at hp
          by_cases e : d.Path = p
          · rw [← e]; exact hfe.1
          · rw [if_neg e] at hp; exact hbs p hp
      refine ⟨fun o => Ins b d.Path ⟨d.Path, d.Mode, strOfNums d.Data⟩ d.Gone b.length o true, fun o ho _ => ⟨inR_i64.2 ⟨by omega, by omega⟩, key o ho, by dsimp only; omega⟩, fun hp => ⟨by simp; omega, ?_⟩, fun hp => ?_⟩
      · rintro _ rfl
        have hp : put = false := by simpa using hp
        subst hp
        exact hi.ins rfl fun y hy => by rw [List.drop_length] at hy; cases hy
      · have hp : put = true := by simpa using hp
        subst hp
        exact hi
  -- whether two would clash
  have hkl : k = l.length := by omega
  subst hkl
  rw [List.take_length] at hb hbs
  have hz : ∀ {i : Nat}, i < b.length → (lget b (i : Int)).path.size ≤ 100 := fun {i} hi => hbs _ (hb.mem _ (lget_mem (inL_nat.2 hi))).1
  refine ⟨fun i => ∃ n : Nat, i = n ∧ n ≤ b.length ∧ ∀ x y : Nat, x < n → y < x → Cl (lget b (y : Int)).path (lget b (x : Int)).path = false, fun i => b.length - i.toNat, ⟨0, rfl, Nat.zero_le _, fun x y hx => absurd hx (Nat.not_lt_zero _)⟩, ?_⟩
  rintro _ ⟨n, rfl, hn2, hc⟩ _
  refine ⟨fun hlt2 => ?_, fun hge2 => ?_⟩
  · have hnb : n < b.length := by omega
    refine ⟨fun i => ∃ m : Nat, i = m ∧ m ≤ n ∧ ∀ y : Nat, y < m → Cl (lget b (y : Int)).path (lget b (n : Int)).path = false, fun i => n - i.toNat, ⟨0, rfl, Nat.zero_le _, fun y hy => absurd hy (Nat.not_lt_zero _)⟩, ?_⟩
    rintro _ ⟨m, rfl, hm, hcm⟩ _
    refine ⟨fun hlt3 => ?_, fun hge3 => ⟨inR_i64.2 ⟨by omega, by omega⟩, ⟨n + 1, by omega, hnb, fun x y hx hy => ?_⟩, by dsimp only; omega⟩⟩
    · have hmn : m < n := by omega
      refine ⟨inL_nat.2 (by omega), fun _ _ _ => ⟨inL_nat.2 hnb, fun _ _ _ => rClash_p (by have := hz (show m < b.length by omega); omega) (by have := hz hnb; omega) ⟨fun ht => ?_, fun hf => ⟨inR_i64.2 ⟨by omega, by omega⟩, ⟨m + 1, by omega, hmn, fun y hy => ?_⟩, by dsimp only; omega⟩⟩⟩⟩
      · refine h b false hb hbl hbs ⟨fun h => (by cases h), fun hnc => ?_⟩
        have := hnc _ _ (hb.mem _ (lget_mem (inL_nat.2 (show m < b.length by omega)))).1 (hb.mem _ (lget_mem (inL_nat.2 hnb))).1
        rw [ht] at this; cases this
      · rcases Nat.lt_or_ge y m with h3 | h3
        · exact hcm y h3
        · rw [show y = m by omega]; exact hf
    · rcases Nat.lt_or_ge x n with h3 | h3
      · exact hc x y h3 hy
      · have e1 : x = n := by omega
        subst e1
        exact hcm y (by omega)
  · have hnb : n = b.length := by omega
    subst hnb
    refine h b true hb hbl hbs ⟨fun _ p q hp hq => ?_, fun _ => rfl⟩
    obtain ⟨x, hx, rfl⟩ := hb.all p hp
    obtain ⟨y, hy, rfl⟩ := hb.all q hq
    obtain ⟨i, hi, rfl⟩ := List.mem_iff_getElem.1 hx
    obtain ⟨j, hj, rfl⟩ := List.mem_iff_getElem.1 hy
    rw [← lget_lt hi, ← lget_lt hj]
    rcases Nat.lt_trichotomy i j with h3 | h3 | h3
    · exact hc j i hj h3
    · subst h3; exact Cl_self _
    · rw [Cl_comm]; exact hc i j hi h3
end Go.Proofs.YtlkfoebophjhfaaGreatDoor
namespace Go.Proofs.YtlkfoebophjhfaaGreatDoor
open Go
/-- a file's path -/
def fp (j : Nat) : ByteArray := (ByteArray.mk #[102]) ++ (strOfNums ([iwrap .u8 ((97 : Int) + (j : Int))]))
theorem fp_usr : ∀ {j : Nat}, j < 6 → Usr (fp j) := by
  have : ∀ j : Fin 6, Chk (fp j.val) = 0 ∧ fp j.val ≠ J ∧ Cl (fp j.val) J = false := by decide +kernel
  exact fun {j} h => ⟨(this ⟨j, h⟩).1, (this ⟨j, h⟩).2.1, (this ⟨j, h⟩).2.2⟩
theorem fp_lt : ∀ {i j : Nat}, i < j → j < 6 → sless (fp i) (fp j) = true := by
  have : ∀ i j : Fin 6, i.val < j.val → sless (fp i.val) (fp j.val) = true := by decide +kernel
  exact fun {i j} h hj => this ⟨i, by omega⟩ ⟨j, hj⟩ h
/-- the changes of a row -/
def WL (k : Nat) (v : Int) : Chs := (List.range k).map fun j => ⟨fp j, false, 1, [v]⟩
def wV (k : Nat) (v : Int) : Vw := fun p => if (List.range k).any (fun j => decide (fp j = p)) = true then some (1, [v]) else none
theorem wV_at {k j : Nat} {v : Int} (h : j < k) : wV k v (fp j) = some (1, [v]) := by
  unfold wV; rw [if_pos (List.any_eq_true.2 ⟨j, List.mem_range.2 h, by simp⟩)]
theorem wV_in {k : Nat} {v : Int} {p : ByteArray} (h : wV k v p ≠ none) : ∃ j, j < k ∧ fp j = p := by
  unfold wV at h
  split at h
  · rename_i hx
    obtain ⟨j, hj, he⟩ := List.any_eq_true.1 hx
    exact ⟨j, List.mem_range.1 hj, of_decide_eq_true he⟩
  · exact absurd rfl h
theorem WL_mem {k : Nat} {v : Int} {c : Ch} : c ∈ WL k v ↔ ∃ j, j < k ∧ c = ⟨fp j, false, 1, [v]⟩ := by
  unfold WL; rw [List.mem_map]
  exact ⟨fun ⟨j, hj, e⟩ => ⟨j, List.mem_range.1 hj, e.symm⟩, fun ⟨j, hj, e⟩ => ⟨j, List.mem_range.2 hj, e.symm⟩⟩
theorem WL_srt {k : Nat} (hk : k ≤ 6) : SrtB ((List.range k).map fp) := by
  refine List.pairwise_map.2 ?_
  rw [List.pairwise_iff_getElem]
  intro i j hi hj hij
  rw [List.length_range] at hi hj
  rw [List.getElem_range, List.getElem_range]
  exact fp_lt hij (by omega)
theorem WL_good {k : Nat} {v : Int} (hk : k ≤ 6) : LGood (WL k v) := by
  refine ⟨by unfold WL; rw [List.length_map, List.length_range]; omega, fun c hc => ?_, ?_, fun c hc _ => ?_⟩
  · obtain ⟨j, hj, rfl⟩ := WL_mem.1 hc; exact fp_usr (by omega)
  · have e : (WL k v).map S_journal_Change.Path = (List.range k).map fp := by unfold WL; rw [List.map_map]; rfl
    rw [e]; exact (WL_srt hk).imp fun h => sl_ne h
  · obtain ⟨j, hj, rfl⟩ := WL_mem.1 hc; exact ⟨.inl rfl, by simp⟩
def Wst (k : Nat) (u : Vw) : Prop := u = u0 ∨ ∃ v, u = wV k v
theorem Wst.ok {k : Nat} {u : Vw} (hk : k ≤ 6) (h : Wst k u) : UOk u := by
  rcases h with rfl | ⟨v, rfl⟩
  · exact u0_ok
  · intro p hp
    obtain ⟨j, hj, rfl⟩ := wV_in hp; exact fp_usr (by omega)
theorem Wst.next {k : Nat} {u : Vw} {v : Int} (hk : k ≤ 6) (h : Wst k u) : nextV u (WL k v) = wV k v := by
  funext p
  by_cases hc : ∃ c ∈ WL k v, c.Path = p
  · obtain ⟨c, hc, rfl⟩ := hc
    rw [nextV_at (WL_good hk).nd hc]
    obtain ⟨j, hj, rfl⟩ := WL_mem.1 hc
    rw [wV_at hj]; rfl
  · rw [nextV_oth fun c h1 e => hc ⟨c, h1, e⟩]
    have hn : ∀ w, wV k w p = none := fun w => by
      cases hw : wV k w p with
      | none => rfl
      | some x =>
        obtain ⟨j, hj, rfl⟩ := wV_in (by rw [hw]; simp : wV k w p ≠ none)
        exact absurd ⟨_, WL_mem.2 ⟨j, hj, rfl⟩, rfl⟩ hc
    rcases h with rfl | ⟨w, rfl⟩
    · rw [hn]
    · rw [hn, hn]
theorem Up.arm {N : Nat} {f : S_simfs_FS} {n : Int} {keep : List Bool} (h : Up N f) (hk : keep.length ≤ 1000000) : Up N ⟨f.kept, f.files, f.pending, f.quota, f.now, f.inodes, f.ops_, f.off, true, max n 1, keep⟩ :=
  ⟨h.off, ⟨h.ok.files, h.ok.kept, h.ok.pend, h.ok.now, h.ok.inodes, h.ok.ops, hk⟩, h.sum, fun _ => by show 1 ≤ max n 1; omega⟩
/-- the power comes back -/
abbrev onF (f : S_simfs_FS) : S_simfs_FS := ⟨f.kept, f.files, f.pending, f.quota, f.now, f.inodes, f.ops_, false, f.armed, f.left, f.keep⟩
theorem Dn.on {N : Nat} {D : FL → Prop} {f : S_simfs_FS} (h : Dn N D f) : Up N (onF f) :=
  ⟨rfl, ⟨h.ok.files, h.ok.kept, h.ok.pend, h.ok.now, h.ok.inodes, h.ok.ops, h.ok.keep⟩, by show f.kept.length + f.pending.length ≤ N; rw [h.pend]; exact h.sum, fun ha => by
    have : f.armed = true := ha
    rw [h.armed] at this; cases this⟩
end Go.Proofs.YtlkfoebophjhfaaGreatDoor
namespace Go.Proofs.YtlkfoebophjhfaaGreatDoor
open Go
theorem chgS_in (l : Chs) (i : Nat) : chgS l i = 0 ∨ chgS l i = 1 ∨ chgS l i = 4 ∨ chgS l i = 5 ∨ chgS l i = 6 := by
  have hc : ∀ p, Chk p = 0 ∨ Chk p = 4 ∨ Chk p = 5 := fun p => by
    unfold Chk; split
    · exact .inr (.inl rfl)
    · split
      · exact .inl rfl
      · exact .inr (.inr rfl)
  unfold chgS
  split
  · rcases hc (lget l (i : Int)).Path with h | h | h
    · exact .inl h
    · exact .inr (.inr (.inl h))
    · exact .inr (.inr (.inr (.inl h)))
  split
  · exact .inr (.inr (.inr (.inl rfl)))
  split
  · exact .inr (.inr (.inr (.inr rfl)))
  split
  · exact .inr (.inl rfl)
  split
  · exact .inr (.inr (.inl rfl))
  · exact .inl rfl
theorem ckS_in (l : Chs) : ckS l = 0 ∨ ckS l = 1 ∨ ckS l = 4 ∨ ckS l = 5 ∨ ckS l = 6 := by
  by_cases h : ∀ i, i < l.length → chgS l i = 0
  · exact .inl (ckS_ok h)
  · have : ∃ i, i < l.length ∧ ¬ chgS l i = 0 := Classical.byContradiction fun hn => h fun i hi => Classical.byContradiction fun h2 => hn ⟨i, hi, h2⟩
    have key : ∀ n : Nat, ∀ i, i ≤ n → i < l.length → ¬ chgS l i = 0 → ∃ j, j < l.length ∧ (∀ q, q < j → chgS l q = 0) ∧ ¬ chgS l j = 0 := by
      intro n
      induction n with
      | zero => exact fun i hi hl hc => ⟨i, hl, fun q hq => absurd hq (by omega), hc⟩
      | succ n ih =>
        intro i hi hl hc
        by_cases hx : ∃ q, q < i ∧ ¬ chgS l q = 0
        · obtain ⟨q, hq, hqc⟩ := hx; exact ih q (by omega) (by omega) hqc
        · exact ⟨i, hl, fun q hq => Classical.byContradiction fun h2 => hx ⟨q, hq, h2⟩, hc⟩
    obtain ⟨i, hi, hc⟩ := this
    obtain ⟨j, hj, hz, hc⟩ := key i i (Nat.le_refl _) hi hc
    rw [ckS_at hj hz hc]; exact chgS_in l j
/-- how a row ends -/
def DoRes (N : Nat) (now : Vw) (l : Chs) (f f' : S_simfs_FS) (e : Int) : Prop :=
  (¬ e = 13 ∧ ((e = ckS l ∧ ¬ ckS l = 0) ∨ (e = 11 ∧ ckS l = 0 ∧ LGood l ∧ ¬ NC (nextV now l))) ∧ f' = f) ∨
  (e = 13 ∧ ckS l = 0 ∧ LGood l ∧ NC (nextV now l) ∧ Dn (N + 120) (Rv now l) f' ∧ f'.quota = 0) ∨
  (e = 0 ∧ ckS l = 0 ∧ LGood l ∧ NC (nextV now l) ∧ Up (N + 120) f' ∧ f'.kept = f'.files ∧ f'.pending = [] ∧ PI (nextV now l) f'.files ∧ f'.quota = 0)
theorem Do_gen {N : Nat} {f : S_simfs_FS} {now : Vw} {l : Chs} {Q : S_simfs_FS → Int → Prop} (hl : l.length ≤ 20) (hu0 : UOk now) (hup : Up N f) (hN : N + 130 ≤ 30000) (hkf : f.kept = f.files) (hpd : f.pending = []) (hpi : PI now f.files) (hq : f.quota = 0)
    (h : ∀ f' e, DoRes N now l f f' e → Q f' e) : journal_Do_p f J l Q := by
  refine Do_up hl hu0 hup hN hkf hpd hpi (fun hx => h _ _ (.inl ⟨?_, .inl ⟨rfl, hx⟩, rfl⟩)) (fun hg hx => h _ _ (.inl ⟨by decide, .inr ⟨rfl, good_ck hg, hg, hx⟩, rfl⟩)) (fun hg hnc _ f' hd hq' => h _ _ (.inr (.inl ⟨rfl, good_ck hg, hg, hnc, hd, hq'.trans hq⟩))) (fun _ _ f' _ _ _ _ _ _ h1 _ => by rw [hq] at h1; exact absurd h1 (by decide)) (fun hg hnc f' hu hk hp hpi' hq' _ => h _ _ (.inr (.inr ⟨rfl, good_ck hg, hg, hnc, hu, hk, hp, hpi', hq'.trans hq⟩)))
  rcases ckS_in l with e | e | e | e | e <;> rw [e] <;> decide
def Run (M : Nat) (u v : Vw) (o : S_simfs_FS) : Prop := Up M o ∧ o.kept = o.files ∧ o.pending = [] ∧ (PI u o.files ∨ PI v o.files)
theorem JOps_p {f : S_simfs_FS} {Q : S_simfs_FS → Int → Prop} (h : Q f f.ops_) : simfs_FS_Ops_p f Q := by unfold simfs_FS_Ops_p; intros; exact h
theorem JOff_p {f : S_simfs_FS} {Q : S_simfs_FS → Bool → Prop} (h : Q f f.off) : simfs_FS_Off_p f Q := by unfold simfs_FS_Off_p; intros; exact h
theorem JournalPlays_p {rows : List Chs} {cuts : List Int} {keep : List Bool} {Q : Bool → Prop} (h : Q true) : rectolaw6_JournalPlays_p rows cuts keep Q := by
  unfold rectolaw6_JournalPlays_p
  refine fun _ _ _ => known_p ⟨fun hx => (by cases hx), fun _ => ⟨fun _ => h, fun hx => New_p ?_⟩⟩
  have hrl : rows.length ≤ 10 := by have : ¬ (rows.length : Int) > 10 := fun e => hx (.inl e); omega
  have hcl : cuts.length ≤ 30 := by have : ¬ (cuts.length : Int) > 30 := fun e => hx (.inr (.inl e)); omega
  have hkl : keep.length ≤ 60 := by have : ¬ (keep.length : Int) > 60 := fun e => hx (.inr (.inr e)); omega
  clear hx
  refine ⟨fun now at_ i o => ∃ m : Nat, i = m ∧ m ≤ rows.length ∧ 0 ≤ at_ ∧ at_ ≤ cuts.length ∧ ∃ u, Lst u now ∧ UOk u ∧ now.length ≤ 20 * m ∧ Up (1000 * m) o ∧ o.kept = o.files ∧ o.pending = [] ∧ o.quota = 0 ∧ PI u o.files, fun _ _ i _ => rows.length - i.toNat, ⟨0, rfl, Nat.zero_le _, Int.le_refl _, by omega, u0, Lst.nil, u0_ok, Nat.le_refl _, new_up 0, rfl, rfl, rfl, new_pi 0⟩, ?_⟩
  rintro now at_ _ o ⟨m, rfl, hm, ha0, ha1, u, hlu, huo, hnl, hup, hkf, hpd, hq, hpi⟩ _ _ _
  refine ⟨fun hlt => ?_, fun _ => h⟩
  have hml : m < rows.length := by omega
  have hinr := (inL_nat (L := rows)).2 hml
  refine ⟨fun now' at' o' => 0 ≤ at' ∧ at' ≤ cuts.length ∧ ∃ u, Lst u now' ∧ UOk u ∧ now'.length ≤ 20 * (m + 1) ∧ Up (1000 * (m + 1)) o' ∧ o'.kept = o'.files ∧ o'.pending = [] ∧ o'.quota = 0 ∧ PI u o'.files, ?_, hinr, fun _ => few_p (fun hf => ⟨fun hx => (by cases hx), fun _ => ?_⟩) ⟨fun _ => h, fun hx => by cases hx⟩⟩
  · rintro now' at' o' ⟨h1, h2, h3⟩ _ _
    exact ⟨inR_i64.2 ⟨by omega, by omega⟩, ⟨m + 1, by omega, hml, h1, h2, h3⟩, by dsimp only; omega⟩
  obtain ⟨l, hl⟩ : ∃ l, l = lget rows (m : Int) := ⟨_, rfl⟩
  rw [← hl] at hf ⊢
  refine ⟨fun at' o' => 0 ≤ at' ∧ at' ≤ cuts.length ∧ Up (1000 * m) o' ∧ o'.kept = o'.files ∧ o'.pending = [] ∧ o'.quota = 0 ∧ PI u o'.files, ?_, fun hlt2 => ⟨⟨ha0, hlt2⟩, fun _ => Arm_p (by omega) ⟨inR_i64.2 ⟨by omega, by omega⟩, by omega, by omega, hup.arm (by omega), hkf, hpd, hq, hpi⟩⟩, fun _ => ⟨ha0, ha1, hup, hkf, hpd, hq, hpi⟩⟩
  rintro at' g ⟨hb0, hb1, hgu, hgk, hgp, hgq, hgpi⟩ _
  refine ⟨hinr, fun _ => after_p hlu (by omega) (fun p hp => by have := Chk_size (huo p hp).chk; omega) hf fun nx ok hnx hnxl _ hok _ => ⟨hinr, fun _ => Do_gen hf.1 huo hgu (by omega) hgk hgp hgpi hgq fun f' e hres _ => ⟨hinr, fun _ => wrong_p hf fun _ => ?_⟩⟩⟩
  have hl20 := hf.1
  -- the word that the law expects
  obtain ⟨w, hw⟩ : ∃ w : Int, w = if (decide (ckS l = 0) && !ok) = true then 11 else ckS l := ⟨_, rfl⟩
  refine ⟨fun s => s = (decide (ckS l = 0) && !ok), ?_, fun h0 => by rw [h0]; simp, fun h0 => by rw [decide_eq_false h0]; simp⟩
  rintro _ rfl
  refine ⟨fun w' => w = w', ?_, fun hx => by rw [hw, if_pos hx], fun hx => by rw [hw, if_neg (by rw [hx]; exact Bool.false_ne_true)]⟩
  rintro _ rfl _
  have hnx2 : LGood l → Lst (nextV u l) nx ∧ (ok = true ↔ NC (nextV u l)) := fun hg => by rw [afterV_next hg.nd] at hnx hok; exact ⟨hnx, hok⟩
  refine ⟨fun hne => ⟨fun hx => ?_, fun hew => ?_⟩, fun he13 => ?_⟩
  · -- it tells what the law expects
    exfalso
    rcases hres with ⟨_, h1 | h1, _⟩ | ⟨h1, _⟩ | ⟨h1, h2, hg, h3, _⟩
    · apply hx; rw [hw, if_neg (by rw [decide_eq_false h1.2]; simp)]; exact h1.1
    · apply hx
      have : ok = false := by cases hk : ok; rfl; exact absurd ((hnx2 h1.2.2.1).2.1 hk) h1.2.2.2
      rw [hw, if_pos (by rw [decide_eq_true h1.2.1, this]; rfl)]; exact h1.1
    · exact hne h1
    · apply hx
      rw [hw, if_neg (by rw [(hnx2 hg).2.2 h3]; simp), h2]; exact h1
  · have hst : Up (1000 * m + 120) f' ∧ f'.kept = f'.files ∧ f'.pending = [] ∧ f'.quota = 0 ∧ (e = 0 → LGood l ∧ PI (nextV u l) f'.files) ∧ (¬ e = 0 → PI u f'.files) := by
      rcases hres with ⟨_, h1, rfl⟩ | ⟨h1, _⟩ | ⟨h1, h2, hg, h3, h4, h5, h6, h7, h8⟩
      · refine ⟨hgu.up (by omega), hgk, hgp, hgq, fun he => ?_, fun _ => hgpi⟩
        exfalso
        rcases h1 with h1 | h1
        · exact h1.2 (h1.1.symm.trans he)
        · rw [h1.1] at he; cases he
      · exact absurd h1 hne
      · exact ⟨h4, h5, h6, h8, fun _ => ⟨hg, h7⟩, fun hx => absurd h1 hx⟩
    obtain ⟨s1, s2, s3, s4, s5, s6⟩ := hst
    refine ⟨fun now' => ∃ u', Lst u' now' ∧ UOk u' ∧ now'.length ≤ 20 * (m + 1) ∧ PI u' f'.files, ?_, fun he => ?_, fun he => ⟨u, hlu, huo, by omega, s6 he⟩⟩
    · rintro now' ⟨u', t1, t2, t3, t4⟩ _
      have ho : ownL f'.files = [] := ownL_nil.2 fun p hp => (t4 p).trans (t2.own hp)
      have he : allL f'.files = now' := (t4.lst t2 s1.ok.files.2.2).eq t1
      refine Idle_p s1.ok (by omega) (fun ho => by rw [s1.off] at ho; cases ho) (fun _ _ => all_p s1 (by omega) fun _ => ?_)
      refine ⟨fun s => s = false, ?_, ⟨fun _ => ⟨fun _ => same_p (fun _ => ⟨fun _ => ⟨fun _ => by rw [ho]; rfl, fun _ => rfl⟩, fun hx => by cases hx⟩) (fun hx => absurd he hx), fun hx => absurd rfl hx⟩, fun hx => absurd rfl hx⟩⟩
      rintro _ rfl
      exact ⟨fun hx => (by cases hx), fun _ => ⟨hb0, hb1, u', t1, t2, t3, s1.up (by omega), s2, s3, s4, t4⟩⟩
    · obtain ⟨hg, hpn⟩ := s5 he
      exact ⟨nextV u l, (hnx2 hg).1, huo.next hg, by omega, hpn⟩
  · -- the power has gone
    have hcr : ckS l = 0 ∧ LGood l ∧ NC (nextV u l) ∧ Dn (1000 * m + 120) (Rv u l) f' ∧ f'.quota = 0 := by
      rcases hres with ⟨h1, _⟩ | ⟨_, h2⟩ | ⟨h1, _⟩
      · exact absurd he13 h1
      · exact h2
      · rw [h1] at he13; cases he13
    obtain ⟨c1, hg, hnc, hd, hdq⟩ := hcr
    obtain ⟨hlnx, hok2⟩ := hnx2 hg
    have hw0 : w = 0 := by rw [hw, if_neg (by rw [hok2.2 hnc]; simp), c1]
    have hun := huo.next hg
    refine ⟨fun s => s = false, ?_, fun _ => rfl, fun hx => absurd hw0 hx⟩
    rintro _ rfl
    refine ⟨fun hx => (by cases hx), fun _ => ⟨fun at2 kk o => ∃ q : Nat, kk = q ∧ q ≤ 3 ∧ 0 ≤ at2 ∧ at2 ≤ cuts.length ∧ o.quota = 0 ∧ ((Dn (1000 * m + 120 + 65 * q) (Rv u l) o ∧ q ≤ 2) ∨ Run (1000 * m + 120 + 65 * q) u (nextV u l) o), fun _ kk _ => 3 - kk.toNat, ⟨0, rfl, Nat.zero_le _, hb0, hb1, hdq, .inl ⟨hd, Nat.zero_le _⟩⟩, ?_⟩⟩
    rintro at2 _ o2 ⟨q, rfl, hq3, hc0, hc1, hoq, hst⟩ _ _
    refine ⟨fun s o3 => o3 = o2 ∧ ((s = true ∧ Dn (1000 * m + 120 + 65 * q) (Rv u l) o2 ∧ q ≤ 2) ∨ (s = false ∧ Run (1000 * m + 120 + 65 * q) u (nextV u l) o2)), ?_, fun _ => JOff_p ⟨rfl, ?_⟩, fun hge => ⟨rfl, .inr ⟨rfl, ?_⟩⟩⟩
    rotate_left
    · rcases hst with ⟨h1, h2⟩ | h1
      · exact .inl ⟨h1.off, h1, h2⟩
      · exact .inr ⟨h1.1.off, h1⟩
    · rcases hst with ⟨h1, h2⟩ | h1
      · omega
      · exact h1
    rintro s o3 ⟨rfl, hs⟩
    refine ⟨fun ht => ?_, fun hf2 => ?_⟩
    · -- the power comes back
      have hs : Dn (1000 * m + 120 + 65 * q) (Rv u l) o3 ∧ q ≤ 2 := by
        rcases hs with ⟨_, h1⟩ | ⟨h1, _⟩
        · exact h1
        · rw [ht] at h1; cases h1
      obtain ⟨h1, h2⟩ := hs
      refine On_p ⟨fun s2 => s2 = true → q < 2 ∧ at2 < cuts.length, ?_, fun hx hy => ⟨by have := of_decide_eq_true hy; omega, hx⟩, fun _ hy => by cases hy⟩
      intro s2 hs2
      refine ⟨fun at3 o4 => 0 ≤ at3 ∧ at3 ≤ cuts.length ∧ Up (1000 * m + 120 + 65 * q) o4 ∧ o4.kept = o4.files ∧ o4.pending = [] ∧ Rv u l o4.files ∧ o4.quota = 0 ∧ (o4.armed = true → q < 2), ?_, fun hx => ?_, fun _ => ⟨hc0, hc1, h1.on, h1.files.symm, h1.pend, by show Rv u l o3.files; rw [h1.files]; exact h1.d, hoq, fun ha => by
        have : o3.armed = true := ha
        rw [h1.armed] at this; cases this⟩⟩
      · rintro at3 o4 ⟨d0, d1, d2, d3, d4, d5, d6, d7⟩ _
        refine Recover_up hg huo hnc d2 (by omega) d3 d4 d5 (fun ha f5 hd5 hq5 _ => ⟨inR_i64.2 ⟨by omega, by omega⟩, ⟨q + 1, by omega, by omega, d0, d1, hq5.trans d6, .inl ⟨hd5.up (by omega), by have := d7 ha; omega⟩⟩, by dsimp only; omega⟩) (fun f5 hu5 hk5 hp5 hpi5 hq5 _ _ => ⟨inR_i64.2 ⟨by omega, by omega⟩, ⟨q + 1, by omega, by omega, d0, d1, hq5.trans d6, .inr ⟨hu5.up (by omega), hk5, hp5, hpi5⟩⟩, by dsimp only; omega⟩)
      · obtain ⟨e1, e2⟩ := hs2 hx
        refine ⟨⟨hc0, e2⟩, fun _ => Arm_p (by omega) ⟨inR_i64.2 ⟨by omega, by omega⟩, by omega, by omega, h1.on.arm (by omega), h1.files.symm, h1.pend, by show Rv u l o3.files; rw [h1.files]; exact h1.d, hoq, fun _ => e1⟩⟩
    · -- it runs
      rcases hs with ⟨h1, _⟩ | ⟨_, r1, r2, r3, r4⟩
      · rw [hf2] at h1; cases h1
      refine JOff_p ⟨fun o4 => o3 = o4, ?_, fun hx => (by rw [r1.off] at hx; cases hx), fun _ => rfl⟩
      rintro _ rfl
      obtain ⟨u', hu'o, hu'p⟩ : ∃ u', UOk u' ∧ PI u' o3.files := by
        rcases r4 with h1 | h1
        · exact ⟨u, huo, h1⟩
        · exact ⟨nextV u l, hun, h1⟩
      have ho : ownL o3.files = [] := ownL_nil.2 fun p hp => (hu'p p).trans (hu'o.own hp)
      refine Recover_idle hu'o r1 (by omega) hu'p fun _ => ⟨fun hx => absurd rfl hx, fun _ => all_p r1 (by omega) fun _ => Idle_p r1.ok (by omega) (fun ho => by rw [r1.off] at ho; cases ho) (fun _ _ => ?_)⟩
      refine ⟨fun s => s = false, ?_, ⟨fun _ => ⟨fun _ => by rw [ho]; rfl, fun hx => absurd rfl hx⟩, fun hx => absurd rfl hx⟩⟩
      rintro _ rfl
      refine ⟨fun hx => (by cases hx), fun _ => ⟨fun s => (s = true → allL o3.files = nx) ∧ (s = false → PI u o3.files), ?_, fun _ => same_p (fun hx => ⟨fun _ => hx, fun hy => by cases hy⟩) (fun hx => ⟨fun hy => (by cases hy), fun _ => ?_⟩), fun hx => absurd hw0 hx⟩⟩
      · rintro s3 ⟨t1, t2⟩
        refine ⟨fun now' => ∃ u', Lst u' now' ∧ UOk u' ∧ now'.length ≤ 20 * (m + 1) ∧ PI u' o3.files, ?_, fun hx => ?_, fun hx => ?_⟩
        · rintro now' ⟨u2, v1, v2, v3, v4⟩ _
          refine JOps_p fun _ => ⟨fun s o4 => s = false ∧ o4 = o3, ?_, Recover_idle hu'o r1 (by omega) hu'p fun _ => ⟨fun _ => JOps_p fun _ => ⟨by simp, rfl⟩, fun hx => absurd rfl hx⟩⟩
          rintro _ _ ⟨rfl, rfl⟩
          exact ⟨fun hx => (by cases hx), fun _ => ⟨hc0, hc1, u2, v1, v2, v3, r1.up (by omega), r2, r3, hoq, v4⟩⟩
        · have hx2 := t1 hx
          rcases r4 with h1 | h1
          · exact ⟨u, by rw [← hx2]; exact h1.lst huo r1.ok.files.2.2, huo, by omega, h1⟩
          · exact ⟨nextV u l, hlnx, hun, by omega, h1⟩
        · have hx2 := t2 hx
          have hx3 : allL o3.files = now := (hx2.lst huo r1.ok.files.2.2).eq hlu
          exact same_p (fun _ => ⟨fun hy => (by cases hy), fun _ => ⟨u, hlu, huo, by omega, hx2⟩⟩) (fun hy => absurd hx3 hy)
      · rcases r4 with h1 | h1
        · exact h1
        · exact absurd ((h1.lst hun r1.ok.files.2.2).eq hlnx) hx
end Go.Proofs.YtlkfoebophjhfaaGreatDoor
