/- The plain law of JournalMoves. -/
import Derived.Test.YtlkfoebophjhfaaGreatDoorJ6j
namespace Go.Proofs.YtlkfoebophjhfaaGreatDoor
open Go
theorem rUnder_p {p d : ByteArray} {Q : Bool → Prop} (hz : d.size ≤ 1000000) (h : Q (Und p d)) : rectoref1_Under_p p d Q := by
  unfold rectoref1_Under_p; simp only [inR_i64]; intro hm hd
  unfold Und at h
  unfold maxLen at hm hd
  refine ⟨fun he => ?_, fun he => ?_⟩
  · rwa [if_pos he] at h
  rw [if_neg he] at h
  exact ⟨⟨⟨by omega, by omega⟩, fun h1 => ⟨⟨by omega, by omega, by omega⟩, fun _ => ⟨⟨by omega, by omega⟩, trivial⟩, fun _ => trivial⟩, fun _ => trivial⟩, h⟩
end Go.Proofs.YtlkfoebophjhfaaGreatDoor
namespace Go.Proofs.YtlkfoebophjhfaaGreatDoor
open Go
abbrev Fl := S_rectolaw6_file
/-- a file, as the law tells it -/
def fileOf (v : Vw) (p : ByteArray) : Fl := match v p with
  | some (m, b) => ⟨p, m, strOfNums b⟩
  | none => ⟨p, 0, strOfNums []⟩
/-- all files that are no journal's -/
def allL (x : FL) : List Fl := ((keysB x).filter fun p => !own p).map (fileOf (V x))
theorem all_p {N : Nat} {f : S_simfs_FS} {Q : S_simfs_FS → List Fl → Bool → Prop} (hup : Up N f) (hN : N ≤ 30000) (h : Q f (allL f.files) true) : rectolaw6_all_p f J Q := by
  unfold rectolaw6_all_p
  have hlen : (keysB f.files).length ≤ N := by rw [keysB_len]; exact hup.ok.files.2.1
  refine fun _ => List_p hup.ok (by omega) (fun ho => by rw [hup.off] at ho; cases ho) (fun _ _ _ => ⟨fun h => absurd rfl h, fun _ => ?_⟩)
  refine ⟨fun out i o => ∃ k : Nat, i = k ∧ k ≤ (keysB f.files).length ∧ o = f ∧ out.length ≤ k ∧ out = (((keysB f.files).take k).filter fun p => !own p).map (fileOf (V f.files)), fun _ i _ => (keysB f.files).length - i.toNat, ⟨0, rfl, Nat.zero_le _, rfl, Nat.le_refl _, rfl⟩, ?_⟩
  rintro out _ o ⟨k, rfl, hk, rfl, hol, ho⟩ _ _
  refine ⟨fun hlt => ?_, fun hge => ?_⟩
  · have hkl : k < (keysB o.files).length := by omega
    have hm := lget_mem (inL_nat.2 hkl)
    have hv := V_mem.2 (keysB_mem.1 hm)
    obtain ⟨⟨m, b⟩, hx⟩ := Option.ne_none_iff_exists'.1 hv
    obtain ⟨x1, x2, x3⟩ := V_some hx
    have hf : findS o (lget (keysB o.files) (k : Int)) = (mgetD o.files (lget (keysB o.files) (k : Int)), 0) := by
      unfold findS; rw [if_neg (by rw [hup.off]; exact Bool.false_ne_true), if_neg (by rw [x1]; exact fun h => by cases h)]
    refine ⟨fun out' o' => o' = o ∧ out'.length ≤ k + 1 ∧ out' = (((keysB o.files).take (k + 1)).filter fun p => !own p).map (fileOf (V o.files)), ?_, inL_nat.2 hkl, fun _ => rUnder_p (by decide) ⟨fun hu => ?_, fun hu => ⟨inL_nat.2 hkl, fun _ => Read_p hup.ok fun _ _ => ⟨inL_nat.2 hkl, fun _ => Stat_p fun _ _ _ _ _ => ?_⟩⟩⟩⟩
    · rintro _ _ ⟨rfl, h1, h2⟩ _
      exact ⟨inR_i64.2 ⟨by omega, by omega⟩, ⟨k + 1, by omega, hkl, rfl, h1, h2⟩, by dsimp only; omega⟩
    · refine ⟨rfl, by omega, ?_⟩
      rw [take_lget hkl, List.filter_append, List.map_append, ← ho]
      have : own (lget (keysB o.files) (k : Int)) = true := hu
      simp [this]
    · have hs : statS o (lget (keysB o.files) (k : Int)) = (⟨((mgetD o.files (lget (keysB o.files) (k : Int))).b.length : Int), (mgetD o.files (lget (keysB o.files) (k : Int))).time, (mgetD o.files (lget (keysB o.files) (k : Int))).inode, m⟩, 0) := by
        unfold statS; rw [hf]; simp only [if_true]; rw [x2]
      rw [hs, hf]
      refine ⟨by show inR .i64 ((0 : Int) + 0); decide, fun h => absurd rfl h, fun _ => ⟨inL_nat.2 hkl, fun _ => ⟨by simp; omega, rfl, by simp; omega, ?_⟩⟩⟩
      rw [take_lget hkl, List.filter_append, List.map_append, ← ho]
      have : own (lget (keysB o.files) (k : Int)) = false := hu
      simp only [List.filter_cons, this, Bool.not_false, if_true, List.filter_nil, List.map_cons, List.map_nil]
      rw [x3]
      unfold fileOf; rw [hx]
  · have hkl : k = (keysB o.files).length := by omega
    rw [hkl, List.take_length] at ho
    rw [ho]; exact h
/-! the empty disk -/
abbrev u0 : Vw := fun _ => none
theorem u0_ok : UOk u0 := fun _ h => absurd rfl h
theorem new_up (q : Int) : Up 0 (newF q) := ⟨rfl, newF_ok q, Nat.le_refl _, fun h => by cases h⟩
theorem new_pi (q : Int) : PI u0 (newF q).files := fun _ => rfl
theorem New_p {q : Int} {Q : S_simfs_FS → Prop} (h : Q (newF q)) : simfs_New_p q Q := by unfold simfs_New_p; exact fun _ => h
abbrev pA : ByteArray := ByteArray.mk #[97]
abbrev pB : ByteArray := ByteArray.mk #[98]
abbrev kl : Chs := [⟨pA, false, 1, [120]⟩, ⟨pB, true, 0, []⟩]
theorem kl_good : LGood kl := by
  refine ⟨by decide, fun c hc => ?_, by decide, fun c hc hg => ?_⟩
  · rcases List.mem_cons.1 hc with rfl | hc
    · exact ⟨by decide +kernel, by decide, by decide +kernel⟩
    · rw [List.mem_singleton.1 hc]; exact ⟨by decide +kernel, by decide, by decide +kernel⟩
  · rcases List.mem_cons.1 hc with rfl | hc
    · exact ⟨.inl rfl, by decide⟩
    · rw [List.mem_singleton.1 hc] at hg; cases hg
theorem nextV_in {now : Vw} {l : Chs} {p : ByteArray} (h : nextV now l p ≠ none) : now p ≠ none ∨ ∃ c ∈ l, c.Path = p := by
  by_cases hc : ∃ c ∈ l, c.Path = p
  · exact .inr hc
  · rw [nextV_oth fun c h1 e => hc ⟨c, h1, e⟩] at h; exact .inl h
/-- one file alone -/
theorem NC_one {u : Vw} {a : ByteArray} (h : ∀ p, u p ≠ none → p = a) : NC u := fun p q hp hq => by rw [h p hp, h q hq]; exact Cl_self a
theorem kl_one : ∀ p, nextV u0 kl p ≠ none → p = pA := by
  intro p hp
  rcases nextV_in hp with h | ⟨c, hc, rfl⟩
  · exact absurd rfl h
  · rw [nextV_at kl_good.nd hc] at hp
    rcases List.mem_cons.1 hc with rfl | hc
    · rfl
    · rw [List.mem_singleton.1 hc] at hp; exact absurd rfl hp
theorem known_p {Q : Bool → Prop} (h : Q true) : rectolaw6_known_p Q := by
  unfold rectolaw6_known_p
  refine New_p ?_
  have hnx : nextV u0 kl pA = some (1, [120]) := nextV_at kl_good.nd (c := ⟨pA, false, 1, [120]⟩) (by simp)
  refine Do_up (now := u0) (l := kl) (by decide) u0_ok (new_up 0) (by decide) rfl rfl (new_pi 0) (fun hx => absurd (good_ck kl_good) hx) (fun _ hx => absurd (NC_one kl_one) hx) (fun _ _ ha => by cases ha) (fun _ _ f' _ _ _ _ _ _ h1 _ => by
    have : (0 : Int) < 0 := h1
    omega) (fun hg hnc f' hu hk hp hpi _ _ _ => ?_)
  obtain ⟨x1, x2, x3⟩ := V_some ((hpi pA).trans hnx)
  have hf : findS f' pA = (mgetD f'.files pA, 0) := by
    unfold findS; rw [if_neg (by rw [hu.off]; exact Bool.false_ne_true), if_neg (by rw [x1]; exact fun h => by cases h)]
  refine Read_p hu.ok fun _ _ => Idle_p hu.ok (by decide) (fun ho => by rw [hu.off] at ho; cases ho) (fun _ _ => ?_)
  have ho : ownL f'.files = [] := ownL_nil.2 fun p hp => (hpi p).trans ((u0_ok.next kl_good).own hp)
  refine Recover_idle (u0_ok.next kl_good) hu (by decide) hpi fun _ => ⟨fun b => b = true, by rintro _ rfl; exact h, ?_⟩
  rw [hf, ho, x3]
  refine ⟨by show inR .i64 ((0 : Int) + 0); decide, by show inR .i64 ((0 : Int) + 0 + 0); decide, by show inR .i64 ((0 : Int) + 0 + 0 + 0); decide, fun _ => ⟨fun _ => ⟨fun _ => ?_, fun hx => absurd rfl hx⟩, fun hx => absurd (by decide +kernel) hx⟩, fun hx => absurd rfl hx⟩
  unfold journal_Check_p journal_folder_p
  refine fun _ _ _ => ⟨fun b => b = true, ?_, Check_p fun _ => ⟨fun hx => absurd hx (by decide +kernel), fun _ => rfl⟩⟩
  rintro _ rfl
  exact ⟨fun _ _ => ⟨fun _ _ => rfl, fun hx => by cases hx⟩, fun hx => by cases hx⟩
end Go.Proofs.YtlkfoebophjhfaaGreatDoor
namespace Go.Proofs.YtlkfoebophjhfaaGreatDoor
open Go
abbrev pD : ByteArray := ByteArray.mk #[100]
abbrev pDA : ByteArray := ByteArray.mk #[100, 47, 97]
/-- a path, and one that it clashes with -/
structure Two (x y : ByteArray) : Prop where
  ux : Usr x
  uy : Usr y
  ne : x ≠ y
  cl : Cl x y = true
theorem usr_D : Usr pD := ⟨by decide +kernel, by decide, by decide +kernel⟩
theorem usr_DA : Usr pDA := ⟨by decide +kernel, by decide, by decide +kernel⟩
theorem two_up : Two pDA pD := ⟨usr_DA, usr_D, by decide, by decide +kernel⟩
theorem two_dn : Two pD pDA := ⟨usr_D, usr_DA, by decide, by decide +kernel⟩
theorem one_good {x : ByteArray} {b : List Int} (hx : Usr x) (hb : b.length ≤ 300) : LGood [⟨x, false, 1, b⟩] := by
  refine ⟨by show 1 ≤ 20; omega, fun c hc => ?_, by simp, fun c hc _ => ?_⟩
  · rw [List.mem_singleton.1 hc]; exact hx
  · rw [List.mem_singleton.1 hc]; exact ⟨.inl rfl, by show b.length ≤ _; omega⟩
theorem two_good {x y : ByteArray} {c : List Int} (h : Two x y) (hb : c.length ≤ 300) : LGood [⟨y, false, 2, c⟩, ⟨x, true, 0, []⟩] := by
  refine ⟨by show 2 ≤ 20; omega, fun d hd => ?_, by simpa using fun e => h.ne e.symm, fun d hd hg => ?_⟩
  · rcases List.mem_cons.1 hd with rfl | hd
    · exact h.uy
    · rw [List.mem_singleton.1 hd]; exact h.ux
  · rcases List.mem_cons.1 hd with rfl | hd
    · exact ⟨.inr rfl, by show c.length ≤ _; omega⟩
    · rw [List.mem_singleton.1 hd] at hg; cases hg
theorem keys_one {N : Nat} {f : S_simfs_FS} {u : Vw} {y : ByteArray} {m : Int} {c : List Int} (hu : Up N f) (hpi : PI u f.files) (h1 : ∀ p, u p ≠ none → p = y) (h2 : u y = some (m, c)) (hy : own y = false) : allL f.files = [⟨y, m, strOfNums c⟩] := by
  have hk : keysB f.files = [y] := by
    have hm : ∀ p, p ∈ keysB f.files ↔ p = y := fun p => by
      rw [keysB_mem, ← V_mem, hpi p]
      exact ⟨h1 p, fun e => by rw [e, h2]; simp⟩
    have hn := keysB_nd hu.ok.files.2.2
    rcases hq : keysB f.files with _ | ⟨a, _ | ⟨b, r⟩⟩
    · have := (hm y).2 rfl; rw [hq] at this; cases this
    · have := (hm a).1 (by rw [hq]; simp); rw [this]
    · have e1 := (hm a).1 (by rw [hq]; simp)
      have e2 := (hm b).1 (by rw [hq]; simp)
      rw [hq] at hn
      exact absurd (by rw [e1, e2]; simp) (List.nodup_cons.1 hn).1
  unfold allL
  rw [hk]
  simp only [List.filter_cons, hy, Bool.not_false, if_true, List.filter_nil, List.map_cons, List.map_nil]
  unfold fileOf
  rw [hpi y, h2]
theorem JournalMoves_p {b c : List Int} {up : Bool} {Q : Bool → Prop} (h : Q true) : rectolaw6_JournalMoves_p b c up Q := by
  unfold rectolaw6_JournalMoves_p
  refine fun _ _ => known_p ⟨fun hx => (by cases hx), fun _ => ⟨fun _ => h, fun hbc => New_p ?_⟩⟩
  have hb : b.length ≤ 300 := by have : ¬ (b.length : Int) > 300 := fun e => hbc (.inl e); omega
  have hc : c.length ≤ 300 := by have : ¬ (c.length : Int) > 300 := fun e => hbc (.inr e); omega
  refine ⟨fun x y => Two x y, ?_, fun _ => two_up, fun _ => two_dn⟩
  intro x y ht _ _
  have g1 := one_good ht.ux hb
  have g2 := one_good ht.uy hc
  have g3 := two_good ht hc
  have n1 : nextV u0 [⟨x, false, 1, b⟩] x = some (1, b) := nextV_at g1.nd (c := ⟨x, false, 1, b⟩) (by simp)
  have s1 : ∀ p, nextV u0 [⟨x, false, 1, b⟩] p ≠ none → p = x := fun p hp => by
    rcases nextV_in hp with h | ⟨d, hd, rfl⟩
    · exact absurd rfl h
    · rw [List.mem_singleton.1 hd]
  have uk1 := u0_ok.next g1
  refine Do_up (now := u0) (by show 1 ≤ 20; omega) u0_ok (new_up 0) (by decide) rfl rfl (new_pi 0) (fun hx => absurd (good_ck g1) hx) (fun _ hx => absurd (NC_one s1) hx) (fun _ _ ha => by cases ha) (fun _ _ f' _ _ _ _ _ _ h1 _ => by
    have : (0 : Int) < 0 := h1
    omega) (fun _ _ f1 hu1 hk1 hp1 hpi1 hq1 ha1 _ => ?_)
  have n2x : nextV (nextV u0 [⟨x, false, 1, b⟩]) [⟨y, false, 1, c⟩] x = some (1, b) := by
    rw [nextV_oth fun d hd e => by rw [List.mem_singleton.1 hd] at e; exact ht.ne e.symm]; exact n1
  have n2y : nextV (nextV u0 [⟨x, false, 1, b⟩]) [⟨y, false, 1, c⟩] y = some (1, c) := nextV_at g2.nd (c := ⟨y, false, 1, c⟩) (by simp)
  have nc2 : ¬ NC (nextV (nextV u0 [⟨x, false, 1, b⟩]) [⟨y, false, 1, c⟩]) := fun hx => by
    have := hx x y (by rw [n2x]; simp) (by rw [n2y]; simp)
    rw [ht.cl] at this; cases this
  refine Do_up (now := nextV u0 [⟨x, false, 1, b⟩]) (by show 1 ≤ 20; omega) uk1 hu1 (by decide) hk1 hp1 hpi1 (fun hx => absurd (good_ck g2) hx) (fun _ _ _ => ?_) (fun _ hx => absurd hx nc2) (fun _ hx => absurd hx nc2) (fun _ hx => absurd hx nc2)
  have n3 : nextV (nextV u0 [⟨x, false, 1, b⟩]) [⟨y, false, 2, c⟩, ⟨x, true, 0, []⟩] y = some (2, c) := nextV_at g3.nd (c := ⟨y, false, 2, c⟩) (by simp)
  have n3x : nextV (nextV u0 [⟨x, false, 1, b⟩]) [⟨y, false, 2, c⟩, ⟨x, true, 0, []⟩] x = none := nextV_at g3.nd (c := ⟨x, true, 0, []⟩) (by simp)
  have s3 : ∀ p, nextV (nextV u0 [⟨x, false, 1, b⟩]) [⟨y, false, 2, c⟩, ⟨x, true, 0, []⟩] p ≠ none → p = y := fun p hp => by
    have hpx : p ≠ x := by rintro rfl; exact hp n3x
    rcases nextV_in hp with h | ⟨d, hd, rfl⟩
    · exact absurd (s1 p h) hpx
    · rcases List.mem_cons.1 hd with rfl | hd
      · rfl
      · rw [List.mem_singleton.1 hd] at hpx; exact absurd rfl hpx
  refine Do_up (now := nextV u0 [⟨x, false, 1, b⟩]) (by show 2 ≤ 20; omega) uk1 hu1 (by decide) hk1 hp1 hpi1 (fun hx => absurd (good_ck g3) hx) (fun _ hx => absurd (NC_one s3) hx) (fun _ _ ha => by rw [ha1 rfl] at ha; cases ha) (fun _ _ f' _ _ _ _ _ _ h1 _ => by
    rw [hq1] at h1
    have : (0 : Int) < 0 := h1
    omega) (fun _ _ f3 hu3 hk3 hp3 hpi3 hq3 ha3 _ => ?_)
  refine all_p hu3 (by decide) (fun _ => ⟨fun r => r = true, by rintro _ rfl; exact h, ?_⟩)
  have ha := keys_one hu3 hpi3 s3 n3 ht.uy.und.1
  rw [ha]
  have hin : inL [(⟨y, 2, strOfNums c⟩ : Fl)] 0 := ⟨Int.le_refl 0, show (0 : Int) < 1 by decide⟩
  refine ⟨fun _ => ⟨fun _ => ⟨fun _ => ⟨fun _ => ⟨fun _ => ⟨hin, fun _ _ _ => ⟨fun _ => ⟨hin, fun _ _ _ => ⟨fun _ => ⟨hin, fun _ _ _ => rfl⟩, fun hx => absurd rfl hx⟩⟩, fun hx => absurd rfl hx⟩⟩, fun hx => absurd rfl hx⟩, fun hx => absurd rfl hx⟩, fun hx => absurd rfl hx⟩, fun hx => absurd rfl hx⟩, fun hx => absurd rfl hx⟩
end Go.Proofs.YtlkfoebophjhfaaGreatDoor
