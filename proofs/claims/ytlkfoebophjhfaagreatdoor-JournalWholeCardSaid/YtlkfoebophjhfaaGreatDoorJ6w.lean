/- The plain law of JournalWhole. -/
import Derived.Test.YtlkfoebophjhfaaGreatDoorJ6j
namespace Go.Proofs.YtlkfoebophjhfaaGreatDoor
open Go
theorem rUnder_p {p d : ByteArray} {Q : Bool → Prop} (hz : d.size ≤ 1000000) (h : Q (Und p d)) : rectoref1_Under_p p d Q := by
  unfold rectoref1_Under_p; simp only [inR_i64]; intro hm hd
  unfold Und at h
  unfold maxLen at hm hd
  refine ⟨fun he => ?_, fun he => ?_⟩
  · rwa [if_pos he] at h
  rw [if_neg he] at h
  exact ⟨⟨⟨by omega, by omega⟩, fun h1 => ⟨⟨by omega, by omega, by omega⟩, fun _ => ⟨⟨by omega, by omega⟩, trivial⟩, fun _ => trivial⟩, fun _ => trivial⟩, h⟩
end Go.Proofs.YtlkfoebophjhfaaGreatDoor
namespace Go.Proofs.YtlkfoebophjhfaaGreatDoor
open Go
abbrev Fl := S_rectolaw6_file
/-- a file, as the law tells it -/
def fileOf (v : Vw) (p : ByteArray) : Fl := match v p with
  | some (m, b) => ⟨p, m, strOfNums b⟩
  | none => ⟨p, 0, strOfNums []⟩
/-- all files that are no journal's -/
def allL (x : FL) : List Fl := ((keysB x).filter fun p => !own p).map (fileOf (V x))
theorem all_p {N : Nat} {f : S_simfs_FS} {Q : S_simfs_FS → List Fl → Bool → Prop} (hup : Up N f) (hN : N ≤ 30000) (h : Q f (allL f.files) true) : rectolaw6_all_p f J Q := by
  unfold rectolaw6_all_p
  have hlen : (keysB f.files).length ≤ N := by rw [keysB_len]; exact hup.ok.files.2.1
  refine fun _ => List_p hup.ok (by omega) (fun ho => by rw [hup.off] at ho; cases ho) (fun _ _ _ => ⟨fun h => absurd rfl h, fun _ => ?_⟩)
  refine ⟨fun out i o => ∃ k : Nat, i = k ∧ k ≤ (keysB f.files).length ∧ o = f ∧ out.length ≤ k ∧ out = (((keysB f.files).take k).filter fun p => !own p).map (fileOf (V f.files)), fun _ i _ => (keysB f.files).length - i.toNat, ⟨0, rfl, Nat.zero_le _, rfl, Nat.le_refl _, rfl⟩, ?_⟩
  rintro out _ o ⟨k, rfl, hk, rfl, hol, ho⟩ _ _
  refine ⟨fun hlt => ?_, fun hge => ?_⟩
  · have hkl : k < (keysB o.files).length := by omega
    have hm := lget_mem (inL_nat.2 hkl)
    have hv := V_mem.2 (keysB_mem.1 hm)
    obtain ⟨⟨m, b⟩, hx⟩ := Option.ne_none_iff_exists'.1 hv
    obtain ⟨x1, x2, x3⟩ := V_some hx
    have hf : findS o (lget (keysB o.files) (k : Int)) = (mgetD o.files (lget (keysB o.files) (k : Int)), 0) := by
      unfold findS; rw [if_neg (by rw [hup.off]; exact Bool.false_ne_true), if_neg (by rw [x1]; exact fun h => by cases h)]
    refine ⟨fun out' o' => o' = o ∧ out'.length ≤ k + 1 ∧ out' = (((keysB o.files).take (k + 1)).filter fun p => !own p).map (fileOf (V o.files)), ?_, inL_nat.2 hkl, fun _ => rUnder_p (by decide) ⟨fun hu => ?_, fun hu => ⟨inL_nat.2 hkl, fun _ => Read_p hup.ok fun _ _ => ⟨inL_nat.2 hkl, fun _ => Stat_p fun _ _ _ _ _ => ?_⟩⟩⟩⟩
    · rintro _ _ ⟨rfl, h1, h2⟩ _
      exact ⟨inR_i64.2 ⟨by omega, by omega⟩, ⟨k + 1, by omega, hkl, rfl, h1, h2⟩, by dsimp only; omega⟩
    · refine ⟨rfl, by omega, ?_⟩
      rw [take_lget hkl, List.filter_append, List.map_append, ← ho]
      have : own (lget (keysB o.files) (k : Int)) = true := hu
      simp [this]
    · have hs : statS o (lget (keysB o.files) (k : Int)) = (⟨((mgetD o.files (lget (keysB o.files) (k : Int))).b.length : Int), (mgetD o.files (lget (keysB o.files) (k : Int))).time, (mgetD o.files (lget (keysB o.files) (k : Int))).inode, m⟩, 0) := by
        unfold statS; rw [hf]; simp only [if_true]; rw [x2]
      rw [hs, hf]
      refine ⟨by show inR .i64 ((0 : Int) + 0); decide, fun h => absurd rfl h, fun _ => ⟨inL_nat.2 hkl, fun _ => ⟨by simp; omega, rfl, by simp; omega, ?_⟩⟩⟩
      rw [take_lget hkl, List.filter_append, List.map_append, ← ho]
      have : own (lget (keysB o.files) (k : Int)) = false := hu
      simp only [List.filter_cons, this, Bool.not_false, if_true, List.filter_nil, List.map_cons, List.map_nil]
      rw [x3]
      unfold fileOf; rw [hx]
  · have hkl : k = (keysB o.files).length := by omega
    rw [hkl, List.take_length] at ho
    rw [ho]; exact h
/-! the empty disk -/
abbrev u0 : Vw := fun _ => none
theorem u0_ok : UOk u0 := fun _ h => absurd rfl h
theorem new_up (q : Int) : Up 0 (newF q) := ⟨rfl, newF_ok q, Nat.le_refl _, fun h => by cases h⟩
theorem new_pi (q : Int) : PI u0 (newF q).files := fun _ => rfl
theorem New_p {q : Int} {Q : S_simfs_FS → Prop} (h : Q (newF q)) : simfs_New_p q Q := by unfold simfs_New_p; exact fun _ => h
abbrev pA : ByteArray := ByteArray.mk #[97]
abbrev pB : ByteArray := ByteArray.mk #[98]
abbrev kl : Chs := [⟨pA, false, 1, [120]⟩, ⟨pB, true, 0, []⟩]
theorem kl_good : LGood kl := by
  refine ⟨by decide, fun c hc => ?_, by decide, fun c hc hg => ?_⟩
  · rcases List.mem_cons.1 hc with rfl | hc
    · exact ⟨by decide +kernel, by decide, by decide +kernel⟩
    · rw [List.mem_singleton.1 hc]; exact ⟨by decide +kernel, by decide, by decide +kernel⟩
  · rcases List.mem_cons.1 hc with rfl | hc
    · exact ⟨.inl rfl, by decide⟩
    · rw [List.mem_singleton.1 hc] at hg; cases hg
theorem nextV_in {now : Vw} {l : Chs} {p : ByteArray} (h : nextV now l p ≠ none) : now p ≠ none ∨ ∃ c ∈ l, c.Path = p := by
  by_cases hc : ∃ c ∈ l, c.Path = p
  · exact .inr hc
  · rw [nextV_oth fun c h1 e => hc ⟨c, h1, e⟩] at h; exact .inl h
/-- one file alone -/
theorem NC_one {u : Vw} {a : ByteArray} (h : ∀ p, u p ≠ none → p = a) : NC u := fun p q hp hq => by rw [h p hp, h q hq]; exact Cl_self a
theorem kl_one : ∀ p, nextV u0 kl p ≠ none → p = pA := by
  intro p hp
  rcases nextV_in hp with h | ⟨c, hc, rfl⟩
  · exact absurd rfl h
  · rw [nextV_at kl_good.nd hc] at hp
    rcases List.mem_cons.1 hc with rfl | hc
    · rfl
    · rw [List.mem_singleton.1 hc] at hp; exact absurd rfl hp
theorem known_p {Q : Bool → Prop} (h : Q true) : rectolaw6_known_p Q := by
  unfold rectolaw6_known_p
  refine New_p ?_
  have hnx : nextV u0 kl pA = some (1, [120]) := nextV_at kl_good.nd (c := ⟨pA, false, 1, [120]⟩) (by simp)
  refine Do_up (now := u0) (l := kl) (by decide) u0_ok (new_up 0) (by decide) rfl rfl (new_pi 0) (fun hx => absurd (good_ck kl_good) hx) (fun _ hx => absurd (NC_one kl_one) hx) (fun _ _ ha => by cases ha) (fun _ _ f' _ _ _ _ _ _ h1 _ => by
    have : (0 : Int) < 0 := h1
    omega) (fun hg hnc f' hu hk hp hpi _ _ _ => ?_)
  obtain ⟨x1, x2, x3⟩ := V_some ((hpi pA).trans hnx)
  have hf : findS f' pA = (mgetD f'.files pA, 0) := by
    unfold findS; rw [if_neg (by rw [hu.off]; exact Bool.false_ne_true), if_neg (by rw [x1]; exact fun h => by cases h)]
  refine Read_p hu.ok fun _ _ => Idle_p hu.ok (by decide) (fun ho => by rw [hu.off] at ho; cases ho) (fun _ _ => ?_)
  have ho : ownL f'.files = [] := ownL_nil.2 fun p hp => (hpi p).trans ((u0_ok.next kl_good).own hp)
  refine Recover_idle (u0_ok.next kl_good) hu (by decide) hpi fun _ => ⟨fun b => b = true, by rintro _ rfl; exact h, ?_⟩
  rw [hf, ho, x3]
  refine ⟨by show inR .i64 ((0 : Int) + 0); decide, by show inR .i64 ((0 : Int) + 0 + 0); decide, by show inR .i64 ((0 : Int) + 0 + 0 + 0); decide, fun _ => ⟨fun _ => ⟨fun _ => ?_, fun hx => absurd rfl hx⟩, fun hx => absurd (by decide +kernel) hx⟩, fun hx => absurd rfl hx⟩
  unfold journal_Check_p journal_folder_p
  refine fun _ _ _ => ⟨fun b => b = true, ?_, Check_p fun _ => ⟨fun hx => absurd hx (by decide +kernel), fun _ => rfl⟩⟩
  rintro _ rfl
  exact ⟨fun _ _ => ⟨fun _ _ => rfl, fun hx => by cases hx⟩, fun hx => by cases hx⟩
end Go.Proofs.YtlkfoebophjhfaaGreatDoor
namespace Go.Proofs.YtlkfoebophjhfaaGreatDoor
open Go Go.Sort
theorem sl_eq (a b : ByteArray) : sless a b = decide (LL a < LL b) := by
  unfold sless; rw [bytesLess_eq, ByteArray.toList_eq, ByteArray.toList_eq]
theorem sl_irr (a : ByteArray) : sless a a = false := by rw [sl_eq]; exact decide_eq_false (List.lt_irrefl _)
theorem sl_tr {a b c : ByteArray} (h : sless a b = true) (k : sless b c = true) : sless a c = true := by
  rw [sl_eq] at *; exact decide_eq_true (List.lt_trans (of_decide_eq_true h) (of_decide_eq_true k))
theorem sl_tot {a b : ByteArray} (h : sless a b = false) (hn : a ≠ b) : sless b a = true := by
  rw [sl_eq] at *
  have h := of_decide_eq_false h
  refine decide_eq_true ?_
  by_cases h1 : LL b < LL a
  · exact h1
  · exact absurd (LL_inj.2 (List.le_antisymm (List.not_lt.1 h1) (List.not_lt.1 h))) hn
theorem sl_asym {a b : ByteArray} (h : sless a b = true) : sless b a = false := by
  cases hb : sless b a
  · rfl
  · have := sl_tr h hb; rw [sl_irr] at this; cases this
theorem sl_ne {a b : ByteArray} (h : sless a b = true) : a ≠ b := by rintro rfl; rw [sl_irr] at h; cases h
abbrev SrtB (a : List ByteArray) : Prop := a.Pairwise fun x y => sless x y = true
theorem srt_eq : ∀ {a b : List ByteArray}, SrtB a → SrtB b → (∀ p, p ∈ a ↔ p ∈ b) → a = b
  | [], [], _, _, _ => rfl
  | [], y :: b, _, _, h => by have := (h y).2 (by simp); cases this
  | x :: a, [], _, _, h => by have := (h x).1 (by simp); cases this
  | x :: a, y :: b, ha, hb, h => by
    obtain ⟨a1, a2⟩ := List.pairwise_cons.1 ha
    obtain ⟨b1, b2⟩ := List.pairwise_cons.1 hb
    have e : x = y := by
      rcases List.mem_cons.1 ((h x).1 (by simp)) with e | e
      · exact e
      · rcases List.mem_cons.1 ((h y).2 (by simp)) with e2 | e2
        · exact e2.symm
        · have := sl_asym (b1 x e); rw [a1 y e2] at this; cases this
    subst e
    rw [srt_eq a2 b2 fun p => ?_]
    have hp := h p
    simp only [List.mem_cons] at hp
    constructor
    · intro hm
      rcases hp.1 (.inr hm) with e | e
      · subst e; exact absurd rfl (sl_ne (a1 _ hm))
      · exact e
    · intro hm
      rcases hp.2 (.inr hm) with e | e
      · subst e; exact absurd rfl (sl_ne (b1 _ hm))
      · exact e
theorem keysB_srt {l : FL} (h : ND l) : SrtB (keysB l) := by
  have hn := keysB_nd h
  have ht : ∀ a b c : List UInt8, leB a b = true → leB b c = true → leB a c = true := fun a b c h1 h2 => decide_eq_true (List.le_trans (of_decide_eq_true h1) (of_decide_eq_true h2))
  have hto : ∀ a b : List UInt8, (leB a b || leB b a) = true := fun a b => by
    by_cases h : a ≤ b
    · rw [show leB a b = true from decide_eq_true h]; rfl
    · rw [show leB b a = true from decide_eq_true (List.le_of_lt (List.not_le.1 h)), Bool.or_true]
  have hs : ((keysL l).mergeSort leB).Pairwise (fun a b => leB a b = true) := List.pairwise_mergeSort ht hto _
  have hk : (keysB l).Pairwise (fun a b => sless b a = false) := by
    unfold keysB
    refine List.pairwise_map.2 (hs.imp fun {x y} hxy => ?_)
    rw [sl_eq]
    exact decide_eq_false (List.not_lt.2 (by simpa [LL] using of_decide_eq_true hxy))
  exact (hk.and hn).imp fun {x y} hxy => sl_tot hxy.1 fun e => hxy.2 e.symm
/-- files as the law tells them -/
structure Lst (u : Vw) (a : List Fl) : Prop where
  srt : a.Pairwise fun x y => sless x.path y.path = true
  mem : ∀ x ∈ a, u x.path ≠ none ∧ x = fileOf u x.path
  all : ∀ p, u p ≠ none → ∃ x ∈ a, x.path = p
theorem Lst.eq {u : Vw} {a b : List Fl} (ha : Lst u a) (hb : Lst u b) : a = b := by
  have e : a.map (·.path) = b.map (·.path) := by
    refine srt_eq (List.pairwise_map.2 ha.srt) (List.pairwise_map.2 hb.srt) fun p => ?_
    rw [List.mem_map, List.mem_map]
    constructor
    · rintro ⟨x, hx, rfl⟩; exact hb.all _ (ha.mem x hx).1
    · rintro ⟨x, hx, rfl⟩; exact ha.all _ (hb.mem x hx).1
  have e1 : ∀ {c : List Fl}, Lst u c → c = (c.map (·.path)).map (fileOf u) := fun {c} hc => by
    rw [List.map_map]
    conv => lhs; rw [← List.map_id c]
    exact List.map_congr_left fun x hx => (hc.mem x hx).2
  rw [e1 ha, e1 hb, e]
theorem fileOf_path (u : Vw) (p : ByteArray) : (fileOf u p).path = p := by unfold fileOf; split <;> rfl
theorem PI.lst {u : Vw} {x : FL} (hu : UOk u) (hn : ND x) (h : PI u x) : Lst u (allL x) := by
  have hV : V x = u := funext h
  unfold allL
  rw [hV]
  refine ⟨List.pairwise_map.2 (((keysB_srt hn).filter _).imp fun {a b} hab => by rw [fileOf_path, fileOf_path]; exact hab), fun y hy => ?_, fun p hp => ?_⟩
  · obtain ⟨p, hp, rfl⟩ := List.mem_map.1 hy
    rw [fileOf_path]
    exact ⟨by rw [← h p]; exact V_mem.2 (keysB_mem.1 (List.mem_filter.1 hp).1), rfl⟩
  · refine ⟨fileOf u p, List.mem_map_of_mem (List.mem_filter.2 ⟨keysB_mem.2 (V_mem.1 (by rw [h p]; exact hp)), ?_⟩), fileOf_path u p⟩
    rw [(hu p hp).und.1]; rfl
theorem Lst.nil : Lst u0 [] := ⟨List.Pairwise.nil, fun _ h => (by cases h), fun _ h => absurd rfl h⟩
/-! what the law says of changes -/
end Go.Proofs.YtlkfoebophjhfaaGreatDoor
namespace Go.Proofs.YtlkfoebophjhfaaGreatDoor
open Go
structure Ins (a : List Fl) (P : ByteArray) (c : Fl) (gone : Bool) (k : Nat) (out : List Fl) (put : Bool) : Prop where
  len : out.length ≤ k + 1
  len0 : put = false → out.length ≤ k
  srt : out.Pairwise fun x y => sless x.path y.path = true
  mem : ∀ x, x ∈ out ↔ (x ∈ a.take k ∧ x.path ≠ P) ∨ (x = c ∧ gone = false ∧ put = true)
  p0 : put = false → gone = false ∧ ∀ x ∈ a.take k, sless P x.path = false
  p1 : put = true → gone = false → ∀ y ∈ a.drop k, sless P y.path = true
section
variable {a : List Fl} {P : ByteArray} {c : Fl} {gone : Bool} {k : Nat} {out : List Fl} {put : Bool}
theorem snoc_srt {l : List Fl} {x : Fl} (h : l.Pairwise fun x y => sless x.path y.path = true) (hx : ∀ y ∈ l, sless y.path x.path = true) : (l ++ [x]).Pairwise fun x y => sless x.path y.path = true := by
  refine List.pairwise_append.2 ⟨h, List.pairwise_singleton _ _, fun y hy z hz => ?_⟩
  rw [List.mem_singleton.1 hz]; exact hx y hy
theorem mem_tk (hk : k < a.length) (x : Fl) : x ∈ a.take (k + 1) ↔ x ∈ a.take k ∨ x = lget a (k : Int) := by rw [take_lget hk, List.mem_append, List.mem_singleton]
theorem dr_eq (hk : k < a.length) : a.drop k = lget a (k : Int) :: a.drop (k + 1) := by rw [List.drop_eq_getElem_cons hk, lget_lt hk]
theorem tk_lt (hs : a.Pairwise fun x y => sless x.path y.path = true) (hk : k < a.length) : ∀ x ∈ a.take k, sless x.path (lget a (k : Int)).path = true := fun x hx => by
  have h := List.pairwise_append.1 (by rw [List.take_append_drop k a]; exact hs)
  exact h.2.2 x hx _ (by rw [dr_eq hk]; simp)
theorem Ins.ne (h : Ins a P c gone k out put) (hc : c.path = P) (hs : a.Pairwise fun x y => sless x.path y.path = true) (hk : k < a.length) (hn : (lget a (k : Int)).path ≠ P) (hp : put = false → sless P (lget a (k : Int)).path = false) : Ins a P c gone (k + 1) (out ++ [lget a (k : Int)]) put := by
  refine ⟨by rw [List.length_append]; have := h.len; simp; omega, fun hpt => by rw [List.length_append]; have := h.len0 hpt; simp; omega, snoc_srt h.srt fun y hy => ?_, fun x => ?_, fun hpt => ⟨(h.p0 hpt).1, fun x hx => ?_⟩, fun h1 h2 y hy => h.p1 h1 h2 y (by rw [dr_eq hk]; exact List.mem_cons_of_mem _ hy)⟩
  · rcases (h.mem y).1 hy with ⟨h1, _⟩ | ⟨rfl, h2, h3⟩
    · exact tk_lt hs hk y h1
    · rw [hc]; exact h.p1 h3 h2 _ (by rw [dr_eq hk]; simp)
  · rw [List.mem_append, h.mem x, List.mem_singleton, mem_tk hk]
    constructor
    · rintro ((⟨h1, h2⟩ | h1) | rfl)
      · exact .inl ⟨.inl h1, h2⟩
      · exact .inr h1
      · exact .inl ⟨.inr rfl, hn⟩
    · rintro (⟨h1 | h1, h2⟩ | h1)
      · exact .inl (.inl ⟨h1, h2⟩)
      · exact .inr h1
      · exact .inl (.inr h1)
  · rcases (mem_tk hk x).1 hx with h1 | rfl
    · exact (h.p0 hpt).2 x h1
    · exact hp hpt
theorem Ins.eq (h : Ins a P c gone k out put) (hk : k < a.length) (he : (lget a (k : Int)).path = P) : Ins a P c gone (k + 1) out put := by
  refine ⟨by have := h.len; omega, fun hpt => by have := h.len0 hpt; omega, h.srt, fun x => ?_, fun hpt => ⟨(h.p0 hpt).1, fun x hx => ?_⟩, fun h1 h2 y hy => h.p1 h1 h2 y (by rw [dr_eq hk]; exact List.mem_cons_of_mem _ hy)⟩
  · rw [h.mem x, mem_tk hk]
    constructor
    · rintro (⟨h1, h2⟩ | h1)
      · exact .inl ⟨.inl h1, h2⟩
      · exact .inr h1
    · rintro (⟨h1 | rfl, h2⟩ | h1)
      · exact .inl ⟨h1, h2⟩
      · exact absurd he h2
      · exact .inr h1
  · rcases (mem_tk hk x).1 hx with h1 | rfl
    · exact (h.p0 hpt).2 x h1
    · rw [he]; exact sl_irr P
end
end Go.Proofs.YtlkfoebophjhfaaGreatDoor
namespace Go.Proofs.YtlkfoebophjhfaaGreatDoor
open Go
/-- a file's path -/
def fp (j : Nat) : ByteArray := (ByteArray.mk #[102]) ++ (strOfNums ([iwrap .u8 ((97 : Int) + (j : Int))]))
theorem fp_usr : ∀ {j : Nat}, j < 6 → Usr (fp j) := by
  have : ∀ j : Fin 6, Chk (fp j.val) = 0 ∧ fp j.val ≠ J ∧ Cl (fp j.val) J = false := by decide +kernel
  exact fun {j} h => ⟨(this ⟨j, h⟩).1, (this ⟨j, h⟩).2.1, (this ⟨j, h⟩).2.2⟩
theorem fp_lt : ∀ {i j : Nat}, i < j → j < 6 → sless (fp i) (fp j) = true := by
  have : ∀ i j : Fin 6, i.val < j.val → sless (fp i.val) (fp j.val) = true := by decide +kernel
  exact fun {i j} h hj => this ⟨i, by omega⟩ ⟨j, hj⟩ h
theorem fp_cl : ∀ {i j : Nat}, i < 6 → j < 6 → Cl (fp i) (fp j) = false := by
  have : ∀ i j : Fin 6, Cl (fp i.val) (fp j.val) = false := by decide +kernel
  exact fun {i j} hi hj => this ⟨i, hi⟩ ⟨j, hj⟩
/-- the changes of a row -/
def WL (k : Nat) (v : Int) : Chs := (List.range k).map fun j => ⟨fp j, false, 1, [v]⟩
def wV (k : Nat) (v : Int) : Vw := fun p => if (List.range k).any (fun j => decide (fp j = p)) = true then some (1, [v]) else none
theorem wV_at {k j : Nat} {v : Int} (h : j < k) : wV k v (fp j) = some (1, [v]) := by
  unfold wV; rw [if_pos (List.any_eq_true.2 ⟨j, List.mem_range.2 h, by simp⟩)]
theorem wV_in {k : Nat} {v : Int} {p : ByteArray} (h : wV k v p ≠ none) : ∃ j, j < k ∧ fp j = p := by
  unfold wV at h
  split at h
  · rename_i hx
    obtain ⟨j, hj, he⟩ := List.any_eq_true.1 hx
    exact ⟨j, List.mem_range.1 hj, of_decide_eq_true he⟩
  · exact absurd rfl h
theorem WL_mem {k : Nat} {v : Int} {c : Ch} : c ∈ WL k v ↔ ∃ j, j < k ∧ c = ⟨fp j, false, 1, [v]⟩ := by
  unfold WL; rw [List.mem_map]
  exact ⟨fun ⟨j, hj, e⟩ => ⟨j, List.mem_range.1 hj, e.symm⟩, fun ⟨j, hj, e⟩ => ⟨j, List.mem_range.2 hj, e.symm⟩⟩
theorem WL_srt {k : Nat} (hk : k ≤ 6) : SrtB ((List.range k).map fp) := by
  refine List.pairwise_map.2 ?_
  rw [List.pairwise_iff_getElem]
  intro i j hi hj hij
  rw [List.length_range] at hi hj
  rw [List.getElem_range, List.getElem_range]
  exact fp_lt hij (by omega)
theorem WL_good {k : Nat} {v : Int} (hk : k ≤ 6) : LGood (WL k v) := by
  refine ⟨by unfold WL; rw [List.length_map, List.length_range]; omega, fun c hc => ?_, ?_, fun c hc _ => ?_⟩
  · obtain ⟨j, hj, rfl⟩ := WL_mem.1 hc; exact fp_usr (by omega)
  · have e : (WL k v).map S_journal_Change.Path = (List.range k).map fp := by unfold WL; rw [List.map_map]; rfl
    rw [e]; exact (WL_srt hk).imp fun h => sl_ne h
  · obtain ⟨j, hj, rfl⟩ := WL_mem.1 hc; exact ⟨.inl rfl, by simp⟩
def Wst (k : Nat) (u : Vw) : Prop := u = u0 ∨ ∃ v, u = wV k v
theorem Wst.ok {k : Nat} {u : Vw} (hk : k ≤ 6) (h : Wst k u) : UOk u := by
  rcases h with rfl | ⟨v, rfl⟩
  · exact u0_ok
  · intro p hp
    obtain ⟨j, hj, rfl⟩ := wV_in hp; exact fp_usr (by omega)
theorem Wst.next {k : Nat} {u : Vw} {v : Int} (hk : k ≤ 6) (h : Wst k u) : nextV u (WL k v) = wV k v := by
  funext p
  by_cases hc : ∃ c ∈ WL k v, c.Path = p
  · obtain ⟨c, hc, rfl⟩ := hc
    rw [nextV_at (WL_good hk).nd hc]
    obtain ⟨j, hj, rfl⟩ := WL_mem.1 hc
    rw [wV_at hj]; rfl
  · rw [nextV_oth fun c h1 e => hc ⟨c, h1, e⟩]
    have hn : ∀ w, wV k w p = none := fun w => by
      cases hw : wV k w p with
      | none => rfl
      | some x =>
        obtain ⟨j, hj, rfl⟩ := wV_in (by rw [hw]; simp : wV k w p ≠ none)
        exact absurd ⟨_, WL_mem.2 ⟨j, hj, rfl⟩, rfl⟩ hc
    rcases h with rfl | ⟨w, rfl⟩
    · rw [hn]
    · rw [hn, hn]
theorem wV_nc {k : Nat} {v : Int} (hk : k ≤ 6) : NC (wV k v) := fun p q hp hq => by
  obtain ⟨i, hi, rfl⟩ := wV_in hp
  obtain ⟨j, hj, rfl⟩ := wV_in hq
  exact fp_cl (by omega) (by omega)
theorem wV_lst {k : Nat} {v : Int} (hk : k ≤ 6) : Lst (wV k v) ((List.range k).map fun j => ⟨fp j, 1, strOfNums [v]⟩) := by
  refine ⟨List.pairwise_map.2 (List.pairwise_map.1 (WL_srt hk)), fun x hx => ?_, fun p hp => ?_⟩
  · obtain ⟨j, hj, rfl⟩ := List.mem_map.1 hx
    have := wV_at (v := v) (List.mem_range.1 hj)
    unfold fileOf
    dsimp only
    rw [this]; exact ⟨by simp, rfl⟩
  · obtain ⟨j, hj, rfl⟩ := wV_in hp
    exact ⟨_, List.mem_map_of_mem (List.mem_range.2 hj), rfl⟩
theorem Up.arm {N : Nat} {f : S_simfs_FS} {n : Int} {keep : List Bool} (h : Up N f) (hk : keep.length ≤ 1000000) : Up N ⟨f.kept, f.files, f.pending, f.quota, f.now, f.inodes, f.ops_, f.off, true, max n 1, keep⟩ :=
  ⟨h.off, ⟨h.ok.files, h.ok.kept, h.ok.pend, h.ok.now, h.ok.inodes, h.ok.ops, hk⟩, h.sum, fun _ => by show 1 ≤ max n 1; omega⟩
/-- the power comes back -/
abbrev onF (f : S_simfs_FS) : S_simfs_FS := ⟨f.kept, f.files, f.pending, f.quota, f.now, f.inodes, f.ops_, false, f.armed, f.left, f.keep⟩
theorem Dn.on {N : Nat} {D : FL → Prop} {f : S_simfs_FS} (h : Dn N D f) : Up N (onF f) :=
  ⟨rfl, ⟨h.ok.files, h.ok.kept, h.ok.pend, h.ok.now, h.ok.inodes, h.ok.ops, h.ok.keep⟩, by show f.kept.length + f.pending.length ≤ N; rw [h.pend]; exact h.sum, fun ha => by
    have : f.armed = true := ha
    rw [h.armed] at this; cases this⟩
theorem cut_dn {N : Nat} {f : S_simfs_FS} {keep : List Bool} {D : FL → Prop} (hk : FOk N f) (hp : f.pending = []) (hd : D f.kept) : Dn N D (cutF f keep) := by
  have e : cutS f.pending keep f.kept = f.kept := by rw [hp]; rfl
  unfold cutF
  rw [e]
  exact ⟨rfl, ⟨hk.kept, hk.kept, ⟨(fun o ho => by cases ho), Nat.zero_le _⟩, hk.now, hk.inodes, hk.ops, Nat.zero_le _⟩, hk.kept.2.1, rfl, rfl, rfl, hd⟩
theorem JournalWhole_p {n : Int} {cuts : List Int} {keep : List Bool} {Q : Bool → Prop} (h : Q true) : rectolaw6_JournalWhole_p n cuts keep Q := by
  unfold rectolaw6_JournalWhole_p
  refine fun hn _ _ => known_p ⟨fun hx => (by cases hx), fun _ => ⟨fun _ => h, fun hx => New_p ?_⟩⟩
  have hn : 0 ≤ n ∧ n ≤ 255 := hn
  have hcl : cuts.length ≤ 12 := by have : ¬ (cuts.length : Int) > 12 := fun e => hx (.inl e); omega
  have hkl : keep.length ≤ 60 := by have : ¬ (keep.length : Int) > 60 := fun e => hx (.inr e); omega
  obtain ⟨k, hk⟩ : ∃ k : Nat, (2 : Int) + n % 5 = k := ⟨((2 : Int) + n % 5).toNat, by omega⟩
  have hk6 : k ≤ 6 := by omega
  rw [hk]
  refine ⟨inR_i64.2 ⟨by omega, by omega⟩, fun v i o => ∃ m : Nat, i = m ∧ m ≤ cuts.length ∧ Up (600 * m) o ∧ o.kept = o.files ∧ o.pending = [] ∧ o.quota = 0 ∧ ∃ u, Wst k u ∧ PI u o.files, fun _ i _ => cuts.length - i.toNat, ⟨0, rfl, Nat.zero_le _, new_up 0, rfl, rfl, rfl, u0, .inl rfl, new_pi 0⟩, ?_⟩
  rintro v _ o ⟨m, rfl, hm, hu, hkf, hpd, hq, u, hw, hpi⟩ _ _
  refine ⟨fun hlt => ?_, fun _ => h⟩
  have hmc : m < cuts.length := by omega
  refine ⟨inL_nat.2 hmc, fun _ => Arm_p (by omega) ?_⟩
  have hua := hu.arm (n := lget cuts (m : Int) % 24) (keep := keep) (by omega)
  refine ⟨fun v' o' => o'.quota = 0 ∧ ∃ u' w', Wst k u' ∧ FOk (600 * m + 480) o' ∧ o'.pending = [] ∧ Rv u' (WL k w') o'.kept, ?_, ?_⟩
  · rintro v' o' ⟨hq', u', w', hw', hk', hp', hr'⟩ _
    refine Cut_p hk' (by omega) (by omega) (On_p ?_)
    have hd := cut_dn (keep := keep) hk' hp' hr'
    refine Recover_up (N := 600 * m + 480) (now := u') (l := WL k w') (WL_good hk6) (hw'.ok hk6) (by rw [hw'.next hk6]; exact wV_nc hk6) hd.on (by omega) hd.files.symm hd.pend (by show Rv u' (WL k w') (cutF o' keep).files; rw [hd.files]; exact hd.d) (fun ha => by cases ha) (fun f' hu' hk'' hp'' hpi' hq'' ha' _ => ⟨fun hx => absurd rfl hx, fun _ => all_p hu' (by omega) fun _ => ?_⟩)
    have hpi2 : ∃ u2, Wst k u2 ∧ PI u2 f'.files := by
      rcases hpi' with h1 | h1
      · exact ⟨u', hw', h1⟩
      · rw [hw'.next hk6] at h1; exact ⟨_, .inr ⟨_, rfl⟩, h1⟩
    obtain ⟨u2, hw2, hpi2⟩ := hpi2
    have hnext : ∀ v2 : Int, (inR .i64 ((m : Int) + 1)) ∧ ((∃ m' : Nat, (m : Int) + 1 = m' ∧ m' ≤ cuts.length ∧ Up (600 * m') f' ∧ f'.kept = f'.files ∧ f'.pending = [] ∧ f'.quota = 0 ∧ ∃ u, Wst k u ∧ PI u f'.files) ∧ cuts.length - ((m : Int) + 1).toNat < cuts.length - (m : Int).toNat) := fun _ =>
      ⟨inR_i64.2 ⟨by omega, by omega⟩, ⟨m + 1, by omega, hmc, hu'.up (by omega), hk'', hp'', by rw [hq'']; exact hq', u2, hw2, hpi2⟩, by omega⟩
    have hlst := hpi2.lst (hw2.ok hk6) hu'.ok.files.2.2
    obtain ⟨w2, hx2⟩ : ∃ w2 : Int, allL f'.files = [] ∨ allL f'.files = (List.range k).map fun j => ⟨fp j, 1, strOfNums [w2]⟩ := by
      rcases hw2 with rfl | ⟨w2, rfl⟩
      · exact ⟨0, .inl (hlst.eq Lst.nil)⟩
      · exact ⟨w2, .inr (hlst.eq (wV_lst hk6))⟩
    refine ⟨fun b => b = false, ?_, ⟨fun _ => ⟨fun _ => rfl, fun hne => ?_⟩, fun hx => absurd rfl hx⟩⟩
    · rintro _ rfl
      refine ⟨fun hx => (by cases hx), fun _ => ⟨fun j => ∃ q : Nat, j = q ∧ 1 ≤ q ∧ q ≤ 1 + (allL f'.files).length, fun j => (allL f'.files).length - j.toNat, ⟨1, rfl, Nat.le_refl _, by omega⟩, ?_⟩⟩
      rintro _ ⟨q, rfl, hq1, hq2⟩ _
      refine ⟨fun hlt2 => ?_, fun _ => hnext v'⟩
      have hql : q < (allL f'.files).length := by omega
      have hsame : ∀ i : Nat, i < (allL f'.files).length → (lget (allL f'.files) (i : Int)).data = strOfNums [w2] := fun i hi => by
        rcases hx2 with e | e
        · rw [e] at hi; cases hi
        · rw [e] at hi ⊢
          rw [lget_lt hi, List.getElem_map]
      have hx3 : (allL f'.files).length ≤ 10 := by
        rcases hx2 with e | e
        · rw [e]; simp
        · rw [e]; simp; omega
      refine ⟨inL_nat.2 hql, fun _ _ _ => ⟨(inL_nat (k := 0)).2 (by omega), fun _ _ _ => ⟨fun hx => absurd ((hsame q hql).trans (hsame 0 (by omega)).symm) hx, fun _ => ⟨inR_i64.2 ⟨by omega, by omega⟩, ⟨q + 1, by omega, by omega, by omega⟩, by dsimp only; omega⟩⟩⟩⟩
    · rcases hx2 with e | e
      · rw [e] at hne; exact absurd rfl hne
      · rw [e]; simp
  · refine ⟨fun v' t o' => ∃ q : Nat, t = q ∧ q ≤ 4 ∧ Up (600 * m + 120 * q) o' ∧ o'.kept = o'.files ∧ o'.pending = [] ∧ o'.quota = 0 ∧ ∃ u, Wst k u ∧ PI u o'.files, fun _ t _ => 4 - t.toNat, ⟨0, rfl, Nat.zero_le _, hua, hkf, hpd, hq, u, hw, hpi⟩, ?_⟩
    rintro v' _ o' ⟨q, rfl, hq4, hu', hkf', hpd', hq', u', hw', hpi'⟩ _ _
    refine ⟨fun hlt2 => ?_, fun hge2 => ?_⟩
    · refine ⟨fun l j => ∃ r : Nat, j = r ∧ r ≤ k ∧ l = WL r ((v' + 1) % 256), fun _ j => k - j.toNat, ⟨0, rfl, Nat.zero_le _, rfl⟩, ?_⟩
      rintro _ _ ⟨r, rfl, hr, rfl⟩ _ _
      have hlen : (WL r ((v' + 1) % 256)).length = r := by unfold WL; rw [List.length_map, List.length_range]
      refine ⟨fun hlt3 => ?_, fun hge3 => ?_⟩
      · have hrk : r < k := by omega
        have hus := fp_usr (show r < 6 by omega)
        refine ⟨inR_i64.2 ⟨by omega, by omega⟩, ?_, by rw [hlen]; simp; omega, ?_⟩
        · exact Nat.le_trans (Chk_size hus.chk) (by decide)
        · rintro _ rfl
          refine ⟨inR_i64.2 ⟨by omega, by omega⟩, ⟨r + 1, by omega, hrk, ?_⟩, by dsimp only; omega⟩
          unfold WL; rw [List.range_succ, List.map_append]; rfl
      · have hrk : r = k := by omega
        subst hrk
        have hg := WL_good (k := r) (v := (v' + 1) % 256) hk6
        have hnc : NC (nextV u' (WL r ((v' + 1) % 256))) := by rw [hw'.next hk6]; exact wV_nc hk6
        refine Do_up (now := u') hg.len (hw'.ok hk6) hu' (by omega) hkf' hpd' hpi' (fun hx => absurd (good_ck hg) hx) (fun _ hx => absurd hnc hx) (fun _ _ _ f' hd hq'' _ => ⟨fun _ => ⟨hq''.trans hq', u', _, hw', hd.ok.up (by omega), hd.pend, hd.d⟩, fun hx => absurd rfl hx⟩) (fun _ _ f' _ _ _ _ _ _ h1 _ => by rw [hq'] at h1; exact absurd h1 (by decide)) (fun _ _ f' hu'' hk'' hp'' hpi'' hq'' _ _ => ⟨fun hx => (by cases hx), fun _ => ⟨inR_i64.2 ⟨by omega, by omega⟩, ⟨q + 1, by omega, by omega, hu''.up (by omega), hk'', hp'', hq''.trans hq', wV r ((v' + 1) % 256), .inr ⟨_, rfl⟩, by rw [hw'.next hk6] at hpi''; exact hpi''⟩, by dsimp only; omega⟩⟩)
    · have hq4 : q = 4 := by omega
      subst hq4
      exact ⟨hq', u', 0, hw', hu'.ok.up (by omega), hpd', .inl (by rw [hkf']; exact hpi'.pa (hw'.ok hk6))⟩
end Go.Proofs.YtlkfoebophjhfaaGreatDoor
