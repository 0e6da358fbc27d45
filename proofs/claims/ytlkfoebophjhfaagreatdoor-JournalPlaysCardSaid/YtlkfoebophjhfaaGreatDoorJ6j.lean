/- Chapter 6: Recover, Do. -/
import Derived.Test.YtlkfoebophjhfaaGreatDoorJ6e
namespace Go.Proofs.YtlkfoebophjhfaaGreatDoor
open Go
theorem app_rm {l : FL} {p : ByteArray} : (applyS l (rmO p)).1 = mdel l p := by
  unfold applyS
  rw [if_neg (show ¬ (3 : Int) = 1 by decide), if_neg (show ¬ (3 : Int) = 2 by decide), if_pos rfl]
theorem app_rn {l : FL} {p q : ByteArray} (hm : mhas l p = true) (hc : clashS l q p = false) : (applyS l (rnO p q)).1 = mdel (mset l q (mgetD l p)) p := by
  unfold applyS
  rw [if_neg (show ¬ (2 : Int) = 1 by decide), if_pos rfl, if_neg (by rw [hm, hc]; simp)]
theorem armed_of {a b : Bool} (h : a = false → b = false) (hb : b = true) : a = true := by
  cases a
  · rw [h rfl] at hb; cases hb
  · rfl
theorem finish_up {N : Nat} {f : S_simfs_FS} {now : Vw} {l lc : Chs} {Q : S_simfs_FS → Int → Prop} (hg : LGood l) (hu0 : UOk now) (hnc : NC (nextV now l)) (hlc : lc.length = l.length)
    (hlp : ∀ k : Nat, k < l.length → (lget lc k).Path = (lget l k).Path ∧ (lget lc k).Gone = (lget l k).Gone) (hup : Up N f) (hN : N + 40 ≤ 30000) (hr : Rec (PB now l) f) (hb : PB now l f.files)
    (h1 : f.armed = true → ∀ f', Dn (N + 40) (PB now l) f' → f'.quota = f.quota → Q f' 13)
    (h2 : ∀ f', Up (N + 40) f' → f'.kept = f'.files → f'.pending = [] → PX (nextV now l) l f'.files → f'.quota = f.quota → (f.armed = false → f'.armed = false) → Q f' 0) : journal_finish_p f J lc Q := by
  have hl := hg.len
  unfold journal_finish_p
  refine fun _ _ => ⟨fun s o => ∃ k : Nat, s = k ∧ k ≤ l.length ∧ Up (N + k) o ∧ Rec (PB now l) o ∧ PB now l o.files ∧ (∀ j : Nat, j < k → (lget l (j : Int)).Gone = true → V o.files (lget l (j : Int)).Path = none) ∧ o.quota = f.quota ∧ (f.armed = false → o.armed = false),
    fun s _ => l.length - s.toNat, ⟨0, rfl, Nat.zero_le _, hup, hr, hb, fun j hj => absurd hj (Nat.not_lt_zero _), rfl, id⟩, ?_⟩
  rintro _ o ⟨k, rfl, hk, hu, hro, hbo, hgo, hq, har⟩ _
  refine ⟨fun hlt => ?_, fun hge => ?_⟩
  · have hkl : k < l.length := by omega
    obtain ⟨e1, e2⟩ := hlp k hkl
    have hm := lget_mem (inL_nat.2 hkl)
    refine ⟨inL_nat.2 (by omega), fun _ _ _ => ⟨fun b o' => (b = true ∧ f.armed = true ∧ Dn (N + 40) (PB now l) o' ∧ o'.quota = f.quota) ∨ (b = false ∧ Up (N + (k + 1)) o' ∧ Rec (PB now l) o' ∧ PB now l o'.files ∧ (∀ j : Nat, j < k + 1 → (lget l (j : Int)).Gone = true → V o'.files (lget l (j : Int)).Path = none) ∧ o'.quota = f.quota ∧ (f.armed = false → o'.armed = false)), ?_, ?_, ?_⟩⟩
    · rintro b o' (⟨rfl, ha, hd, hq'⟩ | ⟨rfl, hx⟩)
      · exact ⟨fun _ => h1 ha o' hd hq', fun h => by cases h⟩
      · exact ⟨fun h => (by cases h), fun _ => ⟨inR_i64.2 ⟨by omega, by omega⟩, ⟨k + 1, by omega, hkl, hx⟩, by dsimp only; omega⟩⟩
    · intro hgn
      rw [e2] at hgn
      rw [e1]
      refine Remove_up hu (by omega) hro (PB.rm hg hm hgn) (fun hm0 _ => .inr ⟨rfl, hu.up (by omega), hro, hbo, fun j hj hjg => ?_, hq, har⟩) (fun ha o' hd hq' _ => .inl ⟨rfl, armed_of har ha, hd.up (by omega), hq'.trans hq⟩) (fun o' hu' hr' hm1 hf' _ _ hq' ha' _ => .inr ⟨rfl, hu'.up (by omega), hr', ?_, fun j hj hjg => ?_, hq'.trans hq, fun h => ha' (har h)⟩)
      · rcases Nat.lt_or_ge j k with h | h
        · exact hgo j h hjg
        · rw [show j = k by omega]; exact V_none.2 hm0
      · rw [hf', ← app_rm]; exact PB.rm hg hm hgn _ hu.ok.files.2.2 hbo
      · rw [hf', V_mdel hu.ok.files.2.2]
        by_cases e : (lget l (k : Int)).Path = (lget l (j : Int)).Path
        · rw [if_pos e]
        · rw [if_neg e]
          rcases Nat.lt_or_ge j k with h | h
          · exact hgo j h hjg
          · rw [show j = k by omega] at e; exact absurd rfl e
    · intro hgn
      rw [e2] at hgn
      refine .inr ⟨rfl, hu.up (by omega), hro, hbo, fun j hj hjg => ?_, hq, har⟩
      rcases Nat.lt_or_ge j k with h | h
      · exact hgo j h hjg
      · rw [show j = k by omega] at hjg; exact absurd hjg hgn
  -- the staged ones
  have hkl : k = l.length := by omega
  subst hkl
  refine ⟨fun s o => ∃ k : Nat, s = k ∧ k ≤ l.length ∧ Up (N + l.length + k) o ∧ Rec (PB now l) o ∧ PB now l o.files ∧ (∀ j : Nat, j < l.length → (lget l (j : Int)).Gone = true → V o.files (lget l (j : Int)).Path = none) ∧ (∀ j : Nat, j < k → (lget l (j : Int)).Gone = false → V o.files (sP j) = none) ∧ o.quota = f.quota ∧ (f.armed = false → o.armed = false),
    fun s _ => l.length - s.toNat, ⟨0, rfl, Nat.zero_le _, hu, hro, hbo, hgo, fun j hj => absurd hj (Nat.not_lt_zero _), hq, har⟩, ?_⟩
  clear hgo hbo hro hu hq har
  rintro _ o ⟨k, rfl, hk, hu, hro, hbo, hgo, hst, hq, har⟩ _
  refine ⟨fun hlt => ?_, fun hge => ?_⟩
  · have hkl : k < l.length := by omega
    obtain ⟨e1, e2⟩ := hlp k hkl
    have hm := lget_mem (inL_nat.2 hkl)
    have hus := hg.usr _ hm
    refine ⟨inL_nat.2 (by omega), fun _ _ _ => ⟨fun b o' => (b = true ∧ f.armed = true ∧ Dn (N + 40) (PB now l) o' ∧ o'.quota = f.quota) ∨ (b = false ∧ Up (N + l.length + (k + 1)) o' ∧ Rec (PB now l) o' ∧ PB now l o'.files ∧ (∀ j : Nat, j < l.length → (lget l (j : Int)).Gone = true → V o'.files (lget l (j : Int)).Path = none) ∧ (∀ j : Nat, j < k + 1 → (lget l (j : Int)).Gone = false → V o'.files (sP j) = none) ∧ o'.quota = f.quota ∧ (f.armed = false → o'.armed = false)), ?_, ?_, ?_⟩⟩
    · rintro b o' (⟨rfl, ha, hd, hq'⟩ | ⟨rfl, hx⟩)
      · exact ⟨fun _ => h1 ha o' hd hq', fun h => by cases h⟩
      · exact ⟨fun h => (by cases h), fun _ => ⟨inR_i64.2 ⟨by omega, by omega⟩, ⟨k + 1, by omega, hkl, hx⟩, by dsimp only; omega⟩⟩
    · intro hgn
      rw [e2] at hgn
      refine .inr ⟨rfl, hu.up (by omega), hro, hbo, hgo, fun j hj hjg => ?_, hq, har⟩
      rcases Nat.lt_or_ge j k with h | h
      · exact hst j h hjg
      · rw [show j = k by omega, hgn] at hjg; cases hjg
    · intro hgn
      rw [e2] at hgn
      have hgn : (lget l (k : Int)).Gone = false := by simpa using hgn
      rw [e1]
      have hcl : clashS o.files (lget l (k : Int)).Path (sP k) = false := by
        refine clash_none fun q hq2 hne => ?_
        cases hown : own q
        · refine hnc _ _ (by rw [nextV_at hg.nd hm, if_neg (by rw [hgn]; exact Bool.false_ne_true)]; simp) ?_
          by_cases hc : ∃ c ∈ l, c.Path = q
          · obtain ⟨c, hc, rfl⟩ := hc
            rw [nextV_at hg.nd hc]
            by_cases hcg : c.Gone = true
            · obtain ⟨j, hj, rfl⟩ := mem_at hc
              exact absurd (hgo j hj hcg) hq2
            · rw [if_neg hcg]; simp
          · rw [nextV_oth fun c h e => hc ⟨c, h, e⟩, ← hbo.oth q hown fun c h e => hc ⟨c, h, e⟩]; exact hq2
        · exact hus.own_cl hown
      refine name_p (by omega) fun _ => Rename_up hu (by omega) hro hus.chk (fun e => hus.ne_own own_sP e.symm) (PB.rn hg hkl hgn) (fun hm0 _ => .inr ⟨rfl, hu.up (by omega), hro, hbo, hgo, fun j hj hjg => ?_, hq, har⟩) (fun _ => hcl) (fun ha o' hd hq' _ => .inl ⟨rfl, armed_of har ha, hd.up (by omega), hq'.trans hq⟩) (fun o' hu' hr' hm1 hf' _ _ hq' ha' _ => .inr ⟨rfl, hu'.up (by omega), hr', ?_, fun j hj hjg => ?_, fun j hj hjg => ?_, hq'.trans hq, fun h => ha' (har h)⟩)
      · rcases Nat.lt_or_ge j k with h | h
        · exact hst j h hjg
        · rw [show j = k by omega]; exact V_none.2 hm0
      · rw [hf', ← app_rn hm1 hcl]; exact PB.rn hg hkl hgn _ hu.ok.files.2.2 hbo
      · rw [hf', V_mdel (mset_nodup hu.ok.files.2.2), V_mset]
        have hmj := lget_mem (inL_nat.2 hj)
        rw [if_neg (fun e => (hg.usr _ hmj).ne_own own_sP e.symm), if_neg (fun e => by rw [path_inj hg hkl hj e, hjg] at hgn; cases hgn)]
        exact hgo j hj hjg
      · rw [hf', V_mdel (mset_nodup hu.ok.files.2.2), V_mset]
        by_cases e : sP k = sP j
        · rw [if_pos e]
        · rw [if_neg e, if_neg (hus.ne_own own_sP)]
          rcases Nat.lt_or_ge j k with h | h
          · exact hst j h hjg
          · rw [show j = k by omega] at e; exact absurd rfl e
  have hkl : k = l.length := by omega
  subst hkl
  refine Sync_up hu hbo (fun o' hu' hr' hf' hk' hp' hq' ha' _ => h2 o' (hu'.up (by omega)) (by rw [hk', hf']) hp' ?_ (hq'.trans hq) fun h => by rw [ha']; exact har h)
  rw [hf']
  refine ⟨fun p hp => ?_, hbo.note, fun p hp hnp => ?_⟩
  · by_cases hc : ∃ c ∈ l, c.Path = p
    · obtain ⟨c, hc, rfl⟩ := hc
      obtain ⟨j, hj, rfl⟩ := mem_at hc
      rw [nextV_at hg.nd hc]
      cases hjg : (lget l (j : Int)).Gone
      · rw [if_neg Bool.false_ne_true]
        rcases hbo.put j hj hjg with h | h
        · rw [hst j hj hjg] at h; exact absurd h.1 (by simp)
        · exact h.2
      · rw [if_pos rfl]; exact hgo j hj hjg
    · rw [nextV_oth fun c h e => hc ⟨c, h, e⟩]; exact hbo.oth p hp fun c h e => hc ⟨c, h, e⟩
  · cases hv : V o.files p with
    | none => rfl
    | some x =>
      obtain ⟨j, hj, hjg, rfl⟩ := hbo.nm p hp hnp (by rw [hv]; simp)
      rw [hst j hj hjg] at hv; cases hv
end Go.Proofs.YtlkfoebophjhfaaGreatDoor
namespace Go.Proofs.YtlkfoebophjhfaaGreatDoor
open Go
def PT (u : Vw) (l : Chs) (x : FL) : Prop := PA u x ∨ PX u l x
theorem PA.rm {u : Vw} {p : ByteArray} (hp : own p = true) : Cld (PA u) (rmO p) := by
  intro x hn h
  refine ⟨fun q hq => ?_, ?_, fun q hq hv => ?_⟩
  · rw [V_rm hn, if_neg (fun e => by rw [e, hq] at hp; cases hp)]; exact h.usr q hq
  · rw [V_rm hn]; split
    · rfl
    · exact h.note
  · rw [V_rm hn] at hv; split at hv
    · exact absurd rfl hv
    · exact h.nm q hq hv
theorem PT.rm {u : Vw} {l : Chs} : Cld (PT u l) (rmO noteP) := by
  intro x hn h
  rcases h with h | h
  · exact .inl (PA.rm own_note x hn h)
  · refine .inl ⟨fun q hq => ?_, by rw [V_rm hn, if_pos rfl], fun q hq hv => ?_⟩
    · rw [V_rm hn, if_neg (fun e => by rw [← e, own_note] at hq; cases hq)]; exact h.usr q hq
    · rw [V_rm hn] at hv; split at hv
      · exact absurd rfl hv
      · rename_i e; exact absurd (h.nm q hq fun e2 => e e2.symm) hv
/-- What a disk may hold while the journal's folder is made empty. -/
structure TD (D : FL → Prop) (u : Vw) : Prop where
  pa : ∀ x, PA u x → D x
  rm : Cld D (rmO noteP)
  no : ∀ x, D x → V x noteP = none → PA u x
  go : ∀ x, ND x → D x → PA u (applyS x (rmO noteP)).1
theorem TD.a (u : Vw) : TD (PA u) u := ⟨fun _ h => h, PA.rm own_note, fun _ h _ => h, fun x hn h => PA.rm own_note x hn h⟩
theorem TD.t (u : Vw) (l : Chs) : TD (PT u l) u := by
  refine ⟨fun _ h => .inl h, PT.rm, fun x h hn => ?_, fun x hn h => ?_⟩
  · rcases h with h | h
    · exact h
    · rw [h.note] at hn; cases hn
  · rcases PT.rm x hn h with h2 | h2
    · exact h2
    · have := h2.note
      rw [V_rm hn, if_pos rfl] at this; cases this
theorem tidy_up {N : Nat} {f : S_simfs_FS} {u : Vw} {D : FL → Prop} {Q : S_simfs_FS → Int → Prop} (ht : TD D u) (hu0 : UOk u) (hup : Up N f) (hN : N + 25 ≤ 30000) (hr : Rec D f) (hb : D f.files)
    (h1 : f.armed = true → ∀ f', Dn (N + 25) D f' → f'.quota = f.quota → Q f' 13)
    (h2 : ∀ f', Up (N + 25) f' → f'.kept = f'.files → f'.pending = [] → PI u f'.files → f'.quota = f.quota → (f.armed = false → f'.armed = false) → Q f' 0) : journal_tidy_p f J Q := by
  unfold journal_tidy_p
  refine fun _ => ⟨by decide +kernel, ?_⟩
  have key : ∀ g, Up (N + 1) g → PA u g.files → g.quota = f.quota → (f.armed = false → g.armed = false) → simfs_FS_Sync_p g (fun (f_30 : S_simfs_FS) (r31 : Int) => ((inR .i64 r31) → (((¬ (r31 = (0 : Int))) → Q f_30 r31) ∧ ((r31 = (0 : Int)) → (journal_own_p f_30 J (fun (f_51 : S_simfs_FS) (r52 : (List ByteArray)) (r53 : Int) => ((r52.length ≤ 9223372036854775807) → ((inR .i64 r53) → (((¬ (r53 = (0 : Int))) → Q f_51 r53) ∧ ((r53 = (0 : Int)) → (∃ (I147 : Int → S_simfs_FS → Prop) (m148 : Int → S_simfs_FS → Nat), (I147 (0 : Int) f_51) ∧ (∀ (s109 : Int) (o111 : S_simfs_FS), (I147 s109 o111) → (inR .i64 s109) → (((s109 < (r52.length : Int)) → ((inL r52 s109) ∧ (((lget r52 s109).size ≤ maxLen) → (simfs_FS_Remove_p o111 (lget r52 s109) (fun (f_182 : S_simfs_FS) (r183 : Int) => ((inR .i64 r183) → (((r183 = (13 : Int)) → Q f_182 (13 : Int)) ∧ ((¬ (r183 = (13 : Int))) → ((inR .i64 (s109 + (1 : Int))) ∧ ((I147 (s109 + (1 : Int)) f_182) ∧ m148 (s109 + (1 : Int)) f_182 < m148 s109 o111)))))))))) ∧ ((¬ (s109 < (r52.length : Int))) → (simfs_FS_Sync_p o111 (fun (f_205 : S_simfs_FS) (r206 : Int) => ((inR .i64 r206) → Q f_205 r206))))))))))))))))) := by
    intro g hg hpa hq har
    refine Sync_up hg hpa (fun g' hu' hr' hf' hk' hp' hq' ha' _ => ⟨fun h => absurd rfl h, fun _ => JOwn_p hu'.ok (by omega) (fun ho => by rw [hu'.off] at ho; cases ho) (fun _ hrl _ => ⟨fun h => absurd rfl h, fun _ => ?_⟩)⟩)
    have hnm : ∀ p ∈ ownL g'.files, p ∈ (List.range 20).map sP := fun p hp => by
      obtain ⟨h3, h4⟩ := ownL_mem.1 hp
      rw [hf'] at h4
      obtain ⟨k, hk, rfl⟩ := hpa.nm p h3 h4
      exact List.mem_map_of_mem (List.mem_range.2 hk)
    have hlen : (ownL g'.files).length ≤ 20 := by
      have := nd_le _ _ (show (ownL g'.files).Nodup from (keysB_nd hu'.ok.files.2.2).filter _) hnm
      simpa using this
    refine ⟨fun s o => ∃ k : Nat, s = k ∧ k ≤ (ownL g'.files).length ∧ Up (N + 1 + k) o ∧ Rec (PA u) o ∧ PA u o.files ∧ (∀ p, own p = true → V o.files p ≠ none → p ∈ ownL g'.files) ∧ (∀ j : Nat, j < k → V o.files (lget (ownL g'.files) (j : Int)) = none) ∧ o.quota = f.quota ∧ (f.armed = false → o.armed = false),
      fun s _ => (ownL g'.files).length - s.toNat, ⟨0, rfl, Nat.zero_le _, hu', hr', by rw [hf']; exact hpa, fun p hp hv => ownL_mem.2 ⟨hp, hv⟩, fun j hj => absurd hj (Nat.not_lt_zero _), hq'.trans hq, fun h => by rw [ha']; exact har h⟩, ?_⟩
    rintro _ o ⟨k, rfl, hk, hu, hro, hbo, hin, hst, hqo, haro⟩ _
    refine ⟨fun hlt => ?_, fun hge => ?_⟩
    · have hkl : k < (ownL g'.files).length := by omega
      have hm := lget_mem (inL_nat.2 hkl)
      have hown := (ownL_mem.1 hm).1
      refine ⟨inL_nat.2 hkl, fun _ => Remove_up hu (by omega) hro (PA.rm hown) (fun hm0 _ => ⟨fun h => (by cases h), fun _ => ⟨inR_i64.2 ⟨by omega, by omega⟩, ⟨k + 1, by omega, hkl, hu.up (by omega), hro, hbo, hin, fun j hj => ?_, hqo, haro⟩, by dsimp only; omega⟩⟩) (fun ha o' hd hq'' _ => ⟨fun _ => h1 (armed_of haro ha) o' ((hd.mono fun x _ h => ht.pa x h).up (by omega)) (hq''.trans hqo), fun h => absurd rfl h⟩) (fun o' hu'' hr'' hm1 hf'' _ _ hq'' ha'' _ => ⟨fun h => (by cases h), fun _ => ⟨inR_i64.2 ⟨by omega, by omega⟩, ⟨k + 1, by omega, hkl, hu''.up (by omega), hr'', ?_, fun p hp hv => ?_, fun j hj => ?_, hq''.trans hqo, fun h => ha'' (haro h)⟩, by dsimp only; omega⟩⟩)⟩
      · rcases Nat.lt_or_ge j k with h | h
        · exact hst j h
        · rw [show j = k by omega]; exact V_none.2 hm0
      · rw [hf'', ← app_rm]; exact PA.rm hown _ hu.ok.files.2.2 hbo
      · rw [hf'', V_mdel hu.ok.files.2.2] at hv; split at hv
        · exact absurd rfl hv
        · exact hin p hp hv
      · rw [hf'', V_mdel hu.ok.files.2.2]
        by_cases e : lget (ownL g'.files) (k : Int) = lget (ownL g'.files) (j : Int)
        · rw [if_pos e]
        · rw [if_neg e]
          rcases Nat.lt_or_ge j k with h | h
          · exact hst j h
          · rw [show j = k by omega] at e; exact absurd rfl e
    · have hkl : k = (ownL g'.files).length := by omega
      refine Sync_up hu hbo (fun o' hu'' hr'' hf'' hk'' hp'' hq'' ha'' _ => h2 o' (hu''.up (by omega)) (by rw [hk'', hf'']) hp'' ?_ (hq''.trans hqo) fun h => by rw [ha'']; exact haro h)
      rw [hf'']
      refine hbo.pi hu0 fun p hp => ?_
      cases hv : V o.files p with
      | none => rfl
      | some x =>
        obtain ⟨j, hj, rfl⟩ := List.mem_iff_getElem.1 (hin p hp (by rw [hv]; simp))
        have := hst j (by omega)
        rw [lget_lt hj] at this
        rw [this] at hv; cases hv
  refine Remove_up hup (by omega) hr ht.rm (fun hm0 _ => ⟨fun h => (by cases h), fun _ => key f (hup.up (by omega)) ?_ rfl id⟩) (fun ha f' hd hq _ => ⟨fun _ => h1 ha f' (hd.up (by omega)) hq, fun h => absurd rfl h⟩) (fun f' hu' hr' hm1 hf' _ _ hq' ha' _ => ⟨fun h => (by cases h), fun _ => key f' hu' ?_ hq' ha'⟩)
  · exact ht.no _ hb (V_none.2 hm0)
  · rw [hf', ← app_rm]; exact ht.go _ hup.ok.files.2.2 hb
end Go.Proofs.YtlkfoebophjhfaaGreatDoor
namespace Go.Proofs.YtlkfoebophjhfaaGreatDoor
open Go
def dsum (l : Chs) : Int := (l.map fun c => (c.Data.length : Int)).sum
theorem dsum_take {l : Chs} {k : Nat} (h : k < l.length) : dsum (l.take (k + 1)) = dsum (l.take k) + ((lget l (k : Int)).Data.length : Int) := by
  unfold dsum; rw [take_lget h, List.map_append, List.sum_append]; simp
theorem dsum_nn : ∀ l : Chs, 0 ≤ dsum l
  | [] => by simp [dsum]
  | c :: l => by
    have := dsum_nn l
    unfold dsum at *; rw [List.map_cons, List.sum_cons]; omega
theorem dsum_le {l : Chs} {k : Nat} : dsum (l.take k) ≤ dsum l := by
  have h := dsum_nn (l.drop k)
  have e : dsum l = dsum (l.take k) + dsum (l.drop k) := by unfold dsum; rw [← List.sum_append, ← List.map_append, List.take_append_drop]
  omega
theorem sumS_mset {p : ByteArray} {x : S_simfs_file} : ∀ {l : FL}, sumS (mset l p x) ≤ sumS l + (x.b.length : Int)
  | [] => by unfold mset; rw [sumS_cons]; simp [sumS]
  | y :: l => by
    unfold mset
    split
    · rw [sumS_cons, sumS_cons]; simp only; omega
    · rw [sumS_cons, sumS_cons]; have := sumS_mset (p := p) (x := x) (l := l); omega
theorem may_cases {f : S_simfs_FS} {p : ByteArray} {mode n : Int} (h1 : f.off = false) (h2 : Chk p = 0) (h3 : n ≤ 65536) (h4 : mode = 1 ∨ mode = 2) (h5 : clashS f.files p E0 = false) :
    mayS f p mode n = 0 ∨ (mayS f p mode n = 14 ∧ 0 < f.quota ∧ f.quota < sumS f.files + n) := by
  unfold mayS
  rw [if_neg (by rw [h1]; exact Bool.false_ne_true), if_neg (fun h => h h2), if_neg (by omega), if_neg (by rintro ⟨a, b⟩; exact h4.elim a b), if_neg (by rw [h5]; exact Bool.false_ne_true)]
  by_cases hr : roomS f p n = false
  · rw [if_pos hr]
    unfold roomS at hr
    have := of_decide_eq_false hr
    have h6 : 0 ≤ (((mgetD f.files p).b.length : Nat) : Int) := Int.natCast_nonneg _
    refine .inr ⟨rfl, ?_, ?_⟩
    · exact Int.lt_of_not_ge fun h => this (.inl h)
    · have : ¬ (sumS f.files - ((mgetD f.files p).b.length : Int) + n ≤ f.quota) := fun h => this (.inr (.inr (.inr h)))
      omega
  · rw [if_neg hr]; exact .inl rfl
theorem Cl_ss : ∀ {i j : Nat}, i < 20 → j < 20 → Cl (sP i) (sP j) = false := by
  have : ∀ i j : Fin 20, Cl (sP i.val) (sP j.val) = false := by decide +kernel
  exact fun {i j} hi hj => this ⟨i, hi⟩ ⟨j, hj⟩
theorem Cl_ns : ∀ {j : Nat}, j < 20 → Cl noteP (sP j) = false := by
  have : ∀ j : Fin 20, Cl noteP (sP j.val) = false := by decide +kernel
  exact fun {j} hj => this ⟨j, hj⟩
theorem PA.wr {u : Vw} {k : Nat} (hk : k < 20) {mode t i : Int} {b : List Int} : Cld (PA u) (wrO (sP k) mode t i b) := by
  intro x hn h
  by_cases hc : clashS x (sP k) E0 = true
  · have hV : ∀ q, V (applyS x (wrO (sP k) mode t i b)).1 q = V x q := fun q => by rw [V_wr, if_pos hc]
    exact ⟨fun q hq => by rw [hV]; exact h.usr q hq, by rw [hV]; exact h.note, fun q hq hv => by rw [hV] at hv; exact h.nm q hq hv⟩
  · have hV : ∀ q, V (applyS x (wrO (sP k) mode t i b)).1 q = if sP k = q then some (mode, b) else V x q := fun q => by rw [V_wr, if_neg hc]
    refine ⟨fun q hq => by rw [hV, if_neg (fun e => by rw [← e, own_sP] at hq; cases hq)]; exact h.usr q hq, by rw [hV, if_neg sP_note]; exact h.note, fun q hq hv => ?_⟩
    by_cases e : sP k = q
    · exact ⟨k, hk, e.symm⟩
    · rw [hV, if_neg e] at hv; exact h.nm q hq hv
theorem PB.wr {now : Vw} {l : Chs} {t i : Int} : Cld (PB now l) (wrO noteP 1 t i (noteB l)) := by
  intro x hn h
  have hV : ∀ q, V (applyS x (wrO noteP 1 t i (noteB l))).1 q = V x q := fun q => by
    rw [V_wr]; split
    · rfl
    · split
      · rename_i e; rw [← e, h.note]
      · rfl
  exact ⟨by rw [hV]; exact h.note, fun p hp ho => by rw [hV]; exact h.oth p hp ho, fun c hc hcg => by rw [hV]; exact h.gone c hc hcg, fun j hj hjg => by rw [hV, hV]; exact h.put j hj hjg, fun p hp hnp hv => by rw [hV] at hv; exact h.nm p hp hnp hv⟩
theorem stage_up {N : Nat} {f : S_simfs_FS} {now : Vw} {l : Chs} {Q : S_simfs_FS → Int → Prop} (hg : LGood l) (hu0 : UOk now) (hup : Up N f) (hN : N + 50 ≤ 30000) (hkf : f.kept = f.files) (hpd : f.pending = []) (hpi : PI now f.files)
    (h1 : f.armed = true → ∀ f', Dn (N + 45) (fun x => PA now x ∨ PB now l x) f' → f'.quota = f.quota → Q f' 13)
    (h14 : ∀ f', Up (N + 45) f' → Rec (PA now) f' → PA now f'.files → f'.quota = f.quota → (f.armed = false → f'.armed = false) → 0 < f.quota → f.quota < sumS f.files + dsum l + 1690 → Q f' 14)
    (h0 : ∀ f', Up (N + 45) f' → Rec (PB now l) f' → PB now l f'.files → f'.quota = f.quota → (f.armed = false → f'.armed = false) → Q f' 0) : journal_stage_p f J l Q := by
  have hl := hg.len
  have hsz : ∀ c ∈ l, c.Path.size ≤ 64 := fun c hc => Chk_size (hg.usr c hc).chk
  unfold journal_stage_p
  refine fun _ _ => EncInt_p (by simp) ?_
  have hfl : ∀ k, ((l.take k).flatMap noteC).length ≤ 1680 := fun k => by
    have := flat_len (l := l.take k) fun c hc => hsz c (List.mem_of_mem_take hc)
    rw [List.length_take] at this; omega
  have hn10 := encI_len (n := (l.length : Int)) (inR_i64.2 ⟨by omega, by omega⟩)
  have hE1 : ∀ n : Int, encIs [n] = encI n := fun n => by simp [encIs]
  refine ⟨fun s o e => ∃ k : Nat, s = k ∧ k ≤ l.length ∧ Up (N + 2 * k) o ∧ Rec (PA now) o ∧ PA now o.files ∧ (∀ p, own p = true → V o.files p ≠ none → ∃ j : Nat, j < k ∧ (lget l (j : Int)).Gone = false ∧ p = sP j) ∧ (∀ j : Nat, j < k → (lget l (j : Int)).Gone = false → V o.files (sP j) = some ((lget l (j : Int)).Mode, (lget l (j : Int)).Data)) ∧ e = ⟨encI (l.length : Int) ++ (l.take k).flatMap noteC⟩ ∧ sumS o.files ≤ sumS f.files + dsum (l.take k) ∧ o.quota = f.quota ∧ (f.armed = false → o.armed = false),
    fun s _ _ => l.length - s.toNat, ⟨0, rfl, Nat.zero_le _, hup, ⟨by rw [hkf]; exact hpi.pa hu0, fun o ho => by rw [hpd] at ho; cases ho⟩, hpi.pa hu0, fun p hp hv => absurd ((hpi p).trans (hu0.own hp)) hv, fun j hj => absurd hj (Nat.not_lt_zero _), by simp [encIs], by simp [dsum], rfl, id⟩, ?_⟩
  rintro _ o _ ⟨k, rfl, hk, hu, hro, hbo, hin, hst, rfl, hsum, hq, har⟩ _
  refine ⟨fun hlt => ?_, fun hge => ?_⟩
  · have hkl : k < l.length := by omega
    have hm := lget_mem (inL_nat.2 hkl)
    have hk20 : k < 20 := by omega
    have hds := dsum_take hkl
    have hfk := hfl k
    have hsm := hsz _ hm
    refine ⟨fun o' e => Up (N + 2 * (k + 1)) o' ∧ Rec (PA now) o' ∧ PA now o'.files ∧ (∀ p, own p = true → V o'.files p ≠ none → ∃ j : Nat, j < k + 1 ∧ (lget l (j : Int)).Gone = false ∧ p = sP j) ∧ (∀ j : Nat, j < k + 1 → (lget l (j : Int)).Gone = false → V o'.files (sP j) = some ((lget l (j : Int)).Mode, (lget l (j : Int)).Data)) ∧ e = ⟨encI (l.length : Int) ++ (l.take (k + 1)).flatMap noteC⟩ ∧ sumS o'.files ≤ sumS f.files + dsum (l.take (k + 1)) ∧ o'.quota = f.quota ∧ (f.armed = false → o'.armed = false), fun o' e hx => ⟨inR_i64.2 ⟨by omega, by omega⟩, ⟨k + 1, by omega, hkl, hx⟩, by dsimp only; omega⟩, inL_nat.2 hkl, fun _ _ _ => EncText_p (by simp only [List.length_append]; omega) ?_⟩
    have hT := encT_len (lget l (k : Int)).Path (by omega)
    refine ⟨fun hgn => EncInt_p (by simp only [List.length_append, List.length_cons, List.length_nil]; omega) ?_, fun hgn => EncInt_p (by simp only [List.length_append, List.length_cons, List.length_nil]; omega) ?_⟩
    · refine ⟨hu.up (by omega), hro, hbo, fun p hp hv => ?_, fun j hj hjg => ?_, ?_, by rw [hds]; omega, hq, har⟩
      · obtain ⟨j, hj, h⟩ := hin p hp hv; exact ⟨j, by omega, h⟩
      · rcases Nat.lt_or_ge j k with h | h
        · exact hst j h hjg
        · rw [show j = k by omega, hgn] at hjg; cases hjg
      · rw [hE1, flat_take noteC hkl]; unfold noteC; rw [if_pos hgn]; simp only [List.append_assoc]
    · have he : (⟨((encI (l.length : Int) ++ (l.take k).flatMap noteC) ++ encT (lget l (k : Int)).Path) ++ encIs [(0 : Int)]⟩ : S_codec_Enc) = ⟨encI (l.length : Int) ++ (l.take (k + 1)).flatMap noteC⟩ := by
        rw [hE1, flat_take noteC hkl]; unfold noteC; rw [if_neg (by rw [hgn]; exact Bool.false_ne_true)]; simp only [List.append_assoc]
      have hkd := hg.kind _ hm hgn
      have hcl : clashS o.files (sP k) E0 = false := clash_none fun q hv _ => by
        cases hown : own q
        · rw [Cl_comm]; exact (hu0 q (by rw [← hbo.usr q hown]; exact hv)).own_cl own_sP
        · obtain ⟨j, hj, _, rfl⟩ := hin q hown hv
          exact Cl_ss hk20 (by omega)
      refine name_p hk20 fun _ => Write_up hu (by omega) hro (fun t i => PA.wr hk20) (fun hm0 _ => ?_) (fun ha o' hd hq' _ => ⟨fun _ => h1 (armed_of har ha) o' ((hd.mono fun x _ h => Or.inl h).up (by omega)) (hq'.trans hq), fun h => by cases h⟩) (fun o' t i hu' hr' hm1 hf' _ _ hq' ha' _ => ⟨fun h => absurd rfl h, fun _ => ?_⟩)
      · rcases may_cases (n := (lget l (k : Int)).Data.length) hu.off (Chk_sP hk20) (by omega) hkd.1 hcl with h | ⟨h, hq1, hq2⟩
        · exact absurd h hm0
        · rw [h]
          have := dsum_le (l := l) (k := k + 1)
          exact ⟨fun _ => h14 o (hu.up (by omega)) hro hbo hq har (by omega) (by omega), fun h => by cases h⟩
      · rw [he]
        refine ⟨hu'.up (by omega), hr', ?_, fun p hp hv => ?_, fun j hj hjg => ?_, rfl, ?_, hq'.trans hq, fun h => ha' (har h)⟩
        · have := PA.wr (u := now) hk20 (mode := (lget l (k : Int)).Mode) (t := t) (i := i) (b := (lget l (k : Int)).Data) _ hu.ok.files.2.2 hbo
          unfold applyS at this
          rw [if_pos rfl, if_neg (by rw [hcl]; exact Bool.false_ne_true)] at this
          rw [hf']; exact this
        · rw [hf', V_mset] at hv
          by_cases e : sP k = p
          · exact ⟨k, by omega, hgn, e.symm⟩
          · rw [if_neg e] at hv
            obtain ⟨j, hj, h⟩ := hin p hp hv; exact ⟨j, by omega, h⟩
        · rw [hf', V_mset]
          by_cases e : k = j
          · subst e; rw [if_pos rfl]
          · rw [if_neg (sP_ne hk20 (by omega) e)]; exact hst j (by omega) hjg
        · rw [hf', hds]
          have := sumS_mset (l := o.files) (p := sP k) (x := ⟨(lget l (k : Int)).Mode, t, i, (lget l (k : Int)).Data⟩)
          dsimp only at this
          omega
  have hkl : k = l.length := by omega
  subst hkl
  rw [List.take_length] at hsum ⊢
  refine Sync_up hu hbo fun g hgu hgr hgf hgk hgp hgq hga _ => ⟨fun h => absurd rfl h, fun _ => ⟨by decide +kernel, EncBytes_p (by have := noteB_len hl hsz; unfold noteB at this; show (encI (l.length : Int) ++ l.flatMap noteC).length ≤ _; omega) fun _ => ?_⟩⟩
  have hnl := noteB_len hl hsz
  have hcl : clashS g.files noteP E0 = false := clash_none fun q hv _ => by
    rw [hgf] at hv
    cases hown : own q
    · rw [Cl_comm]; exact (hu0 q (by rw [← hbo.usr q hown]; exact hv)).own_cl own_note
    · obtain ⟨j, hj, _, rfl⟩ := hin q hown hv
      exact Cl_ns (by omega)
  have hpb : ∀ t i, PB now l (applyS o.files (wrO noteP 1 t i (noteB l))).1 := fun t i => by
    have hV : ∀ q, V (applyS o.files (wrO noteP 1 t i (noteB l))).1 q = if noteP = q then some (1, noteB l) else V o.files q := fun q => by rw [V_wr, if_neg (by rw [← hgf, hcl]; exact Bool.false_ne_true)]
    refine ⟨by rw [hV, if_pos rfl], fun p hp ho => by rw [hV, if_neg (fun e => by rw [← e, own_note] at hp; cases hp)]; exact hbo.usr p hp, fun c hc _ => .inl ?_, fun j hj hjg => .inl ⟨?_, ?_⟩, fun p hp hnp hv => ?_⟩
    · rw [hV, if_neg (fun e => (hg.usr c hc).ne_own own_note e.symm)]; exact hbo.usr _ (hg.usr c hc).und.1
    · rw [hV, if_neg (fun e => sP_note e.symm)]; exact hst j hj hjg
    · have := hg.usr _ (lget_mem (inL_nat.2 hj))
      rw [hV, if_neg (fun e => this.ne_own own_note e.symm)]; exact hbo.usr _ this.und.1
    · rw [hV, if_neg (fun e => hnp e.symm)] at hv; exact hin p hp hv
  have hcD : ∀ t i, Cld (fun x => x = o.files ∨ PB now l x) (wrO noteP 1 t i (noteB l)) := fun t i x hn h => by
    rcases h with rfl | h
    · exact .inr (hpb t i)
    · exact .inr (PB.wr x hn h)
  refine Write_up (b := noteB l) (D := fun x => x = o.files ∨ PB now l x) hgu (by omega) ⟨.inl hgk, fun q hq => by rw [hgp] at hq; cases hq⟩ hcD (fun hm0 _ => ?_) (fun ha o' hd hq' _ => ⟨fun _ => h1 (armed_of (fun h => by rw [hga]; exact har h) ha) o' ((hd.mono fun x _ h => ?_).up (by omega)) (hq'.trans (hgq.trans hq)), fun h => by cases h⟩) (fun o' t i hu' hr' hm1 hf' _ _ hq' ha' _ => ⟨fun h => absurd rfl h, fun _ => ?_⟩)
  · rcases may_cases (n := ((noteB l).length : Int)) hgu.off Chk_note (by omega) (.inl rfl) hcl with h | ⟨h, hq1, hq2⟩
    · exact absurd h hm0
    · rw [h]
      rw [hgf] at hq2
      exact ⟨fun _ => h14 g (hgu.up (by omega)) hgr (by rw [hgf]; exact hbo) (hgq.trans hq) (fun h => by rw [hga]; exact har h) (by omega) (by omega), fun h => by cases h⟩
  · rcases h with rfl | h
    · exact .inl hbo
    · exact .inr h
  · have hpf : PB now l o'.files := by
      have := hpb t i
      unfold applyS at this
      rw [if_pos rfl, if_neg (by rw [← hgf, hcl]; exact Bool.false_ne_true)] at this
      rw [hf', hgf]; exact this
    exact Sync_up hu' hpf fun o2 hu2 hr2 hf2 hk2 hp2 hq2 ha2 _ => h0 o2 (hu2.up (by omega)) hr2 (by rw [hf2]; exact hpf) (hq2.trans (hq'.trans (hgq.trans hq))) fun h => by rw [ha2]; exact ha' (by rw [hga]; exact har h)
end Go.Proofs.YtlkfoebophjhfaaGreatDoor
namespace Go.Proofs.YtlkfoebophjhfaaGreatDoor
open Go
theorem Contains_no {s : List ByteArray} {v : ByteArray} {Q : Bool → Prop} (h : v ∉ s) (hQ : Q false) : slices_Contains_string_string_p s v Q := by
  unfold slices_Contains_string_string_p slices_Index_string_string_p
  refine fun _ _ _ _ => ⟨fun i => ∃ k : Nat, i = k ∧ k ≤ s.length, fun i => s.length - i.toNat, ⟨0, rfl, Nat.zero_le _⟩, ?_⟩
  rintro _ ⟨k, rfl, hk⟩ hi
  refine ⟨fun hlt => ⟨inL_nat.2 (by omega), fun _ => ⟨fun e => ?_, fun _ => ⟨inR_i64.2 ⟨by omega, by have := (inR_i64.1 hi).2; omega⟩, ⟨k + 1, by omega, by omega⟩, by dsimp only; omega⟩⟩⟩, fun _ _ => hQ⟩
  exact absurd (by rw [e]; exact lget_mem (inL_nat.2 (by omega))) h
theorem mem_mlook {α : Type} {v : α} {k : ByteArray} : ∀ {L : List (ByteArray × α)}, (L.map (·.1)).Nodup → (k, v) ∈ L → mlook L k = some v
  | [], _, h => by cases h
  | y :: L, hn, h => by
    rw [List.map_cons, List.nodup_cons] at hn
    unfold mlook
    rcases List.mem_cons.1 h with rfl | h
    · simp
    · have : y.1 ≠ k := fun e => hn.1 (by rw [e]; exact List.mem_map_of_mem (f := fun x : ByteArray × α => x.1) h)
      simp [this, mem_mlook hn.2 h]
theorem Cl_self (p : ByteArray) : Cl p p = false := by
  refine Cl_iff.2 ?_
  by_cases h : p = E0
  · exact .inl h
  · have : Und p p = false := by
      unfold Und; rw [if_neg h]; exact decide_eq_false fun h => by omega
    exact .inr (.inr ⟨this, this⟩)
theorem nd_take {l : Chs} {k : Nat} (h : (l.map S_journal_Change.Path).Nodup) : ((l.take k).map S_journal_Change.Path).Nodup := h.sublist ((List.take_sublist k l).map _)
theorem nextV_take {now : Vw} {l : Chs} {k : Nat} (hn : (l.map S_journal_Change.Path).Nodup) (hk : k < l.length) (p : ByteArray) :
    nextV now (l.take (k + 1)) p = if (lget l (k : Int)).Path = p then (if (lget l (k : Int)).Gone = true then none else some ((lget l (k : Int)).Mode, (lget l (k : Int)).Data)) else nextV now (l.take k) p := by
  have hmem : lget l (k : Int) ∈ l.take (k + 1) := by rw [take_lget hk]; simp
  by_cases e : (lget l (k : Int)).Path = p
  · rw [if_pos e, ← e, nextV_at (nd_take hn) hmem]
  · rw [if_neg e]
    by_cases hc : ∃ c ∈ l.take k, c.Path = p
    · obtain ⟨c, hc, rfl⟩ := hc
      rw [nextV_at (nd_take hn) hc, nextV_at (nd_take hn) (by rw [take_lget hk]; exact List.mem_append_left _ hc)]
    · rw [nextV_oth (fun c h e2 => hc ⟨c, h, e2⟩), nextV_oth]
      intro c h
      rw [take_lget hk] at h
      rcases List.mem_append.1 h with h | h
      · exact fun e2 => hc ⟨c, h, e2⟩
      · rw [List.mem_singleton.1 h]; exact e
theorem ways_up {N : Nat} {f : S_simfs_FS} {now : Vw} {l : Chs} {Q : S_simfs_FS → Bool → Prop} (hg : LGood l) (hu0 : UOk now) (hup : Up N f) (hN : N ≤ 30000) (hpi : PI now f.files)
    (h1 : NC (nextV now l) → Q f true) (h2 : ¬ NC (nextV now l) → Q f false) : journal_ways_p f J l Q := by
  have hl := hg.len
  have hr : ∀ p ∈ keysB f.files, Usr p := fun p hp => hu0 p (by rw [← hpi p]; exact V_mem.2 (keysB_mem.1 hp))
  have hrl : (keysB f.files).length ≤ N := by rw [keysB_len]; exact hup.ok.files.2.1
  have hun := hu0.next hg
  unfold journal_ways_p
  refine fun _ _ => List_p hup.ok (by omega) (fun ho => by rw [hup.off] at ho; cases ho) (fun _ _ _ => ?_)
  refine ⟨fun s i => ∃ k : Nat, i = k ∧ k ≤ (keysB f.files).length ∧ (s.map (·.1)).Nodup ∧ s.length ≤ 1 + k ∧ (∀ p, mlook s p = some true ↔ p = J ∨ p ∈ (keysB f.files).take k), fun _ i => (keysB f.files).length - i.toNat, ⟨0, rfl, Nat.zero_le _, by simp [mset], by simp [mset], fun p => ?_⟩, ?_⟩
  · rw [mlook_mset]
    by_cases e : J = p
    · rw [if_pos e]; simp [e]
    · rw [if_neg e]; simp [mlook, Ne.symm e]
  rintro s _ ⟨k, rfl, hk, hsn, hsl, hsm⟩ _
  refine ⟨fun hlt => ?_, fun hge => ?_⟩
  · have hkl : k < (keysB f.files).length := by omega
    have hus := hr _ (lget_mem (inL_nat.2 hkl))
    refine ⟨inL_nat.2 hkl, fun _ => Under_p (by decide) ⟨inR_i64.2 ⟨by omega, by omega⟩, ⟨k + 1, by omega, hkl, mset_nodup hsn, by have := mset_len (L := s) (k := lget (keysB f.files) (k : Int)) (v := !Und (lget (keysB f.files) (k : Int)) J); omega, fun p => ?_⟩, by dsimp only; omega⟩⟩
    rw [show Und (lget (keysB f.files) (k : Int)) J = false from hus.und.1, mlook_mset, take_lget hkl, List.mem_append, List.mem_singleton]
    by_cases e : lget (keysB f.files) (k : Int) = p
    · rw [if_pos e]; simp [e]
    · rw [if_neg e, hsm]
      exact ⟨fun h => h.elim .inl fun h => .inr (.inl h), fun h => h.elim .inl fun h => h.elim .inr fun h => absurd h.symm e⟩
  have hkl : k = (keysB f.files).length := by omega
  subst hkl
  rw [List.take_length] at hsm
  have hM : s.length ≤ 1 + N := by omega
  refine ⟨fun s i => ∃ k : Nat, i = k ∧ k ≤ l.length ∧ (s.map (·.1)).Nodup ∧ s.length ≤ 1 + N + k ∧ (∀ p, mlook s p = some true ↔ p = J ∨ nextV now (l.take k) p ≠ none), fun _ i => l.length - i.toNat, ⟨0, rfl, Nat.zero_le _, hsn, by omega, fun p => ?_⟩, ?_⟩
  · rw [hsm, keysB_mem, ← V_mem, hpi p]; exact Iff.rfl
  clear hsm hsn hM hsl
  rintro s _ ⟨k, rfl, hk, hsn, hsl, hsm⟩ _
  refine ⟨fun hlt => ?_, fun hge => ?_⟩
  · have hkl : k < l.length := by omega
    have hus := hg.usr _ (lget_mem (inL_nat.2 hkl))
    refine ⟨inL_nat.2 hkl, fun _ _ _ => ⟨inR_i64.2 ⟨by omega, by omega⟩, ⟨k + 1, by omega, hkl, mset_nodup hsn, by have := mset_len (L := s) (k := (lget l (k : Int)).Path) (v := !(lget l (k : Int)).Gone); omega, fun p => ?_⟩, by dsimp only; omega⟩⟩
    rw [mlook_mset, nextV_take hg.nd hkl]
    by_cases e : (lget l (k : Int)).Path = p
    · rw [if_pos e, if_pos e]
      have hpj : p ≠ J := by rw [← e]; exact hus.ne
      cases hgn : (lget l (k : Int)).Gone <;> simp [hpj]
    · rw [if_neg e, if_neg e]; exact hsm p
  have hkl : k = l.length := by omega
  subst hkl
  rw [List.take_length] at hsm
  refine ⟨fun ps rest => (∀ p, (p ∈ ps ∨ (p, true) ∈ rest) ↔ (p = J ∨ nextV now l p ≠ none)) ∧ ps.length + rest.length ≤ 1 + N + l.length, fun _ rest => rest.length, ⟨fun p => ?_, by simp; omega⟩, ?_⟩
  · rw [← hsm p]
    exact ⟨fun h => h.elim (fun h => by cases h) fun h => mem_mlook hsn h, fun h => .inr (mlook_mem h)⟩
  rintro ps rest ⟨hps, hpl⟩ _
  refine ⟨fun he => ?_, fun pr key val po he _ => ⟨fun hv => ⟨by simp; omega, ⟨fun p => ?_, ?_⟩, ?_⟩, fun hv => ⟨⟨fun p => ?_, ?_⟩, ?_⟩⟩⟩
  rotate_left
  · rw [← hps p, he, hv]
    simp only [List.mem_append, List.mem_cons, List.not_mem_nil, or_false, Prod.mk.injEq, and_true]
    constructor
    · rintro ((h | h) | (h | h))
      · exact .inl h
      · exact .inr (.inr (.inl h))
      · exact .inr (.inl h)
      · exact .inr (.inr (.inr h))
    · rintro (h | (h | (h | h)))
      · exact .inl (.inl h)
      · exact .inr (.inl h)
      · exact .inl (.inr h)
      · exact .inr (.inr h)
  · rw [he] at hpl; simp only [List.length_append, List.length_cons, List.length_nil] at hpl ⊢; omega
  · rw [he]; simp
  · rw [← hps p, he, hv]; simp
  · rw [he] at hpl; simp only [List.length_append, List.length_cons] at hpl ⊢; omega
  · rw [he]; simp
  subst he
  have hps : ∀ p, p ∈ ps ↔ (p = J ∨ nextV now l p ≠ none) := fun p => by rw [← hps p]; simp
  have hz : ∀ {i : Nat}, i < ps.length → (lget ps (i : Int)).size ≤ 64 := fun {i} hi => by
    rcases (hps _).1 (lget_mem (inL_nat.2 hi)) with h | h
    · rw [h]; decide
    · exact Chk_size (hun _ h).chk
  refine ⟨fun i => ∃ n : Nat, i = n ∧ n ≤ ps.length ∧ ∀ a b : Nat, a < n → b < a → Cl (lget ps (a : Int)) (lget ps (b : Int)) = false, fun i => ps.length - i.toNat, ⟨0, rfl, Nat.zero_le _, fun a b h => absurd h (Nat.not_lt_zero _)⟩, ?_⟩
  rintro _ ⟨n, rfl, hn, hcl⟩ _
  refine ⟨fun hlt => ?_, fun hge => ?_⟩
  · have hnl : n < ps.length := by omega
    have htl : (ps.take n).length = n := by rw [List.length_take, Nat.min_eq_left hn]
    refine ⟨inL_nat.2 hnl, fun _ => ⟨⟨by omega, by omega⟩, ?_⟩⟩
    rw [Int.toNat_natCast]
    refine ⟨fun j => ∃ m : Nat, j = m ∧ m ≤ n ∧ ∀ b : Nat, b < m → Cl (lget ps (n : Int)) (lget ps (b : Int)) = false, fun j => n - j.toNat, ⟨0, rfl, Nat.zero_le _, fun b h => absurd h (Nat.not_lt_zero _)⟩, ?_⟩
    rintro _ ⟨m, rfl, hm, hcm⟩ _
    rw [htl]
    refine ⟨fun hlt2 => ?_, fun hge2 => ⟨inR_i64.2 ⟨by omega, by omega⟩, ⟨n + 1, by omega, hnl, fun a b ha hb => ?_⟩, by dsimp only; omega⟩⟩
    · have hmn : m < n := by omega
      have hlg : lget (ps.take n) (m : Int) = lget ps (m : Int) := by rw [lget_lt (by omega), lget_lt (by omega)]; exact List.getElem_take
      refine ⟨inL_nat.2 (by omega), fun _ => ?_⟩
      rw [hlg]
      refine Clash_p (by have := hz hnl; omega) (by have := hz (show m < ps.length by omega); omega) ⟨fun hc => h2 fun hnc => ?_, fun hc => ⟨inR_i64.2 ⟨by omega, by omega⟩, ⟨m + 1, by omega, hmn, fun b hb => ?_⟩, by dsimp only; omega⟩⟩
      · have ha := (hps _).1 (lget_mem (inL_nat.2 hnl))
        have hb := (hps _).1 (lget_mem (inL_nat.2 (show m < ps.length by omega)))
        rcases ha with ha | ha
        · rcases hb with hb | hb
          · rw [ha, hb, Cl_self] at hc; cases hc
          · rw [ha, Cl_comm, (hun _ hb).cl] at hc; cases hc
        · rcases hb with hb | hb
          · rw [hb, (hun _ ha).cl] at hc; cases hc
          · rw [hnc _ _ ha hb] at hc; cases hc
      · rcases Nat.lt_or_ge b m with h | h
        · exact hcm b h
        · rw [show b = m by omega]; exact hc
    · rcases Nat.lt_or_ge a n with h | h
      · exact hcl a b h hb
      · have e1 : a = n := by omega
        subst e1
        exact hcm b (by omega)
  · have hnl : n = ps.length := by omega
    subst hnl
    refine Contains_no (fun hJ => (hr J hJ).ne rfl) (h1 fun p q hp hq => ?_)
    obtain ⟨a, ha, rfl⟩ := List.mem_iff_getElem.1 ((hps p).2 (.inr hp))
    obtain ⟨b, hb, rfl⟩ := List.mem_iff_getElem.1 ((hps q).2 (.inr hq))
    rw [← lget_lt ha, ← lget_lt hb]
    rcases Nat.lt_trichotomy a b with h | h | h
    · rw [Cl_comm]; exact hcl b a hb h
    · subst h; exact Cl_self _
    · exact hcl a b ha h
/-! changes out of a note -/
def cl1 (c : Ch) : Ch := ⟨c.Path, c.Gone, 1, c.Data⟩
theorem lset_take {l : Chs} {g : Ch → Ch} {k : Nat} (h : k < l.length) : lset ((l.take k).map g ++ l.drop k) (k : Int) (g (lget l (k : Int))) = (l.take (k + 1)).map g ++ l.drop (k + 1) := by
  unfold lset
  rw [Int.toNat_natCast, List.set_append_right _ _ (by simp; omega), take_lget h, List.map_append]
  have : k - ((l.take k).map g).length = 0 := by simp; omega
  rw [this, List.drop_eq_getElem_cons h, List.set_cons_zero]; simp
theorem clean_p {l : Chs} {Q : Chs → Prop} (hl : l.length ≤ 1000) (h : Q (l.map cl1)) : journal_clean_p l Q := by
  unfold journal_clean_p slices_Clone_journal_Change_journal_Change_p
  refine fun _ _ => ⟨by omega, fun _ => ⟨fun s i => ∃ k : Nat, i = k ∧ k ≤ l.length ∧ s = (l.take k).map cl1 ++ l.drop k, fun _ i => l.length - i.toNat, ⟨0, rfl, Nat.zero_le _, by simp⟩, ?_⟩⟩
  rintro _ _ ⟨k, rfl, hk, rfl⟩ _ _
  refine ⟨fun hlt => ?_, fun hge => ?_⟩
  · have hkl : k < l.length := by omega
    have hlen : ((l.take k).map cl1 ++ l.drop k).length = l.length := by simp; omega
    have hg : lget ((l.take k).map cl1 ++ l.drop k) (k : Int) = lget l (k : Int) := by
      rw [lget_lt (by omega), lget_lt hkl, List.getElem_append_right (by simp; omega)]
      rw [List.getElem_drop]
      congr 1
      rw [List.length_map, List.length_take, Nat.min_eq_left hk]; omega
    refine ⟨inL_nat.2 (by omega), fun _ _ _ => ?_⟩
    rw [hg]
    rintro _ rfl
    exact ⟨inR_i64.2 ⟨by omega, by omega⟩, ⟨k + 1, by omega, hkl, lset_take (g := cl1) hkl⟩, by dsimp only; omega⟩
  · have hkl : k = l.length := by omega
    subst hkl
    simpa using h
theorem good_ck {l : Chs} (h : LGood l) : ckS l = 0 := by
  refine ckS_ok fun i hi => ?_
  have hm := lget_mem (inL_nat.2 hi)
  have hu := h.usr _ hm
  unfold chgS
  rw [if_neg (fun x => x hu.chk), if_neg (by rintro (e | e); exact hu.ne e; rw [hu.cl] at e; cases e), if_neg, if_neg, if_neg]
  · rintro ⟨hg, hd⟩; have := (h.kind _ hm hg).2; omega
  · rintro ⟨hg, h1, h2⟩; exact (h.kind _ hm hg).1.elim h1 h2
  · rintro ⟨c, hc, he⟩
    obtain ⟨j, hj, rfl⟩ := List.mem_take_iff_getElem.1 hc
    have hj2 : j < l.length := by omega
    rw [← lget_lt hj2] at he
    have := path_inj h hj2 hi he
    omega
theorem note_good {l : Chs} (h : LGood l) : LGood ((l.map cv).map cl1) := by
  have e : ((l.map cv).map cl1).map S_journal_Change.Path = l.map S_journal_Change.Path := by rw [List.map_map, List.map_map]; rfl
  refine ⟨by simpa using h.len, fun c hc => ?_, by rw [e]; exact h.nd, fun c hc _ => ?_⟩
  · rw [List.map_map] at hc
    obtain ⟨d, hd, rfl⟩ := List.mem_map.1 hc; exact h.usr d hd
  · rw [List.map_map] at hc
    obtain ⟨d, hd, rfl⟩ := List.mem_map.1 hc; exact ⟨.inl rfl, Nat.zero_le _⟩
end Go.Proofs.YtlkfoebophjhfaaGreatDoor
namespace Go.Proofs.YtlkfoebophjhfaaGreatDoor
open Go
/-- What a disk may hold that is to be recovered. -/
def Rv (now : Vw) (l : Chs) (x : FL) : Prop := PA now x ∨ PB now l x ∨ PA (nextV now l) x
theorem Rec.of {D : FL → Prop} {f : S_simfs_FS} (hk : f.kept = f.files) (hp : f.pending = []) (h : D f.files) : Rec D f := ⟨by rw [hk]; exact h, fun o ho => by rw [hp] at ho; cases ho⟩
theorem Recover_idle {N : Nat} {f : S_simfs_FS} {u : Vw} {Q : S_simfs_FS → Int → Prop} (hu : UOk u) (hup : Up N f) (hN : N ≤ 30000) (hpi : PI u f.files) (h : Q f 0) : journal_Recover_p f J Q := by
  unfold journal_Recover_p
  have ho : ownL f.files = [] := ownL_nil.2 fun p hp => (hpi p).trans (hu.own hp)
  refine fun _ => Idle_p hup.ok (by omega) (fun ho => by rw [hup.off] at ho; cases ho) (fun _ _ => ⟨fun h => absurd rfl h, fun _ => ⟨fun _ => h, fun hx => ?_⟩⟩)
  rw [ho] at hx; cases hx
theorem Recover_pa {N : Nat} {f : S_simfs_FS} {u : Vw} {Q : S_simfs_FS → Int → Prop} (hu : UOk u) (hup : Up N f) (hN : N + 25 ≤ 30000) (hkf : f.kept = f.files) (hpd : f.pending = []) (hb : PA u f.files)
    (h1 : f.armed = true → ∀ f', Dn (N + 25) (PA u) f' → f'.quota = f.quota → Q f' 13)
    (h2 : ∀ f', Up (N + 25) f' → f'.kept = f'.files → f'.pending = [] → PI u f'.files → f'.quota = f.quota → (f.armed = false → f'.armed = false) → Q f' 0) : journal_Recover_p f J Q := by
  by_cases ho : ownL f.files = []
  · have hpi : PI u f.files := hb.pi hu (ownL_nil.1 ho)
    exact Recover_idle hu hup (by omega) hpi (h2 f (hup.up (by omega)) hkf hpd hpi rfl id)
  unfold journal_Recover_p
  refine fun _ => Idle_p hup.ok (by omega) (fun ho => by rw [hup.off] at ho; cases ho) (fun _ _ => ⟨fun h => absurd rfl h, fun _ => ⟨fun hx => absurd (of_decide_eq_true hx) ho, fun _ => ⟨by decide +kernel, Read_p hup.ok fun _ _ => ?_⟩⟩⟩)
  refine ⟨fun o => o = f, ?_, ?_⟩
  · rintro _ rfl
    exact tidy_up (TD.a u) hu hup hN (Rec.of hkf hpd hb) hb (fun ha f' hd hq _ => h1 ha f' hd hq) (fun f' hu' hk' hp' hpi' hq' ha' _ => h2 f' hu' hk' hp' hpi' hq' ha')
  · have hf : (findS f noteP).2 = 5 := by
      unfold findS; rw [if_neg (by rw [hup.off]; exact Bool.false_ne_true), if_pos (V_none.1 hb.note)]
    rw [hf]
    exact ⟨fun h => (by cases h), fun _ => rfl⟩
theorem Recover_up {N : Nat} {f : S_simfs_FS} {now : Vw} {l : Chs} {Q : S_simfs_FS → Int → Prop} (hg : LGood l) (hu0 : UOk now) (hnc : NC (nextV now l)) (hup : Up N f) (hN : N + 70 ≤ 30000) (hkf : f.kept = f.files) (hpd : f.pending = []) (hb : Rv now l f.files)
    (h1 : f.armed = true → ∀ f', Dn (N + 65) (Rv now l) f' → f'.quota = f.quota → Q f' 13)
    (h2 : ∀ f', Up (N + 65) f' → f'.kept = f'.files → f'.pending = [] → (PI now f'.files ∨ PI (nextV now l) f'.files) → f'.quota = f.quota → (f.armed = false → f'.armed = false) → Q f' 0) : journal_Recover_p f J Q := by
  rcases hb with hb | hb | hb
  · exact Recover_pa hu0 hup (by omega) hkf hpd hb (fun ha f' hd hq => h1 ha f' ((hd.mono fun x _ h => .inl h).up (by omega)) hq) (fun f' hu' hk' hp' hpi' hq' ha' => h2 f' (hu'.up (by omega)) hk' hp' (.inl hpi') hq' ha')
  · have hl := hg.len
    have hsz : ∀ c ∈ l, c.Path.size ≤ 64 := fun c hc => Chk_size (hg.usr c hc).chk
    unfold journal_Recover_p
    refine fun _ => Idle_p hup.ok (by omega) (fun ho => by rw [hup.off] at ho; cases ho) (fun _ _ => ⟨fun h => absurd rfl h, fun _ => ⟨fun hx => ?_, fun _ => ⟨by decide +kernel, Read_p hup.ok fun _ _ => ?_⟩⟩⟩)
    · have := ownL_nil.1 (of_decide_eq_true hx) noteP own_note
      rw [hb.note] at this; cases this
    obtain ⟨n1, n2, n3⟩ := V_some hb.note
    have hf : findS f noteP = (mgetD f.files noteP, 0) := by
      unfold findS; rw [if_neg (by rw [hup.off]; exact Bool.false_ne_true), if_neg (by rw [n1]; exact fun h => by cases h)]
    rw [hf]
    refine ⟨fun o => Up (N + 40) o ∧ o.kept = o.files ∧ o.pending = [] ∧ PX (nextV now l) l o.files ∧ o.quota = f.quota ∧ (f.armed = false → o.armed = false), ?_, ⟨fun _ => ?_, fun h => absurd rfl h⟩⟩
    · rintro o ⟨hu, hk, hp, hx, hq, har⟩
      refine tidy_up (TD.t (nextV now l) l) (hu0.next hg) hu (by omega) (Rec.of hk hp (.inr hx)) (.inr hx) (fun ha f' hd hq' _ => h1 (armed_of har ha) f' ((hd.mono fun x _ h => ?_).up (by omega)) (hq'.trans hq)) (fun f' hu' hk' hp' hpi' hq' ha' _ => h2 f' (hu'.up (by omega)) hk' hp' (.inr hpi') (hq'.trans hq) fun h => ha' (har h))
      rcases h with h | h
      · exact .inr (.inr h)
      · exact .inr (.inl (h.pb hg))
    · show journal_read_p (mgetD f.files noteP).b _
      rw [n3]
      refine read_p hl hsz fun _ => ⟨fun b => b = true, ?_, ⟨fun _ => clean_p (by simp; omega) fun _ => JCheck_p (by simp; omega) fun _ => ?_, fun h => absurd rfl h⟩⟩
      · rintro _ rfl
        refine ⟨fun _ => finish_up hg hu0 hnc (by simp) (fun k hk => ?_) hup (by omega) (Rec.of hkf hpd hb) hb (fun ha f' hd hq _ => ⟨fun _ => h1 ha f' ((hd.mono fun x _ h => .inr (.inl h)).up (by omega)) hq, fun h => by cases h⟩) (fun f' hu' hk' hp' hx' hq' ha' _ => ⟨fun h => absurd rfl h, fun _ => ⟨hu', hk', hp', hx', hq', ha'⟩⟩), fun h => by cases h⟩
        rw [lget_lt (by simp; omega), List.getElem_map, ← lget_lt hk]
        exact ⟨rfl, rfl⟩
      · show decide (ckS ((l.map cv).map cl1) = 0) = true
        rw [good_ck (note_good hg)]; rfl
  · exact Recover_pa (hu0.next hg) hup (by omega) hkf hpd hb (fun ha f' hd hq => h1 ha f' ((hd.mono fun x _ h => .inr (.inr h)).up (by omega)) hq) (fun f' hu' hk' hp' hpi' hq' ha' => h2 f' (hu'.up (by omega)) hk' hp' (.inr hpi') hq' ha')
theorem Do_up {N : Nat} {f : S_simfs_FS} {now : Vw} {l : Chs} {Q : S_simfs_FS → Int → Prop} (hl : l.length ≤ 20) (hu0 : UOk now) (hup : Up N f) (hN : N + 130 ≤ 30000) (hkf : f.kept = f.files) (hpd : f.pending = []) (hpi : PI now f.files)
    (hw : ¬ ckS l = 0 → Q f (ckS l)) (h11 : LGood l → ¬ NC (nextV now l) → Q f 11)
    (h13 : LGood l → NC (nextV now l) → f.armed = true → ∀ f', Dn (N + 120) (Rv now l) f' → f'.quota = f.quota → Q f' 13)
    (h14 : LGood l → NC (nextV now l) → ∀ f', Up (N + 120) f' → f'.kept = f'.files → f'.pending = [] → PI now f'.files → f'.quota = f.quota → (f.armed = false → f'.armed = false) → 0 < f.quota → f.quota < sumS f.files + dsum l + 1690 → Q f' 14)
    (h0 : LGood l → NC (nextV now l) → ∀ f', Up (N + 120) f' → f'.kept = f'.files → f'.pending = [] → PI (nextV now l) f'.files → f'.quota = f.quota → (f.armed = false → f'.armed = false) → Q f' 0) : journal_Do_p f J l Q := by
  unfold journal_Do_p
  refine fun _ _ => JCheck_p (by omega) fun _ => ⟨hw, fun hc => ?_⟩
  have hg := ckS_good hl hc
  refine Recover_idle hu0 hup (by omega) hpi fun _ => ⟨fun h => absurd rfl h, fun _ => ?_⟩
  refine ways_up hg hu0 hup (by omega) hpi (fun hnc => ⟨fun h => (by cases h), fun _ => ?_⟩) (fun hnc => ⟨fun _ => h11 hg hnc, fun h => by cases h⟩)
  refine stage_up hg hu0 hup (by omega) hkf hpd hpi (fun ha f' hd hq _ => ⟨fun _ => ?_, fun h => by cases h⟩) (fun f' hu' hr' hb' hq' ha' hq1 hq2 _ => ⟨fun _ => ?_, fun h => by cases h⟩) (fun f' hu' hr' hb' hq' ha' _ => ⟨fun h => absurd rfl h, fun _ => ?_⟩)
  · refine ⟨fun b o => b = false ∧ o = f', ?_, ⟨fun h => (by cases h), fun _ => ⟨rfl, rfl⟩⟩⟩
    rintro _ _ ⟨rfl, rfl⟩
    exact ⟨fun h => (by cases h), fun _ => h13 hg hnc ha _ ((hd.mono fun x _ h => h.elim .inl fun h => .inr (.inl h)).up (by omega)) hq⟩
  · refine ⟨fun b o => (b = true → Q o 13) ∧ (b = false → Q o 14), fun b o h => h, ⟨fun _ => ?_, fun h => absurd rfl h⟩⟩
    refine tidy_up (TD.a now) hu0 hu' (by omega) hr' hb' (fun ha f2 hd hq2' _ => ⟨fun _ => h13 hg hnc (armed_of ha' ha) f2 ((hd.mono fun x _ h => .inl h).up (by omega)) (hq2'.trans hq'), fun h => by cases h⟩) (fun f2 hu2 hk2 hp2 hpi2 hq2' ha2 _ => ⟨fun h => (by cases h), fun _ => h14 hg hnc f2 (hu2.up (by omega)) hk2 hp2 hpi2 (hq2'.trans hq') (fun h => ha2 (ha' h)) hq1 hq2⟩)
  · refine finish_up hg hu0 hnc rfl (fun k _ => ⟨rfl, rfl⟩) hu' (by omega) hr' hb' (fun ha f2 hd hq2 _ => ⟨fun _ => h13 hg hnc (armed_of ha' ha) f2 ((hd.mono fun x _ h => .inr (.inl h)).up (by omega)) (hq2.trans hq'), fun h => by cases h⟩) (fun f2 hu2 hk2 hp2 hx2 hq2 ha2 _ => ⟨fun h => absurd rfl h, fun _ => ?_⟩)
    refine tidy_up (TD.t (nextV now l) l) (hu0.next hg) hu2 (by omega) (Rec.of hk2 hp2 (.inr hx2)) (.inr hx2) (fun ha f3 hd hq3 _ => h13 hg hnc (armed_of (fun h => ha2 (ha' h)) ha) f3 ((hd.mono fun x _ h => ?_).up (by omega)) (hq3.trans (hq2.trans hq'))) (fun f3 hu3 hk3 hp3 hpi3 hq3 ha3 _ => h0 hg hnc f3 (hu3.up (by omega)) hk3 hp3 hpi3 (hq3.trans (hq2.trans hq')) fun h => ha3 (ha2 (ha' h)))
    rcases h with h | h
    · exact .inr (.inr h)
    · exact .inr (.inl (h.pb hg))
end Go.Proofs.YtlkfoebophjhfaaGreatDoor
