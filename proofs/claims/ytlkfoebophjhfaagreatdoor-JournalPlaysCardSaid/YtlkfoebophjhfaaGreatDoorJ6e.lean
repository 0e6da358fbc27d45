/- Chapter 6: what a disk may hold while changes are made. -/
import Derived.Test.YtlkfoebophjhfaaGreatDoorJaW
import Derived.Test.YtlkfoebophjhfaaGreatDoorDelF
namespace Go.Proofs.YtlkfoebophjhfaaGreatDoor
open Go
abbrev Vw := ByteArray → Option (Int × List Int)
/-- what a file's path tells: its mode, its bytes -/
def V (l : FL) : Vw := fun p => (mlook l p).map fun x => (x.mode, x.b)
abbrev ND (l : FL) : Prop := (l.map (·.1)).Nodup
abbrev wrO (p : ByteArray) (mode t i : Int) (b : List Int) : S_simfs_op := ⟨1, p, E0, ⟨mode, t, i, b⟩⟩
abbrev rnO (p q : ByteArray) : S_simfs_op := ⟨2, p, q, ⟨0, 0, 0, []⟩⟩
abbrev rmO (p : ByteArray) : S_simfs_op := ⟨3, p, E0, ⟨0, 0, 0, []⟩⟩
/-- A disk that runs. -/
structure Up (N : Nat) (f : S_simfs_FS) : Prop where
  off : f.off = false
  ok : FOk N f
  sum : f.kept.length + f.pending.length ≤ N
  lf : f.armed = true → 1 ≤ f.left
/-- D stands through an op. -/
def Cld (D : FL → Prop) (o : S_simfs_op) : Prop := ∀ l : FL, ND l → D l → D (applyS l o).1
/-- Whatever is lost, D holds of what is left. -/
structure Rec (D : FL → Prop) (f : S_simfs_FS) : Prop where
  kept : D f.kept
  pend : ∀ o ∈ f.pending, Cld D o
/-- The power has gone; D holds of what is left. -/
structure Dn (N : Nat) (D : FL → Prop) (f : S_simfs_FS) : Prop where
  off : f.off = true
  ok : FOk N f
  sum : f.kept.length ≤ N
  armed : f.armed = false
  files : f.files = f.kept
  pend : f.pending = []
  d : D f.kept
theorem Dn.mono {N : Nat} {D D' : FL → Prop} {f : S_simfs_FS} (h : Dn N D f) (hd : ∀ l, ND l → D l → D' l) : Dn N D' f := ⟨h.off, h.ok, h.sum, h.armed, h.files, h.pend, hd _ h.ok.kept.2.2 h.d⟩
theorem Dn.up {N M : Nat} {D : FL → Prop} {f : S_simfs_FS} (h : Dn N D f) (hm : N ≤ M) : Dn M D f := ⟨h.off, h.ok.up hm, Nat.le_trans h.sum hm, h.armed, h.files, h.pend, h.d⟩
theorem Up.up {N M : Nat} {f : S_simfs_FS} (h : Up N f) (hm : N ≤ M) : Up M f := ⟨h.off, h.ok.up hm, Nat.le_trans h.sum hm, h.lf⟩
theorem applyS_nd {l : FL} {o : S_simfs_op} (h : ND l) : ND (applyS l o).1 := by
  unfold applyS
  split
  · split
    · exact h
    · exact mset_nodup h
  split
  · split
    · exact h
    · exact mdel_nodup (mset_nodup h)
  split
  · exact mdel_nodup h
  · exact h
theorem cut_D {D : FL → Prop} : ∀ (os : List S_simfs_op) (ks : List Bool) (l : FL), ND l → D l → (∀ o ∈ os, Cld D o) → D (cutS os ks l)
  | [], _, _, _, h, _ => by unfold cutS; exact h
  | o :: os, [], _, _, h, _ => h
  | o :: os, k :: ks, l, hn, h, ho => by
    rw [cutS_cons]
    by_cases hk : k = true
    · rw [if_pos hk]; exact cut_D os ks _ (applyS_nd hn) (ho o (by simp) l hn h) fun q hq => ho q (by simp [hq])
    · rw [if_neg hk]; exact cut_D os ks _ hn h fun q hq => ho q (by simp [hq])
theorem trips_up {N : Nat} {f : S_simfs_FS} {D : FL → Prop} (hu : Up N f) (hr : Rec D f) :
    ((tripsS f).2 = true ∧ f.armed = true ∧ Dn N D (tripsS f).1 ∧ (tripsS f).1.quota = f.quota) ∨
    ((tripsS f).2 = false ∧ Up N (tripsS f).1 ∧ Rec D (tripsS f).1 ∧ (tripsS f).1.files = f.files ∧ (tripsS f).1.kept = f.kept ∧ (tripsS f).1.pending = f.pending ∧ (tripsS f).1.quota = f.quota ∧ (f.armed = false → (tripsS f).1 = f)) := by
  unfold tripsS
  by_cases ha : f.armed = false
  · rw [if_pos ha]; exact .inr ⟨rfl, hu, hr, rfl, rfl, rfl, rfl, fun _ => rfl⟩
  rw [if_neg ha]
  by_cases hl : f.left - 1 > 0
  · rw [if_pos hl]
    exact .inr ⟨rfl, ⟨hu.off, downF_ok hu.ok, hu.sum, fun _ => by show 1 ≤ f.left - 1; omega⟩, ⟨hr.kept, hr.pend⟩, rfl, rfl, rfl, rfl, fun h => absurd h ha⟩
  · rw [if_neg hl]
    have hk : LOk N (cutS f.pending f.keep f.kept) := (cutS_ok (K := f.kept.length) ⟨hu.ok.kept.1, Nat.le_refl _, hu.ok.kept.2.2⟩ hu.ok.pend.1).up hu.sum
    refine .inl ⟨rfl, by simpa using ha, ⟨rfl, ⟨hk, hk, ⟨(fun o ho => by cases ho), Nat.zero_le _⟩, hu.ok.now, hu.ok.inodes, hu.ok.ops, Nat.zero_le _⟩, hk.2.1, rfl, rfl, rfl, cut_D _ _ _ hu.ok.kept.2.2 hr.kept hr.pend⟩, rfl⟩
theorem do_up {N : Nat} {g : S_simfs_FS} {o : S_simfs_op} {D : FL → Prop} (hu : Up N g) (hr : Rec D g) (ho : o.path.size ≤ 64 ∧ o.to_.size ≤ 64 ∧ o.file.b.length ≤ 65536) (hc : Cld D o) : Up (N + 1) (doF g o) ∧ Rec D (doF g o) := by
  refine ⟨⟨hu.off, doF_ok hu.ok ho, ?_, hu.lf⟩, ⟨hr.kept, fun q hq => ?_⟩⟩
  · show g.kept.length + (g.pending ++ [o]).length ≤ N + 1
    rw [List.length_append]; have := hu.sum; simp; omega
  · rcases List.mem_append.1 (show q ∈ g.pending ++ [o] from hq) with h | h
    · exact hr.pend q h
    · rw [List.mem_singleton.1 h]; exact hc
theorem Write_up {N : Nat} {f : S_simfs_FS} {p : ByteArray} {mode : Int} {b : List Int} {D : FL → Prop} {Q : S_simfs_FS → Int → Prop} (hu : Up N f) (hN : N ≤ 30000) (hr : Rec D f)
    (hcl : ∀ t i, Cld D (wrO p mode t i b)) (h0 : ¬ mayS f p mode b.length = 0 → Q f (mayS f p mode b.length)) (h1 : f.armed = true → ∀ f', Dn N D f' → f'.quota = f.quota → Q f' 13)
    (h2 : ∀ f' t i, Up (N + 2) f' → Rec D f' → mayS f p mode b.length = 0 → f'.files = mset f.files p ⟨mode, t, i, b⟩ → f'.kept = f.kept → f'.pending = f.pending ++ [wrO p mode t i b] → f'.quota = f.quota → (f.armed = false → f'.armed = false) → Q f' 0) : simfs_FS_Write_p f p mode b Q := by
  refine Write_p hu.ok (by omega) hu.lf ?_
  unfold writeS
  by_cases hm : ¬ mayS f p mode b.length = 0
  · rw [if_pos hm]; exact h0 hm
  rw [if_neg hm]
  have hm := Classical.not_not.1 hm
  have ⟨_, hc, hn, _, hcl2, _⟩ := mayS_ok hm
  rcases trips_up hu hr with ⟨t1, ta, t2, t3⟩ | ⟨t1, t2, t3, t4, t5, t6, t7, t8⟩
  · rw [if_pos t1]; exact h1 ta _ t2 t3
  · rw [if_neg (by rw [t1]; exact Bool.false_ne_true)]
    have hp1 : Up (N + 1) (putF (tripsS f).1 p) := ⟨t2.off, putF_ok t2.ok, Nat.le_trans t2.sum (by omega), t2.lf⟩
    have hp2 : Rec D (putF (tripsS f).1 p) := ⟨t3.kept, t3.pend⟩
    obtain ⟨u, r⟩ := do_up (o := putO (tripsS f).1 p mode b) hp1 hp2 ⟨Chk_size hc, show E0.size ≤ 64 by decide, by show b.length ≤ _; omega⟩ (hcl _ _)
    refine h2 _ (tripsS f).1.now (if mhas (tripsS f).1.files p = true then (mgetD (tripsS f).1.files p).inode else (tripsS f).1.inodes + 1) u r hm ?_ t5 ?_ t7 (fun ha => by show (tripsS f).1.armed = false; rw [t8 ha]; exact ha)
    · show (applyS (tripsS f).1.files (putO (tripsS f).1 p mode b)).1 = _
      unfold applyS putO
      rw [if_pos rfl, if_neg (by rw [t4, hcl2]; exact Bool.false_ne_true), t4]
    · show (tripsS f).1.pending ++ [putO (tripsS f).1 p mode b] = _
      rw [t6]; rfl
theorem Remove_up {N : Nat} {f : S_simfs_FS} {p : ByteArray} {D : FL → Prop} {Q : S_simfs_FS → Int → Prop} (hu : Up N f) (hN : N ≤ 30000) (hr : Rec D f)
    (hcl : Cld D (rmO p)) (h0 : mhas f.files p = false → Q f 5) (h1 : f.armed = true → ∀ f', Dn N D f' → f'.quota = f.quota → Q f' 13)
    (h2 : ∀ f', Up (N + 1) f' → Rec D f' → mhas f.files p = true → f'.files = mdel f.files p → f'.kept = f.kept → f'.pending = f.pending ++ [rmO p] → f'.quota = f.quota → (f.armed = false → f'.armed = false) → Q f' 0) : simfs_FS_Remove_p f p Q := by
  refine Remove_p hu.ok (by omega) hu.lf ?_
  unfold remS
  rw [if_neg (by rw [hu.off]; exact Bool.false_ne_true)]
  by_cases hm : mhas f.files p = false
  · rw [if_pos hm]; exact h0 hm
  rw [if_neg hm]
  have hm : mhas f.files p = true := by simpa using hm
  rcases trips_up hu hr with ⟨t1, ta, t2, t3⟩ | ⟨t1, t2, t3, t4, t5, t6, t7, t8⟩
  · rw [if_pos t1]; exact h1 ta _ t2 t3
  · rw [if_neg (by rw [t1]; exact Bool.false_ne_true)]
    obtain ⟨u, r⟩ := do_up (o := rmO p) t2 t3 ⟨key_le hu.ok.files hm, show E0.size ≤ 64 by decide, by show ([] : List Int).length ≤ _; simp⟩ hcl
    refine h2 _ u r hm ?_ t5 ?_ t7 (fun ha => by show (tripsS f).1.armed = false; rw [t8 ha]; exact ha)
    · show (applyS (tripsS f).1.files (rmO p)).1 = _
      unfold applyS
      rw [if_neg (show ¬ (3 : Int) = 1 by decide), if_neg (show ¬ (3 : Int) = 2 by decide), if_pos rfl, t4]
    · show (tripsS f).1.pending ++ [rmO p] = _
      rw [t6]
theorem Rename_up {N : Nat} {f : S_simfs_FS} {p q : ByteArray} {D : FL → Prop} {Q : S_simfs_FS → Int → Prop} (hu : Up N f) (hN : N ≤ 30000) (hr : Rec D f) (hq : Chk q = 0) (hne : p ≠ q)
    (hcl : Cld D (rnO p q)) (h0 : mhas f.files p = false → Q f 5) (hcs : mhas f.files p = true → clashS f.files q p = false) (h1 : f.armed = true → ∀ f', Dn N D f' → f'.quota = f.quota → Q f' 13)
    (h2 : ∀ f', Up (N + 1) f' → Rec D f' → mhas f.files p = true → f'.files = mdel (mset f.files q (mgetD f.files p)) p → f'.kept = f.kept → f'.pending = f.pending ++ [rnO p q] → f'.quota = f.quota → (f.armed = false → f'.armed = false) → Q f' 0) : simfs_FS_Rename_p f p q Q := by
  refine Rename_p hu.ok (by omega) hu.lf ?_
  unfold renS
  rw [if_neg (by rw [hu.off]; exact Bool.false_ne_true)]
  by_cases hm : mhas f.files p = false
  · rw [if_pos hm]; exact h0 hm
  rw [if_neg hm]
  have hm : mhas f.files p = true := by simpa using hm
  rw [if_neg (fun hx => hx hq), if_neg (by rw [hcs hm]; exact Bool.false_ne_true), if_neg hne]
  rcases trips_up hu hr with ⟨t1, ta, t2, t3⟩ | ⟨t1, t2, t3, t4, t5, t6, t7, t8⟩
  · rw [if_pos t1]; exact h1 ta _ t2 t3
  · rw [if_neg (by rw [t1]; exact Bool.false_ne_true)]
    obtain ⟨u, r⟩ := do_up (o := rnO p q) t2 t3 ⟨key_le hu.ok.files hm, Chk_size hq, by show ([] : List Int).length ≤ _; simp⟩ hcl
    refine h2 _ u r hm ?_ t5 ?_ t7 (fun ha => by show (tripsS f).1.armed = false; rw [t8 ha]; exact ha)
    · show (applyS (tripsS f).1.files (rnO p q)).1 = _
      unfold applyS
      rw [if_neg (show ¬ (2 : Int) = 1 by decide), if_pos rfl, t4, if_neg (by rw [hm, hcs hm]; simp)]
    · show (tripsS f).1.pending ++ [rnO p q] = _
      rw [t6]
theorem Sync_up {N : Nat} {f : S_simfs_FS} {D : FL → Prop} {Q : S_simfs_FS → Int → Prop} (hu : Up N f) (hd : D f.files)
    (h : ∀ f', Up N f' → Rec D f' → f'.files = f.files → f'.kept = f.files → f'.pending = [] → f'.quota = f.quota → f'.armed = f.armed → Q f' 0) : simfs_FS_Sync_p f Q := by
  refine Sync_p ?_
  unfold syncS
  rw [if_neg (by rw [hu.off]; exact Bool.false_ne_true)]
  exact h _ ⟨hu.off, syncF_ok hu.ok, by show f.files.length + 0 ≤ N; exact hu.ok.files.2.1, hu.lf⟩ ⟨hd, fun o ho => by cases ho⟩ rfl rfl rfl rfl rfl
/-! what files tell behind an op -/
theorem V_mset {l : FL} {p q : ByteArray} {x : S_simfs_file} : V (mset l p x) q = if p = q then some (x.mode, x.b) else V l q := by
  unfold V; rw [mlook_mset]; split <;> rfl
theorem V_mdel {l : FL} {p q : ByteArray} (h : ND l) : V (mdel l p) q = if p = q then none else V l q := by
  unfold V; rw [mlook_mdel h]; split <;> rfl
theorem V_none {l : FL} {p : ByteArray} : V l p = none ↔ mhas l p = false := by
  unfold V; rw [mhas_of]; cases mlook l p <;> simp
theorem V_some {l : FL} {p : ByteArray} {m : Int} {b : List Int} (h : V l p = some (m, b)) : mhas l p = true ∧ (mgetD l p).mode = m ∧ (mgetD l p).b = b := by
  unfold V at h
  cases hm : mlook l p with
  | none => rw [hm] at h; cases h
  | some x =>
    rw [hm] at h; simp at h
    rw [mhas_of, hm, mgetD_some hm]; exact ⟨rfl, h⟩
theorem V_mem {l : FL} {p : ByteArray} : V l p ≠ none ↔ p ∈ l.map (·.1) := by
  rw [← mhas_iff]
  constructor
  · intro h; cases hm : mhas l p
    · exact absurd (V_none.2 hm) h
    · rfl
  · intro h h2; rw [V_none.1 h2] at h; cases h
theorem V_wr {l : FL} {p q : ByteArray} {mode t i : Int} {b : List Int} : V (applyS l (wrO p mode t i b)).1 q = if clashS l p E0 = true then V l q else if p = q then some (mode, b) else V l q := by
  unfold applyS
  rw [if_pos rfl]
  by_cases h : clashS l p E0 = true
  · rw [if_pos h, if_pos h]
  · rw [if_neg h, if_neg h]; exact V_mset
theorem V_rm {l : FL} {p q : ByteArray} (hn : ND l) : V (applyS l (rmO p)).1 q = if p = q then none else V l q := by
  unfold applyS
  rw [if_neg (show ¬ (3 : Int) = 1 by decide), if_neg (show ¬ (3 : Int) = 2 by decide), if_pos rfl]; exact V_mdel hn
theorem V_rn {l : FL} {p q r : ByteArray} (hn : ND l) : V (applyS l (rnO p q)).1 r = if V l p = none ∨ clashS l q p = true then V l r else if p = r then none else if q = r then V l p else V l r := by
  unfold applyS
  rw [if_neg (show ¬ (2 : Int) = 1 by decide), if_pos rfl]
  by_cases h : V l p = none ∨ clashS l q p = true
  · rw [if_pos h, if_pos (by rw [← V_none]; exact h)]
  · rw [if_neg h, if_neg (by rw [← V_none]; exact h), V_mdel (mset_nodup hn), V_mset]
    have : V l p ≠ none := fun e => h (.inl e)
    obtain ⟨⟨m, b⟩, hx⟩ := Option.ne_none_iff_exists'.1 this
    rw [(V_some hx).2.1, (V_some hx).2.2, hx]
end Go.Proofs.YtlkfoebophjhfaaGreatDoor
namespace Go.Proofs.YtlkfoebophjhfaaGreatDoor
open Go
abbrev J : ByteArray := ByteArray.mk #[46, 106]
abbrev noteP : ByteArray := J ++ ByteArray.mk #[47, 110, 111, 116, 101]
def decS (k : Nat) : ByteArray := ⟨(Lib.decDigits k).toArray⟩
/-- where a change's new file is staged -/
def sP (k : Nat) : ByteArray := (J ++ ByteArray.mk #[47, 115]) ++ decS k
abbrev own (p : ByteArray) : Bool := Und p J
theorem und_iff {p d : ByteArray} (hd : d ≠ E0) : Und p d = true ↔ ∃ r, r ≠ [] ∧ LL p = LL d ++ (47 :: r) := by
  unfold Und
  rw [if_neg hd, decide_eq_true_iff]
  constructor
  · rintro ⟨h1, h2⟩
    have h3 := (take_und p d (by omega)).2 h2
    rw [LL_inj, LL_sub, LL_cat, show ((d ++ ByteArray.mk #[47]).size : Int) = ((d.size + 1 : Nat) : Int) by rw [ByteArray.size_append]; rfl] at h3
    simp only [Int.toNat_natCast, Int.toNat_zero, List.drop_zero] at h3
    refine ⟨(LL p).drop (d.size + 1), fun e => ?_, ?_⟩
    · have := congrArg List.length e; rw [List.length_drop, LL_len] at this; simp at this; omega
    · conv => lhs; rw [← List.take_append_drop (d.size + 1) (LL p), h3]
      simp [LL]
  · rintro ⟨r, hr, h⟩
    have hl := congrArg List.length h
    rw [LL_len, List.length_append, LL_len, List.length_cons] at hl
    have hr0 : 0 < r.length := List.length_pos_iff.2 hr
    refine ⟨by omega, (take_und p d (by omega)).1 ?_⟩
    rw [LL_inj, LL_sub, LL_cat, show ((d ++ ByteArray.mk #[47]).size : Int) = ((d.size + 1 : Nat) : Int) by rw [ByteArray.size_append]; rfl]
    simp only [Int.toNat_natCast, Int.toNat_zero, List.drop_zero]
    rw [h, show d.size + 1 = (LL d ++ [47]).length by rw [List.length_append, LL_len]; rfl, show LL d ++ 47 :: r = (LL d ++ [47]) ++ r by simp, List.take_left']
    rfl
theorem J_ne : J ≠ E0 := by decide
theorem own_iff {p : ByteArray} : own p = true ↔ ∃ r, r ≠ [] ∧ LL p = 46 :: 106 :: 47 :: r := und_iff J_ne
theorem undB_J (p : ByteArray) : undB J p = own p := by
  have hsz : (J ++ ByteArray.mk #[47]).size = J.size + 1 := by rw [ByteArray.size_append]; rfl
  unfold undB own Und hasPre
  rw [if_neg J_ne, if_neg J_ne, ← Bool.decide_and]
  refine decide_eq_decide.2 ⟨fun ⟨h1, h2, h3⟩ => ⟨h1, (take_und p J (by omega)).1 h3⟩, fun ⟨h1, h2⟩ => ⟨h1, by omega, (take_und p J (by omega)).2 h2⟩⟩
theorem own_note : own noteP = true := by decide +kernel
theorem Chk_note : Chk noteP = 0 := by decide +kernel
theorem own_sP : ∀ {k : Nat}, own (sP k) = true := by
  intro k
  rw [own_iff]
  exact ⟨115 :: LL (decS k), by simp, by unfold sP; rw [LL_cat, LL_cat]; rfl⟩
theorem Chk_sP : ∀ {k : Nat}, k < 20 → Chk (sP k) = 0 := by
  have : ∀ k : Fin 20, Chk (sP k.val) = 0 := by decide +kernel
  exact fun {k} h => this ⟨k, h⟩
theorem sP_note {k : Nat} : sP k ≠ noteP := by
  intro e
  have := congrArg LL e
  unfold sP at this
  rw [LL_cat, LL_cat, LL_cat] at this
  simp [LL] at this
theorem sP_inj : ∀ {i j : Nat}, i < 20 → j < 20 → sP i = sP j → i = j := by
  have : ∀ i j : Fin 20, sP i.val = sP j.val → i = j := by decide +kernel
  exact fun {i j} hi hj h => congrArg Fin.val (this ⟨i, hi⟩ ⟨j, hj⟩ h)
theorem sP_ne {i j : Nat} (hi : i < 20) (hj : j < 20) (h : i ≠ j) : sP i ≠ sP j := fun e => h (sP_inj hi hj e)
theorem sP_size {k : Nat} (h : k < 20) : (sP k).size ≤ 64 := Chk_size (Chk_sP h)
theorem name_p {k : Nat} {Q : ByteArray → Prop} (hk : k < 20) (h : Q (sP k)) : journal_name_p J (k : Int) Q := by
  unfold journal_name_p strconv_Itoa_p
  intro _ _
  have h1 := sP_size hk
  unfold sP at h1
  exact ⟨by decide, k, rfl, by omega, fun _ => ⟨by unfold maxLen; exact Nat.le_trans h1 (by decide), h⟩⟩
/-- what may be a user's path -/
structure Usr (p : ByteArray) : Prop where
  chk : Chk p = 0
  ne : p ≠ J
  cl : Cl p J = false
theorem Cl_iff {a b : ByteArray} : Cl a b = false ↔ a = E0 ∨ b = E0 ∨ (Und a b = false ∧ Und b a = false) := by
  unfold Cl
  split
  · exact ⟨fun _ => .inl ‹_›, fun _ => rfl⟩
  split
  · exact ⟨fun _ => .inr (.inl ‹_›), fun _ => rfl⟩
  · rw [Bool.or_eq_false_iff]
    exact ⟨fun h => .inr (.inr h), fun h => by
      rcases h with h | h | h
      · exact absurd h ‹_›
      · exact absurd h ‹_›
      · exact h⟩
theorem Chk_ne {p : ByteArray} (h : Chk p = 0) : p ≠ E0 := by
  rintro rfl; exact absurd h (by decide +kernel)
theorem Usr.und {p : ByteArray} (h : Usr p) : own p = false ∧ Und J p = false := by
  rcases Cl_iff.1 h.cl with e | e | e
  · exact absurd e (Chk_ne h.chk)
  · exact absurd e J_ne
  · exact e
/-- A user's path doesn't clash with the journal's. -/
theorem Usr.own_cl {p q : ByteArray} (h : Usr p) (hq : own q = true) : Cl p q = false := by
  obtain ⟨r, hr, hl⟩ := own_iff.1 hq
  have hqn : q ≠ E0 := by rintro rfl; simp [LL] at hl
  have hpn := Chk_ne h.chk
  refine Cl_iff.2 (.inr (.inr ⟨?_, ?_⟩))
  · cases hu : Und p q
    · rfl
    · obtain ⟨r2, hr2, h2⟩ := (und_iff hqn).1 hu
      have : own p = true := own_iff.2 ⟨r ++ 47 :: r2, by simp, by rw [h2, hl]; simp⟩
      rw [h.und.1] at this; cases this
  · cases hu : Und q p
    · rfl
    · obtain ⟨r2, hr2, h2⟩ := (und_iff hpn).1 hu
      rw [hl] at h2
      rcases hp : LL p with _ | ⟨x, _ | ⟨y, _ | ⟨z, t⟩⟩⟩
      · exact absurd (LL_inj.2 hp) hpn
      · rw [hp] at h2; simp at h2
      · rw [hp] at h2; simp at h2
        exact absurd (LL_inj.2 (by rw [hp, ← h2.1, ← h2.2.1])) h.ne
      · rw [hp] at h2; simp at h2
        obtain ⟨rfl, rfl, rfl, h2⟩ := h2
        by_cases ht : t = []
        · subst ht
          have : p = ByteArray.mk #[46, 106, 47] := LL_inj.2 (by rw [hp])
          have hc := h.chk
          rw [this] at hc
          exact absurd hc (by decide +kernel)
        · have : own p = true := own_iff.2 ⟨t, ht, hp⟩
          rw [h.und.1] at this; cases this
theorem Usr.ne_own {p q : ByteArray} (h : Usr p) (hq : own q = true) : p ≠ q := by rintro rfl; rw [h.und.1] at hq; cases hq
end Go.Proofs.YtlkfoebophjhfaaGreatDoor
namespace Go.Proofs.YtlkfoebophjhfaaGreatDoor
open Go
abbrev Ch := S_journal_Change
abbrev Chs := List S_journal_Change
/-- what is wrong of a change -/
def chgS (l : Chs) (i : Nat) : Int :=
  if ¬ Chk (lget l i).Path = 0 then Chk (lget l i).Path else if (lget l i).Path = J ∨ Cl (lget l i).Path J = true then 5 else if ∃ c ∈ l.take i, c.Path = (lget l i).Path then 6
  else if (lget l i).Gone = false ∧ ¬ (lget l i).Mode = 1 ∧ ¬ (lget l i).Mode = 2 then 1 else if (lget l i).Gone = false ∧ (lget l i).Data.length > 65536 then 4 else 0
/-- the first that is wrong -/
def ckS (l : Chs) : Int := (((List.range l.length).map (chgS l)).find? fun e => !decide (e = 0)).getD 0
theorem ckS_ok {l : Chs} (h : ∀ i, i < l.length → chgS l i = 0) : ckS l = 0 := by
  unfold ckS
  rw [List.find?_eq_none.2]
  · rfl
  · intro x hx
    obtain ⟨i, hi, rfl⟩ := List.mem_map.1 hx
    rw [h i (List.mem_range.1 hi)]; simp
theorem ckS_at {l : Chs} {i : Nat} (hi : i < l.length) (h : ∀ j, j < i → chgS l j = 0) (hn : ¬ chgS l i = 0) : ckS l = chgS l i := by
  unfold ckS
  obtain ⟨as_, bs, he, ha⟩ : ∃ as_ bs, List.range l.length = as_ ++ i :: bs ∧ as_ = List.range i := by
    refine ⟨List.range i, (List.range l.length).drop (i + 1), ?_, rfl⟩
    have h1 : List.range i = (List.range l.length).take i := by rw [List.take_range, Nat.min_eq_left (Nat.le_of_lt hi)]
    have := List.take_append_drop i (List.range l.length)
    rw [List.drop_eq_getElem_cons (by simpa using hi), List.getElem_range] at this
    rw [h1]; exact this.symm
  rw [he, List.map_append, List.find?_append, List.find?_eq_none.2, Option.none_or, List.map_cons, List.find?_cons_of_pos]
  · rfl
  · simpa using hn
  · intro x hx
    obtain ⟨j, hj, rfl⟩ := List.mem_map.1 hx
    rw [ha] at hj
    rw [h j (List.mem_range.1 hj)]; simp
theorem ckS_zero {l : Chs} (h : ckS l = 0) : ∀ i, i < l.length → chgS l i = 0 := by
  intro i
  induction i using Nat.strongRecOn with
  | ind i ih =>
    intro hi
    cases Classical.em (chgS l i = 0) with
    | inl h1 => exact h1
    | inr h1 => rw [ckS_at hi (fun j hj => ih j hj (by omega)) h1] at h; exact absurd h h1
theorem folder_p {Q : Int → Prop} (h : Q 0) : journal_folder_p J Q := by
  unfold journal_folder_p
  refine fun _ => ⟨fun b => b = false, by rintro _ rfl; exact ⟨fun h => (by cases h), fun _ => h⟩, Check_p fun _ => ⟨fun _ => by decide, fun h1 => absurd (by decide +kernel : Chk J = 0) h1⟩⟩
theorem change_p {c : Ch} {Q : Int → Prop} (h : Q (if ¬ Chk c.Path = 0 then Chk c.Path else if c.Path = J ∨ Cl c.Path J = true then 5 else 0)) : journal_change_p J c Q := by
  unfold journal_change_p
  refine fun _ _ _ _ => Check_p fun _ => ⟨fun h1 => by rwa [if_pos h1] at h, fun h1 => ?_⟩
  rw [if_neg (fun hx => hx h1)] at h
  refine ⟨fun b => b = decide (c.Path = J ∨ Cl c.Path J = true), ?_, fun h2 => ?_, fun h2 => Clash_p ?_ (by decide) ?_⟩
  · rintro _ rfl
    refine ⟨fun h2 => ?_, fun h2 => ?_⟩
    · rwa [if_pos (of_decide_eq_true h2)] at h
    · rwa [if_neg (of_decide_eq_false h2)] at h
  · exact (decide_eq_true (Or.inl h2)).symm
  · have := Chk_size h1; omega
  · cases hc : Cl c.Path J
    · exact (decide_eq_false (by rintro (h | h); exact h2 h; cases h)).symm
    · exact (decide_eq_true (Or.inr rfl)).symm
theorem kind_p {c : Ch} {Q : Int → Prop} (h : Q (if ¬ c.Mode = 1 ∧ ¬ c.Mode = 2 then 1 else if c.Data.length > 65536 then 4 else 0)) : journal_kind_p c Q := by
  unfold journal_kind_p
  have key : (c.Mode = 1 ∨ c.Mode = 2) → ((((c.Data.length : Int) > 65536) → Q 4) ∧ ((¬ ((c.Data.length : Int) > 65536)) → Q 0)) := by
    intro hm
    rw [if_neg (by rintro ⟨h1, h2⟩; exact hm.elim h1 h2)] at h
    refine ⟨fun h1 => ?_, fun h1 => ?_⟩
    · rwa [if_pos (by omega)] at h
    · rwa [if_neg (by omega)] at h
  refine fun _ _ _ => ⟨c.Mode = 1 ∨ c.Mode = 2, key, fun h1 => .inl h1, fun h1 => ⟨fun h2 => .inr h2, fun h2 => ?_⟩⟩
  rwa [if_pos ⟨h1, h2⟩] at h
theorem take_mem {l : Chs} {k : Nat} (hk : k < l.length) (p : ByteArray) : p ∈ (l.take (k + 1)).map S_journal_Change.Path ↔ p ∈ (l.take k).map S_journal_Change.Path ∨ (lget l k).Path = p := by
  rw [take_lget hk, List.map_append, List.mem_append]
  simp only [List.map_cons, List.map_nil, List.mem_singleton]
  exact ⟨fun h => h.imp id Eq.symm, fun h => h.imp id Eq.symm⟩
theorem JCheck_p {l : Chs} {Q : Int → Prop} (hl : l.length ≤ 200) (h : Q (ckS l)) : journal_Check_p J l Q := by
  unfold journal_Check_p; simp only [inR_i64]
  refine fun _ _ => folder_p fun _ => ⟨fun h1 => absurd rfl h1, fun _ => ?_⟩
  refine ⟨fun s i => ∃ k : Nat, i = k ∧ k ≤ l.length ∧ (∀ j, j < k → chgS l j = 0) ∧ (∀ p, mgetD s p = true ↔ p ∈ (l.take k).map S_journal_Change.Path), fun _ i => l.length - i.toNat, ⟨0, rfl, Nat.zero_le _, fun j hj => absurd hj (Nat.not_lt_zero _), fun p => by simp [mgetD, mlook]⟩, ?_⟩
  rintro s _ ⟨k, rfl, hk, hz, hs⟩ _
  refine ⟨fun hlt => ?_, fun hge => by rw [ckS_ok fun i hi => hz i (by omega)] at h; exact h⟩
  have hkl : k < l.length := by omega
  obtain ⟨e0, he0⟩ : ∃ e0 : Int, e0 = if ¬ Chk (lget l k).Path = 0 then Chk (lget l k).Path else if (lget l k).Path = J ∨ Cl (lget l k).Path J = true then 5 else 0 := ⟨_, rfl⟩
  refine ⟨inL_nat.2 hkl, fun _ _ _ => change_p (fun _ => ?_)⟩
  rw [← he0]
  refine ⟨fun b => b = (decide (e0 = 0) && mgetD s (lget l k).Path), ?_, fun h => by simp [h], fun h => by simp [h]⟩
  rintro _ rfl
  obtain ⟨e2, he2⟩ : ∃ e2 : Int, e2 = if (decide (e0 = 0) && mgetD s (lget l k).Path) = true then 6 else e0 := ⟨_, rfl⟩
  refine ⟨fun e => e2 = e, ?_, fun h => by rw [he2, if_pos h], fun h => by rw [he2, if_neg (by rw [h]; simp)]⟩
  rintro _ rfl _
  refine ⟨fun b => b = (decide (e2 = 0) && !(lget l k).Gone), ?_, fun h => by simp [h], fun h => by simp [h]⟩
  rintro _ rfl
  obtain ⟨e3, he3⟩ : ∃ e3 : Int, e3 = if (decide (e2 = 0) && !(lget l k).Gone) = true then (if ¬ (lget l k).Mode = 1 ∧ ¬ (lget l k).Mode = 2 then 1 else if (lget l k).Data.length > 65536 then 4 else 0) else e2 := ⟨_, rfl⟩
  refine ⟨fun e => e3 = e, ?_, fun h => kind_p (fun _ => by rw [he3, if_pos h]), fun h => by rw [he3, if_neg (by rw [h]; simp)]⟩
  rintro _ rfl _
  refine ⟨fun b => b = false, ?_, fun _ => decide_eq_false (by omega), fun _ => rfl⟩
  rintro _ rfl
  refine ⟨fun e => e3 = e, ?_, ⟨fun h => (by cases h), fun _ => rfl⟩⟩
  rintro _ rfl _
  have hc : chgS l k = e3 := by
    unfold chgS
    have hsp := hs (lget l k).Path
    rw [he3]
    by_cases c1 : ¬ Chk (lget l k).Path = 0
    · rw [if_pos c1]; rw [if_pos c1] at he0
      rw [if_neg (by rw [he0]; simp [c1])] at he2
      rw [if_neg (by rw [he2, he0]; simp [c1]), he2, he0]
    rw [if_neg c1] at he0 ⊢
    by_cases c2 : (lget l k).Path = J ∨ Cl (lget l k).Path J = true
    · rw [if_pos c2]; rw [if_pos c2] at he0
      rw [if_neg (by rw [he0]; simp)] at he2
      rw [if_neg (by rw [he2, he0]; simp), he2, he0]
    rw [if_neg c2] at he0 ⊢
    rw [List.mem_map] at hsp
    by_cases c3 : ∃ c ∈ l.take k, c.Path = (lget l k).Path
    · rw [if_pos c3]
      rw [if_pos (by rw [he0, hsp.2 c3]; rfl)] at he2
      rw [if_neg (by rw [he2]; simp), he2]
    rw [if_neg c3]
    have c3' : mgetD s (lget l k).Path = false := by cases hm : mgetD s (lget l k).Path; rfl; exact absurd (hsp.1 hm) c3
    rw [if_neg (by rw [c3']; simp)] at he2
    rw [he0] at he2
    rw [he2]
    cases hg : (lget l k).Gone
    · simp only [true_and, decide_true, Bool.true_and, Bool.not_false, if_true]
    · simp
  refine ⟨fun hn => ?_, fun h0 => ⟨⟨by omega, by omega⟩, ⟨k + 1, rfl, hkl, fun j hj => ?_, fun p => ?_⟩, by dsimp only; omega⟩⟩
  · rw [ckS_at hkl hz (by rw [hc]; exact hn), hc] at h; exact h
  · rcases Nat.lt_or_ge j k with h1 | h1
    · exact hz j h1
    · rw [show j = k by omega, hc]; exact h0
  · rw [take_mem hkl, ← hs p]
    unfold mgetD; rw [mlook_mset]
    by_cases hp : (lget l k).Path = p
    · rw [if_pos hp]; simp [hp]
    · rw [if_neg hp]; simp [hp]
/-- changes that may be -/
structure LGood (l : Chs) : Prop where
  len : l.length ≤ 20
  usr : ∀ c ∈ l, Usr c.Path
  nd : (l.map S_journal_Change.Path).Nodup
  kind : ∀ c ∈ l, c.Gone = false → (c.Mode = 1 ∨ c.Mode = 2) ∧ c.Data.length ≤ 65536
theorem chgS_zero {l : Chs} {i : Nat} (h : chgS l i = 0) : Usr (lget l i).Path ∧ (lget l i).Path ∉ (l.take i).map S_journal_Change.Path ∧ ((lget l i).Gone = false → ((lget l i).Mode = 1 ∨ (lget l i).Mode = 2) ∧ (lget l i).Data.length ≤ 65536) := by
  unfold chgS at h
  split at h
  · exact absurd h ‹_›
  rename_i h1
  split at h
  · cases h
  rename_i h2
  split at h
  · cases h
  rename_i h3
  split at h
  · cases h
  rename_i h4
  split at h
  · cases h
  rename_i h5
  rw [← List.mem_map] at h3
  refine ⟨⟨Classical.not_not.1 h1, fun e => h2 (.inl e), by cases hc : Cl (lget l i).Path J; rfl; exact absurd (.inr hc) h2⟩, h3, fun hg => ⟨?_, ?_⟩⟩
  · by_cases e : (lget l i).Mode = 1
    · exact .inl e
    · exact .inr (Classical.not_not.1 fun e2 => h4 ⟨hg, e, e2⟩)
  · exact Nat.le_of_not_lt fun e => h5 ⟨hg, e⟩
theorem ckS_good {l : Chs} (hl : l.length ≤ 20) (h : ckS l = 0) : LGood l := by
  have hz := ckS_zero h
  have hm : ∀ c ∈ l, ∃ i, i < l.length ∧ lget l (i : Int) = c := fun c hc => by
    obtain ⟨i, hi, rfl⟩ := List.mem_iff_getElem.1 hc
    exact ⟨i, hi, lget_lt hi⟩
  refine ⟨hl, fun c hc => ?_, ?_, fun c hc => ?_⟩
  · obtain ⟨i, hi, rfl⟩ := hm c hc; exact (chgS_zero (hz i hi)).1
  · rw [List.nodup_iff_pairwise_ne, List.pairwise_iff_getElem]
    intro i j hi hj hij e
    rw [List.length_map] at hi hj
    have := (chgS_zero (hz j hj)).2.1
    rw [lget_lt hj] at this
    apply this
    rw [List.getElem_map, List.getElem_map] at e
    rw [← e]
    refine List.mem_map_of_mem ?_
    rw [List.mem_take_iff_getElem]
    exact ⟨i, by omega, rfl⟩
  · obtain ⟨i, hi, rfl⟩ := hm c hc; exact (chgS_zero (hz i hi)).2.2
end Go.Proofs.YtlkfoebophjhfaaGreatDoor
namespace Go.Proofs.YtlkfoebophjhfaaGreatDoor
open Go
def noteC (c : Ch) : List Int := encT c.Path ++ encI (if c.Gone = true then 1 else 0)
/-- the note's bytes -/
def noteB (l : Chs) : List Int := encI (l.length : Int) ++ l.flatMap noteC
theorem encT_len (s : ByteArray) (hs : s.size ≤ 1000) : (encT s).length ≤ 10 + s.size := by
  unfold encT; rw [List.length_append, bytesL_len]
  have := encI_len (n := (s.size : Int)) (inR_i64.2 ⟨by omega, by omega⟩); omega
theorem noteC_len {c : Ch} (hs : c.Path.size ≤ 64) : (noteC c).length ≤ 84 := by
  unfold noteC; rw [List.length_append]
  have h1 := encT_len c.Path (by omega)
  have h2 := encI_len (n := if c.Gone = true then 1 else 0) (by split <;> exact inR_i64.2 ⟨by decide, by decide⟩)
  omega
theorem flat_len {l : Chs} (hs : ∀ c ∈ l, c.Path.size ≤ 64) : (l.flatMap noteC).length ≤ 84 * l.length := by
  induction l with
  | nil => simp
  | cons c l ih =>
    rw [List.flatMap_cons, List.length_append, List.length_cons]
    have h1 := noteC_len (hs c (by simp))
    have h2 := ih fun x hx => hs x (by simp [hx])
    omega
theorem noteB_len {l : Chs} (hl : l.length ≤ 20) (hs : ∀ c ∈ l, c.Path.size ≤ 64) : (noteB l).length ≤ 1690 := by
  unfold noteB; rw [List.length_append]
  have h1 := encI_len (n := (l.length : Int)) (inR_i64.2 ⟨by omega, by omega⟩)
  have h2 := flat_len hs
  omega
theorem DErr_p {d : S_codec_Dec} {Q : S_codec_Dec → PErr → Prop} (h : Q d d.err) : codec_Dec_Err_p d Q := by unfold codec_Dec_Err_p; exact fun _ _ => h
def cv (c : Ch) : Ch := ⟨c.Path, c.Gone, 0, []⟩
theorem goneI (b : Bool) : decide ((if b = true then (1 : Int) else 0) = 1) = b := by cases b <;> rfl
theorem read_p {l : Chs} {Q : Chs → Bool → Prop} (hl : l.length ≤ 20) (hs : ∀ c ∈ l, c.Path.size ≤ 64) (h : Q (l.map cv) true) : journal_read_p (noteB l) Q := by
  unfold journal_read_p; intro _
  have hlen := noteB_len hl hs
  refine Of_p (by omega) ?_
  have hn : inR .i64 (l.length : Int) := inR_i64.2 ⟨by omega, by omega⟩
  refine DecInt_p (d := ⟨noteB l, 0, .nil⟩) (pre := []) (post := l.flatMap noteC) hn rfl rfl rfl (by show (noteB l).length ≤ _; omega) (fun _ => ?_)
  have hat : ∀ k, k ≤ l.length → noteB l = (encI (l.length : Int) ++ (l.take k).flatMap noteC) ++ (l.drop k).flatMap noteC := fun k _ => by
    unfold noteB
    rw [List.append_assoc, ← List.flatMap_append, List.take_append_drop]
  refine ⟨fun out i d => ∃ k : Nat, i = k ∧ k ≤ l.length ∧ out = (l.take k).map cv ∧ d = ⟨noteB l, ((encI (l.length : Int) ++ (l.take k).flatMap noteC).length : Nat), .nil⟩, fun _ i _ => l.length - i.toNat, ⟨0, rfl, Nat.zero_le _, rfl, by simp⟩, ?_⟩
  rintro _ _ _ ⟨k, rfl, hk, rfl, rfl⟩ _ hi
  have hi := inR_i64.1 hi
  refine ⟨fun b o => b = decide (k < l.length) ∧ o = ⟨noteB l, ((encI (l.length : Int) ++ (l.take k).flatMap noteC).length : Nat), .nil⟩, ?_, fun hlt => DErr_p ⟨fun _ => ⟨by rw [decide_eq_true (show k < l.length by omega), decide_eq_true (show (k : Int) < 256 by omega)], rfl⟩, fun hx => absurd rfl hx⟩, fun hge => ⟨(decide_eq_false (by omega)).symm, rfl⟩⟩
  rintro _ _ ⟨rfl, rfl⟩
  refine ⟨fun hlt => ?_, fun hge => ?_⟩
  · have hkl : k < l.length := of_decide_eq_true hlt
    have hmem := lget_mem (inL_nat.2 hkl)
    have hb0 : noteB l = (encI (l.length : Int) ++ (l.take k).flatMap noteC) ++ (encT (lget l (k : Int)).Path ++ (encI (if (lget l (k : Int)).Gone = true then 1 else 0) ++ (l.drop (k + 1)).flatMap noteC)) := by
      unfold noteB
      rw [flat_cut noteC hkl]
      show _ ++ (_ ++ (noteC (lget l (k : Int)) ++ _)) = _
      unfold noteC; simp only [List.append_assoc]
    refine DecText_p (d := ⟨noteB l, ((encI (l.length : Int) ++ (l.take k).flatMap noteC).length : Nat), .nil⟩) hb0 rfl rfl (by show (noteB l).length ≤ _; omega) (fun _ => ?_)
    have hb1 : noteB l = ((encI (l.length : Int) ++ (l.take k).flatMap noteC) ++ encT (lget l (k : Int)).Path) ++ (encI (if (lget l (k : Int)).Gone = true then 1 else 0) ++ (l.drop (k + 1)).flatMap noteC) := by rw [hb0]; simp only [List.append_assoc]
    refine DecInt_p (n := if (lget l (k : Int)).Gone = true then 1 else 0) (by split <;> exact inR_i64.2 ⟨by decide, by decide⟩) hb1 (by rw [List.length_append (bs := encT _)]) rfl (by show (noteB l).length ≤ _; omega) (fun _ => ?_)
    refine ⟨by simp; omega, ?_⟩
    rintro _ rfl
    refine ⟨inR_i64.2 ⟨by omega, by omega⟩, ⟨k + 1, by omega, hkl, ?_, ?_⟩, by dsimp only; omega⟩
    · rw [take_lget hkl, List.map_append, goneI]; rfl
    · rw [flat_take noteC hkl]
      congr 1
      rw [show ∀ x y : Nat, x = y → ((x : Nat) : Int) = ((y : Nat) : Int) from fun x y e => by rw [e]]
      unfold noteC; simp only [List.length_append]; omega
  · have hkl : k = l.length := by have := of_decide_eq_false hge; omega
    subst hkl
    refine ⟨fun b => b = true, by rintro _ rfl; rw [List.take_length]; exact h, DErr_p ⟨fun _ => ?_, fun hx => absurd rfl hx⟩⟩
    unfold codec_Dec_Left_p
    have e1 : (noteB l).length = (encI (l.length : Int) ++ (l.take l.length).flatMap noteC).length := by rw [List.take_length]; rfl
    refine fun _ _ => ⟨fun hx => (by cases hx), fun _ => ⟨inR_i64.2 ⟨by dsimp only; omega, by dsimp only; omega⟩, fun _ => ⟨fun _ => ?_, fun hx => absurd (by dsimp only; omega) hx⟩⟩⟩
    simp
end Go.Proofs.YtlkfoebophjhfaaGreatDoor
namespace Go.Proofs.YtlkfoebophjhfaaGreatDoor
open Go
/-! what is the journal's own -/
theorem keysB_mem {l : FL} {p : ByteArray} : p ∈ keysB l ↔ p ∈ l.map (·.1) := by
  unfold keysB keysL
  rw [List.mem_map, List.mem_map]
  constructor
  · rintro ⟨x, hx, rfl⟩
    obtain ⟨y, hy, rfl⟩ := List.mem_map.1 ((List.mergeSort_perm _ _).mem_iff.1 hx)
    exact ⟨y, hy, rfl⟩
  · rintro ⟨y, hy, rfl⟩
    exact ⟨y.1.data.toList, (List.mergeSort_perm _ _).mem_iff.2 (List.mem_map.2 ⟨y, hy, rfl⟩), rfl⟩
def ownL (l : FL) : List ByteArray := (keysB l).filter own
theorem ownL_mem {l : FL} {p : ByteArray} : p ∈ ownL l ↔ own p = true ∧ V l p ≠ none := by
  unfold ownL; rw [List.mem_filter, keysB_mem, V_mem]; exact ⟨fun h => ⟨h.2, h.1⟩, fun h => ⟨h.2, h.1⟩⟩
theorem ownL_nil {l : FL} : ownL l = [] ↔ ∀ p, own p = true → V l p = none := by
  constructor
  · intro h p hp
    cases hv : V l p with
    | none => rfl
    | some x => have := (ownL_mem (l := l) (p := p)).2 ⟨hp, by rw [hv]; simp⟩; rw [h] at this; cases this
  · intro h
    refine List.eq_nil_iff_forall_not_mem.2 fun p hp => ?_
    obtain ⟨h1, h2⟩ := ownL_mem.1 hp
    exact h2 (h p h1)
theorem keysB_nd {l : FL} (h : ND l) : (keysB l).Nodup := by
  unfold keysB keysL
  have h2 : ((l.map fun p => p.1.data.toList).mergeSort leB).Nodup := by
    refine (List.mergeSort_perm _ _).nodup_iff.2 ?_
    have : (l.map fun p => p.1.data.toList) = (l.map (·.1)).map LL := by rw [List.map_map]; rfl
    rw [this]
    exact List.Pairwise.map LL (fun x y hxy e => hxy (LL_inj.2 e)) h
  refine List.Pairwise.map _ (fun x y hxy e => hxy ?_) h2
  have := congrArg LL e; simpa [LL] using this
theorem nd_le {α : Type} [DecidableEq α] : ∀ (r names : List α), r.Nodup → (∀ x ∈ r, x ∈ names) → r.length ≤ names.length
  | [], _, _, _ => Nat.zero_le _
  | x :: r, names, hn, h => by
    have hx := h x (by simp)
    have hn := List.nodup_cons.1 hn
    have := nd_le r (names.erase x) hn.2 fun y hy => (List.mem_erase_of_ne (fun e => hn.1 (by rw [← e]; exact hy))).2 (h y (by simp [hy]))
    rw [List.length_erase_of_mem hx] at this
    have hp : 0 < names.length := List.length_pos_of_mem hx
    rw [List.length_cons]; omega
theorem JOwn_p {K : Nat} {f : S_simfs_FS} {Q : S_simfs_FS → List ByteArray → Int → Prop} (hf : FOk K f) (hK : K ≤ 100000) (h1 : f.off = true → Q f [] 13) (h2 : f.off = false → Q f (ownL f.files) 0) : journal_own_p f J Q := by
  unfold journal_own_p
  refine fun _ => List_p hf hK (fun ho _ _ => ⟨fun _ => h1 ho, fun h => absurd h (by decide)⟩) (fun ho _ _ => ⟨fun h => absurd rfl h, fun _ => ⟨by decide, ?_⟩⟩)
  have : (keysB f.files).filter (undB J) = ownL f.files := by unfold ownL; congr 1; funext p; exact undB_J p
  rw [this]; exact h2 ho
theorem Idle_p {K : Nat} {f : S_simfs_FS} {Q : S_simfs_FS → Bool → Int → Prop} (hf : FOk K f) (hK : K ≤ 100000) (h1 : f.off = true → Q f false 13) (h2 : f.off = false → Q f (decide (ownL f.files = [])) 0) : journal_Idle_p f J Q := by
  unfold journal_Idle_p
  refine fun _ => folder_p fun _ => ⟨fun h => absurd rfl h, fun _ => JOwn_p hf hK (fun ho _ _ => ?_) (fun ho _ _ => ?_)⟩
  · have := h1 ho; simpa using this
  · have := h2 ho
    rwa [show decide ((0 : Int) = 0 ∧ ((ownL f.files).length : Int) = 0) = decide (ownL f.files = []) from decide_eq_decide.2 ⟨fun h => List.eq_nil_of_length_eq_zero (by omega), fun h => ⟨rfl, by rw [h]; rfl⟩⟩]
/-! what is told apart -/
/-- What a row of changes makes of files. -/
def nextV (now : Vw) (l : Chs) : Vw := fun p => match l.find? fun c => decide (c.Path = p) with
  | some c => if c.Gone = true then none else some (c.Mode, c.Data)
  | none => now p
theorem nextV_oth {now : Vw} {l : Chs} {p : ByteArray} (h : ∀ c ∈ l, c.Path ≠ p) : nextV now l p = now p := by
  unfold nextV
  rw [List.find?_eq_none.2 fun c hc => by simpa using h c hc]
theorem find_nd {l : Chs} (hn : (l.map S_journal_Change.Path).Nodup) {c : Ch} (hc : c ∈ l) : l.find? (fun x => decide (x.Path = c.Path)) = some c := by
  induction l with
  | nil => cases hc
  | cons x l ih =>
    rw [List.map_cons, List.nodup_cons] at hn
    rcases List.mem_cons.1 hc with rfl | h
    · rw [List.find?_cons_of_pos (by simp)]
    · rw [List.find?_cons_of_neg (by
        have : x.Path ≠ c.Path := fun e => hn.1 (by rw [e]; exact List.mem_map_of_mem h)
        simpa using this)]
      exact ih hn.2 h
theorem nextV_at {now : Vw} {l : Chs} (hn : (l.map S_journal_Change.Path).Nodup) {c : Ch} (hc : c ∈ l) : nextV now l c.Path = if c.Gone = true then none else some (c.Mode, c.Data) := by
  unfold nextV; rw [find_nd hn hc]
/-- users' files alone -/
def UOk (u : Vw) : Prop := ∀ p, u p ≠ none → Usr p
/-- no two clash -/
def NC (u : Vw) : Prop := ∀ p q, u p ≠ none → u q ≠ none → Cl p q = false
theorem UOk.own {u : Vw} (h : UOk u) {p : ByteArray} (hp : own p = true) : u p = none := by
  cases hu : u p with
  | none => rfl
  | some x => have := (h p (by rw [hu]; simp)).und.1; rw [hp] at this; cases this
theorem UOk.next {now : Vw} {l : Chs} (h : UOk now) (hg : LGood l) : UOk (nextV now l) := by
  intro p hp
  by_cases hc : ∃ c ∈ l, c.Path = p
  · obtain ⟨c, hc, rfl⟩ := hc; exact hg.usr c hc
  · rw [nextV_oth fun c h e => hc ⟨c, h, e⟩] at hp; exact h p hp
/-- The journal's folder is empty: only users' files are there. -/
def PI (u : Vw) (x : FL) : Prop := ∀ p, V x p = u p
/-- No note is there. -/
structure PA (u : Vw) (x : FL) : Prop where
  usr : ∀ p, own p = false → V x p = u p
  note : V x noteP = none
  nm : ∀ p, own p = true → V x p ≠ none → ∃ k, k < 20 ∧ p = sP k
/-- All is done; the note is there still. -/
structure PX (u : Vw) (l : Chs) (x : FL) : Prop where
  usr : ∀ p, own p = false → V x p = u p
  note : V x noteP = some (1, noteB l)
  nm : ∀ p, own p = true → p ≠ noteP → V x p = none
/-- The note is there; some of what it says is done. -/
structure PB (now : Vw) (l : Chs) (x : FL) : Prop where
  note : V x noteP = some (1, noteB l)
  oth : ∀ p, own p = false → (∀ c ∈ l, c.Path ≠ p) → V x p = now p
  gone : ∀ c ∈ l, c.Gone = true → V x c.Path = now c.Path ∨ V x c.Path = none
  put : ∀ k : Nat, k < l.length → (lget l k).Gone = false → (V x (sP k) = some ((lget l k).Mode, (lget l k).Data) ∧ V x (lget l k).Path = now (lget l k).Path) ∨ (V x (sP k) = none ∧ V x (lget l k).Path = some ((lget l k).Mode, (lget l k).Data))
  nm : ∀ p, own p = true → p ≠ noteP → V x p ≠ none → ∃ k : Nat, k < l.length ∧ (lget l k).Gone = false ∧ p = sP k
theorem PX.pb {now : Vw} {l : Chs} {x : FL} (hg : LGood l) (h : PX (nextV now l) l x) : PB now l x := by
  refine ⟨h.note, fun p hp hc => (h.usr p hp).trans (nextV_oth hc), fun c hc hgn => .inr ?_, fun k hk hgn => .inr ⟨h.nm _ own_sP sP_note, ?_⟩, fun p hp hn hv => absurd (h.nm p hp hn) hv⟩
  · rw [h.usr _ (hg.usr c hc).und.1, nextV_at hg.nd hc, if_pos hgn]
  · have hm := lget_mem (inL_nat.2 hk)
    rw [h.usr _ (hg.usr _ hm).und.1, nextV_at hg.nd hm, if_neg (by rw [hgn]; exact Bool.false_ne_true)]
theorem PI.pa {u : Vw} {x : FL} (hu : UOk u) (h : PI u x) : PA u x := ⟨fun p _ => h p, (h _).trans (hu.own own_note), fun p hp hv => absurd ((h p).trans (hu.own hp)) hv⟩
theorem PA.pi {u : Vw} {x : FL} (hu : UOk u) (h : PA u x) (hn : ∀ p, own p = true → V x p = none) : PI u x := fun p => by
  cases hp : own p
  · exact h.usr p hp
  · rw [hn p hp, hu.own hp]
theorem clash_none {l : FL} {p but : ByteArray} (h : ∀ q, V l q ≠ none → q ≠ but → Cl p q = false) : clashS l p but = false := by
  unfold clashS
  rw [List.any_eq_false]
  intro x hx
  by_cases hb : x.1 = but
  · simp [hb]
  · rw [h x.1 (V_mem.2 (List.mem_map_of_mem hx)) hb]; simp
/-- what two places of one row tell -/
theorem path_inj {l : Chs} (hg : LGood l) {i j : Nat} (hi : i < l.length) (hj : j < l.length) (h : (lget l (i : Int)).Path = (lget l (j : Int)).Path) : i = j := by
  have hn := List.pairwise_iff_getElem.1 (List.nodup_iff_pairwise_ne.1 hg.nd)
  rw [lget_lt hi, lget_lt hj] at h
  rcases Nat.lt_trichotomy i j with hij | hij | hij
  · exact absurd (by rw [List.getElem_map, List.getElem_map]; exact h) (hn i j (by simpa using hi) (by simpa using hj) hij)
  · exact hij
  · exact absurd (by rw [List.getElem_map, List.getElem_map]; exact h.symm) (hn j i (by simpa using hj) (by simpa using hi) hij)
theorem mem_at {l : Chs} {c : Ch} (h : c ∈ l) : ∃ k : Nat, k < l.length ∧ lget l (k : Int) = c := by
  obtain ⟨i, hi, rfl⟩ := List.mem_iff_getElem.1 h
  exact ⟨i, hi, lget_lt hi⟩
/-- A file that goes. -/
theorem PB.rm {now : Vw} {l : Chs} (hg : LGood l) {c : Ch} (hc : c ∈ l) (hgn : c.Gone = true) : Cld (PB now l) (rmO c.Path) := by
  intro x hn h
  have hu := hg.usr c hc
  have hV : ∀ q, c.Path ≠ q → V (applyS x (rmO c.Path)).1 q = V x q := fun q hq => by rw [V_rm hn, if_neg hq]
  have hN : V (applyS x (rmO c.Path)).1 c.Path = none := by rw [V_rm hn, if_pos rfl]
  refine ⟨by rw [hV _ (hu.ne_own own_note)]; exact h.note, fun p hp hoth => by rw [hV p (hoth c hc)]; exact h.oth p hp hoth, fun d hd hdg => ?_, fun k hk hkg => ?_, fun p hp hnp hv => ?_⟩
  · by_cases e : c.Path = d.Path
    · rw [← e]; exact .inr hN
    · rw [hV _ e]; exact h.gone d hd hdg
  · have e : c.Path ≠ (lget l k).Path := fun e => by
      obtain ⟨j, hj, rfl⟩ := mem_at hc
      rw [path_inj hg hj hk e, hkg] at hgn; cases hgn
    rw [hV _ (hu.ne_own own_sP), hV _ e]; exact h.put k hk hkg
  · rw [hV p (hu.ne_own hp)] at hv; exact h.nm p hp hnp hv
/-- A staged file that takes its place. -/
theorem PB.rn {now : Vw} {l : Chs} (hg : LGood l) {k : Nat} (hk : k < l.length) (hgn : (lget l (k : Int)).Gone = false) : Cld (PB now l) (rnO (sP k) (lget l k).Path) := by
  intro x hn h
  have hm := lget_mem (inL_nat.2 hk)
  have hu := hg.usr _ hm
  have hl := hg.len
  by_cases hcase : V x (sP k) = none ∨ clashS x (lget l k).Path (sP k) = true
  · have hV : ∀ q, V (applyS x (rnO (sP k) (lget l k).Path)).1 q = V x q := fun q => by rw [V_rn hn, if_pos hcase]
    refine ⟨by rw [hV]; exact h.note, fun p hp ho => by rw [hV]; exact h.oth p hp ho, fun c hc hcg => by rw [hV]; exact h.gone c hc hcg, fun j hj hjg => by rw [hV, hV]; exact h.put j hj hjg, fun p hp hnp hv => by rw [hV] at hv; exact h.nm p hp hnp hv⟩
  · have hs : V x (sP k) ≠ none := fun e => hcase (.inl e)
    have hput : V x (sP k) = some ((lget l k).Mode, (lget l k).Data) := by
      rcases h.put k hk hgn with h1 | h1
      · exact h1.1
      · exact absurd h1.1 hs
    have hV : ∀ q, V (applyS x (rnO (sP k) (lget l k).Path)).1 q = if sP k = q then none else if (lget l k).Path = q then V x (sP k) else V x q := fun q => by rw [V_rn hn, if_neg hcase]
    have hk20 : k < 20 := by omega
    refine ⟨?_, fun p hp ho => ?_, fun c hc hcg => ?_, fun j hj hjg => ?_, fun p hp hnp hv => ?_⟩
    · rw [hV, if_neg sP_note, if_neg (hu.ne_own own_note)]; exact h.note
    · rw [hV, if_neg (fun e => by rw [← e, own_sP] at hp; cases hp), if_neg (ho _ hm)]; exact h.oth p hp ho
    · have e : (lget l k).Path ≠ c.Path := fun e => by
        obtain ⟨j, hj, rfl⟩ := mem_at hc
        rw [path_inj hg hk hj e, hcg] at hgn; cases hgn
      rw [hV, if_neg (fun e => (hg.usr c hc).ne_own own_sP e.symm), if_neg e]; exact h.gone c hc hcg
    · by_cases e : k = j
      · subst e
        right
        rw [hV, if_pos rfl, hV, if_neg (fun e => hu.ne_own own_sP e.symm), if_pos rfl, hput]; exact ⟨rfl, rfl⟩
      · have hmj := lget_mem (inL_nat.2 hj)
        have huj := hg.usr _ hmj
        rw [hV, if_neg (sP_ne hk20 (by omega) e), if_neg (hu.ne_own own_sP), hV, if_neg (fun e => huj.ne_own own_sP e.symm), if_neg (fun e2 => e (path_inj hg hk hj e2))]
        exact h.put j hj hjg
    · rw [hV] at hv
      by_cases e : sP k = p
      · rw [if_pos e] at hv; exact absurd rfl hv
      · rw [if_neg e, if_neg (hu.ne_own hp)] at hv; exact h.nm p hp hnp hv
end Go.Proofs.YtlkfoebophjhfaaGreatDoor
