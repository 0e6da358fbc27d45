/- The plain law of FilesSync. -/
import Derived.Test.YtaolmfepdmgohaaDoorFiS
namespace Go.Proofs.YtaolmfepdmgohaaDoor
open Go
theorem cutS_snoc (o : S_simfs_op) : ∀ (os : List S_simfs_op) (ks : List Bool) (l : FL), cutS (os ++ [o]) ks l = if (ks.drop os.length).headD false = true then (applyS (cutS os ks l) o).1 else cutS os ks l
  | [], [], l => rfl
  | [], k :: ks, l => by
    show cutS [] ks (if k = true then (applyS l o).1 else l) = if k = true then (applyS l o).1 else l
    rfl
  | p :: os, [], l => by
    show l = _
    rw [List.drop_nil]; rfl
  | p :: os, k :: ks, l => by
    show cutS (os ++ [o]) ks _ = _
    rw [cutS_snoc o os ks]; rfl
/-- what the files are: W: for each name, 0: none; else the byte more than its one byte -/
def Files (l : FL) (W : List Int) : Prop := (l.map (·.1)).Nodup ∧ (∀ x ∈ l, ∃ c : Nat, c < 16 ∧ x.1 = nm c ∧ 0 < lget W (c : Int)) ∧ ∀ c : Nat, c < 16 → 0 < lget W (c : Int) → ∃ x, mlook l (nm c) = some x ∧ x.b = [lget W (c : Int) - 1]
theorem Files.sz {l : FL} {W : List Int} (h : Files l W) : ∀ x ∈ l, x.1.size = 2 := fun x hx => by
  obtain ⟨c, hc, e, _⟩ := h.2.1 x hx
  rw [e]; exact nmSize (by omega)
theorem Files.none {l : FL} {W : List Int} (h : Files l W) {c : Nat} (hc : c < 16) (hw : ¬ 0 < lget W (c : Int)) : mlook l (nm c) = none := by
  cases hl : mlook l (nm c) with
  | none => rfl
  | some x =>
    obtain ⟨d, hd, e, hp⟩ := h.2.1 _ (mlook_mem hl)
    have : d = c := (nm_inj (by omega) (by omega) e).symm
    subst this; exact absurd hp hw
theorem Files.set {l : FL} {W : List Int} {c : Nat} {x : S_simfs_file} {v : Int} (h : Files l W) (hW : W.length = 16) (hc : c < 16) (hv : 0 < v) (hx : x.b = [v - 1]) : Files (mset l (nm c) x) (lset W (c : Int) v) := by
  have hl : ∀ d : Nat, lget (lset W (c : Int) v) (d : Int) = if c = d then v else lget W (d : Int) := fun d => by
    rw [lset_nat, lget_nat, lget_nat, List.getD, List.getElem?_set]
    by_cases e : c = d
    · subst e; rw [if_pos rfl, if_pos (by omega), if_pos rfl]; rfl
    · rw [if_neg e, if_neg e]; rfl
  refine ⟨mset_nodup h.1, fun y hy => ?_, fun d hd hp => ?_⟩
  · rcases mset_mem y hy with rfl | hy
    · exact ⟨c, hc, rfl, by rw [hl, if_pos rfl]; exact hv⟩
    · obtain ⟨d, hd, e, hp⟩ := h.2.1 y hy
      refine ⟨d, hd, e, ?_⟩
      rw [hl]; split
      · exact hv
      · exact hp
  · rw [mlook_mset]
    rw [hl] at hp ⊢
    by_cases e : c = d
    · subst e; rw [if_pos rfl, if_pos rfl]; exact ⟨x, rfl, hx⟩
    · rw [if_neg e, if_neg (fun h => e (nm_inj (by omega) (by omega) h))]
      rw [if_neg e] at hp
      exact h.2.2 d hd hp
theorem nm_mod {x : Int} (h : 0 ≤ x ∧ x ≤ 255) : (ByteArray.mk #[102]) ++ (strOfNums ([((97 : Int) + (x % (16 : Int))) % 256])) = nm (x % 16).toNat := by
  have : ((97 : Int) + (x % (16 : Int))) % 256 = 97 + ((x % 16).toNat : Int) := by omega
  unfold nm; rw [this]
theorem wrapU8 {i : Int} (h : 0 ≤ i ∧ i ≤ 255) : iwrap .u8 i = i := by
  unfold iwrap
  exact wrap_eq _ (by simp [IntKind.min, IntKind.signed]; omega) (by simp [IntKind.max, IntKind.signed, IntKind.bits]; omega)
/-- the names that are there -/
def cnt (W : List Int) (k : Nat) : List Nat := (List.range k).filter fun c => decide (0 < lget W (c : Int))
theorem cnt_succ (W : List Int) (k : Nat) : cnt W (k + 1) = if 0 < lget W (k : Int) then cnt W k ++ [k] else cnt W k := by
  unfold cnt; rw [List.range_succ, List.filter_append]
  by_cases h : 0 < lget W (k : Int)
  · rw [if_pos h]; simp [h]
  · rw [if_neg h]; simp [h]
theorem Files.len {l : FL} {W : List Int} (h : Files l W) : l.length = (cnt W 16).length := by
  have hp : (l.map (·.1)).Perm ((cnt W 16).map nm) := by
    refine (List.perm_ext_iff_of_nodup h.1 ?_).2 fun x => ?_
    · unfold cnt
      refine List.pairwise_map.2 ((List.nodup_range.filter _).imp_of_mem fun {a b} ha hb hne e => hne ?_)
      have ha := List.mem_range.1 (List.mem_filter.1 ha).1
      have hb := List.mem_range.1 (List.mem_filter.1 hb).1
      exact nm_inj (by omega) (by omega) e
    · constructor
      · intro hx
        obtain ⟨y, hy, rfl⟩ := List.mem_map.1 hx
        obtain ⟨c, hc, e, hp⟩ := h.2.1 y hy
        rw [e]
        exact List.mem_map.2 ⟨c, List.mem_filter.2 ⟨List.mem_range.2 hc, decide_eq_true hp⟩, rfl⟩
      · intro hx
        obtain ⟨c, hc, rfl⟩ := List.mem_map.1 hx
        have h1 := List.mem_range.1 (List.mem_filter.1 hc).1
        have h2 := of_decide_eq_true (List.mem_filter.1 hc).2
        obtain ⟨y, hy, _⟩ := h.2.2 c h1 h2
        exact List.mem_map.2 ⟨_, mlook_mem hy, rfl⟩
  have := hp.length_eq
  rwa [List.length_map, List.length_map] at this
structure Live (K : Nat) (f : S_simfs_FS) : Prop where
  ok : FOk K f
  off : f.off = false
  arm : f.armed = false
  quota : f.quota = 0
  sz : ∀ x ∈ f.files, x.1.size = 2
/-- one write -/
theorem write_live {K : Nat} {f : S_simfs_FS} {c : Nat} {v : Int} (h : Live K f) (hc : c < 16) : writeS f (nm c) 1 [v] = (doF (putF f (nm c)) (putO f (nm c) 1 [v]), 0) ∧ Live (K + 2) (doF (putF f (nm c)) (putO f (nm c) 1 [v])) ∧
    (doF (putF f (nm c)) (putO f (nm c) 1 [v])).files = mset f.files (nm c) (putO f (nm c) 1 [v]).file := by
  have hsz := nmSize (k := c) (by omega)
  have ha := apply_put (f := f) (mode := 1) (b := [v]) h.sz hsz
  refine ⟨write0 (may0 h.off (nmChk (by omega)) (by show ((1 : Nat) : Int) ≤ 65536; decide) (.inl rfl) (clash_none h.sz hsz) (by rw [h.quota]; exact Int.le_refl 0)) h.arm, ⟨doF_ok (putF_ok h.ok) ⟨by show (nm c).size ≤ 64; omega, show E0.size ≤ 64 by decide, by show 1 ≤ 65536; decide⟩, h.off, h.arm, h.quota, ?_⟩, ha⟩
  show ∀ x ∈ (applyS f.files _).1, _
  rw [ha]; exact mset_sz h.sz hsz
theorem FilesSync_p {first second : List Int} {keep : List Bool} {Q : Bool → Prop} (h : Q true) : rectolaw5_FilesSync_p first second keep Q := by
  unfold rectolaw5_FilesSync_p; intro _ _ _
  refine known5_p ⟨fun hx => (by cases hx), fun _ => ⟨fun _ => h, fun hl => ?_⟩⟩
  have h1 : first.length ≤ 30 := by omega
  have h2 : second.length ≤ 30 := by omega
  have h3 : keep.length ≤ 60 := by omega
  unfold simfs_New_p; intro _
  have hz : ∀ c : Nat, lget (List.replicate 16 (0 : Int)) (c : Int) = 0 := fun c => by
    rw [lget_nat, List.getD, List.getElem?_replicate]; split <;> rfl
  refine ⟨fun i f W => ∃ k : Nat, i = k ∧ k ≤ first.length ∧ Live (2 * k) f ∧ Files f.files W ∧ W.length = 16, fun i _ _ => (first.length - i).toNat, ⟨0, rfl, Nat.zero_le _, ⟨newF_ok 0, rfl, rfl, rfl, fun x hx => by cases hx⟩, ⟨List.nodup_nil, (fun x hx => by cases hx), fun c _ hp => absurd hp (by rw [hz]; decide)⟩, by simp⟩, ?_⟩
  rintro _ f W ⟨k, rfl, hk, hlive, hfs, hW⟩ _ _
  refine ⟨fun hlt => ⟨inL_nat.2 (by omega), fun hu => ?_⟩, fun hge => ?_⟩
  · have hu := inR_u8.1 hu
    rw [nm_mod hu]
    generalize hx : lget first (k : Int) % 16 = x
    have hx16 : x.toNat < 16 := by omega
    have ex : x = (x.toNat : Int) := by omega
    rw [wrapU8 (by omega)]
    obtain ⟨w1, w2, w3⟩ := write_live (v := (k : Int)) hlive hx16
    refine ⟨by rw [nmSize (by omega)]; decide, Write_p hlive.ok (by omega) (fun hx => by rw [hlive.arm] at hx; cases hx) ?_⟩
    rw [w1]
    refine fun _ => ⟨fun hx => absurd rfl hx, fun _ => ⟨inL_nat.2 (by omega), fun _ => ⟨inR_i64.2 ⟨by omega, by omega⟩, ⟨by omega, by omega⟩, ?_⟩⟩⟩
    rintro _ rfl
    refine ⟨inR_i64.2 ⟨by omega, by omega⟩, ⟨k + 1, rfl, by omega, w2, ?_, by rw [len_lset]; exact hW⟩, by dsimp only; omega⟩
    show Files (doF _ _).files _
    rw [w3, ex]
    exact hfs.set hW hx16 (by omega) (by show [(k : Int)] = _; congr 1; omega)
  · refine Sync_p ?_
    rw [show syncS f = (syncF f, 0) from if_neg (by rw [hlive.off]; exact Bool.false_ne_true)]
    intro _
    have hK : Live 60 (syncF f) := ⟨(syncF_ok hlive.ok).up (by omega), hlive.off, hlive.arm, hlive.quota, hlive.sz⟩
    refine ⟨fun i g V => ∃ j : Nat, i = j ∧ j ≤ second.length ∧ Live (60 + 2 * j) g ∧ g.pending.length = j ∧ Files (cutS g.pending keep g.kept) V ∧ V.length = 16, fun i _ _ => (second.length - i).toNat, ⟨0, rfl, Nat.zero_le _, hK, rfl, hfs, hW⟩, ?_⟩
    rintro _ g V ⟨j, rfl, hj, glive, gp, gfs, hV⟩ _ _
    refine ⟨fun hlt => ?_, fun hge => ?_⟩
    · refine ⟨fun g2 V2 => Live (60 + 2 * (j + 1)) g2 ∧ g2.pending.length = j + 1 ∧ Files (cutS g2.pending keep g2.kept) V2 ∧ V2.length = 16, ?_, inL_nat.2 (by omega), fun hu => ?_⟩
      · rintro g2 V2 ⟨a1, a2, a3, a4⟩ _
        exact ⟨inR_i64.2 ⟨by omega, by omega⟩, ⟨j + 1, rfl, by omega, a1, a2, a3, a4⟩, by dsimp only; omega⟩
      have hu := inR_u8.1 hu
      rw [nm_mod hu]
      generalize hx : lget second (j : Int) % 16 = x
      have hx16 : x.toNat < 16 := by omega
      have ex : x = (x.toNat : Int) := by omega
      rw [wrapU8 (by omega)]
      obtain ⟨w1, w2, w3⟩ := write_live (v := 100 + (j : Int)) glive hx16
      refine ⟨by rw [nmSize (by omega)]; decide, inR_i64.2 ⟨by omega, by omega⟩, Write_p glive.ok (by omega) (fun hx => by rw [glive.arm] at hx; cases hx) ?_⟩
      rw [w1]
      have hpl : (g.pending ++ [putO g (nm x.toNat) 1 [100 + (j : Int)]]).length = j + 1 := by rw [List.length_append, gp]; rfl
      have hcs := cutS_snoc (putO g (nm x.toNat) 1 [100 + (j : Int)]) g.pending keep g.kept
      rw [gp, apply_put gfs.sz (nmSize (by omega))] at hcs
      refine fun _ => ⟨fun hx => absurd rfl hx, fun _ => ⟨fun s => s = (keep.drop j).headD false, ?_, fun hk => ⟨inL_nat.2 (by omega), ?_⟩, fun hk => ?_⟩⟩
      · rintro _ rfl
        refine ⟨fun ht => ⟨inL_nat.2 (by omega), fun _ => ⟨inR_i64.2 ⟨by omega, by omega⟩, ⟨by omega, by omega⟩, ?_⟩⟩, fun hf => ?_⟩
        · rintro _ rfl
          refine ⟨w2, hpl, ?_, by rw [len_lset]; exact hV⟩
          show Files (cutS (g.pending ++ [_]) keep g.kept) _
          rw [hcs, if_pos ht, ex]
          exact gfs.set hV hx16 (by omega) (by show [100 + (j : Int)] = _; congr 1; omega)
        · refine ⟨w2, hpl, ?_, hV⟩
          show Files (cutS (g.pending ++ [_]) keep g.kept) _
          rw [hcs, if_neg (by rw [hf]; exact Bool.false_ne_true)]
          exact gfs
      · have hjk : j < keep.length := by omega
        rw [lget_lt hjk, List.drop_eq_getElem_cons hjk]; rfl
      · have : keep.drop j = [] := List.drop_eq_nil_of_le (by omega)
        rw [this]; rfl
    · have hcok := on_ok (cutF_ok (keep := keep) (glive.ok.up (show 60 + 2 * j ≤ 200 by omega)))
      refine Cut_p glive.ok (by omega) (by omega) (On_p ?_)
      have hfl : (⟨cutS g.pending keep g.kept, cutS g.pending keep g.kept, [], g.quota, g.now, g.inodes, g.ops_, false, false, g.left, []⟩ : S_simfs_FS) = ⟨(cutF g keep).kept, (cutF g keep).files, (cutF g keep).pending, (cutF g keep).quota, (cutF g keep).now, (cutF g keep).inodes, (cutF g keep).ops_, false, (cutF g keep).armed, (cutF g keep).left, (cutF g keep).keep⟩ := rfl
      rw [← hfl]
      rw [← hfl] at hcok
      generalize (⟨cutS g.pending keep g.kept, cutS g.pending keep g.kept, [], g.quota, g.now, g.inodes, g.ops_, false, false, g.left, []⟩ : S_simfs_FS) = G at hcok hfl ⊢
      have hGf : G.files = cutS g.pending keep g.kept := by rw [hfl]; rfl
      have hGo : G.off = false := by rw [hfl]
      rw [← hGf] at gfs
      refine ⟨fun n i o => ∃ k : Nat, i = k ∧ k ≤ 16 ∧ n = ((cnt V k).length : Int) ∧ o = G, fun _ i _ => (16 - i).toNat, ⟨0, rfl, by omega, rfl, rfl⟩, ?_⟩
      rintro _ _ o ⟨k, rfl, hk, rfl, rfl⟩ _ _
      have hcl : (cnt V k).length ≤ k := by
        unfold cnt; exact Nat.le_trans (List.length_filter_le _ _) (by simp)
      refine ⟨fun hlt => ?_, fun hge => ?_⟩
      · have hk16 : k < 16 := by omega
        refine ⟨fun n o2 => n = ((cnt V (k + 1)).length : Int) ∧ o2 = o, ?_, inR_i64.2 ⟨by omega, by omega⟩, ?_⟩
        · rintro _ _ ⟨rfl, rfl⟩ _
          exact ⟨inR_i64.2 ⟨by omega, by omega⟩, ⟨k + 1, rfl, by omega, rfl, rfl⟩, by dsimp only; omega⟩
        rw [nm_lit (by omega) (by omega), show ((k : Int)).toNat = k from rfl]
        refine ⟨by rw [nmSize (by omega)]; decide, Read_p hcok (fun _ _ => ?_)⟩
        have hr : 0 ≤ (k : Int) ∧ (k : Int) < 16 := ⟨by omega, by omega⟩
        have hfind : (0 < lget V (k : Int) → findS o (nm k) = (mgetD o.files (nm k), 0) ∧ (mgetD o.files (nm k)).b = [lget V (k : Int) - 1]) ∧ (¬ 0 < lget V (k : Int) → (findS o (nm k)).2 = 5) := by
          constructor
          · intro hp
            obtain ⟨y, hy, hb⟩ := gfs.2.2 k hk16 hp
            refine ⟨?_, by rw [mgetD_some hy]; exact hb⟩
            unfold findS
            rw [if_neg (by rw [hGo]; exact Bool.false_ne_true), if_neg (by rw [mhas_of, hy]; exact fun h => by cases h)]
          · intro hp
            have hn := gfs.none hk16 hp
            unfold findS
            rw [if_neg (by rw [hGo]; exact Bool.false_ne_true), if_pos (by rw [mhas_of, hn]; rfl)]
        refine ⟨fun s => s = false, ?_, hr, fun heq => ⟨hr, fun hp => ?_, fun hp => rfl⟩, fun hne => ?_⟩
        · rintro _ rfl
          refine ⟨fun hx => (by cases hx), fun _ => ⟨hr, fun hp => ⟨inR_i64.2 ⟨by omega, by omega⟩, ?_, rfl⟩, fun hp => ⟨?_, rfl⟩⟩⟩
          · rw [cnt_succ, if_pos hp, List.length_append]; rfl
          · rw [cnt_succ, if_neg hp]
        · obtain ⟨e1, e2⟩ := hfind.1 hp
          have e3 : (findS o (nm k)).1.b = [lget V (k : Int) - 1] := by rw [e1]; exact e2
          rw [e3]
          refine ⟨fun _ => ⟨⟨by decide, by show (0 : Int) < 1; decide⟩, fun hu => ⟨hr, ?_, ?_⟩⟩, fun hx => absurd rfl hx⟩
          · have hu := inR_u8.1 hu
            have e4 : lget [lget V (k : Int) - 1] (0 : Int) = lget V (k : Int) - 1 := rfl
            rw [e4] at hu
            exact inR_i64.2 ⟨by omega, by omega⟩
          · show (!decide (lget V (k : Int) - 1 = lget V (k : Int) - 1)) = false
            simp
        · refine absurd ?_ hne
          by_cases hp : 0 < lget V (k : Int)
          · obtain ⟨e1, _⟩ := hfind.1 hp
            rw [e1, decide_eq_true (show (mgetD o.files (nm k), (0 : Int)).2 = 0 from rfl), decide_eq_true (show lget V (k : Int) > 0 from hp)]
          · rw [hfind.2 hp, decide_eq_false (by decide : ¬ (5 : Int) = 0), decide_eq_false (show ¬ lget V (k : Int) > 0 from hp)]
      · have hk16 : k = 16 := by omega
        subst hk16
        refine List_p hcok (by omega) (fun hx => by rw [hGo] at hx; cases hx) (fun _ _ _ => ?_)
        rw [keysB_len, gfs.len, decide_eq_true ⟨rfl, rfl⟩]; exact h
end Go.Proofs.YtaolmfepdmgohaaDoor
