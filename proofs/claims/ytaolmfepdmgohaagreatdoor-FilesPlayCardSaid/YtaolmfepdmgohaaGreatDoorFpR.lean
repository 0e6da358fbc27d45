/- The plain law of FilesPlay. -/
import Derived.Test.YtaolmfepdmgohaaGreatDoorFpP
namespace Go.Proofs.YtaolmfepdmgohaaGreatDoor
open Go
theorem sum_perm {a b : List Int} (h : a.Perm b) : a.sum = b.sum := by
  induction h with
  | nil => rfl
  | cons x _ ih => rw [List.sum_cons, List.sum_cons, ih]
  | swap x y l => simp only [List.sum_cons]; omega
  | trans _ _ h1 h2 => exact h1.trans h2
theorem MRel.used {l : FL} {L : OL} (h : MRel l L) (hn : (l.map (·.1)).Nodup) : sumS l = rused L := by
  let g : ByteArray → Int := fun k => ((mgetD l k).b.length : Int)
  have e1 : sumS l = ((l.map (·.1)).map g).sum := by
    unfold sumS; rw [List.map_map]
    congr 1
    apply List.map_congr_left
    intro x hx
    have : ∀ {r : FL} {x : ByteArray × S_simfs_file}, (r.map (·.1)).Nodup → x ∈ r → mlook r x.1 = Option.some x.2 := by
      intro r
      induction r with
      | nil => intro x _ hx; cases hx
      | cons p r ih =>
        intro x hn hx
        rw [List.map_cons, List.nodup_cons] at hn
        rcases List.mem_cons.1 hx with rfl | hx
        · simp [mlook]
        · simp only [mlook]
          rw [if_neg (fun e => hn.1 (by rw [e]; exact List.mem_map.2 ⟨x, hx, rfl⟩))]
          exact ih hn.2 hx
    show (x.2.b.length : Int) = ((mgetD l x.1).b.length : Int)
    rw [mgetD_some (this hn hx)]
  have e2 : rused L = ((L.map (·.path)).map g).sum := by
    unfold rused; rw [List.map_map]
    congr 1
    apply List.map_congr_left
    intro x hx
    obtain ⟨y, hy, he⟩ := h.2.1 x hx
    show (x.data.size : Int) = ((mgetD l x.path).b.length : Int)
    rw [mgetD_some hy, he.size]
  rw [e1, e2]; exact sum_perm ((h.perm hn).map g)
theorem MRel.keys {l : FL} {L : OL} (h : MRel l L) (hn : (l.map (·.1)).Nodup) : keysB l = L.map (·.path) := by
  have hp : (keysL l).Perm ((L.map (·.path)).map (·.data.toList)) := by
    have : keysL l = (l.map (·.1)).map (·.data.toList) := by unfold keysL; rw [List.map_map]; rfl
    rw [this]; exact (h.perm hn).map _
  have hs : ((L.map (·.path)).map (·.data.toList)).Pairwise (fun a b => leB a b = true) := by
    rw [List.map_map]
    refine List.pairwise_map.2 (h.1.imp fun {x y} hxy => ?_)
    rw [sless_eq] at hxy
    exact decide_eq_true (List.le_of_lt (of_decide_eq_true hxy))
  unfold keysB
  rw [mergeSort_of_perm hp, List.mergeSort_of_pairwise hs, List.map_map, List.map_map]
  apply List.map_congr_left
  intro x _
  show (⟨x.path.data.toList.toArray⟩ : ByteArray) = x.path
  exact ba_ext (by simp)
theorem MRel.congr {l l' : FL} {L : OL} (h : MRel l L) (e : ∀ k, mlook l' k = mlook l k) : MRel l' L :=
  ⟨h.1, fun x hx => by rw [e]; exact h.2.1 x hx, fun k hk => h.2.2 k (by rw [mhas_of, ← e]; exact hk)⟩
def ORel (o : S_simfs_op) (o' : S_rectolaw5_op) : Prop := o.kind = o'.kind ∧ opOk o' ∧ ((o.kind = 1 ∧ o'.f.path = o.path ∧ FEq o.file o'.f) ∨ (o.kind = 2 ∧ o'.from_ = o.path ∧ o'.to_ = o.to_ ∧ o.path ≠ o.to_) ∨ (o.kind = 3 ∧ o'.from_ = o.path))
theorem mhas_none {l : FL} {p : ByteArray} (h : mlook l p = none) : mhas l p = false := by rw [mhas_of, h]; rfl
theorem mhas_some {l : FL} {p : ByteArray} {y : S_simfs_file} (h : mlook l p = some y) : mhas l p = true := by rw [mhas_of, h]; rfl
theorem MRel.apply {l : FL} {L : OL} (h : MRel l L) (hn : (l.map (·.1)).Nodup) {o : S_simfs_op} {o' : S_rectolaw5_op} (ho : ORel o o') : MRel (applyS l o).1 (rlaid L o') := by
  obtain ⟨hk, _, h1 | h1 | h1⟩ := ho
  · obtain ⟨k1, p1, f1⟩ := h1
    unfold applyS rlaid
    have k2 : o'.kind = 1 := by rw [← hk]; exact k1
    rw [if_pos k1, if_pos k2, h.clash0, p1]
    split
    · exact h
    · rw [← p1]; exact h.set f1
  · obtain ⟨k1, p1, p2, p3⟩ := h1
    unfold applyS rlaid
    have k2 : o'.kind = 2 := by rw [← hk]; exact k1
    rw [if_neg (show ¬ o.kind = 1 by rw [k1]; decide), if_pos k1, if_neg (show ¬ o'.kind = 1 by rw [k2]; decide), if_pos k2, h.clash, p1, p2]
    cases hf : fnd L o.path with
    | none =>
      rw [if_pos (.inl (mhas_none (h.none hf)))]; exact h
    | some x =>
      obtain ⟨y, hy, he⟩ := h.some hf
      dsimp only
      by_cases hc : rclash L o.to_ o.path = true
      · rw [if_pos (.inr hc), if_pos hc]; exact h
      · rw [if_neg (fun hx => hx.elim (fun hx => by rw [mhas_some hy] at hx; cases hx) hc), if_neg hc, mgetD_some hy]
        have hd := (h.del hn o.path).set (y := y) (x := ⟨o.to_, x.data, x.mode, x.time, x.inode⟩) ⟨he.1, he.2.1, he.2.2.1, he.2.2.2⟩
        refine hd.congr fun k => ?_
        show mlook (mdel (mset l o.to_ y) o.path) k = mlook (mset (mdel l o.path) o.to_ y) k
        rw [mlook_mdel (mset_nodup hn), mlook_mset, mlook_mset, mlook_mdel hn]
        by_cases e1 : o.path = k
        · subst e1; rw [if_pos rfl, if_neg (fun e => p3 e.symm), if_pos rfl]
        · rw [if_neg e1, if_neg e1]
  · obtain ⟨k1, p1⟩ := h1
    unfold applyS rlaid
    have k2 : o'.kind = 3 := by rw [← hk]; exact k1
    rw [if_neg (show ¬ o.kind = 1 by rw [k1]; decide), if_neg (show ¬ o.kind = 2 by rw [k1]; decide), if_pos k1, if_neg (show ¬ o'.kind = 1 by rw [k2]; decide), if_neg (show ¬ o'.kind = 2 by rw [k2]; decide), p1]
    exact h.del hn _
def ORels : List S_simfs_op → List S_rectolaw5_op → Prop
  | [], [] => True
  | o :: os, o' :: os' => ORel o o' ∧ ORels os os'
  | _, _ => False
theorem ORels.len : ∀ {a : List S_simfs_op} {b : List S_rectolaw5_op}, ORels a b → a.length = b.length
  | [], [], _ => rfl
  | _ :: _, _ :: _, h => by simp [ORels.len h.2]
  | [], _ :: _, h => h.elim
  | _ :: _, [], h => h.elim
theorem ORels.ops : ∀ {a : List S_simfs_op} {b : List S_rectolaw5_op}, ORels a b → ∀ o ∈ b, opOk o
  | [], [], _, o, ho => by cases ho
  | _ :: _, _ :: _, h, o, ho => by
    rcases List.mem_cons.1 ho with rfl | ho
    · exact h.1.2.1
    · exact ORels.ops h.2 o ho
  | [], _ :: _, h, _, _ => h.elim
  | _ :: _, [], h, _, _ => h.elim
theorem ORels.snoc {o : S_simfs_op} {o' : S_rectolaw5_op} (ho : ORel o o') : ∀ {a : List S_simfs_op} {b : List S_rectolaw5_op}, ORels a b → ORels (a ++ [o]) (b ++ [o'])
  | [], [], _ => ⟨ho, trivial⟩
  | _ :: _, _ :: _, h => ⟨h.1, ORels.snoc ho h.2⟩
  | [], _ :: _, h => h.elim
  | _ :: _, [], h => h.elim
theorem MRel.pow : ∀ {os : List S_simfs_op} {os' : List S_rectolaw5_op} (ks : List Bool) {l : FL} {L : OL} {K : Nat}, ORels os os' → (∀ o ∈ os, o.path.size ≤ 64 ∧ o.to_.size ≤ 64 ∧ o.file.b.length ≤ 65536) → LOk K l → MRel l L → MRel (cutS os ks l) (rpow os' ks L)
  | [], [], _, _, _, _, _, _, _, h => h
  | _ :: _, _ :: _, [], _, _, _, _, _, _, h => h
  | o :: os, o' :: os', k :: ks, l, L, K, ho, hs, hl, h => by
    rw [cutS_cons, rpow_cons]
    cases k with
    | true =>
      rw [if_pos rfl, if_pos rfl]
      exact MRel.pow ks ho.2 (fun x hx => hs x (List.mem_cons_of_mem _ hx)) (applyS_ok hl (hs o (by simp))) (h.apply hl.2.2 ho.1)
    | false =>
      rw [if_neg (by decide), if_neg (by decide)]
      exact MRel.pow ks ho.2 (fun x hx => hs x (List.mem_cons_of_mem _ hx)) hl h
  | [], _ :: _, _, _, _, _, ho, _, _, _ => ho.elim
  | _ :: _, [], _, _, _, _, ho, _, _, _ => ho.elim
structure Rel0 (f : S_simfs_FS) (d : S_rectolaw5_Disk) : Prop where
  kept : MRel f.kept d.kept
  pend : ORels f.pending d.wait
  quota : f.quota = d.quota
  now : f.now = d.time
  inodes : f.inodes = d.inode
  ops : f.ops_ = d.ops_
structure Rel (f : S_simfs_FS) (d : S_rectolaw5_Disk) : Prop where
  r0 : Rel0 f d
  files : MRel f.files d.now
  off : f.off = d.off
  armed : f.armed = d.armed
  arm : f.armed = true → f.left = d.left ∧ f.keep = d.keep ∧ 1 ≤ f.left
def FOk2 (K : Nat) (f : S_simfs_FS) : Prop := FOk K f ∧ f.kept.length + f.pending.length ≤ K
theorem FOk2.up {K J : Nat} {f : S_simfs_FS} (h : FOk2 K f) (hk : K ≤ J) : FOk2 J f := ⟨h.1.up hk, Nat.le_trans h.2 hk⟩
theorem cutF_ok2 {K : Nat} {f : S_simfs_FS} {keep : List Bool} (h : FOk2 K f) : FOk2 K (cutF f keep) := by
  have h1 : LOk (f.kept.length + f.pending.length) (cutS f.pending keep f.kept) := cutS_ok ⟨h.1.kept.1, Nat.le_refl _, h.1.kept.2.2⟩ h.1.pend.1
  have h2 := h1.up h.2
  exact ⟨⟨h2, h2, ⟨(fun o ho => by cases ho), Nat.zero_le _⟩, h.1.now, h.1.inodes, h.1.ops, Nat.zero_le _⟩, by show _ + 0 ≤ K; exact h2.2.1⟩
theorem downF_ok2 {K : Nat} {f : S_simfs_FS} (h : FOk2 K f) : FOk2 K (downF f) := ⟨downF_ok h.1, h.2⟩
theorem tripsS_ok2 {K : Nat} {f : S_simfs_FS} (h : FOk2 K f) : FOk2 K (tripsS f).1 := by
  unfold tripsS; split
  · exact h
  · split
    · exact downF_ok2 h
    · exact cutF_ok2 (downF_ok2 h)
theorem putF_ok2 {K : Nat} {f : S_simfs_FS} {p : ByteArray} (h : FOk2 K f) : FOk2 (K + 1) (putF f p) := ⟨putF_ok h.1, Nat.le_trans h.2 (Nat.le_succ K)⟩
theorem doF_ok2 {K : Nat} {f : S_simfs_FS} {o : S_simfs_op} (h : FOk2 K f) (ho : o.path.size ≤ 64 ∧ o.to_.size ≤ 64 ∧ o.file.b.length ≤ 65536) : FOk2 (K + 1) (doF f o) :=
  ⟨doF_ok h.1 ho, by show f.kept.length + (f.pending ++ [o]).length ≤ _; rw [List.length_append]; have := h.2; show _ + (_ + 1) ≤ _; omega⟩
theorem syncF_ok2 {K : Nat} {f : S_simfs_FS} (h : FOk2 K f) : FOk2 K (syncF f) := ⟨syncF_ok h.1, by show f.files.length + 0 ≤ K; exact h.1.files.2.1⟩
theorem cut_rel {K : Nat} {f : S_simfs_FS} {d : S_rectolaw5_Disk} {keep : List Bool} (h : Rel0 f d) (hf : FOk K f) : Rel (cutF f keep) (powD d keep) :=
  have hm := h.kept.pow keep h.pend hf.pend.1 hf.kept
  ⟨⟨hm, trivial, h.quota, h.now, h.inodes, h.ops⟩, hm, rfl, rfl, fun hx => by cases hx⟩
theorem was_eq {l : FL} {L : OL} (h : MRel l L) {p : ByteArray} : (∀ x, fnd L p = some x → (x.data.size : Int) = ((mgetD l p).b.length : Int) ∧ mhas l p = true) ∧ (fnd L p = none → ((mgetD l p).b.length : Int) = 0 ∧ mhas l p = false) := by
  refine ⟨fun x hx => ?_, fun hx => ?_⟩
  · obtain ⟨y, hy, he⟩ := h.some hx
    rw [mgetD_some hy, he.size]; exact ⟨rfl, mhas_some hy⟩
  · have hn := h.none hx
    rw [mgetD_none hn]; exact ⟨rfl, mhas_none hn⟩
theorem cause_p {K : Nat} {f : S_simfs_FS} {d : S_rectolaw5_Disk} {p : ByteArray} {mode n : Int} {Q : S_rectolaw5_Disk → Int → Prop} (h : Rel f d) (hf : FOk K f) (hK : K ≤ 10000) (hn : 0 ≤ n ∧ n ≤ 100000) (hq : Q d (mayS f p mode n)) : rectolaw5_Disk_cause_p d p mode n Q := by
  unfold rectolaw5_Disk_cause_p; intro _ _ _ _ _ _ _ _ _ _ _ _
  unfold mayS at hq
  rw [h.off] at hq
  refine ⟨fun ho => by rwa [if_pos ho] at hq, fun ho => rCheck_p (fun _ => ?_)⟩
  rw [if_neg (by rw [ho]; exact Bool.false_ne_true)] at hq
  refine ⟨fun hc => by rwa [if_pos hc] at hq, fun hc => ?_⟩
  rw [if_neg (fun hx => hx hc)] at hq
  have hook := h.files.ook hf.files
  have hz : ∀ x ∈ d.now, x.path.size ≤ 64 := fun x hx => (hook.2 x hx).1
  have hu := h.files.used hf.files.2.2
  have hul := rused_le (L := d.now) fun x hx => (hook.2 x hx).2
  have hlen := hook.1
  have hw := was_eq h.files (p := p)
  have hg := hf.files.get p
  have rest : ∀ was : Int, was = ((mgetD f.files p).b.length : Int) → (mhas f.files p = true ∨ was = 0) →
      (((n > (65536 : Int)) → Q d (4 : Int)) ∧ ((¬ (n > (65536 : Int))) → ((((¬ (mode = (1 : Int))) ∧ (¬ (mode = (2 : Int)))) → Q d (1 : Int)) ∧ ((¬ ((¬ (mode = (1 : Int))) ∧ (¬ (mode = (2 : Int))))) → (rectolaw5_clash_p d.now p p (fun (r147 : Bool) => (((r147 = true) → Q d (11 : Int)) ∧ ((r147 = false) → (∃ k201 : Bool → Prop, (∀ (s200 : Bool), k201 s200 → (((s200 = true) → Q d (14 : Int)) ∧ ((s200 = false) → Q d (0 : Int)))) ∧ (((d.quota > (0 : Int)) → (rectolaw5_used_p d.now (fun (r242 : Int) => ((inR .i64 r242) → ((inR .i64 (r242 - was)) ∧ ((inR .i64 ((r242 - was) + n)) ∧ (((((r242 - was) + n) > d.quota) → (k201 (decide (n > was)))) ∧ ((¬ (((r242 - was) + n) > d.quota)) → (k201 false))))))))) ∧ ((¬ (d.quota > (0 : Int))) → (k201 false)))))))))))) := by
    rintro was hwas hor
    refine ⟨fun h3 => by rwa [if_pos h3] at hq, fun h3 => ?_⟩
    rw [if_neg h3] at hq
    refine ⟨fun h4 => by rwa [if_pos h4] at hq, fun h4 => ?_⟩
    rw [if_neg h4, h.files.clash0] at hq
    refine rclash_p hz (by have := Chk_size hc; omega) ⟨fun h5 => by rwa [if_pos h5] at hq, fun h5 => ?_⟩
    rw [if_neg (by rw [h5]; exact Bool.false_ne_true)] at hq
    have hroom : roomS f p n = decide (d.quota ≤ 0 ∨ n = 0 ∨ (mhas f.files p = true ∧ n ≤ was) ∨ rused d.now - was + n ≤ d.quota) := by
      unfold roomS; rw [h.r0.quota, hu, hwas]
    refine ⟨fun s => s = !roomS f p n, ?_, fun h6 => rused_p (fun x hx => (hook.2 x hx).2) (by omega) (fun _ => ⟨inR_i64.2 ⟨by omega, by omega⟩, inR_i64.2 ⟨by omega, by omega⟩, fun h7 => ?_, fun h7 => ?_⟩), fun h6 => ?_⟩
    · rintro s rfl
      refine ⟨fun h6 => ?_, fun h6 => ?_⟩
      · rwa [if_pos (by simpa using h6)] at hq
      · rwa [if_neg (by simpa using h6)] at hq
    · rw [hroom, ← decide_not]
      refine decide_eq_decide.2 ⟨fun h8 hx => ?_, fun h8 => ?_⟩
      · rcases hx with hx | hx | hx | hx <;> omega
      · rcases Int.lt_or_le was n with h9 | h9
        · exact h9
        · exfalso; apply h8
          rcases hor with h10 | h10
          · exact .inr (.inr (.inl ⟨h10, h9⟩))
          · exact .inr (.inl (by omega))
    · rw [hroom, decide_eq_true (.inr (.inr (.inr (by omega))))]; rfl
    · rw [hroom, decide_eq_true (.inl (by omega))]; rfl
  refine get_p (fun k hk hfk hpk _ => ?_) (fun hfk _ => ?_)
  · have := hw.1 _ hfk
    exact ⟨fun was => was = ((mgetD f.files p).b.length : Int), fun was hwas _ => rest was hwas (.inl this.2), fun _ => ⟨inL_nat.2 hk, fun _ _ _ _ _ => this.1⟩, fun hx => absurd (by omega) hx⟩
  · have := hw.2 hfk
    exact ⟨fun was => was = ((mgetD f.files p).b.length : Int), fun was hwas _ => rest was hwas (.inr (by omega)), fun hx => absurd hx (by decide), fun _ => this.1.symm⟩
theorem file_p {K : Nat} {f : S_simfs_FS} {d : S_rectolaw5_Disk} {p b : ByteArray} {mode : Int} {bb : List Int} {Q : S_rectolaw5_Disk → S_rectolaw5_one → Prop} (h : Rel f d) (hf : FOk K f) (hK : K ≤ 10000)
    (hq : Q ⟨d.kept, d.now, d.wait, d.quota, d.time, (putF f p).inodes, d.off, d.armed, d.left, d.keep, d.ops_⟩ ⟨p, b, mode, d.time, (putO f p mode bb).file.inode⟩) : rectolaw5_Disk_file_p d p mode b Q := by
  unfold rectolaw5_Disk_file_p; intro _ _ _ _ _ _ _ _ _ _ _ _
  have hi := hf.inodes
  have hie := h.r0.inodes
  refine get_p (fun k hk hfk hpk _ => ?_) (fun hfk _ => ?_)
  · obtain ⟨y, hy, he⟩ := h.files.some hfk
    have hm := mhas_some hy
    refine ⟨fun a c => a = (putO f p mode bb).file.inode ∧ c = (putF f p).inodes, ?_, fun _ => ⟨inL_nat.2 hk, fun _ _ _ _ _ => ⟨?_, ?_⟩⟩, fun hx => absurd (by omega) hx⟩
    · rintro _ _ ⟨rfl, rfl⟩ _ _; exact hq
    · show _ = (if mhas f.files p = true then (mgetD f.files p).inode else f.inodes + 1)
      rw [if_pos hm, mgetD_some hy]; exact he.2.2.1.symm
    · show _ = (if mhas f.files p = true then f.inodes else f.inodes + 1)
      rw [if_pos hm]; exact hie.symm
  · have hm := mhas_none (h.files.none hfk)
    refine ⟨fun a c => a = (putO f p mode bb).file.inode ∧ c = (putF f p).inodes, ?_, fun hx => absurd hx (by decide), fun _ => ⟨inR_i64.2 ⟨by omega, by omega⟩, ?_, ?_⟩⟩
    · rintro _ _ ⟨rfl, rfl⟩ _ _; exact hq
    · show _ = (if mhas f.files p = true then (mgetD f.files p).inode else f.inodes + 1)
      rw [if_neg (by rw [hm]; exact Bool.false_ne_true)]; omega
    · show _ = (if mhas f.files p = true then f.inodes else f.inodes + 1)
      rw [if_neg (by rw [hm]; exact Bool.false_ne_true)]; omega
theorem ddo_p {K : Nat} {f : S_simfs_FS} {d : S_rectolaw5_Disk} {o : S_simfs_op} {o' : S_rectolaw5_op} {Q : S_rectolaw5_Disk → Int → Prop} (h : Rel f d) (hf : FOk2 K f) (hK : K ≤ 10000) (ho : ORel o o')
    (h13 : (tripsS f).2 = true → ∀ d', Rel (tripsS f).1 d' → Q d' 13) (h0 : (tripsS f).2 = false → ∀ d', Rel (doF (tripsS f).1 o) d' → Q d' 0) : rectolaw5_Disk_do_p d o' Q := by
  unfold rectolaw5_Disk_do_p; intro _ _ _ _ _ _ _ _ _ _ _ _ _ _ hli _ hop
  have hli := inR_i64.1 hli
  have hook := h.files.ook hf.1.files
  have hokk := h.r0.kept.ook hf.1.kept
  have hlen := hook.1
  have hpl := hf.1.pend.2
  have hwl := h.r0.pend.len
  have hops := hf.1.ops
  have hoe := h.r0.ops
  refine ⟨fun x => (d.armed = true → x = d.left - 1 ∧ d.left - 1 > 0) ∧ (d.armed = false → x = d.left), ?_, fun ha => ?_, fun ha => ⟨fun hx => (by rw [ha] at hx; cases hx), fun _ => rfl⟩⟩
  · rintro x ⟨h1, h2⟩ _
    refine rlaid_p hook (by omega) ho.2.1 (fun _ => ?_)
    intro K2 hK2
    refine ⟨by omega, by show (_ + 1) * 96 ≤ _; omega, hK2 _ (fun _ => ⟨inR_i64.2 ⟨by omega, by omega⟩, ?_⟩)⟩
    have hfa := h.armed
    by_cases ha : f.armed = true
    · obtain ⟨g1, g2, g3⟩ := h.arm ha
      obtain ⟨e1, e2⟩ := h1 (hfa ▸ ha)
      have ht : tripsS f = (downF f, false) := by unfold tripsS; rw [if_neg (by rw [ha]; exact fun hx => by cases hx), if_pos (by omega)]
      rw [ht] at h0
      refine h0 rfl _ ⟨⟨h.r0.kept, h.r0.pend.snoc ho, h.r0.quota, h.r0.now, h.r0.inodes, ?_⟩, h.files.apply hf.1.files.2.2 ho, h.off, h.armed, fun _ => ⟨?_, g2, ?_⟩⟩
      · show f.ops_ + 1 = d.ops_ + 1; omega
      · show f.left - 1 = x; omega
      · show 1 ≤ f.left - 1; omega
    · have ha2 : f.armed = false := by simpa using ha
      have ht : tripsS f = (f, false) := by unfold tripsS; rw [if_pos ha2]
      rw [ht] at h0
      refine h0 rfl _ ⟨⟨h.r0.kept, h.r0.pend.snoc ho, h.r0.quota, h.r0.now, h.r0.inodes, ?_⟩, h.files.apply hf.1.files.2.2 ho, h.off, h.armed, fun hx => absurd hx ha⟩
      show f.ops_ + 1 = d.ops_ + 1; omega
  · have haf : f.armed = true := h.armed.trans ha
    obtain ⟨g1, g2, g3⟩ := h.arm haf
    refine ⟨inR_i64.2 ⟨by omega, by omega⟩, fun hle => ?_, fun hgt => ⟨fun _ => ⟨rfl, by omega⟩, fun hx => (by rw [ha] at hx; cases hx)⟩⟩
    have ht : tripsS f = (cutF (downF f) f.keep, true) := by unfold tripsS; rw [if_neg (by rw [haf]; exact fun hx => by cases hx), if_neg (by omega)]
    rw [ht] at h13
    refine power_p (K := K) (d := ⟨d.kept, d.now, d.wait, d.quota, d.time, d.inode, d.off, d.armed, d.left - 1, d.keep, d.ops_⟩) hokk (by show K + d.wait.length ≤ _; omega) h.r0.pend.ops ?_
    refine h13 rfl _ ?_
    rw [g2]
    exact cut_rel (f := downF f) (d := ⟨d.kept, d.now, d.wait, d.quota, d.time, d.inode, d.off, d.armed, d.left - 1, d.keep, d.ops_⟩) ⟨h.r0.kept, h.r0.pend, h.r0.quota, h.r0.now, h.r0.inodes, h.r0.ops⟩ (downF_ok hf.1)
theorem trips_put (f : S_simfs_FS) (p : ByteArray) (mode : Int) (b : List Int) : (tripsS (putF f p)).2 = (tripsS f).2 ∧ ((tripsS f).2 = false → (tripsS (putF f p)).1 = putF (tripsS f).1 p ∧ putO (tripsS f).1 p mode b = putO f p mode b) ∧
    (tripsS f).1.inodes = f.inodes ∧ ((tripsS f).2 = true → (tripsS (putF f p)).1 = ⟨(tripsS f).1.kept, (tripsS f).1.files, (tripsS f).1.pending, (tripsS f).1.quota, (tripsS f).1.now, (putF f p).inodes, (tripsS f).1.ops_, (tripsS f).1.off, (tripsS f).1.armed, (tripsS f).1.left, (tripsS f).1.keep⟩) := by
  by_cases h1 : f.armed = false
  · have e1 : tripsS f = (f, false) := by unfold tripsS; rw [if_pos h1]
    have e2 : tripsS (putF f p) = (putF f p, false) := by unfold tripsS; rw [if_pos (show (putF f p).armed = false from h1)]
    rw [e1, e2]; exact ⟨rfl, fun _ => ⟨rfl, rfl⟩, rfl, fun hx => by cases hx⟩
  · by_cases h2 : f.left - 1 > 0
    · have e1 : tripsS f = (downF f, false) := by unfold tripsS; rw [if_neg h1, if_pos h2]
      have e2 : tripsS (putF f p) = (downF (putF f p), false) := by unfold tripsS; rw [if_neg (show ¬ (putF f p).armed = false from h1), if_pos (show (putF f p).left - 1 > 0 from h2)]
      rw [e1, e2]; exact ⟨rfl, fun _ => ⟨rfl, rfl⟩, rfl, fun hx => by cases hx⟩
    · have e1 : tripsS f = (cutF (downF f) f.keep, true) := by unfold tripsS; rw [if_neg h1, if_neg h2]
      have e2 : tripsS (putF f p) = (cutF (downF (putF f p)) f.keep, true) := by unfold tripsS; rw [if_neg (show ¬ (putF f p).armed = false from h1), if_neg (show ¬ (putF f p).left - 1 > 0 from h2)]; rfl
      rw [e1, e2]; exact ⟨rfl, fun hx => (by cases hx), rfl, fun _ => rfl⟩
end Go.Proofs.YtaolmfepdmgohaaGreatDoor
