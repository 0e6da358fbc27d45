/- The document's disk: what each of its functions computes, and how it stands to the program's. -/
import Derived.Test.YtaolmfepdmgohaaGreatDoorFpK
import Derived.Test.YtaolmfepdmgohaaGreatDoorFpQ
import Derived.Sort.Walk0
namespace Go.Proofs.YtaolmfepdmgohaaGreatDoor
open Go
theorem Und_same {p d : ByteArray} (h : p.size = d.size) (hd : d.size ≠ 0) : Und p d = false := by
  unfold Und
  rw [if_neg (by rintro rfl; exact hd rfl), decide_eq_false]
  rintro ⟨h1, _⟩; omega
theorem Cl_same {p d : ByteArray} (h : p.size = d.size) (hd : d.size ≠ 0) : Cl p d = false := by
  unfold Cl
  rw [if_neg (by rintro rfl; exact hd h.symm), if_neg (by rintro rfl; exact hd rfl), Und_same h hd, Und_same h.symm (by omega)]; rfl
abbrev OL := List S_rectolaw5_one
theorem sless_eq (a b : ByteArray) : sless a b = decide (a.data.toList < b.data.toList) := by
  unfold sless; rw [bytesLess_eq, ByteArray.toList_eq, ByteArray.toList_eq]
theorem ba_ext {a b : ByteArray} (h : a.data.toList = b.data.toList) : a = b := by
  cases a with | mk x => cases b with | mk y =>
  have : x = y := by
    have := congrArg List.toArray h; simpa using this
  rw [this]
def FEq (y : S_simfs_file) (x : S_rectolaw5_one) : Prop := y.mode = x.mode ∧ y.time = x.time ∧ y.inode = x.inode ∧ strOfNums y.b = x.data
theorem FEq.size {y : S_simfs_file} {x : S_rectolaw5_one} (h : FEq y x) : x.data.size = y.b.length := by rw [← h.2.2.2, strOfNums_size]
def Srt (L : OL) : Prop := L.Pairwise fun x y => sless x.path y.path = true
def fnd (L : OL) (p : ByteArray) : Option S_rectolaw5_one := L.find? fun x => decide (x.path = p)
def rcut (L : OL) (p : ByteArray) : OL := L.filter fun x => !decide (x.path = p)
def rput (L : OL) (f : S_rectolaw5_one) : OL := ((rcut L f.path).takeWhile fun x => sless x.path f.path) ++ [f] ++ ((rcut L f.path).dropWhile fun x => sless x.path f.path)
def rclash (L : OL) (p but : ByteArray) : Bool := L.any fun x => !decide (x.path = but) && Cl x.path p
def rused (L : OL) : Int := (L.map fun x => (x.data.size : Int)).sum
def rlaid (L : OL) (o : S_rectolaw5_op) : OL :=
  if o.kind = 1 then (if rclash L o.f.path o.f.path = true then L else rput L o.f)
  else if o.kind = 2 then (match fnd L o.from_ with
    | none => L
    | some x => if rclash L o.to_ o.from_ = true then L else rput (rcut L o.from_) ⟨o.to_, x.data, x.mode, x.time, x.inode⟩)
  else rcut L o.from_
def rpow : List S_rectolaw5_op → List Bool → OL → OL
  | [], _, L => L
  | _ :: _, [], L => L
  | o :: os, k :: ks, L => rpow os ks (if k = true then rlaid L o else L)
/-! what they compute -/
theorem get_p {L : OL} {p : ByteArray} {Q : Int → Prop} (h1 : ∀ k : Nat, k < L.length → fnd L p = some (lget L (k : Int)) → (lget L (k : Int)).path = p → Q (k : Int)) (h2 : fnd L p = none → Q (-1)) : rectolaw5_get_p L p Q := by
  unfold rectolaw5_get_p; simp only [inR_i64]; intro hm _
  have key : ∀ k : Nat, k ≤ L.length → (∀ j : Nat, j < k → (lget L (j : Int)).path ≠ p) → fnd L p = fnd (L.drop k) p := by
    intro k hk hn
    induction k with
    | zero => rfl
    | succ k ih =>
      rw [ih (by omega) fun j hj => hn j (by omega), List.drop_eq_getElem_cons (by omega)]
      unfold fnd
      rw [List.find?_cons_of_neg]
      rw [decide_eq_true_eq, ← lget_lt (show k < L.length by omega)]
      exact hn k (Nat.lt_succ_self k)
  refine ⟨fun i => ∃ k : Nat, i = k ∧ k ≤ L.length ∧ ∀ j : Nat, j < k → (lget L (j : Int)).path ≠ p, fun i => (L.length - i).toNat, ⟨0, rfl, Nat.zero_le _, fun j hj => absurd hj (Nat.not_lt_zero _)⟩, ?_⟩
  rintro _ ⟨k, rfl, hk, hn⟩ _
  refine ⟨fun hlt => ⟨inL_nat.2 (by omega), fun _ _ _ _ _ => ⟨fun he => ?_, fun hne => ⟨by omega, ⟨k + 1, rfl, by omega, fun j hj => ?_⟩, by dsimp only; omega⟩⟩⟩, fun hge => h2 ?_⟩
  · refine h1 k (by omega) ?_ he
    rw [key k hk hn, List.drop_eq_getElem_cons (show k < L.length by omega)]
    unfold fnd
    rw [List.find?_cons_of_pos (by rw [decide_eq_true_eq, ← lget_lt (show k < L.length by omega)]; exact he), lget_lt (show k < L.length by omega)]
  · rcases Nat.lt_or_ge j k with h | h
    · exact hn j h
    · rw [show j = k from by omega]; exact hne
  · rw [key k hk hn, List.drop_of_length_le (by omega)]; rfl
theorem rcut_p {L : OL} {p : ByteArray} {Q : OL → Prop} (hl : L.length ≤ 1000000) (h : Q (rcut L p)) : rectolaw5_cut_p L p Q := by
  unfold rectolaw5_cut_p; simp only [inR_i64]; intro _ _
  refine ⟨fun o i => ∃ k : Nat, i = k ∧ k ≤ L.length ∧ o = rcut (L.take k) p, fun _ i => (L.length - i).toNat, ⟨0, rfl, Nat.zero_le _, rfl⟩, ?_⟩
  rintro _ _ ⟨k, rfl, hk, rfl⟩ _ _
  have hrl : (rcut (L.take k) p).length ≤ k := Nat.le_trans (List.length_filter_le _ _) (by rw [List.length_take]; omega)
  refine ⟨fun hlt => ?_, fun hge => ?_⟩
  · have hkl : k < L.length := by omega
    have hs : rcut (L.take (k + 1)) p = rcut (L.take k) p ++ (if (lget L (k : Int)).path = p then [] else [lget L (k : Int)]) := by
      rw [take_lget hkl]; unfold rcut; rw [List.filter_append]
      by_cases e : (lget L (k : Int)).path = p
      · rw [if_pos e]; simp [e]
      · rw [if_neg e]; simp [e]
    refine ⟨fun o => o = rcut (L.take (k + 1)) p, ?_, inL_nat.2 hkl, fun _ _ _ _ _ => ⟨fun hne => ⟨inL_nat.2 hkl, fun _ _ _ _ _ => ⟨by show (_ + 1) * 56 ≤ _; omega, ?_⟩⟩, fun he => ?_⟩⟩
    · rintro _ rfl _
      exact ⟨by omega, ⟨k + 1, rfl, by omega, rfl⟩, by dsimp only; omega⟩
    · rw [hs, if_neg hne]
    · rw [hs, if_pos he, List.append_nil]
  · rw [List.take_of_length_le (by omega)]; exact h
theorem tw_eq {α : Type} [Inhabited α] (q : α → Bool) : ∀ (L : List α) (k : Nat), k ≤ L.length → (∀ j : Nat, j < k → q (lget L (j : Int)) = true) → (k = L.length ∨ q (lget L (k : Int)) = false) → L.takeWhile q = L.take k ∧ L.dropWhile q = L.drop k
  | [], k, hk, _, _ => by simp at hk; subst hk; exact ⟨rfl, rfl⟩
  | x :: L, 0, _, _, h => by
    rcases h with h | h
    · cases h
    · have : q x = false := h
      exact ⟨by rw [List.takeWhile_cons_of_neg (by simp [this])]; rfl, by rw [List.dropWhile_cons_of_neg (by simp [this])]; rfl⟩
  | x :: L, k + 1, hk, h1, h2 => by
    have hx : q x = true := h1 0 (Nat.succ_pos k)
    have e : ∀ j : Nat, lget (x :: L) ((j + 1 : Nat) : Int) = lget L (j : Int) := fun j => by rw [lget_nat, lget_nat]; rfl
    have ih := tw_eq q L k (by simpa using hk) (fun j hj => by rw [← e]; exact h1 (j + 1) (by omega)) (by
      rcases h2 with h2 | h2
      · exact .inl (by simpa using h2)
      · exact .inr (by rw [← e]; exact h2))
    exact ⟨by rw [List.takeWhile_cons_of_pos hx, ih.1]; rfl, by rw [List.dropWhile_cons_of_pos hx, ih.2]; rfl⟩
theorem rcut_le (L : OL) (p : ByteArray) : (rcut L p).length ≤ L.length := List.length_filter_le _ _
theorem rput_p {L : OL} {f : S_rectolaw5_one} {Q : OL → Prop} (hl : L.length ≤ 1000000) (h : Q (rput L f)) : rectolaw5_put_p L f Q := by
  unfold rectolaw5_put_p; simp only [inR_i64]; intro _ _ _ _ _ _
  refine rcut_p hl (fun _ => ?_)
  have hr := rcut_le L f.path
  unfold rput at h
  generalize rcut L f.path = r at hr h ⊢
  refine ⟨fun i => ∃ k : Nat, i = k ∧ k ≤ r.length ∧ ∀ j : Nat, j < k → sless (lget r (j : Int)).path f.path = true, fun i => (r.length - i).toNat, ⟨0, rfl, Nat.zero_le _, fun j hj => absurd hj (Nat.not_lt_zero _)⟩, ?_⟩
  rintro _ ⟨k, rfl, hk, hs⟩ _
  refine ⟨fun s => (s = true → k < r.length ∧ sless (lget r (k : Int)).path f.path = true) ∧ (s = false → k = r.length ∨ sless (lget r (k : Int)).path f.path = false), ?_, fun hlt => ⟨inL_nat.2 (by omega), fun _ _ _ _ _ => ⟨fun h1 => ⟨by omega, h1⟩, fun h1 => .inr h1⟩⟩, fun hge => ⟨fun hx => (by cases hx), fun _ => .inl (by omega)⟩⟩
  rintro s ⟨h1, h2⟩
  refine ⟨fun hs1 => ?_, fun hs1 => ?_⟩
  · obtain ⟨g1, g2⟩ := h1 hs1
    refine ⟨by omega, ⟨k + 1, rfl, by omega, fun j hj => ?_⟩, by dsimp only; omega⟩
    rcases Nat.lt_or_ge j k with h | h
    · exact hs j h
    · rw [show j = k from by omega]; exact g2
  · obtain ⟨t1, t2⟩ := tw_eq (fun x => sless x.path f.path) r k hk hs (h2 hs1)
    rw [t1, t2] at h
    have htl : (r.take k).length ≤ 1000000 := by rw [List.length_take]; omega
    intro K hK
    refine ⟨⟨by omega, by omega⟩, by show (r.take k).length * 56 ≤ _; omega, by show ((r.take k).length + 1) * 56 ≤ _; omega, hK _ (fun _ => ⟨⟨by omega, by omega⟩, ?_, h⟩)⟩
    show ((r.take k ++ [f]).length + (r.drop k).length) * 56 ≤ _
    rw [List.length_append, List.length_drop]; show ((r.take k).length + 1 + _) * 56 ≤ _; omega
theorem rclash_p {L : OL} {p but : ByteArray} {Q : Bool → Prop} (hl : ∀ x ∈ L, x.path.size ≤ 64) (hp : p.size ≤ 1000) (h : Q (rclash L p but)) : rectolaw5_clash_p L p but Q := by
  unfold rectolaw5_clash_p; simp only [inR_i64]; intro hm _ _
  refine ⟨fun i => ∃ k : Nat, i = k ∧ k ≤ L.length ∧ rclash L p but = rclash (L.drop k) p but, fun i => (L.length - i).toNat, ⟨0, rfl, Nat.zero_le _, rfl⟩, ?_⟩
  rintro _ ⟨k, rfl, hk, hc⟩ _
  refine ⟨fun hlt => ?_, fun hge => ?_⟩
  · have hkl : k < L.length := by omega
    have hd : rclash (L.drop k) p but = ((!decide ((lget L (k : Int)).path = but) && Cl (lget L (k : Int)).path p) || rclash (L.drop (k + 1)) p but) := by
      rw [List.drop_eq_getElem_cons hkl, lget_lt hkl]; rfl
    have hz := hl _ (lget_mem (inL_nat.2 hkl))
    refine ⟨fun s => s = (!decide ((lget L (k : Int)).path = but) && Cl (lget L (k : Int)).path p), ?_, inL_nat.2 hkl, fun _ _ _ _ _ => ⟨fun he => by rw [decide_eq_true he]; rfl, fun hne => ⟨inL_nat.2 hkl, fun _ _ _ _ _ => rClash_p (by omega) (by omega) (by rw [decide_eq_false hne]; rfl)⟩⟩⟩
    rintro s hs
    refine ⟨fun ht => ?_, fun hf => ⟨by omega, ⟨k + 1, rfl, by omega, ?_⟩, by dsimp only; omega⟩⟩
    · rw [hc, hd, ← hs, ht] at h; exact h
    · rw [hc, hd, ← hs, hf]; rfl
  · rw [hc, List.drop_of_length_le (by omega)] at h; exact h
theorem rused_le : ∀ {L : OL}, (∀ x ∈ L, x.data.size ≤ 65536) → 0 ≤ rused L ∧ rused L ≤ 65536 * L.length
  | [], _ => ⟨Int.le_refl _, Int.le_refl _⟩
  | x :: L, h => by
    have h1 := rused_le (L := L) fun y hy => h y (List.mem_cons_of_mem _ hy)
    have h2 := h x (by simp)
    have e : rused (x :: L) = (x.data.size : Int) + rused L := by unfold rused; rw [List.map_cons, List.sum_cons]
    rw [e, List.length_cons]; omega
theorem rused_p {L : OL} {Q : Int → Prop} (hb : ∀ x ∈ L, x.data.size ≤ 65536) (hl : L.length ≤ 1000000) (h : Q (rused L)) : rectolaw5_used_p L Q := by
  unfold rectolaw5_used_p; simp only [inR_i64]; intro _
  refine ⟨fun n i => ∃ k : Nat, i = k ∧ k ≤ L.length ∧ n = rused (L.take k), fun _ i => (L.length - i).toNat, ⟨0, rfl, Nat.zero_le _, rfl⟩, ?_⟩
  rintro _ _ ⟨k, rfl, hk, rfl⟩ _ _
  refine ⟨fun hlt => ?_, fun hge => ?_⟩
  · have hkl : k < L.length := by omega
    have e : rused (L.take k) + ((lget L (k : Int)).data.size : Int) = rused (L.take (k + 1)) := by
      rw [take_lget hkl]; unfold rused; rw [List.map_append, List.sum_append]; simp
    have hb2 := rused_le (L := L.take (k + 1)) fun x hx => hb x (List.mem_of_mem_take hx)
    have hlen : (L.take (k + 1)).length ≤ 1000000 := by rw [List.length_take]; omega
    refine ⟨inL_nat.2 hkl, fun _ _ _ _ _ => ⟨by rw [e]; omega, by omega, ⟨k + 1, rfl, by omega, e⟩, by dsimp only; omega⟩⟩
  · rw [List.take_of_length_le (by omega)]; exact h
/-- rows of files as they may be -/
def OOk (K : Nat) (L : OL) : Prop := L.length ≤ K ∧ ∀ x ∈ L, x.path.size ≤ 64 ∧ x.data.size ≤ 65536
def opOk (o : S_rectolaw5_op) : Prop := o.f.path.size ≤ 64 ∧ o.f.data.size ≤ 65536 ∧ o.from_.size ≤ 64 ∧ o.to_.size ≤ 64
theorem OOk.cut {K : Nat} {L : OL} {p : ByteArray} (h : OOk K L) : OOk K (rcut L p) := ⟨Nat.le_trans (rcut_le L p) h.1, fun x hx => h.2 x (List.mem_filter.1 hx).1⟩
theorem rput_mem {L : OL} {f x : S_rectolaw5_one} : x ∈ rput L f ↔ x = f ∨ x ∈ rcut L f.path := by
  unfold rput
  have e := List.takeWhile_append_dropWhile (p := fun x => sless x.path f.path) (l := rcut L f.path)
  constructor
  · intro hx
    rw [List.mem_append, List.mem_append] at hx
    rcases hx with (hx | hx) | hx
    · exact .inr (by rw [← e]; exact List.mem_append_left _ hx)
    · exact .inl (by simpa using hx)
    · exact .inr (by rw [← e]; exact List.mem_append_right _ hx)
  · rintro (rfl | hx)
    · rw [List.mem_append, List.mem_append]; exact .inl (.inr (by simp))
    · rw [← e] at hx
      rw [List.mem_append, List.mem_append]
      rcases List.mem_append.1 hx with hx | hx
      · exact .inl (.inl hx)
      · exact .inr hx
theorem rput_len (L : OL) (f : S_rectolaw5_one) : (rput L f).length = (rcut L f.path).length + 1 := by
  have e := congrArg List.length (List.takeWhile_append_dropWhile (p := fun x => sless x.path f.path) (l := rcut L f.path))
  rw [List.length_append] at e
  unfold rput; rw [List.length_append, List.length_append]; show _ + 1 + _ = _; omega
theorem OOk.put {K : Nat} {L : OL} {f : S_rectolaw5_one} (h : OOk K L) (hf : f.path.size ≤ 64 ∧ f.data.size ≤ 65536) : OOk (K + 1) (rput L f) :=
  ⟨by rw [rput_len]; have := h.cut (p := f.path); have := this.1; omega, fun x hx => by
    rcases rput_mem.1 hx with rfl | hx
    · exact hf
    · exact h.cut.2 x hx⟩
theorem fnd_mem {L : OL} {p : ByteArray} {x : S_rectolaw5_one} (h : fnd L p = some x) : x ∈ L ∧ x.path = p := by
  unfold fnd at h
  have h2 := List.find?_some h
  exact ⟨List.mem_of_find?_eq_some h, of_decide_eq_true h2⟩
theorem fnd_none {L : OL} {p : ByteArray} (h : fnd L p = none) : ∀ x ∈ L, x.path ≠ p := fun x hx e => by
  have := List.find?_eq_none.1 h x hx; rw [decide_eq_true e] at this; exact this rfl
theorem OOk.laid {K : Nat} {L : OL} {o : S_rectolaw5_op} (h : OOk K L) (ho : opOk o) : OOk (K + 1) (rlaid L o) := by
  have hup : OOk (K + 1) L := ⟨by have := h.1; omega, h.2⟩
  unfold rlaid
  split
  · split
    · exact hup
    · exact h.put ⟨ho.1, ho.2.1⟩
  · split
    · cases hf : fnd L o.from_ with
      | none => exact hup
      | some x =>
        dsimp only
        split
        · exact hup
        · exact h.cut.put ⟨ho.2.2.2, (h.2 x (fnd_mem hf).1).2⟩
    · exact ⟨by have := h.cut (p := o.from_); have := this.1; omega, h.cut.2⟩
theorem rlaid_p {K : Nat} {L : OL} {o : S_rectolaw5_op} {Q : OL → Prop} (h : OOk K L) (hK : K ≤ 900000) (ho : opOk o) (hq : Q (rlaid L o)) : rectolaw5_laid_p L o Q := by
  unfold rectolaw5_laid_p; intro _ _ _ _ _ _ _ _ _
  have hl := h.1
  have hz : ∀ x ∈ L, x.path.size ≤ 64 := fun x hx => (h.2 x hx).1
  unfold rlaid at hq
  refine ⟨fun h1 => rclash_p hz (by have := ho.1; omega) ⟨fun hc => ?_, fun hc => ?_⟩, fun h1 => ⟨fun h2 => ?_, fun h2 => ?_⟩⟩
  · rwa [if_pos h1, if_pos hc] at hq
  · rw [if_pos h1, if_neg (by rw [hc]; exact Bool.false_ne_true)] at hq
    exact rput_p (by omega) (fun _ => hq)
  · rw [if_neg h1, if_pos h2] at hq
    refine get_p (fun k hk hf hp => fun _ => ?_) (fun hf => fun _ => ?_)
    · rw [hf] at hq; dsimp only at hq
      refine ⟨fun s => s = rclash L o.to_ o.from_, ?_, fun hx => absurd hx (by omega), fun _ => rclash_p hz (by have := ho.2.2.2; omega) rfl⟩
      rintro _ rfl
      refine ⟨fun hc => by rwa [if_pos hc] at hq, fun hc => ⟨inL_nat.2 hk, fun _ _ _ _ _ => rcut_p (by omega) (fun _ => rput_p (by have := rcut_le L o.from_; omega) (fun _ => ?_))⟩⟩
      rwa [if_neg (by rw [hc]; exact Bool.false_ne_true)] at hq
    · rw [hf] at hq
      exact ⟨fun s => s = true, by rintro _ rfl; exact ⟨fun _ => hq, fun hx => (by cases hx)⟩, fun _ => rfl, fun hx => absurd (by decide) hx⟩
  · rw [if_neg h1, if_neg h2] at hq
    exact rcut_p (by omega) (fun _ => hq)
theorem rpow_nil (os : List S_rectolaw5_op) (L : OL) : rpow os [] L = L := by cases os <;> rfl
theorem rpow_cons (o : S_rectolaw5_op) (os : List S_rectolaw5_op) (k : Bool) (ks : List Bool) (L : OL) : rpow (o :: os) (k :: ks) L = rpow os ks (if k = true then rlaid L o else L) := rfl
def powD (d : S_rectolaw5_Disk) (keep : List Bool) : S_rectolaw5_Disk := ⟨rpow d.wait keep d.kept, rpow d.wait keep d.kept, [], d.quota, d.time, d.inode, true, false, d.left, d.keep, d.ops_⟩
theorem power_p {K : Nat} {d : S_rectolaw5_Disk} {keep : List Bool} {Q : S_rectolaw5_Disk → Prop} (hk : OOk K d.kept) (hK : K + d.wait.length ≤ 800000) (ho : ∀ o ∈ d.wait, opOk o) (h : Q (powD d keep)) : rectolaw5_Disk_power_p d keep Q := by
  unfold rectolaw5_Disk_power_p; simp only [inR_i64]; intro _ _ _ _ _ _ _ _ _ _
  refine ⟨fun L i => ∃ j : Nat, i = j ∧ j ≤ d.wait.length ∧ OOk (K + j) L ∧ rpow (d.wait.drop j) (keep.drop j) L = rpow d.wait keep d.kept, fun _ i => (d.wait.length - i).toNat, ⟨0, rfl, Nat.zero_le _, hk, rfl⟩, ?_⟩
  rintro L _ ⟨j, rfl, hj, hL, hc⟩ _ _
  refine ⟨fun hlt => ?_, fun hge => ?_⟩
  · have hjl : j < d.wait.length := by omega
    have hd : d.wait.drop j = lget d.wait j :: d.wait.drop (j + 1) := by rw [lget_lt hjl]; exact List.drop_eq_getElem_cons hjl
    have ho1 := ho _ (lget_mem (inL_nat.2 hjl))
    refine ⟨fun L2 => OOk (K + (j + 1)) L2 ∧ rpow (d.wait.drop (j + 1)) (keep.drop (j + 1)) L2 = rpow d.wait keep d.kept, ?_, fun b => b = (keep.drop j).headD false, ?_, fun hx => ?_, fun hx => ?_⟩
    · rintro L2 ⟨h1, h2⟩ _
      exact ⟨by omega, ⟨j + 1, rfl, hjl, h1, h2⟩, by dsimp only; omega⟩
    · rintro _ rfl
      rw [hd] at hc
      cases hkd : keep.drop j with
      | nil =>
        have hkd1 : keep.drop (j + 1) = [] := by rw [← List.drop_drop, hkd]; rfl
        rw [hkd] at hc
        refine ⟨fun hx => (by cases hx), fun _ => ⟨⟨by have := hL.1; omega, hL.2⟩, ?_⟩⟩
        rw [hkd1, rpow_nil]; rw [rpow_nil] at hc; exact hc
      | cons k ks =>
        have hkd1 : keep.drop (j + 1) = ks := by rw [← List.drop_drop, hkd]; rfl
        rw [hkd, rpow_cons] at hc
        refine ⟨fun hx => ?_, fun hx => ?_⟩
        · have hx : k = true := hx
          rw [if_pos hx] at hc
          refine ⟨inL_nat.2 hjl, fun _ _ _ _ _ _ _ _ => rlaid_p hL (by omega) ho1 (fun _ => ⟨hL.laid ho1, ?_⟩)⟩
          rw [hkd1]; exact hc
        · have hx : k = false := hx
          rw [if_neg (by rw [hx]; exact Bool.false_ne_true)] at hc
          exact ⟨⟨by have := hL.1; omega, hL.2⟩, by rw [hkd1]; exact hc⟩
    · have hjk : j < keep.length := by omega
      refine ⟨inL_nat.2 hjk, ?_⟩
      rw [lget_lt hjk, List.drop_eq_getElem_cons hjk]; rfl
    · have : keep.drop j = [] := List.drop_eq_nil_of_le (by omega)
      rw [this]; rfl
  · have : j = d.wait.length := by omega
    subst this
    rw [List.drop_length] at hc
    have hc : L = _ := hc
    rw [hc]; exact h
/-! the program's files and the document's -/
def MRel (l : FL) (L : OL) : Prop := Srt L ∧ (∀ x ∈ L, ∃ y, mlook l x.path = some y ∧ FEq y x) ∧ ∀ k, mhas l k = true → ∃ x ∈ L, x.path = k
theorem sless_irr (a : ByteArray) : sless a a = false := by rw [sless_eq]; exact decide_eq_false (List.lt_irrefl _)
theorem sless_tr {a b c : ByteArray} (h : sless a b = true) (k : sless b c = true) : sless a c = true := by
  rw [sless_eq] at *; exact decide_eq_true (List.lt_trans (of_decide_eq_true h) (of_decide_eq_true k))
theorem sless_tot {a b : ByteArray} (h : sless a b = false) (hn : a ≠ b) : sless b a = true := by
  rw [sless_eq] at *
  have h := of_decide_eq_false h
  refine decide_eq_true ?_
  by_cases h1 : b.data.toList < a.data.toList
  · exact h1
  · exact absurd (ba_ext (List.le_antisymm (List.not_lt.1 h1) (List.not_lt.1 h))) hn
theorem Srt.nodup {L : OL} (h : Srt L) : (L.map (·.path)).Nodup := by
  refine List.pairwise_map.2 (h.imp fun {x y} hxy e => ?_)
  rw [e, sless_irr] at hxy; cases hxy
theorem nd_inj : ∀ {L : OL}, (L.map (·.path)).Nodup → ∀ {x y : S_rectolaw5_one}, x ∈ L → y ∈ L → x.path = y.path → x = y
  | [], _, _, _, hx, _, _ => by cases hx
  | z :: L, h, x, y, hx, hy, e => by
    rw [List.map_cons, List.nodup_cons] at h
    rcases List.mem_cons.1 hx with hx1 | hx1
    · rcases List.mem_cons.1 hy with hy1 | hy1
      · rw [hx1, hy1]
      · exact absurd (List.mem_map.2 ⟨y, hy1, by rw [← e, hx1]⟩) h.1
    · rcases List.mem_cons.1 hy with hy1 | hy1
      · exact absurd (List.mem_map.2 ⟨x, hx1, by rw [e, hy1]⟩) h.1
      · exact nd_inj h.2 hx1 hy1 e
theorem Srt.fnd {L : OL} (h : Srt L) {x : S_rectolaw5_one} (hx : x ∈ L) : Go.Proofs.YtaolmfepdmgohaaGreatDoor.fnd L x.path = some x := by
  cases hf : Go.Proofs.YtaolmfepdmgohaaGreatDoor.fnd L x.path with
  | none => exact absurd rfl (fnd_none hf x hx)
  | some y =>
    obtain ⟨h1, h2⟩ := fnd_mem hf
    refine congrArg some ?_
    exact nd_inj h.nodup h1 hx h2
theorem MRel.perm {l : FL} {L : OL} (h : MRel l L) (hn : (l.map (·.1)).Nodup) : (l.map (·.1)).Perm (L.map (·.path)) := by
  refine (List.perm_ext_iff_of_nodup hn h.1.nodup).2 fun k => ?_
  constructor
  · intro hk
    obtain ⟨x, hx, e⟩ := h.2.2 k (mhas_iff.2 hk)
    exact List.mem_map.2 ⟨x, hx, e⟩
  · intro hk
    obtain ⟨x, hx, rfl⟩ := List.mem_map.1 hk
    obtain ⟨y, hy, _⟩ := h.2.1 x hx
    exact List.mem_map.2 ⟨_, mlook_mem hy, rfl⟩
theorem MRel.len {l : FL} {L : OL} (h : MRel l L) (hn : (l.map (·.1)).Nodup) : L.length = l.length := by
  have := (h.perm hn).length_eq; rw [List.length_map, List.length_map] at this; exact this.symm
theorem MRel.ook {K : Nat} {l : FL} {L : OL} (h : MRel l L) (hl : LOk K l) : OOk K L := by
  refine ⟨by rw [h.len hl.2.2]; exact hl.2.1, fun x hx => ?_⟩
  obtain ⟨y, hy, he⟩ := h.2.1 x hx
  have := hl.1 _ (mlook_mem hy)
  exact ⟨this.1, by rw [he.size]; exact this.2⟩
theorem MRel.none {l : FL} {L : OL} (h : MRel l L) {p : ByteArray} (hf : fnd L p = none) : mlook l p = none := by
  cases hl : mlook l p with
  | none => rfl
  | some y =>
    obtain ⟨x, hx, e⟩ := h.2.2 p (by rw [mhas_of, hl]; rfl)
    exact absurd e (fnd_none hf x hx)
theorem MRel.some {l : FL} {L : OL} (h : MRel l L) {p : ByteArray} {x : S_rectolaw5_one} (hf : fnd L p = some x) : ∃ y, mlook l p = some y ∧ FEq y x := by
  obtain ⟨h1, h2⟩ := fnd_mem hf
  obtain ⟨y, hy, he⟩ := h.2.1 x h1
  exact ⟨y, by rw [← h2]; exact hy, he⟩
theorem Cl_nil (p : ByteArray) : Cl p E0 = false := by
  unfold Cl
  by_cases h : p = E0
  · rw [if_pos h]
  · rw [if_neg h, if_pos rfl]
theorem Cl_self (p : ByteArray) : Cl p p = false := by
  by_cases h : p.size = 0
  · have : p = E0 := ba_ext (by
      have h1 : p.data.toList.length = 0 := h
      rw [List.eq_nil_of_length_eq_zero h1])
    rw [this]; exact Cl_nil E0
  · exact Cl_same rfl h
theorem MRel.clash {l : FL} {L : OL} (h : MRel l L) (p but : ByteArray) : clashS l p but = rclash L p but := by
  unfold clashS rclash
  rw [Bool.eq_iff_iff, List.any_eq_true, List.any_eq_true]
  constructor
  · rintro ⟨x, hx, hc⟩
    obtain ⟨z, hz, e⟩ := h.2.2 x.1 (mhas_iff.2 (List.mem_map.2 ⟨x, hx, rfl⟩))
    exact ⟨z, hz, by rw [e, Cl_comm]; exact hc⟩
  · rintro ⟨z, hz, hc⟩
    obtain ⟨y, hy, _⟩ := h.2.1 z hz
    exact ⟨_, mlook_mem hy, by rw [Cl_comm]; exact hc⟩
theorem clash_E0 (l : FL) (p : ByteArray) : clashS l p E0 = clashS l p p := by
  unfold clashS
  congr 1; funext x
  by_cases h1 : x.1 = p
  · rw [h1, Cl_self]; simp
  · by_cases h2 : x.1 = E0
    · rw [h2, Cl_nil]; simp
    · simp [h1, h2]
theorem MRel.clash0 {l : FL} {L : OL} (h : MRel l L) (p : ByteArray) : clashS l p E0 = rclash L p p := by rw [clash_E0, h.clash]
theorem rcut_mem {L : OL} {p : ByteArray} {x : S_rectolaw5_one} : x ∈ rcut L p ↔ x ∈ L ∧ x.path ≠ p := by
  unfold rcut; rw [List.mem_filter]; simp
theorem rput_srt {L : OL} {f : S_rectolaw5_one} (h : Srt L) : Srt (rput L f) := by
  have hc : Srt (rcut L f.path) := h.filter _
  have hne : ∀ x ∈ rcut L f.path, x.path ≠ f.path := fun x hx => (rcut_mem.1 hx).2
  unfold rput
  have e := List.takeWhile_append_dropWhile (p := fun x => sless x.path f.path) (l := rcut L f.path)
  have hs := hc
  rw [← e] at hs hne
  unfold Srt at hs
  rw [List.pairwise_append] at hs
  obtain ⟨s1, s2, s3⟩ := hs
  have t1 : ∀ x ∈ (rcut L f.path).takeWhile fun x => sless x.path f.path, sless x.path f.path = true := fun x hx => by
    have := List.all_takeWhile (p := fun x => sless x.path f.path) (l := rcut L f.path)
    exact List.all_eq_true.1 this x hx
  have t2 : ∀ x ∈ (rcut L f.path).dropWhile fun x => sless x.path f.path, sless f.path x.path = true := fun x hx => by
    cases hd : (rcut L f.path).dropWhile fun x => sless x.path f.path with
    | nil => rw [hd] at hx; cases hx
    | cons y r =>
      have hy : sless y.path f.path = false := by
        have := List.head?_dropWhile_not (fun x => sless x.path f.path) (rcut L f.path)
        rw [hd] at this; simpa using this
      have hyf : sless f.path y.path = true := sless_tot hy (hne y (List.mem_append_right _ (by rw [hd]; simp)))
      rw [hd] at hx s2
      rcases List.mem_cons.1 hx with rfl | hx
      · exact hyf
      · exact sless_tr hyf ((List.pairwise_cons.1 s2).1 x hx)
  unfold Srt
  rw [List.pairwise_append, List.pairwise_append]
  refine ⟨⟨s1, List.pairwise_singleton _ _, fun x hx y hy => ?_⟩, s2, fun x hx y hy => ?_⟩
  · simp at hy; rw [hy]; exact t1 x hx
  · rcases List.mem_append.1 hx with hx | hx
    · exact s3 x hx y hy
    · simp at hx; rw [hx]; exact t2 y hy
theorem MRel.set {l : FL} {L : OL} (h : MRel l L) {y : S_simfs_file} {x : S_rectolaw5_one} (he : FEq y x) : MRel (mset l x.path y) (rput L x) := by
  refine ⟨rput_srt h.1, fun z hz => ?_, fun k hk => ?_⟩
  · rw [mlook_mset]
    rcases rput_mem.1 hz with rfl | hz
    · rw [if_pos rfl]; exact ⟨y, rfl, he⟩
    · obtain ⟨h1, h2⟩ := rcut_mem.1 hz
      rw [if_neg (fun e => h2 e.symm)]
      exact h.2.1 z h1
  · rw [mhas_of, mlook_mset] at hk
    by_cases e : x.path = k
    · exact ⟨x, rput_mem.2 (.inl rfl), e⟩
    · rw [if_neg e] at hk
      obtain ⟨z, hz, e2⟩ := h.2.2 k hk
      exact ⟨z, rput_mem.2 (.inr (rcut_mem.2 ⟨hz, fun e3 => e (e3.symm.trans e2)⟩)), e2⟩
theorem MRel.del {l : FL} {L : OL} (h : MRel l L) (hn : (l.map (·.1)).Nodup) (p : ByteArray) : MRel (mdel l p) (rcut L p) := by
  refine ⟨h.1.filter _, fun z hz => ?_, fun k hk => ?_⟩
  · obtain ⟨h1, h2⟩ := rcut_mem.1 hz
    rw [mlook_mdel hn, if_neg (fun e => h2 e.symm)]
    exact h.2.1 z h1
  · rw [mhas_of, mlook_mdel hn] at hk
    by_cases e : p = k
    · rw [if_pos e] at hk; cases hk
    · rw [if_neg e] at hk
      obtain ⟨z, hz, e2⟩ := h.2.2 k hk
      exact ⟨z, rcut_mem.2 ⟨hz, fun e3 => e (e3.symm.trans e2)⟩, e2⟩
end Go.Proofs.YtaolmfepdmgohaaGreatDoor
