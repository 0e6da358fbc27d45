/- Plain laws of chapter 5: Remove. -/
import Derived.Test.YtlkfoebophjhfaaGreatDoorJa12
import Derived.Test.YtlkfoebophjhfaaGreatDoorPath
import Derived.Test.YtlkfoebophjhfaaGreatDoorBits
namespace Go.Proofs.YtlkfoebophjhfaaGreatDoor
open Go
def goodZ (c : Int) : Bool := decide ((97 ≤ c ∧ c ≤ 122) ∨ (48 ≤ c ∧ c ≤ 57) ∨ c = 46 ∨ c = 45 ∨ c = 95)
def partOk (s : ByteArray) : Bool := decide (s ≠ ByteArray.mk #[] ∧ s ≠ ByteArray.mk #[46] ∧ s ≠ ByteArray.mk #[46, 46]) && (bytesL s).all goodZ
def Chk (p : ByteArray) : Int := if p.size > 64 then 4 else if (partsB p 47).all partOk then 0 else 5
def Und (p d : ByteArray) : Bool := if d = ByteArray.mk #[] then !decide (p = ByteArray.mk #[]) else decide ((p.size : Int) > (d.size : Int) + 1 ∧ bsub p 0 d.size = d ∧ bget p d.size = 47)
def Cl (a b : ByteArray) : Bool := if a = ByteArray.mk #[] then false else if b = ByteArray.mk #[] then false else (Und a b || Und b a)
theorem strSplit_p {s : ByteArray} {Q : List ByteArray → Prop} (hs : s.size < 4294967281) (h : Q (partsB s 47)) : strings_Split_p s (ByteArray.mk #[47]) Q := by
  unfold strings_Split_p strings_genSplit_p; intro _ _; exact ⟨47, rfl, rfl, rfl, hs, fun _ => h⟩
theorem good_p {c : Int} {Q : Bool → Prop} (h : Q (goodZ c)) : path_good_p c Q := by
  unfold path_good_p; intro _
  have e : ∀ {P : Prop} [Decidable P], (P ↔ ((97 ≤ c ∧ c ≤ 122) ∨ (48 ≤ c ∧ c ≤ 57) ∨ c = 46 ∨ c = 45 ∨ c = 95)) → Q (decide P) := by
    intro P _ hp; rw [decide_eq_decide.2 hp]; exact h
  have ht : ((97 ≤ c ∧ c ≤ 122) ∨ (48 ≤ c ∧ c ≤ 57) ∨ c = 46 ∨ c = 45 ∨ c = 95) → Q true := fun hp => by
    have := e (P := True) ⟨fun _ => hp, fun _ => trivial⟩; simpa using this
  refine ⟨c = 46 ∨ c = 45 ∨ c = 95, fun hk => ht (by omega), fun h1 => .inl h1, fun h1 => ⟨fun h2 => .inr (.inl h2), fun h2 => ⟨fun h3 => .inr (.inr h3), fun h3 => e (by omega)⟩⟩⟩
theorem part_p {s : ByteArray} {Q : Bool → Prop} (h : Q (partOk s)) : path_part_p s Q := by
  unfold path_part_p; simp only [inR_i64]; intro hm
  refine ⟨fun hb => ?_, fun hb => ?_⟩
  · have : partOk s = false := by unfold partOk; rw [decide_eq_false (fun hc => by rcases hb with h1 | h1 | h1; exact hc.1 h1; exact hc.2.1 h1; exact hc.2.2 h1)]; rfl
    rwa [this] at h
  have hok : decide (s ≠ ByteArray.mk #[] ∧ s ≠ ByteArray.mk #[46] ∧ s ≠ ByteArray.mk #[46, 46]) = true := decide_eq_true ⟨fun h1 => hb (.inl h1), fun h1 => hb (.inr (.inl h1)), fun h1 => hb (.inr (.inr h1))⟩
  unfold partOk at h
  rw [hok, Bool.true_and] at h
  refine ⟨fun i => ∃ k : Nat, i = k ∧ k ≤ (bytesL s).length ∧ ((bytesL s).take k).all goodZ = true, fun i => (bytesL s).length - i.toNat, ⟨0, rfl, Nat.zero_le _, rfl⟩, ?_⟩
  rintro _ ⟨k, rfl, hk, ht⟩ _
  have hmax : (bytesL s).length ≤ 9223372036854775807 := by rw [bytesL_len]; exact hm
  refine ⟨fun hlt => ?_, fun hge => ?_⟩
  · have hkl : k < (bytesL s).length := by omega
    refine ⟨inL_nat.2 hkl, fun _ => good_p ⟨fun hg => ?_, fun hg => ?_⟩⟩
    · have : (bytesL s).all goodZ = false := by
        rw [Bool.eq_false_iff]; intro ha
        rw [List.all_eq_true] at ha
        have := ha _ (lget_mem (inL_nat.2 hkl))
        rw [this] at hg; simp at hg
      rwa [this] at h
    · refine ⟨⟨by omega, by omega⟩, ⟨k + 1, rfl, hkl, ?_⟩, by dsimp only; omega⟩
      rw [take_lget hkl, List.all_append, ht]
      have : goodZ (lget (bytesL s) (k : Int)) = true := by simpa using hg
      simp [this]
  · rw [show k = (bytesL s).length from by omega, List.take_length] at ht
    rwa [ht] at h
theorem Check_p {p : ByteArray} {Q : Int → Prop} (h : Q (Chk p)) : path_Check_p p Q := by
  unfold path_Check_p; simp only [inR_i64]; intro hm
  unfold Chk at h
  refine ⟨fun hb => ?_, fun hb => ?_⟩
  · rwa [if_pos (by omega)] at h
  rw [if_neg (by omega)] at h
  refine strSplit_p (by omega) (fun hl => ?_)
  refine ⟨fun i => ∃ k : Nat, i = k ∧ k ≤ (partsB p 47).length ∧ ((partsB p 47).take k).all partOk = true, fun i => (partsB p 47).length - i.toNat, ⟨0, rfl, Nat.zero_le _, rfl⟩, ?_⟩
  rintro _ ⟨k, rfl, hk, ht⟩ _
  refine ⟨fun hlt => ?_, fun hge => ?_⟩
  · have hkl : k < (partsB p 47).length := by omega
    refine ⟨inL_nat.2 hkl, fun _ => part_p ⟨fun hg => ?_, fun hg => ?_⟩⟩
    · have : (partsB p 47).all partOk = false := by
        rw [Bool.eq_false_iff]; intro ha
        rw [List.all_eq_true] at ha
        have := ha _ (lget_mem (inL_nat.2 hkl))
        rw [this] at hg; simp at hg
      rw [this] at h; exact h
    · refine ⟨⟨by omega, by omega⟩, ⟨k + 1, rfl, hkl, ?_⟩, by dsimp only; omega⟩
      rw [take_lget hkl, List.all_append, ht]
      have : partOk (lget (partsB p 47) (k : Int)) = true := by simpa using hg
      simp [this]
  · rw [show k = (partsB p 47).length from by omega, List.take_length] at ht
    rw [ht] at h; exact h
theorem take_und (p d : ByteArray) (h : d.size < p.size) : bsub p 0 ((d ++ ByteArray.mk #[47]).size : Int) = d ++ ByteArray.mk #[47] ↔ bsub p 0 d.size = d ∧ bget p d.size = 47 := by
  have hsz : ((d ++ ByteArray.mk #[47]).size : Int) = ((d.size + 1 : Nat) : Int) := by rw [ByteArray.size_append]; rfl
  have hlt : d.size < (LL p).length := h
  rw [hsz, LL_inj, LL_sub, LL_cat, LL_inj, LL_sub, bget_LL]
  simp only [Int.toNat_natCast, Int.toNat_zero, List.drop_zero]
  rw [List.take_succ_eq_append_getElem hlt, List.getD, List.getElem?_eq_getElem hlt, Option.getD_some]
  constructor
  · intro h1
    have h2 := List.append_inj h1 (by rw [List.length_take]; exact Nat.min_eq_left (Nat.le_of_lt hlt))
    refine ⟨h2.1, ?_⟩
    have h3 : (LL p)[d.size] = 47 := by simpa [LL] using h2.2
    rw [h3]; rfl
  · rintro ⟨h1, h2⟩
    rw [h1]
    have h3 : (LL p)[d.size] = 47 := UInt8.toNat_inj.1 (by exact_mod_cast h2)
    rw [h3]
theorem Under_p {p d : ByteArray} {Q : Bool → Prop} (hz : d.size ≤ 1000000) (h : Q (Und p d)) : path_Under_p p d Q := by
  unfold path_Under_p strings_HasPrefix_p internal_stringslite_HasPrefix_p; simp only [inR_i64]; intro hm hd
  unfold Und at h
  refine ⟨fun he => ?_, fun he => ?_⟩
  · rwa [if_pos he] at h
  rw [if_neg he] at h
  unfold maxLen at hm hd
  by_cases hgt : (p.size : Int) > (d.size : Int) + 1
  · have hsz : ((d ++ ByteArray.mk #[47]).size) = d.size + 1 := by rw [ByteArray.size_append]; rfl
    refine ⟨fun b => b = decide ((p.size : Int) > (d.size : Int) + 1 ∧ bsub p 0 d.size = d ∧ bget p d.size = 47), by rintro _ rfl; exact h, ⟨by omega, by omega⟩, fun _ => ⟨by unfold maxLen; omega, fun _ _ _ _ => ⟨⟨fun _ => ⟨⟨by omega, by omega, by omega⟩, trivial⟩, fun _ => trivial⟩, decide_eq_decide.2 ?_⟩⟩, fun hn => absurd hgt hn⟩
    rw [take_und p d (by omega)]
    constructor
    · exact fun h1 => ⟨hgt, h1.2⟩
    · exact fun h1 => ⟨by omega, h1.2⟩
  · refine ⟨fun b => b = false, ?_, ⟨by omega, by omega⟩, fun hn => absurd hn hgt, fun _ => rfl⟩
    rintro _ rfl
    rwa [decide_eq_false (fun h1 => hgt h1.1)] at h
theorem Clash_p {a b : ByteArray} {Q : Bool → Prop} (hza : a.size ≤ 1000000) (hzb : b.size ≤ 1000000) (h : Q (Cl a b)) : path_Clash_p a b Q := by
  unfold path_Clash_p; intro _ _
  unfold Cl at h
  refine ⟨fun r => r = Cl a b, by rintro _ rfl; exact h, fun ha => ?_, fun ha => ⟨fun hb => ?_, fun hb => Under_p hzb ⟨fun h1 => ?_, fun h1 => Under_p hza ?_⟩⟩⟩
  · show false = Cl a b; unfold Cl; rw [if_pos ha]
  · show false = Cl a b; unfold Cl; rw [if_neg ha, if_pos hb]
  · show true = Cl a b; unfold Cl; rw [if_neg ha, if_neg hb, h1]; rfl
  · show Und b a = Cl a b; unfold Cl; rw [if_neg ha, if_neg hb, h1]; rfl
theorem Cl_comm (a b : ByteArray) : Cl a b = Cl b a := by
  unfold Cl
  by_cases ha : a = ByteArray.mk #[] <;> by_cases hb : b = ByteArray.mk #[] <;> simp [ha, hb, Bool.or_comm]
end Go.Proofs.YtlkfoebophjhfaaGreatDoor
namespace Go.Proofs.YtlkfoebophjhfaaGreatDoor
open Go
abbrev E0 : ByteArray := ByteArray.mk #[]
abbrev FL := List (ByteArray × S_simfs_file)
def clashS (l : FL) (p but : ByteArray) : Bool := l.any fun x => !decide (x.1 = but) && Cl p x.1
/-- files as they may be: short paths, short texts -/
def LOk (K : Nat) (l : FL) : Prop := (∀ x ∈ l, x.1.size ≤ 64 ∧ x.2.b.length ≤ 65536) ∧ l.length ≤ K ∧ (l.map (·.1)).Nodup
theorem clash_p {l : FL} {p but : ByteArray} {Q : Bool → Prop} (hl : ∀ x ∈ l, x.1.size ≤ 64) (hp : p.size ≤ 64) (h : Q (clashS l p but)) : simfs_clash_p l p but Q := by
  unfold simfs_clash_p; intro _ _
  refine ⟨fun r => clashS l p but = clashS r p but ∧ ∀ x ∈ r, x.1.size ≤ 64, fun r => r.length, ⟨rfl, hl⟩, ?_⟩
  rintro r ⟨h1, h2⟩
  refine ⟨fun h0 => ?_, fun pr k v po hr _ _ _ _ _ => ?_⟩
  · rw [h1, h0] at h; exact h
  · have hk : k.size ≤ 64 := h2 (k, v) (by rw [hr]; simp)
    have hc : clashS r p but = (clashS (pr ++ po) p but || (!decide (k = but) && Cl p k)) := by
      rw [hr]; unfold clashS; rw [List.any_append, List.any_cons, List.any_append]
      generalize (pr.any fun x => !decide (x.1 = but) && Cl p x.1) = a
      generalize (po.any fun x => !decide (x.1 = but) && Cl p x.1) = b
      generalize (!decide (k = but) && Cl p k) = c
      cases a <;> cases b <;> cases c <;> rfl
    refine ⟨fun r2 s => r2 = pr ++ po ∧ s = (!decide (k = but) && Cl p k), ?_, fun he => ⟨rfl, by rw [decide_eq_true he]; rfl⟩, fun hne => Clash_p (by omega) (by omega) ⟨rfl, by rw [decide_eq_false hne]; rfl⟩⟩
    rintro _ s ⟨rfl, hs⟩
    refine ⟨fun ht => ?_, fun hf => ⟨⟨?_, fun x hx => ?_⟩, ?_⟩⟩
    · rw [h1, hc, ← hs, ht, Bool.or_true] at h; exact h
    · rw [h1, hc, ← hs, hf, Bool.or_false]
    · refine h2 x ?_
      rw [hr]
      rcases List.mem_append.1 hx with h | h
      · exact List.mem_append_left _ h
      · exact List.mem_append_right _ (List.mem_cons_of_mem _ h)
    · rw [hr]; simp
def sumS (l : FL) : Int := (l.map fun x => (x.2.b.length : Int)).sum
theorem sumS_append (a b : FL) : sumS (a ++ b) = sumS a + sumS b := by unfold sumS; rw [List.map_append, List.sum_append]
theorem sumS_cons (x : ByteArray × S_simfs_file) (b : FL) : sumS (x :: b) = (x.2.b.length : Int) + sumS b := by unfold sumS; rw [List.map_cons, List.sum_cons]
theorem sumS_le : ∀ {l : FL}, (∀ x ∈ l, x.2.b.length ≤ 65536) → 0 ≤ sumS l ∧ sumS l ≤ 65536 * l.length
  | [], _ => ⟨Int.le_refl _, Int.le_refl _⟩
  | x :: l, h => by
    have h1 := sumS_le (l := l) fun y hy => h y (List.mem_cons_of_mem _ hy)
    have h2 := h x (by simp)
    rw [sumS_cons, List.length_cons]; omega
theorem sum_p {l : FL} {Q : Int → Prop} (hl : ∀ x ∈ l, x.2.b.length ≤ 65536) (hn : l.length ≤ 1000000) (h : Q (sumS l)) : simfs_sum_p l Q := by
  unfold simfs_sum_p
  refine ⟨fun n r => n + sumS r = sumS l ∧ 0 ≤ n ∧ ∀ x ∈ r, x.2.b.length ≤ 65536, fun _ r => r.length, ⟨by rw [Int.zero_add], Int.le_refl _, hl⟩, ?_⟩
  rintro n r ⟨h1, h0, h2⟩ _
  refine ⟨fun he => ?_, fun pr k v po hr _ _ _ _ _ => ?_⟩
  · rw [he] at h1; have : sumS ([] : FL) = 0 := rfl
    rw [this, Int.add_zero] at h1; rw [h1]; exact h
  · have hle := sumS_le hl
    have h3 : ∀ x ∈ pr ++ po, x.2.b.length ≤ 65536 := fun x hx => h2 x (by
      rw [hr]; rcases List.mem_append.1 hx with h | h
      · exact List.mem_append_left _ h
      · exact List.mem_append_right _ (List.mem_cons_of_mem _ h))
    have hle2 := sumS_le h3
    have e : sumS r = sumS (pr ++ po) + (v.b.length : Int) := by rw [hr, sumS_append, sumS_append, sumS_cons]; show sumS pr + ((v.b.length : Int) + sumS po) = sumS pr + sumS po + (v.b.length : Int); omega
    refine ⟨inR_i64.2 ⟨by omega, by omega⟩, ⟨by omega, by omega, h3⟩, by rw [hr]; simp⟩
structure FOk (K : Nat) (f : S_simfs_FS) : Prop where
  files : LOk K f.files
  kept : LOk K f.kept
  pend : (∀ o ∈ f.pending, o.path.size ≤ 64 ∧ o.to_.size ≤ 64 ∧ o.file.b.length ≤ 65536) ∧ f.pending.length ≤ K
  now : 0 ≤ f.now ∧ f.now ≤ K
  inodes : 0 ≤ f.inodes ∧ f.inodes ≤ K
  ops : 0 ≤ f.ops_ ∧ f.ops_ ≤ K
  keep : f.keep.length ≤ 1000000
theorem LOk.up {K J : Nat} {l : FL} (h : LOk K l) (hk : K ≤ J) : LOk J l := ⟨h.1, Nat.le_trans h.2.1 hk, h.2.2⟩
theorem FOk.up {K J : Nat} {f : S_simfs_FS} (h : FOk K f) (hk : K ≤ J) : FOk J f :=
  ⟨h.files.up hk, h.kept.up hk, ⟨h.pend.1, Nat.le_trans h.pend.2 hk⟩, ⟨h.now.1, by have := h.now.2; omega⟩, ⟨h.inodes.1, by have := h.inodes.2; omega⟩, ⟨h.ops.1, by have := h.ops.2; omega⟩, h.keep⟩
/-! what a map holds -/
section
variable {α : Type}
theorem mset_mem {L : List (ByteArray × α)} {k : ByteArray} {v : α} : ∀ x ∈ mset L k v, x = (k, v) ∨ x ∈ L := by
  induction L with
  | nil => intro x hx; simp [mset] at hx; exact .inl hx
  | cons p r ih =>
    intro x hx
    unfold mset at hx
    split at hx
    · rcases List.mem_cons.1 hx with rfl | hx
      · exact .inl rfl
      · exact .inr (List.mem_cons_of_mem _ hx)
    · rcases List.mem_cons.1 hx with rfl | hx
      · exact .inr (by simp)
      · exact (ih x hx).imp id (List.mem_cons_of_mem _)
theorem mset_len {L : List (ByteArray × α)} {k : ByteArray} {v : α} : (mset L k v).length ≤ L.length + 1 := by
  induction L with
  | nil => simp [mset]
  | cons p r ih => unfold mset; split <;> simp <;> omega
theorem mset_keys {L : List (ByteArray × α)} {k : ByteArray} {v : α} : (k ∈ L.map (·.1) → (mset L k v).map (·.1) = L.map (·.1)) ∧ (k ∉ L.map (·.1) → (mset L k v).map (·.1) = L.map (·.1) ++ [k]) := by
  induction L with
  | nil => simp [mset]
  | cons p r ih =>
    unfold mset
    by_cases h : p.1 = k
    · rw [if_pos h]
      exact ⟨fun _ => by rw [List.map_cons, List.map_cons]; show k :: _ = p.1 :: _; rw [h], fun hn => absurd (by rw [List.map_cons, h]; exact List.mem_cons_self) hn⟩
    · rw [if_neg h, List.map_cons, List.map_cons]
      refine ⟨fun hm => ?_, fun hn => ?_⟩
      · rw [ih.1 ((List.mem_cons.1 hm).elim (fun e => absurd e.symm h) id)]
      · rw [ih.2 fun hm => hn (List.mem_cons_of_mem _ hm)]; rfl
theorem mset_nodup {L : List (ByteArray × α)} {k : ByteArray} {v : α} (h : (L.map (·.1)).Nodup) : ((mset L k v).map (·.1)).Nodup := by
  by_cases h2 : k ∈ L.map (·.1)
  · rw [mset_keys.1 h2]; exact h
  · rw [mset_keys.2 h2, List.nodup_append]
    exact ⟨h, by simp, fun a ha b hb e => by simp at hb; subst hb; subst e; exact h2 ha⟩
theorem mdel_sub {L : List (ByteArray × α)} {k : ByteArray} : (mdel L k).Sublist L := by
  induction L with
  | nil => exact List.Sublist.slnil
  | cons p r ih =>
    unfold mdel; split
    · exact List.sublist_cons_self _ _
    · exact ih.cons_cons _
theorem mdel_nodup {L : List (ByteArray × α)} {k : ByteArray} (h : (L.map (·.1)).Nodup) : ((mdel L k).map (·.1)).Nodup := (mdel_sub.map _).nodup h
theorem mlook_mem {L : List (ByteArray × α)} {k : ByteArray} {v : α} (h : mlook L k = some v) : (k, v) ∈ L := by
  induction L with
  | nil => simp [mlook] at h
  | cons p r ih =>
    unfold mlook at h
    split at h
    · rename_i e; injection h with h; subst e; subst h; simp
    · exact List.mem_cons_of_mem _ (ih h)
theorem mhas_iff {L : List (ByteArray × α)} {k : ByteArray} : mhas L k = true ↔ k ∈ L.map (·.1) := by
  unfold mhas
  induction L with
  | nil => simp [mlook]
  | cons p r ih =>
    unfold mlook
    by_cases h : p.1 = k
    · rw [if_pos h]; simp [h]
    · rw [if_neg h, ih, List.map_cons, List.mem_cons]
      exact ⟨.inr, fun hh => hh.elim (fun e => absurd e.symm h) id⟩
theorem mlook_mset {L : List (ByteArray × α)} {k q : ByteArray} {v : α} : mlook (mset L k v) q = if k = q then some v else mlook L q := by
  induction L with
  | nil => simp [mset, mlook]
  | cons p r ih =>
    unfold mset
    by_cases h : p.1 = k
    · rw [if_pos h]; unfold mlook
      by_cases h2 : k = q
      · simp [h2]
      · simp [h2, h]
    · rw [if_neg h]
      simp only [mlook]
      by_cases h2 : p.1 = q
      · rw [if_pos h2, if_pos h2, if_neg (fun e => h (h2.trans e.symm))]
      · rw [if_neg h2, if_neg h2, ih]
theorem mlook_mdel {L : List (ByteArray × α)} {k q : ByteArray} (hn : (L.map (·.1)).Nodup) : mlook (mdel L k) q = if k = q then none else mlook L q := by
  induction L with
  | nil => simp [mdel, mlook]
  | cons p r ih =>
    rw [List.map_cons, List.nodup_cons] at hn
    unfold mdel
    by_cases h : p.1 = k
    · rw [if_pos h]
      by_cases h2 : k = q
      · rw [if_pos h2]
        cases hl : mlook r q with
        | none => rfl
        | some v => exact absurd (List.mem_map.2 ⟨_, mlook_mem hl, rfl⟩) (by rw [← h2, ← h]; exact hn.1)
      · rw [if_neg h2]; simp only [mlook]; rw [if_neg (fun e => h2 (h.symm.trans e))]
    · rw [if_neg h]; simp only [mlook]
      by_cases h2 : p.1 = q
      · rw [if_pos h2, if_pos h2, if_neg (fun e => h (h2.trans e.symm))]
      · rw [if_neg h2, if_neg h2, ih hn.2]
theorem mgetD_some [Inhabited α] {L : List (ByteArray × α)} {k : ByteArray} {v : α} (h : mlook L k = some v) : mgetD L k = v := by unfold mgetD; rw [h]; rfl
theorem mgetD_none [Inhabited α] {L : List (ByteArray × α)} {k : ByteArray} (h : mlook L k = none) : mgetD L k = default := by unfold mgetD; rw [h]; rfl
theorem mhas_of {L : List (ByteArray × α)} {k : ByteArray} : mhas L k = (mlook L k).isSome := rfl
end
theorem LOk.get {K : Nat} {l : FL} (h : LOk K l) (p : ByteArray) : (mgetD l p).b.length ≤ 65536 := by
  cases hl : mlook l p with
  | none => rw [mgetD_none hl]; exact Nat.zero_le _
  | some v => rw [mgetD_some hl]; exact (h.1 _ (mlook_mem hl)).2
theorem LOk.set {K : Nat} {l : FL} {p : ByteArray} {x : S_simfs_file} (h : LOk K l) (hp : p.size ≤ 64) (hx : x.b.length ≤ 65536) : LOk (K + 1) (mset l p x) :=
  ⟨fun y hy => by rcases mset_mem y hy with rfl | hy; exact ⟨hp, hx⟩; exact h.1 y hy, Nat.le_trans mset_len (by have := h.2.1; omega), mset_nodup h.2.2⟩
theorem LOk.del {K : Nat} {l : FL} {p : ByteArray} (h : LOk K l) : LOk K (mdel l p) :=
  ⟨fun y hy => h.1 y (mdel_sub.subset hy), Nat.le_trans mdel_sub.length_le h.2.1, mdel_nodup h.2.2⟩
def applyS (l : FL) (o : S_simfs_op) : FL × Bool :=
  if o.kind = 1 then (if clashS l o.path E0 = true then (l, false) else (mset l o.path o.file, true))
  else if o.kind = 2 then (if mhas l o.path = false ∨ clashS l o.to_ o.path = true then (l, false) else (mdel (mset l o.to_ (mgetD l o.path)) o.path, mhas l o.path))
  else if o.kind = 3 then (mdel l o.path, mhas l o.path)
  else (l, mhas l o.path)
theorem applyS_ok {K : Nat} {l : FL} {o : S_simfs_op} (h : LOk K l) (ho : o.path.size ≤ 64 ∧ o.to_.size ≤ 64 ∧ o.file.b.length ≤ 65536) : LOk (K + 1) (applyS l o).1 := by
  unfold applyS
  split
  · split
    · exact h.up (Nat.le_succ _)
    · exact h.set ho.1 ho.2.2
  · split
    · split
      · exact h.up (Nat.le_succ _)
      · exact (h.set ho.2.1 (h.get _)).del
    · split
      · exact h.del.up (Nat.le_succ _)
      · exact h.up (Nat.le_succ _)
theorem apply_p {K : Nat} {l : FL} {o : S_simfs_op} {Q : FL → Bool → Prop} (hl : LOk K l) (ho : o.path.size ≤ 64 ∧ o.to_.size ≤ 64) (h : Q (applyS l o).1 (applyS l o).2) : simfs_apply_p l o Q := by
  unfold simfs_apply_p; intro _ _ _ _ _ _ _ _ _ _ _
  have hk : ∀ x ∈ l, x.1.size ≤ 64 := fun x hx => (hl.1 x hx).1
  unfold applyS at h
  refine ⟨fun m => Q m (mhas l o.path), fun _ h => h, fun m => Q (mdel m o.path) (mhas l o.path), fun _ h => h, fun h1 => clash_p hk ho.1 ?_, fun h1 => ⟨fun h2 => ⟨fun b => b = (decide (mhas l o.path = false ∨ clashS l o.to_ o.path = true)), ?_, fun h3 => clash_p hk ho.2 ?_, fun h3 => ?_⟩, fun h2 => ⟨fun h3 => ?_, fun h3 => ?_⟩⟩⟩
  · rw [if_pos h1] at h
    constructor
    · intro hc; rw [if_pos hc] at h; exact h
    · intro hc; rw [if_neg (by intro hh; rw [hc] at hh; cases hh)] at h; exact h
  · rintro _ rfl
    rw [if_neg h1, if_pos h2] at h
    constructor
    · intro hc; rw [if_pos (of_decide_eq_true hc)] at h; exact h
    · intro hc; rw [if_neg (of_decide_eq_false hc)] at h; exact h
  · rw [h3]
    show clashS l o.to_ o.path = _
    cases hc : clashS l o.to_ o.path <;> simp
  · have : mhas l o.path = false := by cases hm : mhas l o.path <;> first | rfl | exact absurd hm h3
    rw [this]; simp
  · rw [if_neg h1, if_neg h2, if_pos h3] at h; exact h
  · rw [if_neg h1, if_neg h2, if_neg h3] at h; exact h
def roomS (f : S_simfs_FS) (p : ByteArray) (n : Int) : Bool := decide (f.quota ≤ 0 ∨ n = 0 ∨ (mhas f.files p = true ∧ n ≤ ((mgetD f.files p).b.length : Int)) ∨ sumS f.files - ((mgetD f.files p).b.length : Int) + n ≤ f.quota)
theorem room_p {K : Nat} {f : S_simfs_FS} {p : ByteArray} {n : Int} {Q : S_simfs_FS → Bool → Prop} (hf : FOk K f) (hK : K ≤ 100000) (hn : 0 ≤ n ∧ n ≤ 65536) (h : Q f (roomS f p n)) : simfs_FS_room_p f p n Q := by
  unfold simfs_FS_room_p; intro _ _ _ _ _ _ _ _ _ _ _ _ _
  have hb : ∀ x ∈ f.files, x.2.b.length ≤ 65536 := fun x hx => (hf.files.1 x hx).2
  have hs := sumS_le hb
  have hl := hf.files.2.1
  have hg := hf.files.get p
  have key : ∀ q : Prop, [Decidable q] → (q ↔ (f.quota ≤ 0 ∨ n = 0 ∨ (mhas f.files p = true ∧ n ≤ ((mgetD f.files p).b.length : Int)) ∨ sumS f.files - ((mgetD f.files p).b.length : Int) + n ≤ f.quota)) → decide q = roomS f p n := fun q _ hq => decide_eq_decide.2 hq
  have kt : (f.quota ≤ 0 ∨ n = 0 ∨ (mhas f.files p = true ∧ n ≤ ((mgetD f.files p).b.length : Int)) ∨ sumS f.files - ((mgetD f.files p).b.length : Int) + n ≤ f.quota) → true = roomS f p n := fun hq => (decide_eq_true hq).symm
  refine ⟨fun b => b = roomS f p n, by rintro _ rfl; exact h, fun h1 => kt (.inl h1), fun h1 => ⟨fun h2 => kt (.inr (.inl h2)), fun h2 => ⟨fun h3 => ⟨fun h4 => kt (.inr (.inr (.inl ⟨h3, h4⟩))), fun h4 => ?_⟩, fun h3 => ?_⟩⟩⟩
  · refine sum_p hb (by omega) (fun _ => ⟨inR_i64.2 ⟨by omega, by omega⟩, inR_i64.2 ⟨by omega, by omega⟩, key _ ?_⟩)
    exact ⟨fun h => .inr (.inr (.inr h)), fun h => by rcases h with h | h | h | h; exact absurd h h1; exact absurd h h2; exact absurd h.2 h4; exact h⟩
  · refine sum_p hb (by omega) (fun _ => ⟨inR_i64.2 ⟨by omega, by omega⟩, inR_i64.2 ⟨by omega, by omega⟩, key _ ?_⟩)
    exact ⟨fun h => .inr (.inr (.inr h)), fun h => by rcases h with h | h | h | h; exact absurd h h1; exact absurd h h2; exact absurd h.1 h3; exact h⟩
def mayS (f : S_simfs_FS) (p : ByteArray) (mode : Int) (n : Int) : Int :=
  if f.off = true then 13 else if ¬ Chk p = 0 then Chk p else if n > 65536 then 4 else if ¬ mode = 1 ∧ ¬ mode = 2 then 1 else if clashS f.files p E0 = true then 11 else if roomS f p n = false then 14 else 0
theorem Chk_size {p : ByteArray} (h : Chk p = 0) : p.size ≤ 64 := by
  unfold Chk at h; split at h
  · cases h
  · omega
theorem may_p {K : Nat} {f : S_simfs_FS} {p : ByteArray} {mode : Int} {b : List Int} {Q : S_simfs_FS → Int → Prop} (hf : FOk K f) (hK : K ≤ 100000) (h : Q f (mayS f p mode b.length)) : simfs_FS_may_p f p mode b Q := by
  unfold simfs_FS_may_p; intro _ _ _ _ _ _ _ _ _ _
  unfold mayS at h
  refine ⟨fun h1 => by rwa [if_pos h1] at h, fun h1 => Check_p (fun _ => ?_)⟩
  rw [if_neg (by rw [h1]; exact Bool.false_ne_true)] at h
  refine ⟨fun h2 => by rwa [if_pos h2] at h, fun h2 => ?_⟩
  rw [if_neg (fun hx => hx h2)] at h
  refine ⟨fun h3 => by rwa [if_pos h3] at h, fun h3 => ?_⟩
  rw [if_neg h3] at h
  refine ⟨fun h4 => by rwa [if_pos h4] at h, fun h4 => ?_⟩
  rw [if_neg h4] at h
  refine clash_p (fun x hx => (hf.files.1 x hx).1) (Chk_size h2) ⟨fun h5 => by rw [if_pos h5] at h; exact h, fun h5 => ?_⟩
  have h5 : clashS f.files p E0 = false := h5
  rw [if_neg (by rw [h5]; exact Bool.false_ne_true)] at h
  refine room_p hf hK ⟨by omega, by omega⟩ ⟨fun h6 => ?_, fun h6 => ?_⟩
  · have : roomS f p b.length = false := by cases hr : roomS f p b.length <;> rw [hr] at h6 <;> first | rfl | cases h6
    rwa [if_pos this] at h
  · have : roomS f p b.length = true := by cases hr : roomS f p b.length <;> rw [hr] at h6 <;> first | rfl | cases h6
    rwa [if_neg (by rw [this]; exact fun hx => by cases hx)] at h
/-- the power goes -/
def cutS : List S_simfs_op → List Bool → FL → FL
  | [], _, l => l
  | _ :: _, [], l => l
  | o :: os, k :: ks, l => cutS os ks (if k = true then (applyS l o).1 else l)
def cutF (f : S_simfs_FS) (keep : List Bool) : S_simfs_FS := ⟨cutS f.pending keep f.kept, cutS f.pending keep f.kept, [], f.quota, f.now, f.inodes, f.ops_, true, false, f.left, []⟩
theorem bClone_p {s : List Int} {Q : List Int → Prop} (hs : s.length ≤ 1000000) (h : Q s) : slices_Clone_byte_byte_p s Q := by
  unfold slices_Clone_byte_byte_p; exact fun _ => ⟨by omega, h⟩
theorem boClone_p {s : List Bool} {Q : List Bool → Prop} (hs : s.length ≤ 1000000) (h : Q s) : slices_Clone_bool_bool_p s Q := by
  unfold slices_Clone_bool_bool_p; exact fun _ => ⟨by omega, h⟩
theorem cutS_cons (o : S_simfs_op) (os : List S_simfs_op) (k : Bool) (ks : List Bool) (l : FL) : cutS (o :: os) (k :: ks) l = cutS os ks (if k = true then (applyS l o).1 else l) := rfl
theorem cutS_nil (os : List S_simfs_op) (l : FL) : cutS os [] l = l := by cases os <;> rfl
theorem cutS_ok : ∀ {os : List S_simfs_op} {ks : List Bool} {l : FL} {K : Nat}, LOk K l → (∀ o ∈ os, o.path.size ≤ 64 ∧ o.to_.size ≤ 64 ∧ o.file.b.length ≤ 65536) → LOk (K + os.length) (cutS os ks l)
  | [], _, _, _, h, _ => h
  | _ :: _, [], _, _, h, _ => h.up (by omega)
  | o :: os, k :: ks, l, K, h, ho => by
    unfold cutS
    have : LOk (K + 1) (if k = true then (applyS l o).1 else l) := by
      split
      · exact applyS_ok h (ho o (by simp))
      · exact h.up (by omega)
    have := cutS_ok (ks := ks) this fun o ho' => ho o (List.mem_cons_of_mem _ ho')
    rw [List.length_cons]; exact this.up (by omega)
theorem Cut_p {K : Nat} {f : S_simfs_FS} {keep : List Bool} {Q : S_simfs_FS → Prop} (hf : FOk K f) (hK : K ≤ 100000) (hk : keep.length ≤ 1000000) (h : Q (cutF f keep)) : simfs_FS_Cut_p f keep Q := by
  unfold simfs_FS_Cut_p; intro _
  refine boClone_p hk (fun _ _ _ _ _ _ _ _ => ?_)
  have hpl := hf.pend.2
  refine ⟨fun i l => ∃ j : Nat, i = j ∧ j ≤ f.pending.length ∧ LOk (K + j) l ∧ cutS (f.pending.drop j) (keep.drop j) l = cutS f.pending keep f.kept, fun i _ => f.pending.length - i.toNat, ⟨0, rfl, Nat.zero_le _, hf.kept, rfl⟩, ?_⟩
  rintro _ l ⟨j, rfl, hj, hl, hc⟩ _
  refine ⟨fun hlt => ?_, fun hge => ?_⟩
  · have hjl : j < f.pending.length := by omega
    have hd : f.pending.drop j = lget f.pending j :: f.pending.drop (j + 1) := by rw [lget_lt hjl]; exact List.drop_eq_getElem_cons hjl
    have ho := hf.pend.1 _ (lget_mem (inL_nat.2 hjl))
    refine ⟨fun l2 => LOk (K + (j + 1)) l2 ∧ cutS (f.pending.drop (j + 1)) (keep.drop (j + 1)) l2 = cutS f.pending keep f.kept, ?_, inL_nat.2 hjl, fun _ _ _ _ _ _ _ => ⟨fun b => b = (keep.drop j).headD false, ?_, fun hx => ?_, fun hx => ?_⟩⟩
    · rintro l2 ⟨h1, h2⟩
      exact ⟨inR_i64.2 ⟨by omega, by omega⟩, ⟨j + 1, rfl, hjl, h1, h2⟩, by dsimp only; omega⟩
    · rintro _ rfl
      rw [hd] at hc
      cases hkd : keep.drop j with
      | nil =>
        have hkd1 : keep.drop (j + 1) = [] := by rw [← List.drop_drop, hkd]; rfl
        rw [hkd] at hc
        refine ⟨fun hx => (by cases hx), fun _ => ⟨hl.up (by omega), ?_⟩⟩
        rw [hkd1, cutS_nil]; rw [cutS_nil] at hc; exact hc
      | cons k ks =>
        have hkd1 : keep.drop (j + 1) = ks := by rw [← List.drop_drop, hkd]; rfl
        rw [hkd, cutS_cons] at hc
        refine ⟨fun hx => ?_, fun hx => ?_⟩
        · have hx : k = true := hx
          rw [if_pos hx] at hc
          refine apply_p hl ⟨ho.1, ho.2.1⟩ ⟨applyS_ok hl ho, ?_⟩
          rw [hkd1]; exact hc
        · have hx : k = false := hx
          rw [if_neg (by rw [hx]; exact Bool.false_ne_true)] at hc
          exact ⟨hl.up (by omega), by rw [hkd1]; exact hc⟩
    · have hjk : j < keep.length := by omega
      refine ⟨inL_nat.2 hjk, ?_⟩
      rw [lget_lt hjk, List.drop_eq_getElem_cons hjk]; rfl
    · have : keep.drop j = [] := List.drop_eq_nil_of_le (by omega)
      rw [this]; rfl
  · unfold maps_Clone_map_string_simfs_file_string_simfs_file_p
    have : j = f.pending.length := by omega
    subst this
    rw [List.drop_length] at hc
    have hc : l = _ := hc
    rw [hc]; exact h
def downF (f : S_simfs_FS) : S_simfs_FS := ⟨f.kept, f.files, f.pending, f.quota, f.now, f.inodes, f.ops_, f.off, f.armed, f.left - 1, f.keep⟩
def tripsS (f : S_simfs_FS) : S_simfs_FS × Bool := if f.armed = false then (f, false) else if f.left - 1 > 0 then (downF f, false) else (cutF (downF f) f.keep, true)
theorem trips_p {K : Nat} {f : S_simfs_FS} {Q : S_simfs_FS → Bool → Prop} (hf : FOk K f) (hK : K ≤ 100000) (hlf : f.armed = true → 1 ≤ f.left) (h : Q (tripsS f).1 (tripsS f).2) : simfs_FS_trips_p f Q := by
  unfold simfs_FS_trips_p; intro _ _ _ _ _ hli _
  unfold tripsS at h
  have hli := inR_i64.1 hli
  refine ⟨fun h1 => ?_, fun h1 => ?_⟩
  · have h1 : f.armed = false := by cases ha : f.armed <;> rw [ha] at h1 <;> first | rfl | cases h1
    rwa [if_pos h1] at h
  · have h1 : f.armed = true := by cases ha : f.armed <;> rw [ha] at h1 <;> first | rfl | cases h1
    rw [if_neg (by rw [h1]; exact fun hx => by cases hx)] at h
    have hl := hlf h1
    refine ⟨inR_i64.2 ⟨by omega, by omega⟩, fun h2 => by rwa [if_pos h2] at h, fun h2 => ?_⟩
    rw [if_neg h2] at h
    exact Cut_p (K := K) (f := downF f) ⟨hf.files, hf.kept, hf.pend, hf.now, hf.inodes, hf.ops, hf.keep⟩ hK hf.keep h
def putO (f : S_simfs_FS) (p : ByteArray) (mode : Int) (b : List Int) : S_simfs_op := ⟨1, p, E0, ⟨mode, f.now, if mhas f.files p = true then (mgetD f.files p).inode else f.inodes + 1, b⟩⟩
def putF (f : S_simfs_FS) (p : ByteArray) : S_simfs_FS := ⟨f.kept, f.files, f.pending, f.quota, f.now, if mhas f.files p = true then f.inodes else f.inodes + 1, f.ops_, f.off, f.armed, f.left, f.keep⟩
theorem put_p {K : Nat} {f : S_simfs_FS} {p : ByteArray} {mode : Int} {b : List Int} {Q : S_simfs_FS → S_simfs_op → Prop} (hf : FOk K f) (hK : K ≤ 100000) (hb : b.length ≤ 65536) (h : Q (putF f p) (putO f p mode b)) : simfs_FS_put_p f p mode b Q := by
  unfold simfs_FS_put_p; intro _ _ _ _ _ _ _ _ _ _ _ _ _ _
  have hi := hf.inodes
  unfold putF putO at h
  refine ⟨fun a c => a = (if mhas f.files p = true then f.inodes else f.inodes + 1) ∧ c = (if mhas f.files p = true then (mgetD f.files p).inode else f.inodes + 1), ?_, fun hn => ⟨inR_i64.2 ⟨by omega, by omega⟩, ?_⟩, fun hn => ?_⟩
  · rintro _ _ ⟨rfl, rfl⟩ _ _
    exact bClone_p (by omega) (fun _ => h)
  · have : ¬ mhas f.files p = true := fun hx => by rw [hx] at hn; cases hn
    rw [if_neg this, if_neg this]; exact ⟨rfl, rfl⟩
  · have : mhas f.files p = true := by cases hm : mhas f.files p <;> rw [hm] at hn <;> first | rfl | cases hn
    rw [if_pos this, if_pos this]; exact ⟨rfl, rfl⟩
theorem putF_ok {K : Nat} {f : S_simfs_FS} {p : ByteArray} (hf : FOk K f) : FOk (K + 1) (putF f p) := by
  have h := hf.up (Nat.le_succ K)
  refine ⟨h.files, h.kept, h.pend, h.now, ?_, h.ops, h.keep⟩
  show 0 ≤ (if mhas f.files p = true then f.inodes else f.inodes + 1) ∧ (if mhas f.files p = true then f.inodes else f.inodes + 1) ≤ ((K + 1 : Nat) : Int)
  have := hf.inodes
  split <;> omega
def doF (f : S_simfs_FS) (o : S_simfs_op) : S_simfs_FS := ⟨f.kept, (applyS f.files o).1, f.pending ++ [o], f.quota, f.now, f.inodes, f.ops_ + 1, f.off, f.armed, f.left, f.keep⟩
theorem do_p {K : Nat} {f : S_simfs_FS} {o : S_simfs_op} {Q : S_simfs_FS → Prop} (hf : FOk K f) (hK : K ≤ 100000) (ho : o.path.size ≤ 64 ∧ o.to_.size ≤ 64) (h : Q (doF f o)) : simfs_FS_do_p f o Q := by
  unfold simfs_FS_do_p; intro _ _ _ _ _ _ _ _ _ _ _ _ _ _
  have h1 := hf.pend.2; have h2 := hf.ops
  exact apply_p hf.files ho ⟨by show (_ + 1) * 88 ≤ _; omega, inR_i64.2 ⟨by omega, by omega⟩, h⟩
theorem doF_ok {K : Nat} {f : S_simfs_FS} {o : S_simfs_op} (hf : FOk K f) (ho : o.path.size ≤ 64 ∧ o.to_.size ≤ 64 ∧ o.file.b.length ≤ 65536) : FOk (K + 1) (doF f o) := by
  have h := hf.up (Nat.le_succ K)
  refine ⟨applyS_ok hf.files ho, h.kept, ⟨fun x hx => ?_, ?_⟩, h.now, h.inodes, ?_, h.keep⟩
  · rcases List.mem_append.1 hx with hx | hx
    · exact hf.pend.1 x hx
    · simp at hx; rw [hx]; exact ho
  · show (f.pending ++ [o]).length ≤ _
    have := hf.pend.2; rw [List.length_append]; show _ + 1 ≤ _; omega
  · have := hf.ops; show 0 ≤ f.ops_ + 1 ∧ f.ops_ + 1 ≤ _; omega
theorem downF_ok {K : Nat} {f : S_simfs_FS} (hf : FOk K f) : FOk K (downF f) := ⟨hf.files, hf.kept, hf.pend, hf.now, hf.inodes, hf.ops, hf.keep⟩
theorem tripsS_ok1 {K : Nat} {f : S_simfs_FS} (hf : FOk K f) (ht : (tripsS f).2 = false) : FOk K (tripsS f).1 := by
  unfold tripsS at ht ⊢; split
  · exact hf
  · rename_i h1; rw [if_neg h1] at ht; split
    · exact downF_ok hf
    · rename_i h2; rw [if_neg h2] at ht; cases ht
def writeS (f : S_simfs_FS) (p : ByteArray) (mode : Int) (b : List Int) : S_simfs_FS × Int :=
  if ¬ mayS f p mode b.length = 0 then (f, mayS f p mode b.length) else if (tripsS f).2 = true then ((tripsS f).1, 13) else (doF (putF (tripsS f).1 p) (putO (tripsS f).1 p mode b), 0)
theorem mayS_ok {f : S_simfs_FS} {p : ByteArray} {mode n : Int} (h : mayS f p mode n = 0) : f.off = false ∧ Chk p = 0 ∧ n ≤ 65536 ∧ (mode = 1 ∨ mode = 2) ∧ clashS f.files p E0 = false ∧ roomS f p n = true := by
  unfold mayS at h
  split at h
  · cases h
  rename_i h1
  split at h
  · rename_i h2; exact absurd h h2
  rename_i h2
  split at h
  · cases h
  rename_i h3
  split at h
  · cases h
  rename_i h4
  split at h
  · cases h
  rename_i h5
  split at h
  · cases h
  rename_i h6
  refine ⟨by simpa using h1, Classical.not_not.1 h2, by omega, ?_, by simpa using h5, by simpa using h6⟩
  by_cases e : mode = 1
  · exact .inl e
  · exact .inr (Classical.not_not.1 fun e2 => h4 ⟨e, e2⟩)
theorem Write_p {K : Nat} {f : S_simfs_FS} {p : ByteArray} {mode : Int} {b : List Int} {Q : S_simfs_FS → Int → Prop} (hf : FOk K f) (hK : K ≤ 40000) (hlf : f.armed = true → 1 ≤ f.left) (h : Q (writeS f p mode b).1 (writeS f p mode b).2) : simfs_FS_Write_p f p mode b Q := by
  unfold simfs_FS_Write_p; intro _ _ _
  refine may_p hf (by omega) (fun _ => ⟨fun h1 => ?_, fun h1 => ?_⟩)
  · unfold writeS at h; rwa [if_pos h1] at h
  · have ⟨_, hc, hn, _⟩ := mayS_ok h1
    unfold writeS at h; rw [if_neg (fun hx => hx h1)] at h
    refine trips_p hf (by omega) hlf ⟨fun h2 => ?_, fun h2 => ?_⟩
    · rwa [if_pos h2] at h
    · rw [if_neg (by rw [h2]; exact Bool.false_ne_true)] at h
      have hf1 := tripsS_ok1 hf h2
      exact put_p hf1 (by omega) (by omega) (fun _ _ _ _ _ _ _ => do_p (putF_ok hf1) (by omega) ⟨Chk_size hc, show E0.size ≤ 64 by decide⟩ h)
def findS (f : S_simfs_FS) (p : ByteArray) : S_simfs_file × Int := if f.off = true then (⟨0, 0, 0, []⟩, 13) else if mhas f.files p = false then (⟨0, 0, 0, []⟩, 5) else (mgetD f.files p, 0)
theorem find_p {f : S_simfs_FS} {p : ByteArray} {Q : S_simfs_FS → S_simfs_file → Int → Prop} (h : Q f (findS f p).1 (findS f p).2) : simfs_FS_find_p f p Q := by
  unfold simfs_FS_find_p; intro _ _ _ _ _ _ _ _ _ _ _ _
  unfold findS at h
  refine ⟨fun h1 => by rwa [if_pos h1] at h, fun h1 => ?_⟩
  rw [if_neg (by rw [h1]; exact Bool.false_ne_true)] at h
  refine ⟨fun h2 => ?_, fun h2 => ?_⟩
  · have : mhas f.files p = false := by cases hm : mhas f.files p <;> rw [hm] at h2 <;> first | rfl | cases h2
    rwa [if_pos this] at h
  · have : mhas f.files p = true := by cases hm : mhas f.files p <;> rw [hm] at h2 <;> first | rfl | cases h2
    rwa [if_neg (by rw [this]; exact fun hx => by cases hx)] at h
theorem Read_p {K : Nat} {f : S_simfs_FS} {p : ByteArray} {Q : S_simfs_FS → List Int → Int → Prop} (hf : FOk K f) (h : Q f (findS f p).1.b (findS f p).2) : simfs_FS_Read_p f p Q := by
  unfold simfs_FS_Read_p; intro _
  refine find_p (fun _ _ _ _ _ => ⟨fun h1 => ?_, fun h1 => ?_⟩)
  · have : (findS f p).1.b = [] := by
      unfold findS at h1 ⊢; split
      · rfl
      · rename_i hz; rw [if_neg hz] at h1; split
        · rfl
        · rename_i hz2; rw [if_neg hz2] at h1; exact absurd rfl h1
    rwa [this] at h
  · have hb : (findS f p).1.b.length ≤ 65536 := by
      unfold findS; split
      · exact Nat.zero_le _
      · split
        · exact Nat.zero_le _
        · exact hf.files.get p
    rw [h1] at h
    refine bClone_p (by omega) (fun _ => ?_)
    unfold slices_Clip_byte_byte_p
    exact fun _ => ⟨⟨by omega, by omega⟩, fun _ => h⟩
def statS (f : S_simfs_FS) (p : ByteArray) : S_simfs_Stat × Int := if (findS f p).2 = 0 then (⟨((findS f p).1.b.length : Int), (findS f p).1.time, (findS f p).1.inode, (findS f p).1.mode⟩, 0) else (⟨0, 0, 0, 0⟩, (findS f p).2)
theorem Stat_p {f : S_simfs_FS} {p : ByteArray} {Q : S_simfs_FS → S_simfs_Stat → Int → Prop} (h : Q f (statS f p).1 (statS f p).2) : simfs_FS_Stat_p f p Q := by
  unfold simfs_FS_Stat_p; intro _
  unfold statS at h
  refine find_p (fun _ _ _ _ _ => ⟨fun h1 => ?_, fun h1 => ?_⟩)
  · rwa [if_neg h1] at h
  · rwa [if_pos h1] at h
theorem On_p {f : S_simfs_FS} {Q : S_simfs_FS → Prop} (h : Q ⟨f.kept, f.files, f.pending, f.quota, f.now, f.inodes, f.ops_, false, f.armed, f.left, f.keep⟩) : simfs_FS_On_p f Q := by
  unfold simfs_FS_On_p; intros; exact h
theorem List_p {K : Nat} {f : S_simfs_FS} {Q : S_simfs_FS → List ByteArray → Int → Prop} (hf : FOk K f) (hK : K ≤ 100000) (h1 : f.off = true → Q f [] 13) (h2 : f.off = false → Q f (keysB f.files) 0) : simfs_FS_List_p f Q := by
  unfold simfs_FS_List_p; intro _ _ _ _ _ _ _
  have hl := hf.files.2.1
  refine ⟨h1, fun ho => ⟨⟨hf.files.2.2, by omega⟩, ?_⟩⟩
  first
  | exact h2 ho
  | (unfold slices_Clip_string_string_p; exact fun _ => ⟨⟨by omega, by omega⟩, fun _ => h2 ho⟩)
def syncF (f : S_simfs_FS) : S_simfs_FS := ⟨f.files, f.files, [], f.quota, f.now, f.inodes, f.ops_, f.off, f.armed, f.left, f.keep⟩
theorem sync_p {f : S_simfs_FS} {Q : S_simfs_FS → Prop} (h : Q (syncF f)) : simfs_FS_sync_p f Q := by
  unfold simfs_FS_sync_p maps_Clone_map_string_simfs_file_string_simfs_file_p; intros; exact h
theorem syncF_ok {K : Nat} {f : S_simfs_FS} (hf : FOk K f) : FOk K (syncF f) := ⟨hf.files, hf.files, ⟨(fun o ho => by cases ho), Nat.zero_le _⟩, hf.now, hf.inodes, hf.ops, hf.keep⟩
def syncS (f : S_simfs_FS) : S_simfs_FS × Int := if f.off = true then (f, 13) else (syncF f, 0)
theorem Sync_p {f : S_simfs_FS} {Q : S_simfs_FS → Int → Prop} (h : Q (syncS f).1 (syncS f).2) : simfs_FS_Sync_p f Q := by
  unfold simfs_FS_Sync_p; intros
  unfold syncS at h
  exact ⟨fun h1 => by rwa [if_pos h1] at h, fun h1 => sync_p (by rwa [if_neg (by rw [h1]; exact Bool.false_ne_true)] at h)⟩
def renS (f : S_simfs_FS) (p q : ByteArray) : S_simfs_FS × Int :=
  if f.off = true then (f, 13) else if mhas f.files p = false then (f, 5) else if ¬ Chk q = 0 then (f, Chk q) else if clashS f.files q p = true then (f, 11) else if p = q then (f, 0)
  else if (tripsS f).2 = true then ((tripsS f).1, 13) else (doF (tripsS f).1 ⟨2, p, q, ⟨0, 0, 0, []⟩⟩, 0)
theorem key_le {K : Nat} {l : FL} {p : ByteArray} (h : LOk K l) (hm : mhas l p = true) : p.size ≤ 64 := by
  obtain ⟨x, hx, rfl⟩ := List.mem_map.1 (mhas_iff.1 hm)
  exact (h.1 x hx).1
theorem Rename_p {K : Nat} {f : S_simfs_FS} {p q : ByteArray} {Q : S_simfs_FS → Int → Prop} (hf : FOk K f) (hK : K ≤ 40000) (hlf : f.armed = true → 1 ≤ f.left) (h : Q (renS f p q).1 (renS f p q).2) : simfs_FS_Rename_p f p q Q := by
  unfold simfs_FS_Rename_p; intro _ _ _ _ _ _ _ _ _
  unfold renS at h
  refine ⟨fun h1 => by rwa [if_pos h1] at h, fun h1 _ _ _ _ => ?_⟩
  rw [if_neg (by rw [h1]; exact Bool.false_ne_true)] at h
  refine ⟨fun h2 => ?_, fun h2 => ?_⟩
  · have : mhas f.files p = false := by cases hm : mhas f.files p <;> rw [hm] at h2 <;> first | rfl | cases h2
    rwa [if_pos this] at h
  have hm : mhas f.files p = true := by cases hm : mhas f.files p <;> rw [hm] at h2 <;> first | rfl | cases h2
  rw [if_neg (by rw [hm]; exact fun hx => by cases hx)] at h
  refine Check_p (fun _ => ⟨fun h3 => by rwa [if_pos h3] at h, fun h3 => ?_⟩)
  rw [if_neg (fun hx => hx h3)] at h
  refine clash_p (fun x hx => (hf.files.1 x hx).1) (Chk_size h3) ⟨fun h4 => by rwa [if_pos h4] at h, fun h4 => ?_⟩
  rw [if_neg (by rw [h4]; exact Bool.false_ne_true)] at h
  refine ⟨fun h5 => by rwa [if_pos h5] at h, fun h5 => ?_⟩
  rw [if_neg h5] at h
  refine trips_p hf (by omega) hlf ⟨fun h6 => by rwa [if_pos h6] at h, fun h6 => ?_⟩
  rw [if_neg (by rw [h6]; exact Bool.false_ne_true)] at h
  exact do_p (tripsS_ok1 hf h6) (by omega) ⟨key_le hf.files hm, Chk_size h3⟩ h
def newF (q : Int) : S_simfs_FS := ⟨[], [], [], q, 0, 0, 0, false, false, 0, []⟩
theorem newF_ok (q : Int) : FOk 0 (newF q) := ⟨⟨(fun x hx => by cases hx), Nat.le_refl _, List.nodup_nil⟩, ⟨(fun x hx => by cases hx), Nat.le_refl _, List.nodup_nil⟩, ⟨(fun x hx => by cases hx), Nat.le_refl _⟩, ⟨Int.le_refl 0, Int.le_refl 0⟩, ⟨Int.le_refl 0, Int.le_refl 0⟩, ⟨Int.le_refl 0, Int.le_refl 0⟩, Nat.zero_le _⟩
theorem Arm_p {f : S_simfs_FS} {n : Int} {keep : List Bool} {Q : S_simfs_FS → Prop} (hk : keep.length ≤ 1000000) (h : Q ⟨f.kept, f.files, f.pending, f.quota, f.now, f.inodes, f.ops_, f.off, true, max n 1, keep⟩) : simfs_FS_Arm_p f n keep Q := by
  unfold simfs_FS_Arm_p; intro _ _
  exact boClone_p hk (fun _ _ _ _ _ _ _ _ => h)
end Go.Proofs.YtlkfoebophjhfaaGreatDoor
namespace Go.Proofs.YtlkfoebophjhfaaGreatDoor
open Go
def encI (n : Int) : List Int := vb (zz n)
def encT (s : ByteArray) : List Int := encI (s.size : Int) ++ bytesL s
def encIs (l : List Int) : List Int := l.flatMap encI
theorem encI_len {n : Int} (h : inR .i64 n) : (encI n).length ≤ 10 := vb_ten (zz_lt h)
theorem flat_take {α β : Type} [Inhabited α] (g : α → List β) {l : List α} {k : Nat} (h : k < l.length) : (l.take (k + 1)).flatMap g = (l.take k).flatMap g ++ g (lget l (k : Int)) := by
  rw [take_lget h, List.flatMap_append]; simp
theorem flat_cut {α β : Type} [Inhabited α] (g : α → List β) {l : List α} {k : Nat} (h : k < l.length) : l.flatMap g = (l.take k).flatMap g ++ (g (lget l (k : Int)) ++ (l.drop (k + 1)).flatMap g) := by
  rw [← List.append_assoc, ← flat_take g h, ← List.flatMap_append, List.take_append_drop]
theorem EncInt_p {e : S_codec_Enc} {l : List Int} {Q : S_codec_Enc → Prop} (hb : e.b.length + 10 * l.length ≤ 1000000000000) (h : Q ⟨e.b ++ encIs l⟩) : codec_Enc_Int_p e l Q := by
  unfold codec_Enc_Int_p; simp only [inR_i64]; intro _
  refine ⟨fun s o => ∃ k : Nat, s = k ∧ k ≤ l.length ∧ o.b = e.b ++ encIs (l.take k) ∧ o.b.length ≤ e.b.length + 10 * k, fun s _ => l.length - s.toNat, ⟨0, rfl, Nat.zero_le _, by simp [encIs], by omega⟩, ?_⟩
  rintro _ o ⟨k, rfl, hk, ho, hl⟩ _
  refine ⟨fun hlt => ?_, fun hge => ?_⟩
  · have hkl : k < l.length := by omega
    refine ⟨inL_nat.2 hkl, fun hr => ?_⟩
    rw [← inR_i64] at hr
    rintro _ rfl
    rw [enc_zz hr]
    have hlen := encI_len hr
    refine ⟨fun v o2 => ∃ u : Nat, v = u ∧ u < 18446744073709551616 ∧ o2.b ++ vb u = e.b ++ encIs (l.take (k + 1)) ∧ o2.b.length + (vb u).length ≤ e.b.length + 10 * (k + 1), fun v _ => v.toNat, ⟨zz (lget l (k : Int)), rfl, zz_lt hr, ?_, ?_⟩, ?_⟩
    · rw [ho]; unfold encIs; rw [flat_take encI hkl, List.append_assoc]; rfl
    · show o.b.length + (encI _).length ≤ _; omega
    rintro _ o2 ⟨u, rfl, hu, he, hl2⟩ _
    refine ⟨fun hge => ?_, fun hnl => ?_⟩
    · have hn : ¬ u < 128 := by omega
      rw [vb_ge hn] at he hl2
      rw [ior128 hu, shr7]
      refine fun _ => ⟨by simp at hl2 ⊢; omega, ⟨u / 128, rfl, by omega, by simpa using he, by simp at hl2 ⊢; omega⟩, by dsimp only; omega⟩
    · have hn : u < 128 := by omega
      rw [vb_lt hn] at he hl2
      rw [iwrap8 hn]
      refine fun _ => ⟨by simp at hl2 ⊢; omega, ⟨by omega, by omega⟩, ⟨k + 1, rfl, hkl, he, by simp at hl2 ⊢; omega⟩, by dsimp only; omega⟩
  · have : k = l.length := by omega
    subst this
    rw [List.take_length] at ho
    have : o = ⟨e.b ++ encIs l⟩ := by cases o; simp at ho; rw [ho]
    rw [this]; exact h
theorem EncText_p {e : S_codec_Enc} {s : ByteArray} {Q : S_codec_Enc → Prop} (hb : e.b.length + 10 + s.size ≤ 1000000000000) (h : Q ⟨e.b ++ encT s⟩) : codec_Enc_Text_p e [s] Q := by
  unfold codec_Enc_Text_p; simp only [inR_i64]; intro _
  have hr : inR .i64 (s.size : Int) := inR_i64.2 ⟨by omega, by omega⟩
  have hlen := encI_len hr
  refine ⟨fun k o => (k = 0 ∧ o = e) ∨ (k = 1 ∧ o = ⟨e.b ++ encT s⟩), fun k _ => 1 - k.toNat, .inl ⟨rfl, rfl⟩, ?_⟩
  rintro _ _ (⟨rfl, rfl⟩ | ⟨rfl, rfl⟩) _
  · refine ⟨fun _ => ⟨⟨Int.le_refl _, by simp⟩, fun _ => ?_⟩, fun hn => absurd (by simp) hn⟩
    rw [lget_zero]
    refine EncInt_p (by simp; omega) (fun _ => ⟨?_, by decide, .inr ⟨rfl, ?_⟩, by dsimp only; omega⟩)
    · simp [encIs]; omega
    · unfold encT; simp [encIs]
  · exact ⟨fun hl => absurd hl (by simp), fun _ => h⟩
theorem Clone_p {s : List Int} {Q : List Int → Prop} (hs : s.length ≤ 1000000000000) (h : Q s) : slices_Clone_byte_byte_p s Q := by
  unfold slices_Clone_byte_byte_p; exact fun _ => ⟨by omega, h⟩
theorem Clip_p {s : List Int} {Q : List Int → Prop} (h : Q s) : slices_Clip_byte_byte_p s Q := by
  unfold slices_Clip_byte_byte_p; exact fun _ => ⟨⟨by omega, by omega⟩, h⟩
theorem EncBytes_p {e : S_codec_Enc} {Q : S_codec_Enc → List Int → Prop} (hb : e.b.length ≤ 1000000000000) (h : Q e e.b) : codec_Enc_Bytes_p e Q := by
  unfold codec_Enc_Bytes_p; exact fun _ => Clone_p hb (fun _ => Clip_p fun _ => h)
theorem Of_p {b : List Int} {Q : S_codec_Dec → Prop} (hb : b.length ≤ 1000000000000) (h : Q ⟨b, 0, .nil⟩) : codec_Of_p b Q := by
  unfold codec_Of_p; exact fun _ => Clone_p hb (fun _ => h)
theorem strOfNums_bytesL (s : ByteArray) : strOfNums (bytesL s) = s := by
  unfold strOfNums bytesL
  rw [List.map_map]
  have : (fun n : Int => UInt8.ofNat n.toNat) ∘ (fun b : UInt8 => (b.toNat : Int)) = id := by funext b; simp
  rw [this, List.map_id]
theorem DecUint_p {d : S_codec_Dec} {Q : S_codec_Dec → Int → Int → Prop} {pre post : List Int} {u : Nat} (hu : u < 18446744073709551616) (hb : d.b = pre ++ (vb u ++ post)) (hat : d.at_ = (pre.length : Int)) (hlen : d.b.length ≤ 1000000000000)
    (h : Q ⟨d.b, ((pre.length + (vb u).length : Nat) : Int), d.err⟩ (u : Int) 0) : codec_Dec_uint_p d Q := by
  unfold codec_Dec_uint_p; simp only [inR_i64]
  refine ⟨fun _ => False, fun _ hf => hf.elim, ?_⟩
  refine ⟨fun v s o => o = d ∧ ∃ k : Nat, s = k ∧ v = ((u % 128 ^ k : Nat) : Int) ∧ d.b.drop (pre.length + k) = vb (u / 128 ^ k) ++ post ∧ (k = 0 ∨ u / 128 ^ k ≠ 0) ∧ k + (vb (u / 128 ^ k)).length = (vb u).length, fun _ s _ => 10 - s.toNat,
    ⟨rfl, 0, rfl, by simp [Nat.mod_one], by rw [hb]; simp, .inl rfl, by simp⟩, ?_⟩
  rintro _ _ o ⟨ho, k, rfl, rfl, hd, hw, hkl⟩ hv _
  obtain rfl := ho.symm
  have hten := vb_ten hu
  have hp2 := vb_pos (u / 128 ^ k)
  have hk10 : k < 10 := by omega
  refine ⟨fun _ => ?_, fun hn => absurd (by omega) hn⟩
  intro _ _
  rw [hat]
  have hlen2 : pre.length + k < d.b.length := by
    have := congrArg List.length hd
    rw [List.length_drop, List.length_append] at this; omega
  have hin : inL d.b ((pre.length : Int) + k) := by unfold inL; omega
  have hget : lget d.b ((pre.length : Int) + k) = lget (vb (u / 128 ^ k) ++ post) 0 := by
    rw [← hd, show ((pre.length : Int) + k) = ((pre.length + k : Nat) : Int) from by omega, lget_nat, show (0 : Int) = ((0 : Nat) : Int) from rfl, lget_nat]
    simp [List.getD]
  generalize hwd : u / 128 ^ k = x at *
  have hxu : x * 128 ^ k + u % 128 ^ k = u := by rw [← hwd, Nat.mul_comm]; exact Nat.div_add_mod u (128 ^ k)
  have hpk : 128 ^ k = 2 ^ (7 * k) := by rw [Nat.pow_mul]
  have hlow : u % 128 ^ k < 2 ^ (7 * k) := by rw [← hpk]; exact Nat.mod_lt _ (Nat.pow_pos (by decide))
  have hc : ∃ c : Nat, lget d.b ((pre.length : Int) + k) = (c : Int) ∧ c < 256 ∧ ((x < 128 ∧ c = x) ∨ (¬ x < 128 ∧ c = x % 128 + 128)) := by
    rw [hget]
    by_cases hx : x < 128
    · rw [vb_lt hx]; exact ⟨x, rfl, by omega, .inl ⟨hx, rfl⟩⟩
    · rw [vb_ge hx]; exact ⟨x % 128 + 128, rfl, by omega, .inr ⟨hx, rfl⟩⟩
  obtain ⟨c, hcg, hc256, hcx⟩ := hc
  rw [hcg]
  have h9 : k = 9 → c ≤ 1 := by
    intro h9
    have : x < 2 := by rw [← hwd, h9, Nat.div_lt_iff_lt_mul (by decide)]; exact Nat.lt_of_lt_of_le hu (by decide)
    rcases hcx with ⟨_, rfl⟩ | ⟨hn, _⟩ <;> omega
  have h0 : 0 < k → c ≠ 0 := by
    intro hk0
    rcases hcx with ⟨_, rfl⟩ | ⟨hn, rfl⟩
    · rcases hw with hw | hw
      · omega
      · exact hw
    · omega
  have hy : ishl .u64 (iand .u8 (c : Int) (127 : Int)) ((7 : Int) * (k : Int)) = ((c % 128 * 2 ^ (7 * k) : Nat) : Int) ∧ u % 128 ^ k + c % 128 * 2 ^ (7 * k) < 18446744073709551616 := by
    have h1 : iand .u8 (c : Int) (127 : Int) = ((c % 128 : Nat) : Int) := by rw [← and127]; exact iand_u8 hc256 (by decide)
    have hle : u % 128 ^ k + c % 128 * 2 ^ (7 * k) ≤ u := by
      rw [← hpk]
      have : c % 128 ≤ x := by rcases hcx with ⟨_, rfl⟩ | ⟨hn, rfl⟩ <;> omega
      have := Nat.mul_le_mul_right (128 ^ k) this
      omega
    refine ⟨?_, by omega⟩
    rw [h1, show (7 : Int) * (k : Int) = ((7 * k : Nat) : Int) from by omega, ishl_u64 _ _ (by omega), Nat.mod_eq_of_lt (by omega)]
  have hor : ior .u64 ((u % 128 ^ k : Nat) : Int) ((c % 128 * 2 ^ (7 * k) : Nat) : Int) = ((u % 128 ^ k + c % 128 * 2 ^ (7 * k) : Nat) : Int) := by
    rw [ior_u64 (by omega) (by omega), or_disj hlow]
  refine ⟨⟨by omega, by omega⟩, fun hbad => absurd hbad (by omega), fun _ => ⟨⟨by omega, by omega⟩, hin, fun _ => ?_⟩⟩
  have hkf : ∀ (K : Bool → Prop), K false → (((k : Int) = (9 : Int)) → ((((c : Int) > (1 : Int)) → (K true)) ∧ ((¬ ((c : Int) > (1 : Int))) → ((((k : Int) > (0 : Int)) → (K (decide ((c : Int) = (0 : Int))))) ∧ ((¬ ((k : Int) > (0 : Int))) → (K false)))))) ∧ ((¬ ((k : Int) = (9 : Int))) → ((((k : Int) > (0 : Int)) → (K (decide ((c : Int) = (0 : Int))))) ∧ ((¬ ((k : Int) > (0 : Int))) → (K false)))) := by
    intro K hK
    have hz : ((k : Int) > 0) → decide ((c : Int) = 0) = false := fun hk => decide_eq_false (by have := h0 (by omega); omega)
    exact ⟨fun h => ⟨fun hg => absurd hg (by have := h9 (by omega); omega), fun _ => ⟨fun hk => by rw [hz hk]; exact hK, fun _ => hK⟩⟩, fun _ => ⟨fun hk => by rw [hz hk]; exact hK, fun _ => hK⟩⟩
  refine ⟨fun b => b = false, ?_, hkf (fun b => b = false) rfl⟩
  rintro _ rfl
  refine ⟨fun hb => (by cases hb), fun _ => ⟨⟨by omega, by omega⟩, by omega, ?_⟩⟩
  rintro _ rfl
  rw [hy.1, hor]
  refine ⟨fun hlt => ⟨⟨by omega, by omega⟩, ⟨by omega, by omega⟩, ?_⟩, fun hge => ⟨⟨by omega, by omega⟩, ⟨rfl, k + 1, rfl, ?_, ?_, ?_, ?_⟩, by dsimp only; omega⟩⟩
  · rcases hcx with ⟨hx, rfl⟩ | ⟨hn, rfl⟩
    · have e1 : u % 128 ^ k + c % 128 * 2 ^ (7 * k) = u := by rw [← hpk, Nat.mod_eq_of_lt hx]; omega
      rw [vb_lt hx] at hkl
      rw [e1, show (pre.length : Int) + ((k : Int) + 1) = ((pre.length + (vb u).length : Nat) : Int) from by rw [← hkl]; simp]
      exact h
    · omega
  · rcases hcx with ⟨hx, rfl⟩ | ⟨hn, rfl⟩
    · omega
    · have : u % 128 ^ (k + 1) = u % 128 ^ k + 128 ^ k * (u / 128 ^ k % 128) := by rw [Nat.pow_succ, Nat.mod_mul]
      rw [this, hwd, ← hpk, show (x % 128 + 128) % 128 = x % 128 from by omega, Nat.mul_comm]
  · rcases hcx with ⟨hx, rfl⟩ | ⟨hn, rfl⟩
    · omega
    · rw [vb_ge hn] at hd
      have : d.b.drop (pre.length + (k + 1)) = (d.b.drop (pre.length + k)).drop 1 := by rw [List.drop_drop]; congr 1
      rw [this, hd, Nat.pow_succ, ← Nat.div_div_eq_div_mul, hwd]; rfl
  · rcases hcx with ⟨hx, rfl⟩ | ⟨hn, rfl⟩
    · omega
    · right; rw [Nat.pow_succ, ← Nat.div_div_eq_div_mul, hwd]; omega
  · rcases hcx with ⟨hx, rfl⟩ | ⟨hn, rfl⟩
    · omega
    · rw [vb_ge hn] at hkl
      rw [Nat.pow_succ, ← Nat.div_div_eq_div_mul, hwd]; simp at hkl; omega
theorem DecInt_p {d : S_codec_Dec} {Q : S_codec_Dec → Int → Prop} {pre post : List Int} {n : Int} (hn : inR .i64 n) (hb : d.b = pre ++ (encI n ++ post)) (hat : d.at_ = (pre.length : Int)) (he : d.err = .nil) (hlen : d.b.length ≤ 1000000000000)
    (h : Q ⟨d.b, ((pre.length + (encI n).length : Nat) : Int), .nil⟩ n) : codec_Dec_Int_p d Q := by
  unfold codec_Dec_Int_p; simp only [inR_i64]; intro _ _
  refine ⟨fun hx => (by rw [he] at hx; cases hx), fun _ => DecUint_p (zz_lt hn) hb hat hlen (fun _ _ => ⟨fun hx => absurd rfl hx, fun _ => ?_⟩)⟩
  have hz := zz_lt hn
  have h1 : iand .u64 ((zz n : Nat) : Int) (1 : Int) = ((zz n % 2 : Nat) : Int) := by rw [← and1]; exact iand_u64 hz (by decide)
  have h4 : iwrap .i64 ((zz n % 2 : Nat) : Int) = ((zz n % 2 : Nat) : Int) := by unfold iwrap; rw [IntKind.wrap_i64]; omega
  refine ⟨by rw [h1, h4]; omega, ?_⟩
  rintro _ rfl
  rw [dec_uz hz, uz_zz, he]
  exact h
theorem DecText_p {d : S_codec_Dec} {Q : S_codec_Dec → ByteArray → Prop} {pre post : List Int} {s : ByteArray} (hb : d.b = pre ++ (encT s ++ post)) (hat : d.at_ = (pre.length : Int)) (he : d.err = .nil) (hlen : d.b.length ≤ 1000000000000)
    (h : Q ⟨d.b, ((pre.length + (encT s).length : Nat) : Int), .nil⟩ s) : codec_Dec_Text_p d Q := by
  unfold codec_Dec_Text_p; simp only [inR_i64]; intro _ _
  have hb2 : d.b = pre ++ (encI (s.size : Int) ++ (bytesL s ++ post)) := by rw [hb]; unfold encT; simp
  have hl : d.b.length = pre.length + ((encI (s.size : Int)).length + (s.size + post.length)) := by rw [hb2]; simp [bytesL_len]
  have hr : inR .i64 (s.size : Int) := inR_i64.2 ⟨by omega, by omega⟩
  refine DecInt_p hr hb2 hat he hlen (fun _ _ _ => ⟨fun hx => (by cases hx), fun _ => ⟨fun hx => absurd hx (by omega), fun _ => ?_⟩⟩)
  refine ⟨by dsimp only; omega, fun hx => absurd hx (by dsimp only; omega), fun _ => ⟨by dsimp only; omega, by dsimp only; omega, by dsimp only; omega, ?_⟩⟩
  have e1 : (d.b.take ((((pre.length + (encI (s.size : Int)).length : Nat) : Int) + (s.size : Int))).toNat).drop (((pre.length + (encI (s.size : Int)).length : Nat) : Int)).toNat = bytesL s := by
    rw [hb2, ← List.append_assoc, Int.toNat_natCast]
    rw [show ((((pre.length + (encI (s.size : Int)).length : Nat) : Int) + (s.size : Int))).toNat = (pre ++ encI (s.size : Int)).length + s.size from by simp; omega, show pre.length + (encI (s.size : Int)).length = (pre ++ encI (s.size : Int)).length from by simp]
    rw [List.take_length_add_append, List.drop_left, ← bytesL_len, List.take_left]
  rw [e1, strOfNums_bytesL]
  rw [show (((pre.length + (encI (s.size : Int)).length : Nat) : Int) + (s.size : Int)) = ((pre.length + (encT s).length : Nat) : Int) from by unfold encT; simp [bytesL_len]; omega]
  exact h
end Go.Proofs.YtlkfoebophjhfaaGreatDoor
namespace Go.Proofs.YtlkfoebophjhfaaGreatDoor
open Go
def remS (f : S_simfs_FS) (p : ByteArray) : S_simfs_FS × Int :=
  if f.off = true then (f, 13) else if mhas f.files p = false then (f, 5) else if (tripsS f).2 = true then ((tripsS f).1, 13) else (doF (tripsS f).1 ⟨3, p, E0, ⟨0, 0, 0, []⟩⟩, 0)
theorem Remove_p {K : Nat} {f : S_simfs_FS} {p : ByteArray} {Q : S_simfs_FS → Int → Prop} (hf : FOk K f) (hK : K ≤ 40000) (hlf : f.armed = true → 1 ≤ f.left) (h : Q (remS f p).1 (remS f p).2) : simfs_FS_Remove_p f p Q := by
  unfold simfs_FS_Remove_p; intro _ _ _ _ _ _ _ _ _ _ _ _
  unfold remS at h
  refine ⟨fun h1 => by rwa [if_pos h1] at h, fun h1 => ?_⟩
  rw [if_neg (by rw [h1]; exact Bool.false_ne_true)] at h
  refine ⟨fun h2 => ?_, fun h2 => ?_⟩
  · have : mhas f.files p = false := by cases hm : mhas f.files p <;> rw [hm] at h2 <;> first | rfl | cases h2
    rwa [if_pos this] at h
  have hm : mhas f.files p = true := by cases hm : mhas f.files p <;> rw [hm] at h2 <;> first | rfl | cases h2
  rw [if_neg (by rw [hm]; exact fun hx => by cases hx)] at h
  refine trips_p hf (by omega) hlf ⟨fun h6 => by rwa [if_pos h6] at h, fun h6 => ?_⟩
  rw [if_neg (by rw [h6]; exact Bool.false_ne_true)] at h
  exact do_p (tripsS_ok1 hf h6) (by omega) ⟨key_le hf.files hm, show E0.size ≤ 64 by decide⟩ h
end Go.Proofs.YtlkfoebophjhfaaGreatDoor
