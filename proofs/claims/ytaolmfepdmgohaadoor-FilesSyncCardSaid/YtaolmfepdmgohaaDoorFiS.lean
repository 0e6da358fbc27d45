/- The plain laws of chapter 5: FilesArms, FilesSync. -/
import Derived.Test.YtaolmfepdmgohaaDoorFiR
namespace Go.Proofs.YtaolmfepdmgohaaDoor
open Go
/-- the names of the files -/
def nm (k : Nat) : ByteArray := ByteArray.mk #[102] ++ strOfNums [97 + (k : Int)]
theorem nm_chk : ∀ k : Fin 26, Chk (nm k) = 0 ∧ (nm k).size = 2 := by decide +kernel
theorem nm_inj0 : ∀ j k : Fin 26, nm j = nm k → j = k := by decide +kernel
theorem nmChk {k : Nat} (h : k < 26) : Chk (nm k) = 0 := (nm_chk ⟨k, h⟩).1
theorem nmSize {k : Nat} (h : k < 26) : (nm k).size = 2 := (nm_chk ⟨k, h⟩).2
theorem nm_inj {j k : Nat} (hj : j < 26) (hk : k < 26) (h : nm j = nm k) : j = k := by
  have := nm_inj0 ⟨j, hj⟩ ⟨k, hk⟩ h
  exact congrArg Fin.val this
theorem Und_same {p d : ByteArray} (h : p.size = d.size) (hd : d.size ≠ 0) : Und p d = false := by
  unfold Und
  rw [if_neg (by rintro rfl; exact hd rfl), decide_eq_false]
  rintro ⟨h1, _⟩; omega
theorem Cl_same {p d : ByteArray} (h : p.size = d.size) (hd : d.size ≠ 0) : Cl p d = false := by
  unfold Cl
  rw [if_neg (by rintro rfl; exact hd h.symm), if_neg (by rintro rfl; exact hd rfl), Und_same h hd, Und_same h.symm (by omega)]; rfl
theorem clash_none {l : FL} {p but : ByteArray} (hl : ∀ x ∈ l, x.1.size = 2) (hp : p.size = 2) : clashS l p but = false := by
  unfold clashS
  rw [List.any_eq_false]
  intro x hx
  rw [Cl_same (by rw [hp, hl x hx]) (by rw [hl x hx]; decide)]; simp
theorem mset_sz {l : FL} {p : ByteArray} {x : S_simfs_file} (hl : ∀ x ∈ l, x.1.size = 2) (hp : p.size = 2) : ∀ y ∈ mset l p x, y.1.size = 2 := fun y hy => by
  rcases mset_mem y hy with rfl | hy
  · exact hp
  · exact hl y hy
theorem apply_put {f : S_simfs_FS} {l : FL} {p : ByteArray} {mode : Int} {b : List Int} (hl : ∀ x ∈ l, x.1.size = 2) (hp : p.size = 2) : (applyS l (putO f p mode b)).1 = mset l p (putO f p mode b).file := by
  unfold applyS
  rw [if_pos (show (putO f p mode b).kind = 1 from rfl), if_neg (by show ¬ clashS l p E0 = true; rw [clash_none hl hp]; exact Bool.false_ne_true)]; rfl
/-! armed -/
def ArmInv (k : Int) (ok i : Int) (f : S_simfs_FS) : Prop :=
  0 ≤ i ∧ ((i < max k 1 ∧ ok = i ∧ f.off = false ∧ f.armed = true ∧ f.left = max k 1 - i ∧ f.quota = 0 ∧ f.kept = [] ∧ f.keep = [] ∧ f.ops_ = i ∧ (∀ x ∈ f.files, x.1.size = 2) ∧ FOk (3 * i.toNat) f) ∨
   (max k 1 ≤ i ∧ ok = max k 1 - 1 ∧ f.off = true ∧ f.armed = false ∧ f.kept = [] ∧ f.files = [] ∧ f.pending = [] ∧ f.ops_ = max k 1 - 1 ∧ FOk 1000 f))
theorem nm_lit {i : Int} (h0 : 0 ≤ i) (h : i < 26) : (ByteArray.mk #[102]) ++ (strOfNums ([iwrap .u8 ((97 : Int) + i)])) = nm i.toNat := by
  have : iwrap .u8 ((97 : Int) + i) = 97 + (i.toNat : Int) := by
    unfold iwrap
    rw [wrap_eq _ (by show _ ≤ _; simp [IntKind.min, IntKind.signed]; omega) (by simp [IntKind.max, IntKind.signed, IntKind.bits]; omega)]; omega
  unfold nm; rw [this]
theorem FilesArms_p {n : Int} {Q : Bool → Prop} (h : Q true) : rectolaw5_FilesArms_p n Q := by
  unfold rectolaw5_FilesArms_p; intro hn
  have hn := inR_u8.1 hn
  refine known5_p ⟨fun hx => (by cases hx), fun _ => ?_⟩
  unfold simfs_New_p; intro _
  show simfs_FS_Arm_p (newF 0) (n % 20) [] _
  refine Arm_p (by decide) ?_
  generalize hk : n % 20 = k
  have hk0 : 0 ≤ k ∧ k < 20 := by omega
  refine ⟨ArmInv k, fun _ i _ => (k + 3 - i).toNat, ⟨Int.le_refl 0, .inl ⟨by omega, rfl, rfl, rfl, by show max k 1 = max k 1 - 0; omega, rfl, rfl, rfl, rfl, (fun x hx => by cases hx), ⟨⟨(fun x hx => by cases hx), Nat.le_refl _, List.nodup_nil⟩, ⟨(fun x hx => by cases hx), Nat.le_refl _, List.nodup_nil⟩, ⟨(fun x hx => by cases hx), Nat.le_refl _⟩, ⟨Int.le_refl 0, Int.le_refl 0⟩, ⟨Int.le_refl 0, Int.le_refl 0⟩, ⟨Int.le_refl 0, Int.le_refl 0⟩, Nat.zero_le _⟩⟩⟩, ?_⟩
  rintro ok i f ⟨hi0, hinv⟩ _ _
  refine ⟨inR_i64.2 ⟨by omega, by omega⟩, fun hlt => ?_, fun hge => ?_⟩
  · refine ⟨fun ok2 f2 => ArmInv k ok2 (i + 1) f2, fun ok2 f2 hf2 _ => ⟨inR_i64.2 ⟨by omega, by omega⟩, hf2, by dsimp only; omega⟩, inR_i64.2 ⟨by omega, by omega⟩, ?_⟩
    rw [nm_lit hi0 (by omega)]
    have hi26 : i.toNat < 26 := by omega
    have hsz := nmSize hi26
    refine ⟨by rw [hsz]; decide, ?_⟩
    rcases hinv with ⟨hm, hoki, hoff, harm, hleft, hq, hkept, hkeep, hops, hfs, hok⟩ | ⟨hm, hoki, hoff, harm, hkept, hfs, hp, hops, hok⟩
    · have hmay : mayS f (nm i.toNat) 1 (([] : List Int).length) = 0 := may0 hoff (nmChk hi26) (by decide) (.inl rfl) (clash_none hfs hsz) (by omega)
      refine Write_p hok (by omega) (fun _ => by omega) (fun _ => ?_)
      unfold writeS
      rw [if_neg (fun hx => hx hmay)]
      by_cases hl : f.left - 1 > 0
      · have ht : tripsS f = (downF f, false) := by unfold tripsS; rw [if_neg (by rw [harm]; exact fun hx => by cases hx), if_pos hl]
        rw [ht, if_neg (by exact Bool.false_ne_true)]
        refine ⟨fun b => b = false, ?_, inR_i64.2 ⟨by omega, by omega⟩, fun _ => ⟨fun _ => rfl, fun hx => absurd rfl hx⟩, fun hx => absurd ?_ hx⟩
        · rintro _ rfl
          refine ⟨fun hx => (by cases hx), fun _ => ⟨fun _ => ⟨inR_i64.2 ⟨by omega, by omega⟩, by omega, .inl ⟨by omega, by omega, hoff, harm, ?_, hq, hkept, hkeep, ?_, ?_, ?_⟩⟩, fun hx => absurd rfl hx⟩⟩
          · show f.left - 1 = _; omega
          · show f.ops_ + 1 = _; omega
          · show ∀ x ∈ (applyS f.files _).1, _
            rw [apply_put hfs hsz]; exact mset_sz hfs hsz
          · exact (doF_ok (putF_ok (downF_ok hok)) ⟨by show (nm i.toNat).size ≤ 64; omega, show E0.size ≤ 64 by decide, Nat.zero_le _⟩).up (by omega)
        · show decide ((0 : Int) = 0) = _
          rw [decide_eq_true (by rfl : (0 : Int) = 0), decide_eq_true (show i + 1 < k by omega)]
      · have ht : tripsS f = (cutF (downF f) f.keep, true) := by unfold tripsS; rw [if_neg (by rw [harm]; exact fun hx => by cases hx), if_neg hl]
        have hc : cutS f.pending [] f.kept = [] := by rw [cutS_nil, hkept]
        rw [ht, if_pos rfl]
        refine ⟨fun b => b = false, ?_, inR_i64.2 ⟨by omega, by omega⟩, fun _ => ⟨fun hx => absurd hx (show ¬ (13 : Int) = 0 by decide), fun _ => show (!decide ((13 : Int) = 13)) = false by decide⟩, fun hx => absurd ?_ hx⟩
        · rintro _ rfl
          refine ⟨fun hx => (by cases hx), fun _ => ⟨fun hx => absurd hx (show ¬ (13 : Int) = 0 by decide), fun _ => ⟨by omega, .inr ⟨by omega, by omega, rfl, rfl, ?_, ?_, rfl, ?_, ?_⟩⟩⟩⟩
          · show cutS f.pending f.keep f.kept = []; rw [hkeep]; exact hc
          · show cutS f.pending f.keep f.kept = []; rw [hkeep]; exact hc
          · show f.ops_ = _; omega
          · exact (cutF_ok (downF_ok hok)).up (by omega)
        · show decide ((13 : Int) = 0) = _
          rw [decide_eq_false (by decide : ¬ (13 : Int) = 0), decide_eq_false (show ¬ (i + 1 < k) by omega)]
    · have hmay : mayS f (nm i.toNat) 1 (([] : List Int).length) = 13 := by unfold mayS; rw [if_pos hoff]
      refine Write_p hok (by omega) (fun hx => by rw [harm] at hx; cases hx) (fun _ => ?_)
      unfold writeS
      rw [hmay, if_pos (by decide)]
      refine ⟨fun b => b = false, ?_, inR_i64.2 ⟨by omega, by omega⟩, fun _ => ⟨fun hx => absurd hx (show ¬ (13 : Int) = 0 by decide), fun _ => show (!decide ((13 : Int) = 13)) = false by decide⟩, fun hx => absurd ?_ hx⟩
      · rintro _ rfl
        exact ⟨fun hx => (by cases hx), fun _ => ⟨fun hx => absurd hx (show ¬ (13 : Int) = 0 by decide), fun _ => ⟨by omega, .inr ⟨by omega, hoki, hoff, harm, hkept, hfs, hp, hops, hok⟩⟩⟩⟩
      show decide ((13 : Int) = 0) = _
      rw [decide_eq_false (by decide : ¬ (13 : Int) = 0), decide_eq_false (show ¬ (i + 1 < k) by omega)]
  · rcases hinv with ⟨hm, _⟩ | ⟨hm, hok1, hoff, harm, hkept, hfs, hp, hops, hok⟩
    · omega
    refine Off_p (On_p (List_p (on_ok hok) (by omega) (fun hx => by cases hx) (fun _ _ _ => ?_)))
    refine ⟨fun b => b = true, by rintro _ rfl; exact h, fun _ => Ops_p fun _ => ⟨fun _ => ⟨fun _ => ⟨fun _ => Pending_p fun _ => ?_, fun hx => absurd ?_ hx⟩, fun hx => absurd rfl hx⟩, fun hx => absurd ?_ hx⟩, fun hx => absurd hoff hx⟩
    · exact decide_eq_true (by show (f.pending.length : Int) = 0; rw [hp]; rfl)
    · rw [keysB_len]; show (f.files.length : Int) = 0; rw [hfs]; rfl
    · show f.ops_ = ok; rw [hops, hok1]
end Go.Proofs.YtaolmfepdmgohaaDoor
