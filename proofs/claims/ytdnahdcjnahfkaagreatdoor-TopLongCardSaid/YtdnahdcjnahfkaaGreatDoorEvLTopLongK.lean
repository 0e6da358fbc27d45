/- How the cases of TopLong go by the entries. -/
import Derived.Test.YtdnahdcjnahfkaaGreatDoorEvLTopLongC
namespace Go.Proofs.YtdnahdcjnahfkaaGreatDoor.Ev
open Go Go.Proofs
namespace TopLong
noncomputable def parseG (i : Nat) : Ent := iff i p0 p1
set_option maxHeartbeats 0 in
theorem parseR : manyK Tryz.prog ⟨[], false⟩ 5000 60 fl (ol ⟨[], false⟩ (fun i => i)) ml 11 parseG 0 2 = true := by kernel_rfl
noncomputable def chkG (i : Nat) : Ent := iff i p2 p3
set_option maxHeartbeats 0 in
theorem chkR : manyK Tryz.prog ⟨[], false⟩ 5000 60 fl (ol ⟨[], false⟩ (fun i => i)) ml 24 chkG 0 2 = true := by kernel_rfl
set_option maxHeartbeats 0 in
theorem unmR : manyK Tryz.prog ⟨[], false⟩ 5000 60 fl (ol ⟨[], false⟩ (fun i => i)) ml 114 unmE 0 80 = true := by kernel_rfl
set_option maxHeartbeats 0 in
theorem fulR : manyK Tryz.prog ⟨[], false⟩ 5000 60 fl (ol ⟨[], false⟩ (fun i => i)) ml 29 fulM 0 80 = true := by kernel_rfl
set_option maxHeartbeats 0 in
theorem midR : manyK Tryz.prog ⟨[], false⟩ 5000 60 fl (ol ⟨[], false⟩ (fun i => i)) ml 29 midM 0 80 = true := by kernel_rfl
theorem hF0 {E : Env} : Facts.Of ⟨[], false⟩ E := ⟨fun x hx => (by cases hx), fun h => (by cases h)⟩
section
variable {E : Env}
theorem mod_lt (i : Nat) : Nat.mod i 80 < 80 := Nat.mod_lt i (by decide)
theorem parse_ok : ∀ e ∈ parseT, EntOk Tryz.prog E 11 e := by
  have h := manyK_ok (E := E) hF0 (by kernel_rfl) fl_of (ol_of hF0) ml_of has11 parseR
  intro e he
  simp only [parseT, List.mem_cons, List.not_mem_nil, or_false] at he
  rcases he with rfl | rfl
  · exact h 0 (by decide) (by decide)
  · exact h 1 (by decide) (by decide)
theorem chk_ok : ∀ e ∈ chkT, EntOk Tryz.prog E 24 e := by
  have h := manyK_ok (E := E) hF0 (by kernel_rfl) fl_of (ol_of hF0) ml_of has24 chkR
  intro e he
  simp only [chkT, List.mem_cons, List.not_mem_nil, or_false] at he
  rcases he with rfl | rfl
  · exact h 0 (by decide) (by decide)
  · exact h 1 (by decide) (by decide)
theorem ful_ok (i : Nat) (hi : i < 80) : EntOk Tryz.prog E 29 (fulM i) := by
  have h := manyK_ok (E := E) hF0 (by kernel_rfl) fl_of (ol_of hF0) ml_of has29 fulR
  exact h i (Nat.zero_le _) (by rw [Nat.zero_add]; exact hi)
theorem mid_ok (i : Nat) (hi : i < 80) : EntOk Tryz.prog E 29 (midM i) := by
  have h := manyK_ok (E := E) hF0 (by kernel_rfl) fl_of (ol_of hF0) ml_of has29 midR
  exact h i (Nat.zero_le _) (by rw [Nat.zero_add]; exact hi)
theorem unm_ok (i : Nat) (hi : i < 80) : EntOk Tryz.prog E 114 (unmE i) := by
  have h := manyK_ok (E := E) hF0 (by kernel_rfl) fl_of (ol_of hF0) ml_of has114 unmR
  exact h i (Nat.zero_le _) (by rw [Nat.zero_add]; exact hi)
theorem keyD_ok (s : List Nat) (k : Nat → Bool) (h : keyD s k = true) : ∃ n, k n = true := by
  match s, h with
  | [], h => exact ⟨0, h⟩
  | [_], h => exact ⟨0, h⟩
  | a :: b :: r, h =>
    change forceN (Nat.add (Nat.mul (Nat.sub a 48) 26) (Nat.sub b 97)) k = true at h
    rw [forceN_eq] at h
    exact ⟨_, h⟩
theorem keyM_ok (xs : List AV) (h : T Blk) (k : Nat → Bool) (e : keyM xs h k = true) : ∃ n, k n = true := by
  cases xs with
  | nil => cases e
  | cons x r =>
    change aggK x (fun l => slK (nth l 0) (fun i o _ _ _ _ => blkK h i fun _ t => forceN (Nat.add o 2) fun p => getK (fun v => strK v fun s => keyD s k) t p) (k 0) (k 0)) = true at e
    obtain ⟨l, _, e⟩ := aggK_some e
    rcases slK_some e with ⟨_, _, _, _, _, _, _, e⟩ | ⟨_, e⟩ | ⟨_, e⟩
    · obtain ⟨_, t, _, e⟩ := blkK_some e
      rw [forceN_eq] at e
      obtain ⟨v, _, e⟩ := getK_some e
      obtain ⟨s, _, e⟩ := strK_some e
      exact keyD_ok _ _ e
    · exact ⟨0, e⟩
    · exact ⟨0, e⟩
theorem keyU_ok (xs : List AV) (h : T Blk) (k : Nat → Bool) (e : keyU xs h k = true) : ∃ n, k n = true := by
  cases xs with
  | nil => cases e
  | cons x r =>
    change strK x (fun s => keyD (dropN 5 s) k) = true at e
    obtain ⟨s, _, e⟩ := strK_some e
    exact keyD_ok _ _ e
theorem withK_ok {ft : T FnE} (hft : FtOk Tryz.prog E ⟨[], false⟩ ft) {k : T FnE → Bool} (h : withK ft k = true) : ∃ ft', FtOk Tryz.prog E ⟨[], false⟩ ft' ∧ k ft' = true := by
  unfold withK at h
  obtain ⟨tm, htm, h⟩ := tabK_some h
  obtain ⟨tu, htu, h⟩ := tabK_some h
  have hM : ∀ i l, tm.get i = some l → ∀ e ∈ l, EntOk Tryz.prog E 29 e := fun i l hi e he => by
    obtain ⟨a, c, rfl⟩ := htm i l hi e he
    cases c with
    | zero => exact mid_ok (Nat.mod a 80) (mod_lt _)
    | succ c => exact ful_ok (Nat.mod a 80) (mod_lt _)
  have hU : ∀ i l, tu.get i = some l → ∀ e ∈ l, EntOk Tryz.prog E 114 e := fun i l hi e he => by
    obtain ⟨a, c, rfl⟩ := htu i l hi e he
    exact unm_ok (Nat.mod a 80) (mod_lt _)
  have hm : ∀ p ∈ (29, gAtH keyM tm) :: (114, gAtH keyU tu) :: (11, gMemo parseT) :: (24, gMemo chkT) :: ml, MixOk Tryz.prog E p := by
    refine mixs_cons ?_ (mixs_cons ?_ (mixs_cons ?_ (mixs_cons ?_ ml_of)))
    · exact atH_ok has29 keyM_ok hM
    · exact atH_ok has114 keyU_ok hU
    · exact memo_ok has11 parse_ok
    · exact memo_ok has24 chk_ok
  replace h := mixK_some (E := E) (F := ⟨[], false⟩) hm hft h
  obtain ⟨ft', h, hft'⟩ := h
  exact ⟨ft', hft', h⟩
theorem undosK_ok {ft : T FnE} (hft : FtOk Tryz.prog E ⟨[], false⟩ ft) {k : Nat} {b : Bool} (h : undosK ft k b = true) : (∀ j, j < mn k + 1 → EntOk Tryz.prog E 7 (undoE k j)) ∧ b = true := by
  unfold undosK at h
  rw [forceN_eq] at h
  obtain ⟨h1, h2⟩ := upK_some (Q := fun j => EntOk Tryz.prog E 7 (undoE k j)) (fun i b hb => by rw [nrmE_eq] at hb; exact entFt_ok (by kernel_rfl) hft has7 hb) h
  exact ⟨fun j hj => h1 j (Nat.zero_le _) (by omega), h2⟩
/-- So many rounds, from k on. -/
theorem roundsK_ok {k n : Nat} (h : roundsK k n = true) : ∀ i, k ≤ i → i < k + n → ∀ j, j < mn i + 1 → EntOk Tryz.prog E 7 (undoE i j) := by
  obtain ⟨ft, hft, h⟩ := onceK_some hF0 fl_of (ol_of hF0) h
  obtain ⟨ft, hft, h⟩ := withK_ok hft h
  exact (upK_some (fun i b hb => undosK_ok hft hb) h).1
theorem addsK_ok {k n : Nat} (h : addsK k n = true) : (∀ i, k ≤ i → i < k + n → EntOk Tryz.prog E 7 (addE i)) ∧ ∀ i, k ≤ i → i < k + n → EntOk Tryz.prog E 6 (wrE i) := by
  obtain ⟨ft, hft, h⟩ := onceK_some hF0 fl_of (ol_of hF0) h
  obtain ⟨ft, hft, h⟩ := withK_ok hft h
  obtain ⟨h1, h⟩ := upK_some (Q := fun i => EntOk Tryz.prog E 7 (addE i)) (fun i b hb => by rw [nrmE_eq] at hb; exact entFt_ok (by kernel_rfl) hft has7 hb) h
  exact ⟨h1, (upK_some (Q := fun i => EntOk Tryz.prog E 6 (wrE i)) (fun i b hb => by rw [nrmE_eq] at hb; exact entFt_ok (by kernel_rfl) hft has6 hb) h).1⟩
end
end TopLong
end Go.Proofs.YtdnahdcjnahfkaaGreatDoor.Ev
namespace Go.Proofs.YtdnahdcjnahfkaaGreatDoor.Ev
open Go Go.Proofs
namespace TopLong
section
variable {E : Env}
theorem keyB_ok (xs : List AV) (k : Nat → Bool) (h : keyB xs k = true) : ∃ n, k n = true := by
  cases xs with
  | nil => cases h
  | cons x r =>
    change aggK x (fun l => slK (nth l 18) (fun _ _ n _ _ _ => k n) (k 0) false) = true at h
    obtain ⟨l, _, h⟩ := aggK_some h
    rcases slK_some h with ⟨_, _, n, _, _, _, _, h⟩ | ⟨_, h⟩ | ⟨_, h⟩
    · exact ⟨n, h⟩
    · exact ⟨0, h⟩
    · cases h
theorem caseK_ok {ft : T FnE} (hft : FtOk Tryz.prog E FC ft) (hu : ∀ k, k < 80 → ∀ j, j < mn k + 1 → EntOk Tryz.prog E 7 (undoE k j)) (ha : ∀ i, i < 80 → EntOk Tryz.prog E 7 (addE i)) (hw : ∀ i, i < 80 → EntOk Tryz.prog E 6 (wrE i)) {k : Nat} (hk : k < 80) {b : Bool} (h : caseK ft k b = true) :
    EntOk Tryz.prog E 3 (caseE k) ∧ b = true := by
  unfold caseK at h
  rw [forceN_eq] at h
  obtain ⟨ts, hts, h⟩ := tabK_some h
  obtain ⟨tw, htw, h⟩ := tabK_some h
  have hS : ∀ i l, ts.get i = some l → ∀ e ∈ l, EntOk Tryz.prog E 7 e := fun i l hi e he => by
    obtain ⟨a, c, rfl⟩ := hts i l hi e he
    cases c with
    | zero => exact hu k hk (Nat.sub (mn k) a) (Nat.lt_succ_of_le (Nat.sub_le _ _))
    | succ c => exact ha (Nat.mod (Nat.add a (Nat.pred (Nat.succ c))) 80) (mod_lt _)
  have hW : ∀ i l, tw.get i = some l → ∀ e ∈ l, EntOk Tryz.prog E 6 e := fun i l hi e he => by
    obtain ⟨a, c, rfl⟩ := htw i l hi e he
    exact hw (Nat.mod (Nat.add a c) 80) (mod_lt _)
  have hm : ∀ p ∈ (7, gAt keyB ts) :: (6, gAt keyB tw) :: ml, MixOk Tryz.prog E p := by
    refine mixs_cons ?_ (mixs_cons ?_ ml_of)
    · exact at_ok has7 keyB_ok hS
    · exact at_ok has6 keyB_ok hW
  replace h := mixK_some (E := E) (F := FC) hm hft h
  obtain ⟨ft', h, hft'⟩ := h
  rw [nrmE_eq] at h
  exact entFt_ok (by kernel_rfl) hft' has3 h
theorem upK_in {p : Nat → Bool → Bool} {Q : Nat → Prop} {m : Nat} (hp : ∀ i b, i < m → p i b = true → Q i ∧ b = true) {b : Bool} : ∀ {n i : Nat}, i + n ≤ m → upK p b n i = true → (∀ j, i ≤ j → j < i + n → Q j) ∧ b = true
  | 0, _, _, h => ⟨fun _ _ _ => by omega, h⟩
  | n + 1, i, hn, h => by
    obtain ⟨h3, h⟩ := hp i (forceN (Nat.succ i) (upK p b n)) (by omega) h
    rw [forceN_eq] at h
    obtain ⟨h4, h5⟩ := upK_in hp (by omega) h
    refine ⟨fun j h1 h2 => ?_, h5⟩
    rcases Nat.lt_or_ge i j with h6 | h6
    · exact h4 j h6 (by omega)
    · have : j = i := by omega
      subst this; exact h3
theorem casesK_ok (hF : FC.Of E) (hu : ∀ k, k < 80 → ∀ j, j < mn k + 1 → EntOk Tryz.prog E 7 (undoE k j)) (ha : ∀ i, i < 80 → EntOk Tryz.prog E 7 (addE i)) (hw : ∀ i, i < 80 → EntOk Tryz.prog E 6 (wrE i)) {k n : Nat} (hn : k + n ≤ 80) (h : casesK k n = true) : ∀ i, k ≤ i → i < k + n → EntOk Tryz.prog E 3 (caseE i) := by
  obtain ⟨ft, hft, h⟩ := onceK_some hF fl_of (ol_of hF) h
  exact (upK_in (fun i b hi hb => caseK_ok hft hu ha hw hi hb) hn h).1
end
/-- The arguments: the one that counts is n, each other one its own number. -/
noncomputable def envC (n : Nat) (hn : n ≤ 255) : Env where
  letter _ := 97
  lo _ := by omega
  hi _ := by omega
  arg i := if i = n % 80 then n else if i < 80 then i else 0
  arghi i := by split; exact hn; split <;> omega
theorem rems_of : ∀ x ∈ FC.rems, x.1 < 80 ∧ x.2.1 = 80 ∧ x.2.2 = x.1 := by
  unfold FC
  decide
theorem envC_of (n : Nat) (hn : n ≤ 255) : FC.Of (envC n hn) := ⟨fun x hx => by
  obtain ⟨h1, h2, h3⟩ := rems_of x hx
  rw [h2, h3]
  show (if x.1 = n % 80 then n else if x.1 < 80 then x.1 else 0) % 80 = x.1
  split
  · omega
  · omega, fun h => by cases h⟩
theorem case_true {E : Env} {n k : Nat} (h : EntOk Tryz.prog E 3 (caseE k)) (hk : E.arg k = n) (w : World) : Calls Tryz.prog 3 #[.int .u8 (n : Int)] w (Ret fun v w' => v = .bool true ∧ Keeps w w') := by
  refine (h (fun _ => none) w [.int .u8 (n : Int)] (fun _ _ => rfl) ⟨fun q cs hq => (by cases hq), fun q r cs ds hq => (by cases hq)⟩ (by rw [← hk]; exact VRs.cons (by simp only [VR]) VRs.nil)).mono ?_
  rintro e w' ⟨v, rfl, ρ', _, _, _, hv, q1, q2, q3, q4, q5, _⟩
  exact ⟨v, rfl, by simpa only [caseE, VR] using hv, ⟨q1, q2, q3, q4, fun b hb => q5 b hb fun q L hq => by cases hq⟩⟩
end TopLong
end Go.Proofs.YtdnahdcjnahfkaaGreatDoor.Ev
