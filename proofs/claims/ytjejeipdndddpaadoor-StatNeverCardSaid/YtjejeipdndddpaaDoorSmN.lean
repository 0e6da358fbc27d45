/- The plain law of StatNever. -/
import Derived.Test.YtjejeipdndddpaaDoorSmP
namespace Go.Proofs.YtjejeipdndddpaaDoor
open Go
def mkF (l : List (ByteArray × S_simfs_file)) (t i : Int) : S_simfs_FS := ⟨l, l, [], 0, t, i, 0, false, false, 0, []⟩
theorem Tick_p {l : List (ByteArray × S_simfs_file)} {t i : Int} {Q : S_simfs_FS → Prop} (ht : 0 ≤ t ∧ t ≤ 1000) (h : Q (mkF l (t + 1) i)) : simfs_FS_Tick_p (mkF l t i) Q := by
  unfold simfs_FS_Tick_p; intros
  exact ⟨inR_i64.2 ⟨by show _ ≤ t + 1; omega, by show t + 1 ≤ _; omega⟩, h⟩
theorem hasA (x : S_simfs_file) : mhas [(ByteArray.mk #[97], x)] (ByteArray.mk #[97]) = true := by simp [mhas, mlook]
theorem getA (x : S_simfs_file) : mgetD [(ByteArray.mk #[97], x)] (ByteArray.mk #[97]) = x := by simp [mgetD, mlook]
theorem setA (x y : S_simfs_file) : mset [(ByteArray.mk #[97], x)] (ByteArray.mk #[97]) y = [(ByteArray.mk #[97], y)] := by simp [mset]
theorem edit1 (t : Int) (a : List Int) : editS (mkF [] t 0) (ByteArray.mk #[97]) a = mkF [(ByteArray.mk #[97], ⟨1, t, 1, a⟩)] t 1 := rfl
theorem edit2 (x : S_simfs_file) (t : Int) (b : List Int) (hx : x.inode = 1) : editS (mkF [(ByteArray.mk #[97], x)] t 1) (ByteArray.mk #[97]) b = mkF [(ByteArray.mk #[97], ⟨1, t, 1, b⟩)] t 1 := by
  have h1 : inoS (mkF [(ByteArray.mk #[97], x)] t 1) (ByteArray.mk #[97]) = 1 := by
    have e : inoS (mkF [(ByteArray.mk #[97], x)] t 1) (ByteArray.mk #[97]) = (mgetD (mkF [(ByteArray.mk #[97], x)] t 1).files (ByteArray.mk #[97])).inode := if_pos (hasA x)
    rw [e]
    show (mgetD [(ByteArray.mk #[97], x)] (ByteArray.mk #[97])).inode = 1
    rw [getA, hx]
  have h2 : inosS (mkF [(ByteArray.mk #[97], x)] t 1) (ByteArray.mk #[97]) = 1 := if_pos (hasA x)
  unfold editS; rw [h1, h2]
  show (⟨mset [(ByteArray.mk #[97], x)] (ByteArray.mk #[97]) ⟨1, t, 1, b⟩, mset [(ByteArray.mk #[97], x)] (ByteArray.mk #[97]) ⟨1, t, 1, b⟩, [], 0, t, 1, 0, false, false, 0, []⟩ : S_simfs_FS) = _
  rw [setA]; rfl
theorem StatNever_p {a b : List Int} {ahead between : Int} {Q : Bool → Prop} (h : Q true) : rectolaw18_StatNever_p a b ahead between Q := by
  unfold rectolaw18_StatNever_p; intro _ _ hu1 hu2
  have h1 : 0 ≤ ahead ∧ ahead ≤ 255 := by simpa [inR, IntKind.min, IntKind.max, IntKind.signed, IntKind.bits] using hu1
  have h2 : 0 ≤ between ∧ between ≤ 255 := by simpa [inR, IntKind.min, IntKind.max, IntKind.signed, IntKind.bits] using hu2
  simp only [inR_i64]
  refine known18_p ⟨fun hx => (by cases hx), fun _ => ⟨fun _ => h, fun hlen => ?_⟩⟩
  unfold simfs_New_p; intro _
  refine ⟨fun i o => ∃ k : Nat, i = k ∧ (k : Int) ≤ ahead % 5 ∧ o = mkF [] k 0, fun i _ => (ahead % 5).toNat - i.toNat, ⟨0, rfl, by omega, rfl⟩, ?_⟩
  rintro _ _ ⟨k, rfl, hk, rfl⟩ _
  refine ⟨fun hlt => Tick_p (by omega) ⟨by omega, ⟨k + 1, rfl, by omega, rfl⟩, by dsimp only; omega⟩, fun _ => ?_⟩
  refine Edit_p0 (by decide) chkA rfl (by omega) (Int.le_refl 0) rfl (fun x hx => by cases hx) ⟨by show (0 : Int) ≤ _; decide, by show _ ≤ (0 : Int); decide⟩ (fun _ => ?_)
  rw [edit1]
  refine ⟨fun i o => ∃ j : Nat, i = j ∧ (j : Int) ≤ between % 3 ∧ o = mkF [(ByteArray.mk #[97], ⟨1, k, 1, a⟩)] ((k : Int) + j) 1, fun i _ => (between % 3).toNat - i.toNat, ⟨0, rfl, by omega, by rw [show (k : Int) + ((0 : Nat) : Int) = k from by omega]⟩, ?_⟩
  rintro _ _ ⟨j, rfl, hj, rfl⟩ _
  refine ⟨fun hlt => Tick_p (by omega) ⟨by omega, ⟨j + 1, rfl, by omega, by rw [show (k : Int) + ((j + 1 : Nat) : Int) = (k : Int) + j + 1 from by omega]⟩, by dsimp only; omega⟩, fun _ => ?_⟩
  refine Stat_p0 rfl (hasA _) ?_
  have g1 : mgetD (mkF [(ByteArray.mk #[97], ⟨1, k, 1, a⟩)] ((k : Int) + j) 1).files (ByteArray.mk #[97]) = ⟨1, k, 1, a⟩ := getA _
  rw [g1]
  intro _ _ _ _ _
  refine Note_p (fun _ _ _ _ _ _ => ?_)
  unfold simfs_FS_Now_p; intro _ _ _ _ _ _ _ _
  refine Edit_p0 (by decide) chkA rfl (by omega) (Int.le_refl 0) (clash_a _ fun x hx => by simp [mkF] at hx; rw [hx]; rfl) (keyA _ fun x hx => by simp [mkF] at hx; rw [hx]; rfl) ⟨by show (1 : Int) ≤ _; decide, by show _ ≤ (1 : Int); decide⟩ (fun _ => ?_)
  rw [edit2 _ _ _ rfl]
  have g2 : mgetD (mkF [(ByteArray.mk #[97], ⟨1, (k : Int) + j, 1, b⟩)] ((k : Int) + j) 1).files (ByteArray.mk #[97]) = ⟨1, (k : Int) + j, 1, b⟩ := getA _
  have hb : b.length ≤ 65536 := by omega
  refine Changed1_p (e := ⟨ByteArray.mk #[97], 0, 1, strOfNums a, k, (a.length : Int)⟩) rfl rfl (hasA _) (by rw [g2]) (by rw [g2]; exact hb) ?_ ?_
  · rw [g2]
    exact decide_eq_false fun hx => by
      have e1 : (k : Int) = (k : Int) + j := hx.2.1
      have e2 : (k : Int) < (k : Int) + j := hx.2.2.2.2
      omega
  · rw [g2]
    intro _ _ _
    refine ⟨⟨⟨by decide, by decide⟩, fun _ => trivial, fun _ => trivial⟩, ?_⟩
    have : decide (((0 : Int) + 0 = 0) ∧ ((decide (((if strOfNums b = strOfNums a then ([] : List ByteArray) else [ByteArray.mk #[97]]).length : Int) = 1) : Bool) = (!decide (strOfNums a = strOfNums b)))) = true := by
      refine decide_eq_true ⟨by decide, ?_⟩
      by_cases e : strOfNums b = strOfNums a
      · rw [if_pos e, decide_eq_true e.symm]; decide
      · rw [if_neg e, decide_eq_false (fun x : strOfNums a = strOfNums b => e x.symm)]; decide
    rw [← this] at h; exact h
end Go.Proofs.YtjejeipdndddpaaDoor
