/- For any number of things done, and any number of them undone: something done anew, nothing can be redone; what was ahead stays: the law LogNew answers true. Conditions: none beyond the statement. -/
import Derived.Test.YtjbdamojffgmaaaRows
import Derived.Test.YtjbdamojffgmaaaW1
import Derived.Test.YtjbdamojffgmaaaRead
import Derived.ProofKit
import Derived.OpenShut
import Derived.ShutString
import Derived.ChangeOld
import Derived.Below
namespace Go.Proofs.Ytjbdamojffgmaaa
open Go

/-- One byte as a text. -/
def bs1 (i : Nat) : ByteArray := strOfNums [(i : Int)]
theorem bs1_len (i : Nat) : (bs1 i).size ≤ maxLen := by unfold bs1; rw [strOfNums_size]; show 1 ≤ maxLen; decide
/-- What can be undone behind k things done. -/
def Bk (k : Nat) : List ByteArray := ((List.range k).map bs1).drop (k - 64)
theorem Bk_len (k : Nat) : (Bk k).length = min k 64 := by unfold Bk; rw [List.length_drop, List.length_map, List.length_range]; omega
theorem push_Bk (i : Nat) : pushL (Bk i) (bs1 i) = Bk (i + 1) := by
  unfold pushL
  rw [Bk_len]
  unfold Bk
  rw [List.range_succ, List.map_append, List.map_cons, List.map_nil, ← List.drop_append_of_le_length (by simp), List.drop_drop]
  congr 1
  omega
def Fk (k j : Nat) : List ByteArray := (List.range j).map fun t => bs1 (k - t)
theorem Fk_len (k j : Nat) : (Fk k j).length = j := by simp [Fk]
theorem Fk_succ (k j : Nat) : Fk k j ++ [bs1 (k - j)] = Fk k (j + 1) := by unfold Fk; rw [List.range_succ, List.map_append]; rfl
theorem Fk_last (k : Nat) {m r : Nat} (h : r < m) : Fk k (m - r) = Fk k (m - (r + 1)) ++ [bs1 (k - (m - (r + 1)))] := by
  rw [Fk_succ, show m - (r + 1) + 1 = m - r from by omega]
def Gk (k m r : Nat) : List ByteArray := (List.range r).map fun t => bs1 (k - m + t)
theorem Gk_len (k m r : Nat) : (Gk k m r).length = r := by simp [Gk]
theorem Gk_succ (k m r : Nat) (h : r < 64) : pushL (Gk k m r) (bs1 (k - m + r)) = Gk k m (r + 1) := by
  unfold pushL
  rw [Gk_len, show r + 1 - 64 = 0 from by omega, List.drop_zero]
  unfold Gk
  rw [List.range_succ, List.map_append]; rfl
theorem Bk_last {k m j : Nat} (hm : m = min k 64) (h : j < m) : (Bk k).take (m - j) = (Bk k).take (m - (j + 1)) ++ [bs1 (k - (j + 1))] := by
  have hl := Bk_len k
  have h1 : m - (j + 1) < (Bk k).length := by omega
  have h2 := List.take_succ_eq_append_getElem h1
  rw [show m - (j + 1) + 1 = m - j from by omega] at h2
  rw [h2]
  congr 2
  simp [Bk]
  congr 1
  omega
def Xk (j : Nat) : List ByteArray := (List.range j).map fun _ => ByteArray.mk #[120]
theorem Xk_len (j : Nat) : (Xk j).length = j := by simp [Xk]
theorem Xk_succ (j : Nat) : Xk j ++ [ByteArray.mk #[120]] = Xk (j + 1) := by unfold Xk; rw [List.range_succ, List.map_append]; rfl
theorem push_less (L : List ByteArray) (s : ByteArray) (h : L.length < 64) : pushL L s = L ++ [s] := by
  unfold pushL
  rw [show L.length + 1 - 64 = 0 from by omega, List.drop_zero]
set_option maxRecDepth 20000 in
set_option maxHeartbeats 4000000 in
theorem logNew_w {X : List Nat} {w : World} {n bk : Nat} (hX0 : Old X w) (hn : n ≤ 255) (hbk : bk ≤ 255) :
    Calls Try.prog 5 #[(.int .u8 ((n : Nat) : Int)), (.int .u8 ((bk : Nat) : Int))] w (Ret fun v w' => Evo [] w w' ∧ v = .bool true) := by
  obtain ⟨k, hk⟩ : ∃ k, k = 1 + n % 30 := ⟨_, rfl⟩
  obtain ⟨m, hm⟩ : ∃ m, m = bk % (k + 1) := ⟨_, rfl⟩
  have hm2 : m ≤ k := by rw [hm]; have := Nat.mod_lt bk (show 0 < k + 1 by omega); omega
  have hk2 : k ≤ 30 := by omega
  have hXo := hX0
  have E0 : Evo [] w w := RB.refl _ _ _
  refine enter_ Try.func5 rfl 96 [(0, (.int .u8 ((n : Nat) : Int))), (1, (.int .u8 ((bk : Nat) : Int)))] (by kernel_rfl) (fun Q hQ => ?_)
  refine seq_ (fun K1 hK1 => ?_)
  refine reg_ ?_
  refine sq (o_pv (.bool false) rfl (by kernel_rfl) ?_)
  refine nil_ ?_
  refine then_normal (hK1 _ _ _ _ ?_)
  refine seq_ (fun K2 hK2 => ?_)
  refine seq_ (fun K3 hK3 => ?_)
  refine reg_ ?_
  refine sq (o_call 6 #[] rfl (x_call Try.call6 (by kernel_rfl)) (known_w hXo) ?_)
  rintro _ w1 ⟨e1, rfl⟩
  have s1 := Step.of0 X e1
  refine sq (o_pv (.bool false) rfl (by kernel_rfl) ?_)
  refine nil_ ?_
  refine then_normal (hK3 _ _ _ _ ?_)
  refine cond_f (by kernel_rfl) ?_
  refine wp_skip ?_
  refine then_normal (hK2 _ _ _ _ ?_)
  refine seq_ (fun K4 hK4 => ?_)
  refine reg_ ?_
  refine sq (o_pv (.agg #[(.slice none 0 0), (.slice none 0 0)]) rfl (by kernel_rfl) ?_)
  refine sq (o_new [(.slice none 0 0), (.slice none 0 0)] 26 rfl (by kernel_rfl) ?_)
  rintro b5 w2 hb5 e2 k5
  have n5 : w.heap.size ≤ b5 := Nat.le_trans (Evo.then0 E0 e1).size (Nat.le_of_eq hb5.symm)
  have s2 := Step.fresh X e2 b5 (Nat.le_of_eq hb5.symm) k5.lt
  refine sq (o_store (o := 0) (v := (.agg #[(.slice none 0 0), (.slice none 0 0)])) [(.slice none 0 0), (.slice none 0 0)] rfl k5 (by kernel_rfl) (by kernel_rfl) Try.sizeOf26 rfl rfl rfl ?_)
  intro w3 e3 kn3
  have s3 := Step.one e3 (X := b5 :: X) (List.mem_cons_self)
  clear k5; have k5 := kn3
  refine nil_ ?_
  refine then_normal (hK4 _ _ _ _ ?_)
  refine seq_ (fun K5 hK5 => ?_)
  refine reg_ ?_
  refine sq (o_pv (.int .u8 ((n : Nat) : Int)) rfl (by kernel_rfl) ?_)
  refine sq (o_pv (.int .u8 ((n % 30 : Nat) : Int)) rfl (x_rem (a := ((n : Nat) : Int)) (b := 30) ((n % 30 : Nat) : Int) (by kernel_rfl) (by kernel_rfl) (by omega) (by omega) (by omega)) ?_)
  refine sq (o_pv (.int .i64 ((n % 30 : Nat) : Int)) rfl (x_conv (k := .u8) Try.underlying5 Try.underlying3 (by kernel_rfl) (wrap_i64 (by omega) (by omega))) ?_)
  refine sq (o_pv (.int .i64 ((k : Nat) : Int)) rfl (x_add (a := 1) (b := ((n % 30 : Nat) : Int)) ((k : Nat) : Int) (by kernel_rfl) (by kernel_rfl) (by omega) (wrap_i64 (by omega) (by omega))) ?_)
  refine sq (o_pv (.int .i64 ((k : Nat) : Int)) rfl (by kernel_rfl) ?_)
  refine nil_ ?_
  refine then_normal (hK5 _ _ _ _ ?_)
  refine seq_ (fun K6 hK6 => ?_)
  refine seq_ (fun K7 hK7 => ?_)
  refine reg_ ?_
  refine sq (o_pv (.int .i64 0) rfl (by kernel_rfl) ?_)
  refine nil_ ?_
  refine then_normal (hK7 _ _ _ _ ?_)
  refine wp_block ?_
  replace E0 := (Evo.then1 (Evo.then0 (Evo.then0 E0 e1) e2) e3 n5)
  replace hXo := (((hXo.step s1).step s2).step s3)
  refine loop_ 137371844736 (fun kq lq wl0 => ∃ Xl0 : List Nat, ∃ i : Nat, ∃ ab : Option Addr, ∃ cb : Nat, (lq = [(7, (.int .i64 ((i : Nat) : Int)))]) ∧ (kq = k - i) ∧ (Sub (b5 :: X) Xl0) ∧ (Evo [] w wl0) ∧ (Old Xl0 wl0) ∧ (Blk wl0 b5 [(.slice ab ((Bk i).length) cb), (.slice none 0 0)] 26) ∧ (Sl rStr Xl0 wl0 ab cb (Bk i)) ∧ (i ≤ k)) (k - 0) [(7, (.int .i64 0))] (vs_cons (by kernel_rfl) (vs_nil)) ⟨(b5 :: X), 0, none, 0, rfl, rfl, (Sub.of_cons (List.mem_cons_self) (Sub.trans (Sub.refl _) (Sub.cons _ _))), E0, hXo, k5, Sl.nil, (by omega)⟩ ?_
  rintro k0 l0 wl0 g0 ⟨Xl0, i, ab, cb, rfl, hk0, hXl0, E0, hXo, k5, hb, hi⟩ Kl0 hA0
  refine seq_ (fun K8 hK8 => ?_)
  refine seq_ (fun K9 hK9 => ?_)
  refine reg_ ?_
  refine sq (o_pv (.int .i64 ((i : Nat) : Int)) rfl (by kernel_rfl) ?_)
  refine sq (o_pv (.int .i64 ((k : Nat) : Int)) rfl (by kernel_rfl) ?_)
  refine sq (o_pv (.bool (decide (((i : Nat) : Int) < ((k : Nat) : Int)))) rfl (by kernel_rfl) ?_)
  refine nil_ ?_
  refine then_normal (hK9 _ _ _ _ ?_)
  refine cond_d (((i : Nat) : Int) < ((k : Nat) : Int)) (by kernel_rfl) (fun h28 => ?_) (fun h28 => ?_)
  ·
    refine wp_skip ?_
    refine then_normal (hK8 _ _ _ _ ?_)
    refine seq_ (fun K10 hK10 => ?_)
    refine wp_block ?_
    refine reg_ ?_
    refine sq (o_pv (.agg #[(.slice ab ((Bk i).length) cb), (.slice none 0 0)]) rfl (x_loadN [(.slice ab ((Bk i).length) cb), (.slice none 0 0)] (by kernel_rfl) Try.isAgg26 Try.sizeOf26 (k5.cells' 0 rfl)) ?_)
    refine sq (o_pv (.int .i64 ((i : Nat) : Int)) rfl (by kernel_rfl) ?_)
    refine sq (o_pv (.int .u8 ((i : Nat) : Int)) rfl (x_conv (k := .i64) Try.underlying3 Try.underlying5 (by kernel_rfl) (wrap_u8 (by omega) (by omega))) ?_)
    refine sq (o_row [(.int .u8 ((i : Nat) : Int))] 5 1 rfl (by kernel_rfl) ?_)
    rintro b34 w4 hb34 e4 k34
    have n34 : w.heap.size ≤ b34 := Nat.le_trans E0.size (Nat.le_of_eq hb34.symm)
    have l5_34 : b5 < b34 := Nat.lt_of_lt_of_eq k5.lt hb34.symm
    have s4 := Step.fresh Xl0 e4 b34 (Nat.le_of_eq hb34.symm) k34.lt
    refine sq (o_pv (.string (bs1 i)) rfl (x_b2s (b := b34) (o := 0) (len := 1) (c := 1) [((i : Nat) : Int)] Try.underlying36 Try.underlying5 Try.underlying9 (by kernel_rfl) rfl (k34.cells' 0 rfl)) ?_)
    replace hb := (hb.step s4)
    replace hXo := (hXo.step s4)
    refine sq (o_call 7 #[(.agg #[(.slice ab ((Bk i).length) cb), (.slice none 0 0)]), (.string (bs1 i))] rfl (x_call Try.call7 (by kernel_rfl)) (Do_w (Lb := Bk i) (M := Bk (i + 1)) hXo (push_Bk i) hb (bs1_len _) (by rw [Bk_len]; omega)) ?_)
    rintro _ w5 ⟨e5, a36, c36, rfl, h36⟩
    have s5 := Step.of0 (b34 :: Xl0) e5
    replace k5 := ((k5.evo0 e4).evo0 e5)
    refine sq (o_store (o := 0) (v := (.agg #[(.slice a36 ((Bk (i + 1)).length) c36), (.slice none 0 0)])) [(.slice a36 ((Bk (i + 1)).length) c36), (.slice none 0 0)] rfl k5 (by kernel_rfl) (by kernel_rfl) Try.sizeOf26 rfl rfl rfl ?_)
    intro w6 e6 kn6
    have s6 := Step.one e6 (X := b34 :: Xl0) (List.mem_cons_of_mem _ (hXl0 _ (List.mem_cons_self)))
    clear k5; have k5 := kn6
    refine nil_ ?_
    refine blk_normal ?_
    refine then_normal (hK10 _ _ _ _ ?_)
    refine reg_ ?_
    refine sq (o_pv (.int .i64 ((i : Nat) : Int)) rfl (by kernel_rfl) ?_)
    refine sq (o_pv (.int .i64 ((i + 1 : Nat) : Int)) rfl (x_add (a := ((i : Nat) : Int)) (b := 1) ((i + 1 : Nat) : Int) (by kernel_rfl) (by kernel_rfl) (by omega) (wrap_i64 (by omega) (by omega))) ?_)
    refine sq (o_pv (.int .i64 ((i + 1 : Nat) : Int)) rfl (by kernel_rfl) ?_)
    refine nil_ ?_
    replace h36 := (h36.step s6)
    replace E0 := (Evo.then1 (Evo.then0 (Evo.then0 E0 e4) e5) e6 n5)
    replace hXo := ((hXo.step s5).step s6)
    refine then_normal (hA0 _ _ _ ⟨k - (i + 1), [(7, (.int .i64 ((i + 1 : Nat) : Int)))], by omega, fit_mk (AgB.mix _ _ _) (by kernel_rfl) (vs_cons (by kernel_rfl) (vs_nil)), ?_⟩)
    exact ⟨(b34 :: Xl0), (i + 1), a36, c36, rfl, rfl, (Sub.of_cons (List.mem_cons_of_mem _ (hXl0 _ (List.mem_cons_self))) (Sub.trans (Sub.trans (Sub.trans (Sub.refl _) (Sub.cons _ _)) hXl0) (Sub.cons _ _))), E0, hXo, k5, h36, (by omega)⟩
  ·
    refine wp_exit ?_
    refine then_exit ?_
    refine then_exit ?_
    refine blk_exit ?_
    refine then_normal (hK6 _ _ _ _ ?_)
    refine seq_ (fun K11 hK11 => ?_)
    refine reg_ ?_
    have hik : i = k := by omega
    refine sq (o_pv (.int .u8 ((bk : Nat) : Int)) rfl (by kernel_rfl) ?_)
    refine sq (o_pv (.int .i64 ((bk : Nat) : Int)) rfl (x_conv (k := .u8) Try.underlying5 Try.underlying3 (by kernel_rfl) (wrap_i64 (by omega) (by omega))) ?_)
    refine sq (o_pv (.int .i64 ((k : Nat) : Int)) rfl (by kernel_rfl) ?_)
    refine sq (o_pv (.int .i64 ((k + 1 : Nat) : Int)) rfl (x_add (a := ((k : Nat) : Int)) (b := 1) ((k + 1 : Nat) : Int) (by kernel_rfl) (by kernel_rfl) (by omega) (wrap_i64 (by omega) (by omega))) ?_)
    refine sq (o_pv (.int .i64 ((m : Nat) : Int)) rfl (x_rem (a := ((bk : Nat) : Int)) (b := ((k + 1 : Nat) : Int)) ((m : Nat) : Int) (by kernel_rfl) (by kernel_rfl) (by omega) (by omega) (by rw [hm]; exact (Int.natCast_emod bk (k + 1)).symm)) ?_)
    refine sq (o_pv (.int .i64 ((m : Nat) : Int)) rfl (by kernel_rfl) ?_)
    refine nil_ ?_
    refine then_normal (hK11 _ _ _ _ ?_)
    refine seq_ (fun K12 hK12 => ?_)
    refine seq_ (fun K13 hK13 => ?_)
    refine reg_ ?_
    refine sq (o_pv (.int .i64 0) rfl (by kernel_rfl) ?_)
    refine nil_ ?_
    refine then_normal (hK13 _ _ _ _ ?_)
    refine wp_block ?_
    have eB : Bk i = (Bk i).take (i - 0) := by rw [List.take_of_length_le (by rw [Bk_len]; omega)]
    refine loop_ 72053195991424528 (fun kq lq wl1 => ∃ Xl1 : List Nat, ∃ j : Nat, ∃ ab : Option Addr, ∃ cb : Nat, ∃ af : Option Addr, ∃ cf : Nat, (lq = [(9, (.int .i64 ((j : Nat) : Int)))]) ∧ (kq = m - j) ∧ (Sub (b5 :: X) Xl1) ∧ (Evo [] w wl1) ∧ (Old Xl1 wl1) ∧ (Blk wl1 b5 [(.slice ab (((Bk i).take (i - j)).length) cb), (.slice af ((Xk j).length) cf)] 26) ∧ (Sl rStr Xl1 wl1 ab cb ((Bk i).take (i - j))) ∧ (Sl rStr Xl1 wl1 af cf (Xk j)) ∧ (j ≤ m)) (m - 0) [(9, (.int .i64 0))] (vs_cons (by kernel_rfl) (vs_nil)) ⟨Xl0, 0, ab, cb, none, 0, rfl, rfl, (Sub.of_cons (hXl0 _ (List.mem_cons_self)) (Sub.trans (Sub.trans (Sub.refl _) (Sub.cons _ _)) hXl0)), E0, hXo, (by rw [← eB]; exact k5), (eB ▸ hb), Sl.nil, (Nat.zero_le _)⟩ ?_
    rintro k1 l1 wl1 g1 ⟨Xl1, j, ab, cb, af, cf, rfl, hk1, hXl1, E0, hXo, k5, hb, hf, hj⟩ Kl1 hA1
    refine seq_ (fun K14 hK14 => ?_)
    refine seq_ (fun K15 hK15 => ?_)
    refine reg_ ?_
    refine sq (o_pv (.int .i64 ((j : Nat) : Int)) rfl (by kernel_rfl) ?_)
    refine sq (o_pv (.int .i64 ((m : Nat) : Int)) rfl (by kernel_rfl) ?_)
    refine sq (o_pv (.bool (decide (((j : Nat) : Int) < ((m : Nat) : Int)))) rfl (by kernel_rfl) ?_)
    refine nil_ ?_
    refine then_normal (hK15 _ _ _ _ ?_)
    refine cond_d (((j : Nat) : Int) < ((m : Nat) : Int)) (by kernel_rfl) (fun h44 => ?_) (fun h44 => ?_)
    ·
      refine wp_skip ?_
      refine then_normal (hK14 _ _ _ _ ?_)
      refine seq_ (fun K16 hK16 => ?_)
      refine wp_block ?_
      refine seq_ (fun K17 hK17 => ?_)
      refine reg_ ?_
      refine sq (o_pv (.agg #[(.slice ab (((Bk i).take (i - j)).length) cb), (.slice af ((Xk j).length) cf)]) rfl (x_loadN [(.slice ab (((Bk i).take (i - j)).length) cb), (.slice af ((Xk j).length) cf)] (by kernel_rfl) Try.isAgg26 Try.sizeOf26 (k5.cells' 0 rfl)) ?_)
      refine sq (o_call 8 #[(.agg #[(.slice ab (((Bk i).take (i - j)).length) cb), (.slice af ((Xk j).length) cf)]), (.string (ByteArray.mk #[120]))] rfl (x_call Try.call8 (by kernel_rfl)) (Undo_w (Lb := (Bk i).take (i - j)) (Lf := Xk j) (K := (Bk i).take (i - (j + 1))) (x := (bs1 (i - (j + 1)))) (M := Xk (j + 1)) hXo (Bk_last (m := i) (by omega) (by omega)) (Xk_succ j) hb hf (by decide) (by first | (rw [Xk_len]; omega) | (rw [List.length_take]; omega)) (by first | (rw [Xk_len]; omega) | (rw [List.length_take]; omega))) ?_)
      rintro _ w7 ⟨e7, a1_49, c1_49, a2_49, c2_49, rfl, hb49, hf49⟩
      have s7 := Step.of0 Xl1 e7
      refine sq (o_pv (.tuple #[(.agg #[(.slice a1_49 (((Bk i).take (i - (j + 1))).length) c1_49), (.slice a2_49 ((Xk (j + 1)).length) c2_49)]), (.string (bs1 (i - (j + 1)))), (.int .i64 0)]) rfl (by kernel_rfl) ?_)
      refine sq (o_pv (.agg #[(.slice a1_49 (((Bk i).take (i - (j + 1))).length) c1_49), (.slice a2_49 ((Xk (j + 1)).length) c2_49)]) rfl (by kernel_rfl) ?_)
      refine sq (o_pv (.string (bs1 (i - (j + 1)))) rfl (by kernel_rfl) ?_)
      refine sq (o_pv (.int .i64 0) rfl (by kernel_rfl) ?_)
      refine sq (o_new [(.slice none 0 0), (.slice none 0 0)] 26 rfl (by kernel_rfl) ?_)
      replace k5 := (k5.evo0 e7)
      rintro b10 w8 hb10 e8 k10
      have n10 : w.heap.size ≤ b10 := Nat.le_trans (Evo.then0 E0 e7).size (Nat.le_of_eq hb10.symm)
      have l5_10 : b5 < b10 := Nat.lt_of_lt_of_eq k5.lt hb10.symm
      have s8 := Step.fresh Xl1 e8 b10 (Nat.le_of_eq hb10.symm) k10.lt
      refine sq (o_store (o := 0) (v := (.agg #[(.slice a1_49 (((Bk i).take (i - (j + 1))).length) c1_49), (.slice a2_49 ((Xk (j + 1)).length) c2_49)])) [(.slice a1_49 (((Bk i).take (i - (j + 1))).length) c1_49), (.slice a2_49 ((Xk (j + 1)).length) c2_49)] rfl k10 (by kernel_rfl) (by kernel_rfl) Try.sizeOf26 rfl rfl rfl ?_)
      intro w9 e9 kn9
      have s9 := Step.one e9 (X := b10 :: Xl1) (List.mem_cons_self)
      clear k10; have k10 := kn9
      refine sq (o_pv (.string (bs1 (i - (j + 1)))) rfl (by kernel_rfl) ?_)
      refine sq (o_pv (.int .i64 0) rfl (by kernel_rfl) ?_)
      refine nil_ ?_
      refine then_normal (hK17 _ _ _ _ ?_)
      refine seq_ (fun K18 hK18 => ?_)
      refine seq_ (fun K19 hK19 => ?_)
      refine reg_ ?_
      refine sq (o_pv (.int .i64 0) rfl (by kernel_rfl) ?_)
      refine sq (o_pv (.bool false) rfl (x_ndf (p := (0 : Int) = 0) (by kernel_rfl) (by decide)) ?_)
      refine nil_ ?_
      refine then_normal (hK19 _ _ _ _ ?_)
      refine cond_f (by kernel_rfl) ?_
      refine wp_skip ?_
      refine then_normal (hK18 _ _ _ _ ?_)
      refine reg_ ?_
      refine sq (o_pv (.agg #[(.slice a1_49 (((Bk i).take (i - (j + 1))).length) c1_49), (.slice a2_49 ((Xk (j + 1)).length) c2_49)]) rfl (x_loadN [(.slice a1_49 (((Bk i).take (i - (j + 1))).length) c1_49), (.slice a2_49 ((Xk (j + 1)).length) c2_49)] (by kernel_rfl) Try.isAgg26 Try.sizeOf26 (k10.cells' 0 rfl)) ?_)
      replace k5 := ((k5.evo0 e8).evo1 e9 (Nat.ne_of_lt l5_10))
      refine sq (o_store (o := 0) (v := (.agg #[(.slice a1_49 (((Bk i).take (i - (j + 1))).length) c1_49), (.slice a2_49 ((Xk (j + 1)).length) c2_49)])) [(.slice a1_49 (((Bk i).take (i - (j + 1))).length) c1_49), (.slice a2_49 ((Xk (j + 1)).length) c2_49)] rfl k5 (by kernel_rfl) (by kernel_rfl) Try.sizeOf26 rfl rfl rfl ?_)
      intro w10 e10 kn10
      have s10 := Step.one e10 (X := b10 :: Xl1) (List.mem_cons_of_mem _ (hXl1 _ (List.mem_cons_self)))
      clear k5; have k5 := kn10
      refine nil_ ?_
      refine blk_normal ?_
      refine then_normal (hK16 _ _ _ _ ?_)
      refine reg_ ?_
      refine sq (o_pv (.int .i64 ((j : Nat) : Int)) rfl (by kernel_rfl) ?_)
      refine sq (o_pv (.int .i64 ((j + 1 : Nat) : Int)) rfl (x_add (a := ((j : Nat) : Int)) (b := 1) ((j + 1 : Nat) : Int) (by kernel_rfl) (by kernel_rfl) (by omega) (wrap_i64 (by omega) (by omega))) ?_)
      refine sq (o_pv (.int .i64 ((j + 1 : Nat) : Int)) rfl (by kernel_rfl) ?_)
      refine nil_ ?_
      replace hb49 := (((hb49.step s8).step s9).step s10)
      replace hf49 := (((hf49.step s8).step s9).step s10)
      replace E0 := (Evo.then1 (Evo.then1 (Evo.then0 (Evo.then0 E0 e7) e8) e9 n10) e10 n5)
      replace hXo := ((((hXo.step s7).step s8).step s9).step s10)
      refine then_normal (hA1 _ _ _ ⟨m - (j + 1), [(9, (.int .i64 ((j + 1 : Nat) : Int)))], by omega, fit_mk (AgB.mix _ _ _) (by kernel_rfl) (vs_cons (by kernel_rfl) (vs_nil)), ?_⟩)
      exact ⟨(b10 :: Xl1), (j + 1), a1_49, c1_49, a2_49, c2_49, rfl, rfl, (Sub.of_cons (List.mem_cons_of_mem _ (hXl1 _ (List.mem_cons_self))) (Sub.trans (Sub.trans (Sub.trans (Sub.refl _) (Sub.cons _ _)) hXl1) (Sub.cons _ _))), E0, hXo, k5, hb49, hf49, (by omega)⟩
    ·
      refine wp_exit ?_
      refine then_exit ?_
      refine then_exit ?_
      refine blk_exit ?_
      refine then_normal (hK12 _ _ _ _ ?_)
      refine seq_ (fun K20 hK20 => ?_)
      refine reg_ ?_
      refine sq (o_pv (.agg #[(.slice ab (((Bk i).take (i - j)).length) cb), (.slice af ((Xk j).length) cf)]) rfl (x_loadN [(.slice ab (((Bk i).take (i - j)).length) cb), (.slice af ((Xk j).length) cf)] (by kernel_rfl) Try.isAgg26 Try.sizeOf26 (k5.cells' 0 rfl)) ?_)
      refine sq (o_call 7 #[(.agg #[(.slice ab (((Bk i).take (i - j)).length) cb), (.slice af ((Xk j).length) cf)]), (.string (ByteArray.mk #[110, 101, 119]))] rfl (x_call Try.call7 (by kernel_rfl)) (Do_w (Lb := (Bk i).take (i - j)) (M := (Bk i).take (i - j) ++ [(ByteArray.mk #[110, 101, 119])]) hXo (push_less _ _ (by rw [List.length_take]; omega)) hb (by decide) (by rw [List.length_take]; omega)) ?_)
      rintro _ w11 ⟨e11, a57, c57, rfl, h57⟩
      have s11 := Step.of0 Xl1 e11
      replace k5 := (k5.evo0 e11)
      refine sq (o_store (o := 0) (v := (.agg #[(.slice a57 (((Bk i).take (i - j) ++ [(ByteArray.mk #[110, 101, 119])]).length) c57), (.slice none 0 0)])) [(.slice a57 (((Bk i).take (i - j) ++ [(ByteArray.mk #[110, 101, 119])]).length) c57), (.slice none 0 0)] rfl k5 (by kernel_rfl) (by kernel_rfl) Try.sizeOf26 rfl rfl rfl ?_)
      intro w12 e12 kn12
      have s12 := Step.one e12 (X := Xl1) (hXl1 _ (List.mem_cons_self))
      clear k5; have k5 := kn12
      refine nil_ ?_
      refine then_normal (hK20 _ _ _ _ ?_)
      refine seq_ (fun K21 hK21 => ?_)
      refine reg_ ?_
      refine sq (o_pv (.agg #[(.slice a57 (((Bk i).take (i - j) ++ [(ByteArray.mk #[110, 101, 119])]).length) c57), (.slice none 0 0)]) rfl (x_loadN [(.slice a57 (((Bk i).take (i - j) ++ [(ByteArray.mk #[110, 101, 119])]).length) c57), (.slice none 0 0)] (by kernel_rfl) Try.isAgg26 Try.sizeOf26 (k5.cells' 0 rfl)) ?_)
      replace hXo := ((hXo.step s11).step s12)
      refine sq (o_call 9 #[(.agg #[(.slice a57 (((Bk i).take (i - j) ++ [(ByteArray.mk #[110, 101, 119])]).length) c57), (.slice none 0 0)]), (.string (ByteArray.mk #[121]))] rfl (x_call Try.call9 (by kernel_rfl)) (Redo_w0 (Lb := []) hXo rfl) ?_)
      rintro _ w13 ⟨e13, rfl⟩
      have s13 := Step.of0 Xl1 e13
      refine sq (o_pv (.tuple #[(.agg #[(.slice none 0 0), (.slice none 0 0)]), (.string (ByteArray.mk #[])), (.int .i64 10)]) rfl (by kernel_rfl) ?_)
      refine sq (o_pv (.agg #[(.slice none 0 0), (.slice none 0 0)]) rfl (by kernel_rfl) ?_)
      refine sq (o_pv (.string (ByteArray.mk #[])) rfl (by kernel_rfl) ?_)
      refine sq (o_pv (.int .i64 10) rfl (by kernel_rfl) ?_)
      refine sq (o_new [(.slice none 0 0), (.slice none 0 0)] 26 rfl (by kernel_rfl) ?_)
      replace k5 := (k5.evo0 e13)
      rintro b13 w14 hb13 e14 k13
      have n13 : w.heap.size ≤ b13 := Nat.le_trans (Evo.then0 (Evo.then1 (Evo.then0 E0 e11) e12 n5) e13).size (Nat.le_of_eq hb13.symm)
      have l5_13 : b5 < b13 := Nat.lt_of_lt_of_eq k5.lt hb13.symm
      have s14 := Step.fresh Xl1 e14 b13 (Nat.le_of_eq hb13.symm) k13.lt
      refine sq (o_store (o := 0) (v := (.agg #[(.slice none 0 0), (.slice none 0 0)])) [(.slice none 0 0), (.slice none 0 0)] rfl k13 (by kernel_rfl) (by kernel_rfl) Try.sizeOf26 rfl rfl rfl ?_)
      intro w15 e15 kn15
      have s15 := Step.one e15 (X := b13 :: Xl1) (List.mem_cons_self)
      clear k13; have k13 := kn15
      refine sq (o_pv (.string (ByteArray.mk #[])) rfl (by kernel_rfl) ?_)
      refine sq (o_pv (.int .i64 10) rfl (by kernel_rfl) ?_)
      refine nil_ ?_
      refine then_normal (hK21 _ _ _ _ ?_)
      refine seq_ (fun K22 hK22 => ?_)
      refine reg_ ?_
      replace k5 := ((k5.evo0 e14).evo1 e15 (Nat.ne_of_lt l5_13))
      refine sq (o_pv (.agg #[(.slice a57 (((Bk i).take (i - j) ++ [(ByteArray.mk #[110, 101, 119])]).length) c57), (.slice none 0 0)]) rfl (x_loadN [(.slice a57 (((Bk i).take (i - j) ++ [(ByteArray.mk #[110, 101, 119])]).length) c57), (.slice none 0 0)] (by kernel_rfl) Try.isAgg26 Try.sizeOf26 (k5.cells' 0 rfl)) ?_)
      replace h57 := ((((h57.step s12).step s13).step s14).step s15)
      replace hXo := (((hXo.step s13).step s14).step s15)
      refine sq (o_call 8 #[(.agg #[(.slice a57 (((Bk i).take (i - j) ++ [(ByteArray.mk #[110, 101, 119])]).length) c57), (.slice none 0 0)]), (.string (ByteArray.mk #[122]))] rfl (x_call Try.call8 (by kernel_rfl)) (Undo_w (Lb := (Bk i).take (i - j) ++ [(ByteArray.mk #[110, 101, 119])]) (Lf := []) (K := (Bk i).take (i - j)) (x := (ByteArray.mk #[110, 101, 119])) (M := [(ByteArray.mk #[122])]) hXo rfl rfl h57 Sl.nil (by decide) (by first | (rw [List.length_take]; omega) | (simp; done)) (by first | (rw [List.length_take]; omega) | (simp; done))) ?_)
      rintro _ w16 ⟨e16, a1_66, c1_66, a2_66, c2_66, rfl, hb66, hf66⟩
      have s16 := Step.of0 (b13 :: Xl1) e16
      refine sq (o_pv (.tuple #[(.agg #[(.slice a1_66 (((Bk i).take (i - j)).length) c1_66), (.slice a2_66 (([(ByteArray.mk #[122])]).length) c2_66)]), (.string (ByteArray.mk #[110, 101, 119])), (.int .i64 0)]) rfl (by kernel_rfl) ?_)
      refine sq (o_pv (.agg #[(.slice a1_66 (((Bk i).take (i - j)).length) c1_66), (.slice a2_66 (([(ByteArray.mk #[122])]).length) c2_66)]) rfl (by kernel_rfl) ?_)
      refine sq (o_pv (.string (ByteArray.mk #[110, 101, 119])) rfl (by kernel_rfl) ?_)
      refine sq (o_pv (.int .i64 0) rfl (by kernel_rfl) ?_)
      refine sq (o_new [(.slice none 0 0), (.slice none 0 0)] 26 rfl (by kernel_rfl) ?_)
      replace k5 := (k5.evo0 e16)
      replace k13 := (k13.evo0 e16)
      rintro b16 w17 hb16 e17 k16
      have n16 : w.heap.size ≤ b16 := Nat.le_trans (Evo.then0 (Evo.then1 (Evo.then0 (Evo.then0 (Evo.then1 (Evo.then0 E0 e11) e12 n5) e13) e14) e15 n13) e16).size (Nat.le_of_eq hb16.symm)
      have l5_16 : b5 < b16 := Nat.lt_of_lt_of_eq k5.lt hb16.symm
      have l13_16 : b13 < b16 := Nat.lt_of_lt_of_eq k13.lt hb16.symm
      have s17 := Step.fresh (b13 :: Xl1) e17 b16 (Nat.le_of_eq hb16.symm) k16.lt
      refine sq (o_store (o := 0) (v := (.agg #[(.slice a1_66 (((Bk i).take (i - j)).length) c1_66), (.slice a2_66 (([(ByteArray.mk #[122])]).length) c2_66)])) [(.slice a1_66 (((Bk i).take (i - j)).length) c1_66), (.slice a2_66 (([(ByteArray.mk #[122])]).length) c2_66)] rfl k16 (by kernel_rfl) (by kernel_rfl) Try.sizeOf26 rfl rfl rfl ?_)
      intro w18 e18 kn18
      have s18 := Step.one e18 (X := b16 :: b13 :: Xl1) (List.mem_cons_self)
      clear k16; have k16 := kn18
      refine sq (o_pv (.string (ByteArray.mk #[110, 101, 119])) rfl (by kernel_rfl) ?_)
      refine sq (o_pv (.int .i64 0) rfl (by kernel_rfl) ?_)
      refine nil_ ?_
      refine then_normal (hK22 _ _ _ _ ?_)
      refine seq_ (fun K23 hK23 => ?_)
      refine reg_ ?_
      refine sq (o_pv (.int .i64 10) rfl (by kernel_rfl) ?_)
      refine sq (o_pv (.bool true) rfl (x_dt (p := (10 : Int) = 10) (by kernel_rfl) (by decide)) ?_)
      refine sq (o_pv (.bool true) rfl (by kernel_rfl) ?_)
      refine sq (o_pv (.int .i64 0) (by kernel_rfl) (by kernel_rfl) ?_)
      refine sq (o_pv (.bool true) (by kernel_rfl) (x_dt (p := (0 : Int) = 0) (by kernel_rfl) (by decide)) ?_)
      refine sq (o_pv (.bool true) rfl (by kernel_rfl) ?_)
      refine sq (o_pv (.bool true) rfl (by kernel_rfl) ?_)
      refine sq (o_pv (.string (ByteArray.mk #[110, 101, 119])) (by kernel_rfl) (by kernel_rfl) ?_)
      refine sq (o_pv (.bool true) (by kernel_rfl) (x_dt (p := ((ByteArray.mk #[110, 101, 119]) : ByteArray) = (ByteArray.mk #[110, 101, 119])) (x_streq (by kernel_rfl) (by kernel_rfl)) (by decide)) ?_)
      refine sq (o_pv (.bool true) rfl (by kernel_rfl) ?_)
      refine sq (o_pv (.bool true) rfl (by kernel_rfl) ?_)
      refine sq (o_pv (.pointer (some ⟨b5, 0, none⟩)) (by kernel_rfl) (by kernel_rfl) ?_)
      replace k5 := ((k5.evo0 e17).evo1 e18 (Nat.ne_of_lt l5_16))
      refine sq (o_pv (.slice a57 (((Bk i).take (i - j) ++ [(ByteArray.mk #[110, 101, 119])]).length) c57) (by kernel_rfl) (x_load1 (by kernel_rfl) Try.isAgg24 (k5.cell' 0 rfl)) ?_)
      refine sq (o_pv (.int .i64 ((((Bk i).take (i - j) ++ [(ByteArray.mk #[110, 101, 119])]).length : Nat) : Int)) (by kernel_rfl) (by kernel_rfl) ?_)
      refine sq (o_pv (.int .i64 ((k : Nat) : Int)) (by kernel_rfl) (by kernel_rfl) ?_)
      refine sq (o_pv (.int .i64 ((m : Nat) : Int)) (by kernel_rfl) (by kernel_rfl) ?_)
      refine sq (o_pv (.int .i64 ((k - m : Nat) : Int)) (by kernel_rfl) (x_sub (a := ((k : Nat) : Int)) (b := ((m : Nat) : Int)) ((k - m : Nat) : Int) (by kernel_rfl) (by kernel_rfl) (by omega) (wrap_i64 (by omega) (by omega))) ?_)
      refine sq (o_pv (.int .i64 ((k - m + 1 : Nat) : Int)) (by kernel_rfl) (x_add (a := ((k - m : Nat) : Int)) (b := 1) ((k - m + 1 : Nat) : Int) (by kernel_rfl) (by kernel_rfl) (by omega) (wrap_i64 (by omega) (by omega))) ?_)
      refine sq (o_pv (.bool true) (by kernel_rfl) (x_dt (p := ((((Bk i).take (i - j) ++ [(ByteArray.mk #[110, 101, 119])]).length : Nat) : Int) = ((k - m + 1 : Nat) : Int)) (by kernel_rfl) (by rw [List.length_append, List.length_take, Bk_len, List.length_singleton]; omega)) ?_)
      refine sq (o_pv (.bool true) rfl (by kernel_rfl) ?_)
      refine sq (o_pv (.bool true) rfl (by kernel_rfl) ?_)
      refine sq (o_pv (.pointer (some ⟨b5, 1, none⟩)) (by kernel_rfl) (by kernel_rfl) ?_)
      refine sq (o_pv (.slice none 0 0) (by kernel_rfl) (x_load1 (by kernel_rfl) Try.isAgg24 (k5.cell' 1 rfl)) ?_)
      refine sq (o_pv (.int .i64 0) (by kernel_rfl) (by kernel_rfl) ?_)
      refine sq (o_pv (.bool true) (by kernel_rfl) (x_dt (p := (0 : Int) = 0) (by kernel_rfl) (by decide)) ?_)
      refine sq (o_pv (.bool true) rfl (by kernel_rfl) ?_)
      refine sq (o_pv (.bool true) rfl (by kernel_rfl) ?_)
      refine nil_ ?_
      refine then_normal (hK23 _ _ _ _ ?_)
      refine wp_ret ?_
      refine end_ret hQ (.bool true) (by kernel_rfl) ?_
      replace E0 := (Evo.then1 (Evo.then0 (Evo.then0 (Evo.then1 (Evo.then0 (Evo.then0 (Evo.then1 (Evo.then0 E0 e11) e12 n5) e13) e14) e15 n13) e16) e17) e18 n16)
      exact ⟨E0, rfl⟩

namespace logNew
open Go.ChangeShapes Go.WideShapes Go.ChangeAt Go.RowKit
open Go.ChangeMaps (open_string shut_string)
theorem own : ownKnob Try.prog.godebug = none := by kernel_rfl
theorem laidOut : laidOutB Try.prog = true := by kernel_rfl
set_option maxRecDepth 100000 in
set_option maxHeartbeats 1000000 in
theorem lifted (os : Os) (started : os.Started) (H : Type) (enc : TypeId × Value → H) :
    ReturnsInHanded {} Try.checked os 5 .any (Rows.logNewSpec.pre6 enc Try.prog Try.f5 Rows.logNewRow.domain false) (Rows.logNewSpec.post enc Try.prog Try.f5 false true false false) := by
  refine returnsInHanded_of_change (C := Try.checked) own started (by kernel_rfl) Try.func5
    (ChangeSpec.witness6 (enc := enc) (C := Try.checked) false ⟨#[], #[.int .u8 0, .int .u8 0], []⟩ 8 (by kernel_rfl) (by kernel_rfl) (by kernel_rfl) (by kernel_rfl)) ?_
  intro W base args ds gs before hval0 hW hcnd _
  have hval : ∀ (j : Nat) t v, Try.f5.params[j]? = some t → args[j]? = some v → Value.okWide Try.prog W .any base t v := hval0
  have hW' := hW
  obtain ⟨p, q, hA0, hV, rfl, hfz, hnd⟩ := hW
  have hA : DataW.TrodAll enc Try.prog W 0 (fun _ => true) true Try.f5.params.toList args.toList ds p := hA0
  rw [Try.params5] at hA hval
  obtain ⟨v0, vs0, d0, ds0, p0, q0, hargs, rfl, rfl, h0, r0⟩ := trodAll_cons hA
  obtain ⟨v1, vs1, d1, ds1, p1, q1, rfl, rfl, rfl, h1, r1⟩ := trodAll_cons r0
  obtain ⟨rfl, rfl, rfl⟩ := trodAll_nil r1
  obtain rfl : args = #[v0, v1] := by cases args; simp_all
  obtain ⟨rfl, rfl⟩ := trodVars_none hV
  have k0 := h0
  have lt0 : ∀ x ∈ p0, x.block < W.heap.size := by obtain ⟨m, hm⟩ := k0; exact DataW.trod_lt m _ _ _ hm
  obtain ⟨n, rfl, _, _, wf0⟩ := open_int Try.underlying5 (hval 0 5 v0 rfl rfl) h0
  have h_n : inR .u8 n := wf_inR wf0
  obtain ⟨n, rfl⟩ := Int.eq_ofNat_of_zero_le (inR_u8.1 h_n).1
  have k1 := h1
  have lt1 : ∀ x ∈ p1, x.block < W.heap.size := by obtain ⟨m, hm⟩ := k1; exact DataW.trod_lt m _ _ _ hm
  obtain ⟨bk, rfl, _, _, wf1⟩ := open_int Try.underlying5 (hval 1 5 v1 rfl rfl) h1
  have h_bk : inR .u8 bk := wf_inR wf1
  obtain ⟨bk, rfl⟩ := Int.eq_ofNat_of_zero_le (inR_u8.1 h_bk).1
  clear hA0 hval0
  refine (logNew_w (X := []) (Old.nil _) (by have := (inR_u8.1 h_n).2; omega) (by have := (inR_u8.1 h_bk).2; omega)).mono fun e W' hq => ?_
  obtain ⟨v, he, hE, hv⟩ := hq
  subst he; subst hv
  have bel := hE.below
  exact ⟨_, rfl, _, _, _, [], _, [], hW', trodAll_mk1 (shut_bool Try.underlying4 _), (trodAll_cons_mk (Below.trod laidOut (by kernel_rfl) (of_decide_eq_true (by kernel_rfl)) k0 bel lt0) (trodAll_cons_mk (Below.trod laidOut (by kernel_rfl) (of_decide_eq_true (by kernel_rfl)) k1 bel lt1) trodAll_mk0)), rfl, bel.frame _, fun h => by cases h⟩
theorem over : Rows.logNewRow.holds Try.pinned (OpenSpec.ofChange Rows.logNewSpec) :=
  OpenClaim.holds_of_wide 5 Try.f5 rfl rfl rfl rfl rfl rfl rfl ⟨rfl, rfl, rfl, rfl, rfl⟩ rfl rfl rfl rfl rfl (by kernel_rfl) Try.func5 (by kernel_rfl)
    (of_decide_eq_true (by kernel_rfl)) (by unfold Func.isWrapper; first | (rw [if_pos (by decide +kernel)]; kernel_rfl) | (rw [if_neg (by decide +kernel)]; exact ⟨rfl, rfl⟩))
    (fun os started H enc _ => lifted os started H enc)
theorem proved : Rows.LogNewSaid := over
#print axioms proved
end logNew
end Go.Proofs.Ytjbdamojffgmaaa
