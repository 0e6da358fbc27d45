/- For any number of things done, at most 99, as many as may be undone come back one by one, and are redone: the law LogBack answers true. Conditions: none beyond the statement. -/
import Derived.Test.YtjbdamojffgmaaaRows
import Derived.Test.YtjbdamojffgmaaaW1
import Derived.Test.YtjbdamojffgmaaaRead
import Derived.ProofKit
import Derived.OpenShut
import Derived.ShutString
import Derived.ChangeOld
import Derived.Below
namespace Go.Proofs.Ytjbdamojffgmaaa
open Go

/-- One byte as a text. -/
def bs1 (i : Nat) : ByteArray := strOfNums [(i : Int)]
theorem bs1_len (i : Nat) : (bs1 i).size ≤ maxLen := by unfold bs1; rw [strOfNums_size]; show 1 ≤ maxLen; decide
/-- What can be undone behind k things done. -/
def Bk (k : Nat) : List ByteArray := ((List.range k).map bs1).drop (k - 64)
theorem Bk_len (k : Nat) : (Bk k).length = min k 64 := by unfold Bk; rw [List.length_drop, List.length_map, List.length_range]; omega
theorem push_Bk (i : Nat) : pushL (Bk i) (bs1 i) = Bk (i + 1) := by
  unfold pushL
  rw [Bk_len]
  unfold Bk
  rw [List.range_succ, List.map_append, List.map_cons, List.map_nil, ← List.drop_append_of_le_length (by simp), List.drop_drop]
  congr 1
  omega
def Fk (k j : Nat) : List ByteArray := (List.range j).map fun t => bs1 (k - t)
theorem Fk_len (k j : Nat) : (Fk k j).length = j := by simp [Fk]
theorem Fk_succ (k j : Nat) : Fk k j ++ [bs1 (k - j)] = Fk k (j + 1) := by unfold Fk; rw [List.range_succ, List.map_append]; rfl
theorem Fk_last (k : Nat) {m r : Nat} (h : r < m) : Fk k (m - r) = Fk k (m - (r + 1)) ++ [bs1 (k - (m - (r + 1)))] := by
  rw [Fk_succ, show m - (r + 1) + 1 = m - r from by omega]
def Gk (k m r : Nat) : List ByteArray := (List.range r).map fun t => bs1 (k - m + t)
theorem Gk_len (k m r : Nat) : (Gk k m r).length = r := by simp [Gk]
theorem Gk_succ (k m r : Nat) (h : r < 64) : pushL (Gk k m r) (bs1 (k - m + r)) = Gk k m (r + 1) := by
  unfold pushL
  rw [Gk_len, show r + 1 - 64 = 0 from by omega, List.drop_zero]
  unfold Gk
  rw [List.range_succ, List.map_append]; rfl
theorem Bk_last {k m j : Nat} (hm : m = min k 64) (h : j < m) : (Bk k).take (m - j) = (Bk k).take (m - (j + 1)) ++ [bs1 (k - (j + 1))] := by
  have hl := Bk_len k
  have h1 : m - (j + 1) < (Bk k).length := by omega
  have h2 := List.take_succ_eq_append_getElem h1
  rw [show m - (j + 1) + 1 = m - j from by omega] at h2
  rw [h2]
  congr 2
  simp [Bk]
  congr 1
  omega
set_option maxRecDepth 20000 in
set_option maxHeartbeats 4000000 in
theorem logBack_w {X : List Nat} {w : World} {n : Nat} (hX0 : Old X w) (hn : n ≤ 255) :
    Calls Try.prog 4 #[(.int .u8 ((n : Nat) : Int))] w (Ret fun v w' => Evo [] w w' ∧ v = .bool true) := by
  obtain ⟨k, hk⟩ : ∃ k, k = n % 100 := ⟨_, rfl⟩
  have hk2 : k ≤ 99 := by omega
  have hXo := hX0
  have E0 : Evo [] w w := RB.refl _ _ _
  refine enter_ Try.func4 rfl 118 [(0, (.int .u8 ((n : Nat) : Int)))] (by kernel_rfl) (fun Q hQ => ?_)
  refine seq_ (fun K1 hK1 => ?_)
  refine reg_ ?_
  refine sq (o_pv (.bool false) rfl (by kernel_rfl) ?_)
  refine nil_ ?_
  refine then_normal (hK1 _ _ _ _ ?_)
  refine seq_ (fun K2 hK2 => ?_)
  refine seq_ (fun K3 hK3 => ?_)
  refine reg_ ?_
  refine sq (o_call 6 #[] rfl (x_call Try.call6 (by kernel_rfl)) (known_w hXo) ?_)
  rintro _ w1 ⟨e1, rfl⟩
  have s1 := Step.of0 X e1
  refine sq (o_pv (.bool false) rfl (by kernel_rfl) ?_)
  refine nil_ ?_
  refine then_normal (hK3 _ _ _ _ ?_)
  refine cond_f (by kernel_rfl) ?_
  refine wp_skip ?_
  refine then_normal (hK2 _ _ _ _ ?_)
  refine seq_ (fun K4 hK4 => ?_)
  refine reg_ ?_
  refine sq (o_pv (.agg #[(.slice none 0 0), (.slice none 0 0)]) rfl (by kernel_rfl) ?_)
  refine sq (o_new [(.slice none 0 0), (.slice none 0 0)] 26 rfl (by kernel_rfl) ?_)
  rintro b3 w2 hb3 e2 k3
  have n3 : w.heap.size ≤ b3 := Nat.le_trans (Evo.then0 E0 e1).size (Nat.le_of_eq hb3.symm)
  have s2 := Step.fresh X e2 b3 (Nat.le_of_eq hb3.symm) k3.lt
  refine sq (o_store (o := 0) (v := (.agg #[(.slice none 0 0), (.slice none 0 0)])) [(.slice none 0 0), (.slice none 0 0)] rfl k3 (by kernel_rfl) (by kernel_rfl) Try.sizeOf26 rfl rfl rfl ?_)
  intro w3 e3 kn3
  have s3 := Step.one e3 (X := b3 :: X) (List.mem_cons_self)
  clear k3; have k3 := kn3
  refine nil_ ?_
  refine then_normal (hK4 _ _ _ _ ?_)
  refine seq_ (fun K5 hK5 => ?_)
  refine reg_ ?_
  refine sq (o_pv (.int .u8 ((n : Nat) : Int)) rfl (by kernel_rfl) ?_)
  refine sq (o_pv (.int .u8 ((k : Nat) : Int)) rfl (x_rem (a := ((n : Nat) : Int)) (b := 100) ((k : Nat) : Int) (by kernel_rfl) (by kernel_rfl) (by omega) (by omega) (by omega)) ?_)
  refine sq (o_pv (.int .i64 ((k : Nat) : Int)) rfl (x_conv (k := .u8) Try.underlying5 Try.underlying3 (by kernel_rfl) (wrap_i64 (by omega) (by omega))) ?_)
  refine sq (o_pv (.int .i64 ((k : Nat) : Int)) rfl (by kernel_rfl) ?_)
  refine nil_ ?_
  refine then_normal (hK5 _ _ _ _ ?_)
  refine seq_ (fun K6 hK6 => ?_)
  refine seq_ (fun K7 hK7 => ?_)
  refine reg_ ?_
  refine sq (o_pv (.int .i64 0) rfl (by kernel_rfl) ?_)
  refine nil_ ?_
  refine then_normal (hK7 _ _ _ _ ?_)
  refine wp_block ?_
  replace E0 := (Evo.then1 (Evo.then0 (Evo.then0 E0 e1) e2) e3 n3)
  replace hXo := (((hXo.step s1).step s2).step s3)
  refine loop_ 68685922336 (fun kq lq wl0 => ∃ Xl0 : List Nat, ∃ i : Nat, ∃ ab : Option Addr, ∃ cb : Nat, (lq = [(5, (.int .i64 ((i : Nat) : Int)))]) ∧ (kq = k - i) ∧ (Sub (b3 :: X) Xl0) ∧ (Evo [] w wl0) ∧ (Old Xl0 wl0) ∧ (Blk wl0 b3 [(.slice ab ((Bk i).length) cb), (.slice none 0 0)] 26) ∧ (Sl rStr Xl0 wl0 ab cb (Bk i)) ∧ (i ≤ k)) (k - 0) [(5, (.int .i64 0))] (vs_cons (by kernel_rfl) (vs_nil)) ⟨(b3 :: X), 0, none, 0, rfl, rfl, (Sub.of_cons (List.mem_cons_self) (Sub.trans (Sub.refl _) (Sub.cons _ _))), E0, hXo, k3, Sl.nil, (by omega)⟩ ?_
  rintro k0 l0 wl0 g0 ⟨Xl0, i, ab, cb, rfl, hk0, hXl0, E0, hXo, k3, hb, hi⟩ Kl0 hA0
  refine seq_ (fun K8 hK8 => ?_)
  refine seq_ (fun K9 hK9 => ?_)
  refine reg_ ?_
  refine sq (o_pv (.int .i64 ((i : Nat) : Int)) rfl (by kernel_rfl) ?_)
  refine sq (o_pv (.int .i64 ((k : Nat) : Int)) rfl (by kernel_rfl) ?_)
  refine sq (o_pv (.bool (decide (((i : Nat) : Int) < ((k : Nat) : Int)))) rfl (by kernel_rfl) ?_)
  refine nil_ ?_
  refine then_normal (hK9 _ _ _ _ ?_)
  refine cond_d (((i : Nat) : Int) < ((k : Nat) : Int)) (by kernel_rfl) (fun h27 => ?_) (fun h27 => ?_)
  ·
    refine wp_skip ?_
    refine then_normal (hK8 _ _ _ _ ?_)
    refine seq_ (fun K10 hK10 => ?_)
    refine wp_block ?_
    refine reg_ ?_
    refine sq (o_pv (.agg #[(.slice ab ((Bk i).length) cb), (.slice none 0 0)]) rfl (x_loadN [(.slice ab ((Bk i).length) cb), (.slice none 0 0)] (by kernel_rfl) Try.isAgg26 Try.sizeOf26 (k3.cells' 0 rfl)) ?_)
    refine sq (o_pv (.int .i64 ((i : Nat) : Int)) rfl (by kernel_rfl) ?_)
    refine sq (o_pv (.int .u8 ((i : Nat) : Int)) rfl (x_conv (k := .i64) Try.underlying3 Try.underlying5 (by kernel_rfl) (wrap_u8 (by omega) (by omega))) ?_)
    refine sq (o_row [(.int .u8 ((i : Nat) : Int))] 5 1 rfl (by kernel_rfl) ?_)
    rintro b33 w4 hb33 e4 k33
    have n33 : w.heap.size ≤ b33 := Nat.le_trans E0.size (Nat.le_of_eq hb33.symm)
    have l3_33 : b3 < b33 := Nat.lt_of_lt_of_eq k3.lt hb33.symm
    have s4 := Step.fresh Xl0 e4 b33 (Nat.le_of_eq hb33.symm) k33.lt
    refine sq (o_pv (.string (bs1 i)) rfl (x_b2s (b := b33) (o := 0) (len := 1) (c := 1) [((i : Nat) : Int)] Try.underlying36 Try.underlying5 Try.underlying9 (by kernel_rfl) rfl (k33.cells' 0 rfl)) ?_)
    replace hb := (hb.step s4)
    replace hXo := (hXo.step s4)
    refine sq (o_call 7 #[(.agg #[(.slice ab ((Bk i).length) cb), (.slice none 0 0)]), (.string (bs1 i))] rfl (x_call Try.call7 (by kernel_rfl)) (Do_w (Lb := Bk i) (M := Bk (i + 1)) hXo (push_Bk i) hb (bs1_len _) (by rw [Bk_len]; omega)) ?_)
    rintro _ w5 ⟨e5, a35, c35, rfl, h35⟩
    have s5 := Step.of0 (b33 :: Xl0) e5
    replace k3 := ((k3.evo0 e4).evo0 e5)
    refine sq (o_store (o := 0) (v := (.agg #[(.slice a35 ((Bk (i + 1)).length) c35), (.slice none 0 0)])) [(.slice a35 ((Bk (i + 1)).length) c35), (.slice none 0 0)] rfl k3 (by kernel_rfl) (by kernel_rfl) Try.sizeOf26 rfl rfl rfl ?_)
    intro w6 e6 kn6
    have s6 := Step.one e6 (X := b33 :: Xl0) (List.mem_cons_of_mem _ (hXl0 _ (List.mem_cons_self)))
    clear k3; have k3 := kn6
    refine nil_ ?_
    refine blk_normal ?_
    refine then_normal (hK10 _ _ _ _ ?_)
    refine reg_ ?_
    refine sq (o_pv (.int .i64 ((i : Nat) : Int)) rfl (by kernel_rfl) ?_)
    refine sq (o_pv (.int .i64 ((i + 1 : Nat) : Int)) rfl (x_add (a := ((i : Nat) : Int)) (b := 1) ((i + 1 : Nat) : Int) (by kernel_rfl) (by kernel_rfl) (by omega) (wrap_i64 (by omega) (by omega))) ?_)
    refine sq (o_pv (.int .i64 ((i + 1 : Nat) : Int)) rfl (by kernel_rfl) ?_)
    refine nil_ ?_
    replace h35 := (h35.step s6)
    replace E0 := (Evo.then1 (Evo.then0 (Evo.then0 E0 e4) e5) e6 n3)
    replace hXo := ((hXo.step s5).step s6)
    refine then_normal (hA0 _ _ _ ⟨k - (i + 1), [(5, (.int .i64 ((i + 1 : Nat) : Int)))], by omega, fit_mk (AgB.mix _ _ _) (by kernel_rfl) (vs_cons (by kernel_rfl) (vs_nil)), ?_⟩)
    exact ⟨(b33 :: Xl0), (i + 1), a35, c35, rfl, rfl, (Sub.of_cons (List.mem_cons_of_mem _ (hXl0 _ (List.mem_cons_self))) (Sub.trans (Sub.trans (Sub.trans (Sub.refl _) (Sub.cons _ _)) hXl0) (Sub.cons _ _))), E0, hXo, k3, h35, (by omega)⟩
  ·
    refine wp_exit ?_
    refine then_exit ?_
    refine then_exit ?_
    refine blk_exit ?_
    refine then_normal (hK6 _ _ _ _ ?_)
    refine seq_ (fun K11 hK11 => ?_)
    refine reg_ ?_
    have hik : i = k := by omega
    refine sq (o_pv (.int .i64 ((k : Nat) : Int)) rfl (by kernel_rfl) ?_)
    refine sq (o_pv (.int .u8 ((k : Nat) : Int)) rfl (x_conv (k := .i64) Try.underlying3 Try.underlying5 (by kernel_rfl) (wrap_u8 (by omega) (by omega))) ?_)
    refine sq (o_row [(.int .u8 ((k : Nat) : Int))] 5 1 rfl (by kernel_rfl) ?_)
    rintro b38 w7 hb38 e7 k38
    have n38 : w.heap.size ≤ b38 := Nat.le_trans E0.size (Nat.le_of_eq hb38.symm)
    have l3_38 : b3 < b38 := Nat.lt_of_lt_of_eq k3.lt hb38.symm
    have s7 := Step.fresh Xl0 e7 b38 (Nat.le_of_eq hb38.symm) k38.lt
    refine sq (o_pv (.string (bs1 k)) rfl (x_b2s (b := b38) (o := 0) (len := 1) (c := 1) [((k : Nat) : Int)] Try.underlying36 Try.underlying5 Try.underlying9 (by kernel_rfl) rfl (k38.cells' 0 rfl)) ?_)
    refine sq (o_pv (.string (bs1 k)) rfl (by kernel_rfl) ?_)
    refine nil_ ?_
    refine then_normal (hK11 _ _ _ _ ?_)
    refine seq_ (fun K12 hK12 => ?_)
    refine reg_ ?_
    refine sq (o_pv (.int .i64 ((k : Nat) : Int)) rfl (by kernel_rfl) ?_)
    refine sq (o_pv (.int .i64 ((k : Nat) : Int)) rfl (by kernel_rfl) ?_)
    refine nil_ ?_
    refine then_normal (hK12 _ _ _ _ ?_)
    refine seq_ (fun K13 hK13 => ?_)
    refine seq_ (fun K14 hK14 => ?_)
    refine reg_ ?_
    refine sq (o_pv (.int .i64 ((k : Nat) : Int)) rfl (by kernel_rfl) ?_)
    refine sq (o_pv (.bool (decide (((k : Nat) : Int) > 64))) rfl (by kernel_rfl) ?_)
    refine nil_ ?_
    refine then_normal (hK14 _ _ _ _ ?_)
    replace E0 := (Evo.then0 E0 e7)
    replace hXo := (hXo.step s7)
    replace k3 := (k3.evo0 e7)
    replace hb := (hb.step s7)
    refine ground_ ?_
    refine join_ 128 (fun lq wj1 => ∃ Xj1 : List Nat, ∃ m : Nat, (lq = [(7, (.int .i64 ((m : Nat) : Int)))]) ∧ (Sub (b3 :: X) Xj1) ∧ (Evo [] w wj1) ∧ (Old Xj1 wj1) ∧ (Blk wj1 b3 [(.slice ab ((Bk i).length) cb), (.slice none 0 0)] 26) ∧ (Sl rStr Xj1 wj1 ab cb (Bk i)) ∧ (m = min i 64)) (fun Kj1 hJ1 => ?_) ?_
    ·
      refine cond_d (((k : Nat) : Int) > 64) (by kernel_rfl) (fun h42 => ?_) (fun h42 => ?_)
      ·
        refine reg_ ?_
        refine sq (o_pv (.int .i64 64) rfl (by kernel_rfl) ?_)
        refine nil_ ?_
        refine then_normal (hJ1 _ _ _ ⟨[(7, (.int .i64 64))], fit_mk (fun _ _ => rfl) (by kernel_rfl) (vs_cons (by kernel_rfl) (vs_nil)), ?_⟩)
        exact ⟨(b38 :: Xl0), 64, rfl, (Sub.of_cons (List.mem_cons_of_mem _ (hXl0 _ (List.mem_cons_self))) (Sub.trans (Sub.trans (Sub.trans (Sub.refl _) (Sub.cons _ _)) hXl0) (Sub.cons _ _))), E0, hXo, k3, hb, (by omega)⟩
      ·
        refine wp_skip ?_
        refine then_normal (hJ1 _ _ _ ⟨[(7, (.int .i64 ((k : Nat) : Int)))], fit_mk (fun _ _ => rfl) (by kernel_rfl) (vs_cons (by kernel_rfl) (vs_nil)), ?_⟩)
        exact ⟨(b38 :: Xl0), k, rfl, (Sub.of_cons (List.mem_cons_of_mem _ (hXl0 _ (List.mem_cons_self))) (Sub.trans (Sub.trans (Sub.trans (Sub.refl _) (Sub.cons _ _)) hXl0) (Sub.cons _ _))), E0, hXo, k3, hb, (by omega)⟩
    ·
      rintro lj1 wj1 gj1 ⟨Xj1, m, rfl, hXj1, E0, hXo, k3, hb, hm⟩
      refine then_normal (hK13 _ _ _ _ ?_)
      refine seq_ (fun K15 hK15 => ?_)
      refine seq_ (fun K16 hK16 => ?_)
      refine reg_ ?_
      refine sq (o_pv (.int .i64 1) rfl (by kernel_rfl) ?_)
      refine nil_ ?_
      refine then_normal (hK16 _ _ _ _ ?_)
      refine wp_block ?_
      have eB : Bk i = (Bk i).take (m - 0) := by rw [List.take_of_length_le (by rw [Bk_len]; omega)]
      refine loop_ 590295801562612633412 (fun kq lq wl1 => ∃ Xl1 : List Nat, ∃ j : Nat, ∃ now : ByteArray, ∃ ab : Option Addr, ∃ cb : Nat, ∃ af : Option Addr, ∃ cf : Nat, (lq = [(8, (.int .i64 ((j + 1 : Nat) : Int))), (6, (.string now))]) ∧ (kq = m - j) ∧ (Sub (b3 :: X) Xl1) ∧ (Evo [] w wl1) ∧ (Old Xl1 wl1) ∧ (Blk wl1 b3 [(.slice ab (((Bk i).take (m - j)).length) cb), (.slice af ((Fk i j).length) cf)] 26) ∧ (Sl rStr Xl1 wl1 ab cb ((Bk i).take (m - j))) ∧ (Sl rStr Xl1 wl1 af cf (Fk i j)) ∧ (j ≤ m) ∧ (now = bs1 (i - j))) (m - 0) [(8, (.int .i64 1)), (6, (.string (bs1 k)))] (vs_cons (by kernel_rfl) (vs_cons (by kernel_rfl) (vs_nil))) ⟨Xj1, 0, (bs1 k), ab, cb, none, 0, rfl, rfl, (Sub.of_cons (hXj1 _ (List.mem_cons_self)) (Sub.trans (Sub.trans (Sub.refl _) (Sub.cons _ _)) hXj1)), E0, hXo, (by rw [← eB]; exact k3), (eB ▸ hb), Sl.nil, (Nat.zero_le _), (by rw [hik]; rfl)⟩ ?_
      rintro k1 l1 wl1 g1 ⟨Xl1, j, now, ab, cb, af, cf, rfl, hk1, hXl1, E0, hXo, k3, hb, hf, hj, hnow⟩ Kl1 hA1
      refine seq_ (fun K17 hK17 => ?_)
      refine seq_ (fun K18 hK18 => ?_)
      refine reg_ ?_
      refine sq (o_pv (.int .i64 ((j + 1 : Nat) : Int)) rfl (by kernel_rfl) ?_)
      refine sq (o_pv (.int .i64 ((m : Nat) : Int)) rfl (by kernel_rfl) ?_)
      refine sq (o_pv (.bool (decide (((j + 1 : Nat) : Int) ≤ ((m : Nat) : Int)))) rfl (by kernel_rfl) ?_)
      refine nil_ ?_
      refine then_normal (hK18 _ _ _ _ ?_)
      refine cond_d (((j + 1 : Nat) : Int) ≤ ((m : Nat) : Int)) (by kernel_rfl) (fun h45 => ?_) (fun h45 => ?_)
      ·
        refine wp_skip ?_
        refine then_normal (hK17 _ _ _ _ ?_)
        refine seq_ (fun K19 hK19 => ?_)
        refine wp_block ?_
        refine seq_ (fun K20 hK20 => ?_)
        refine reg_ ?_
        refine sq (o_pv (.agg #[(.slice ab (((Bk i).take (m - j)).length) cb), (.slice af ((Fk i j).length) cf)]) rfl (x_loadN [(.slice ab (((Bk i).take (m - j)).length) cb), (.slice af ((Fk i j).length) cf)] (by kernel_rfl) Try.isAgg26 Try.sizeOf26 (k3.cells' 0 rfl)) ?_)
        refine sq (o_pv (.string now) rfl (by kernel_rfl) ?_)
        refine sq (o_call 8 #[(.agg #[(.slice ab (((Bk i).take (m - j)).length) cb), (.slice af ((Fk i j).length) cf)]), (.string now)] rfl (x_call Try.call8 (by kernel_rfl)) (Undo_w (Lb := (Bk i).take (m - j)) (Lf := Fk i j) (K := (Bk i).take (m - (j + 1))) (x := (bs1 (i - (j + 1)))) (M := Fk i (j + 1)) hXo (Bk_last hm (by omega)) (by rw [hnow]; exact Fk_succ i j) hb hf (by rw [hnow]; exact bs1_len _) (by first | (rw [Fk_len]; omega) | (rw [List.length_take]; omega)) (by first | (rw [Fk_len]; omega) | (rw [List.length_take]; omega))) ?_)
        rintro _ w8 ⟨e8, a1_51, c1_51, a2_51, c2_51, rfl, hb51, hf51⟩
        have s8 := Step.of0 Xl1 e8
        refine sq (o_pv (.tuple #[(.agg #[(.slice a1_51 (((Bk i).take (m - (j + 1))).length) c1_51), (.slice a2_51 ((Fk i (j + 1)).length) c2_51)]), (.string (bs1 (i - (j + 1)))), (.int .i64 0)]) rfl (by kernel_rfl) ?_)
        refine sq (o_pv (.agg #[(.slice a1_51 (((Bk i).take (m - (j + 1))).length) c1_51), (.slice a2_51 ((Fk i (j + 1)).length) c2_51)]) rfl (by kernel_rfl) ?_)
        refine sq (o_pv (.string (bs1 (i - (j + 1)))) rfl (by kernel_rfl) ?_)
        refine sq (o_pv (.int .i64 0) rfl (by kernel_rfl) ?_)
        refine sq (o_new [(.slice none 0 0), (.slice none 0 0)] 26 rfl (by kernel_rfl) ?_)
        replace k3 := (k3.evo0 e8)
        rintro b9 w9 hb9 e9 k9
        have n9 : w.heap.size ≤ b9 := Nat.le_trans (Evo.then0 E0 e8).size (Nat.le_of_eq hb9.symm)
        have l3_9 : b3 < b9 := Nat.lt_of_lt_of_eq k3.lt hb9.symm
        have s9 := Step.fresh Xl1 e9 b9 (Nat.le_of_eq hb9.symm) k9.lt
        refine sq (o_store (o := 0) (v := (.agg #[(.slice a1_51 (((Bk i).take (m - (j + 1))).length) c1_51), (.slice a2_51 ((Fk i (j + 1)).length) c2_51)])) [(.slice a1_51 (((Bk i).take (m - (j + 1))).length) c1_51), (.slice a2_51 ((Fk i (j + 1)).length) c2_51)] rfl k9 (by kernel_rfl) (by kernel_rfl) Try.sizeOf26 rfl rfl rfl ?_)
        intro w10 e10 kn10
        have s10 := Step.one e10 (X := b9 :: Xl1) (List.mem_cons_self)
        clear k9; have k9 := kn10
        refine sq (o_pv (.string (bs1 (i - (j + 1)))) rfl (by kernel_rfl) ?_)
        refine sq (o_pv (.int .i64 0) rfl (by kernel_rfl) ?_)
        refine nil_ ?_
        refine then_normal (hK20 _ _ _ _ ?_)
        refine seq_ (fun K21 hK21 => ?_)
        refine seq_ (fun K22 hK22 => ?_)
        refine reg_ ?_
        refine sq (o_pv (.int .i64 0) rfl (by kernel_rfl) ?_)
        refine sq (o_pv (.bool false) rfl (x_ndf (p := (0 : Int) = 0) (by kernel_rfl) (by decide)) ?_)
        refine sq (o_pv (.bool false) rfl (by kernel_rfl) ?_)
        refine sq (o_pv (.string (bs1 (i - (j + 1)))) (by kernel_rfl) (by kernel_rfl) ?_)
        refine sq (o_pv (.int .i64 ((k : Nat) : Int)) (by kernel_rfl) (by kernel_rfl) ?_)
        refine sq (o_pv (.int .i64 ((j + 1 : Nat) : Int)) (by kernel_rfl) (by kernel_rfl) ?_)
        refine sq (o_pv (.int .i64 ((i - (j + 1) : Nat) : Int)) (by kernel_rfl) (x_sub (a := ((k : Nat) : Int)) (b := ((j + 1 : Nat) : Int)) ((i - (j + 1) : Nat) : Int) (by kernel_rfl) (by kernel_rfl) (by omega) (wrap_i64 (by omega) (by omega))) ?_)
        refine sq (o_pv (.int .u8 ((i - (j + 1) : Nat) : Int)) (by kernel_rfl) (x_conv (k := .i64) Try.underlying3 Try.underlying5 (by kernel_rfl) (wrap_u8 (by omega) (by omega))) ?_)
        refine sq (o_row [(.int .u8 ((i - (j + 1) : Nat) : Int))] 5 1 (by kernel_rfl) (by kernel_rfl) ?_)
        replace k3 := ((k3.evo0 e9).evo1 e10 (Nat.ne_of_lt l3_9))
        rintro b63 w11 hb63 e11 k63
        have n63 : w.heap.size ≤ b63 := Nat.le_trans (Evo.then1 (Evo.then0 (Evo.then0 E0 e8) e9) e10 n9).size (Nat.le_of_eq hb63.symm)
        have l3_63 : b3 < b63 := Nat.lt_of_lt_of_eq k3.lt hb63.symm
        have l9_63 : b9 < b63 := Nat.lt_of_lt_of_eq k9.lt hb63.symm
        have s11 := Step.fresh (b9 :: Xl1) e11 b63 (Nat.le_of_eq hb63.symm) k63.lt
        refine sq (o_pv (.string (bs1 (i - (j + 1)))) (by kernel_rfl) (x_b2s (b := b63) (o := 0) (len := 1) (c := 1) [((i - (j + 1) : Nat) : Int)] Try.underlying36 Try.underlying5 Try.underlying9 (by kernel_rfl) rfl (k63.cells' 0 rfl)) ?_)
        refine sq (o_pv (.bool false) (by kernel_rfl) (x_ndf (p := ((bs1 (i - (j + 1))) : ByteArray) = (bs1 (i - (j + 1)))) (x_strne (by kernel_rfl) (by kernel_rfl)) rfl) ?_)
        refine sq (o_pv (.bool false) rfl (by kernel_rfl) ?_)
        refine nil_ ?_
        refine then_normal (hK22 _ _ _ _ ?_)
        refine cond_f (by kernel_rfl) ?_
        refine wp_skip ?_
        refine then_normal (hK21 _ _ _ _ ?_)
        refine seq_ (fun K23 hK23 => ?_)
        refine reg_ ?_
        replace k9 := (k9.evo0 e11)
        refine sq (o_pv (.agg #[(.slice a1_51 (((Bk i).take (m - (j + 1))).length) c1_51), (.slice a2_51 ((Fk i (j + 1)).length) c2_51)]) rfl (x_loadN [(.slice a1_51 (((Bk i).take (m - (j + 1))).length) c1_51), (.slice a2_51 ((Fk i (j + 1)).length) c2_51)] (by kernel_rfl) Try.isAgg26 Try.sizeOf26 (k9.cells' 0 rfl)) ?_)
        replace k3 := (k3.evo0 e11)
        refine sq (o_store (o := 0) (v := (.agg #[(.slice a1_51 (((Bk i).take (m - (j + 1))).length) c1_51), (.slice a2_51 ((Fk i (j + 1)).length) c2_51)])) [(.slice a1_51 (((Bk i).take (m - (j + 1))).length) c1_51), (.slice a2_51 ((Fk i (j + 1)).length) c2_51)] rfl k3 (by kernel_rfl) (by kernel_rfl) Try.sizeOf26 rfl rfl rfl ?_)
        intro w12 e12 kn12
        have s12 := Step.one e12 (X := b63 :: b9 :: Xl1) (List.mem_cons_of_mem _ (List.mem_cons_of_mem _ (hXl1 _ (List.mem_cons_self))))
        clear k3; have k3 := kn12
        refine nil_ ?_
        refine then_normal (hK23 _ _ _ _ ?_)
        refine reg_ ?_
        refine sq (o_pv (.string (bs1 (i - (j + 1)))) rfl (by kernel_rfl) ?_)
        refine sq (o_pv (.string (bs1 (i - (j + 1)))) rfl (by kernel_rfl) ?_)
        refine nil_ ?_
        refine blk_normal ?_
        refine then_normal (hK19 _ _ _ _ ?_)
        refine reg_ ?_
        refine sq (o_pv (.int .i64 ((j + 1 : Nat) : Int)) rfl (by kernel_rfl) ?_)
        refine sq (o_pv (.int .i64 (((j + 1) + 1 : Nat) : Int)) rfl (x_add (a := ((j + 1 : Nat) : Int)) (b := 1) (((j + 1) + 1 : Nat) : Int) (by kernel_rfl) (by kernel_rfl) (by omega) (wrap_i64 (by omega) (by omega))) ?_)
        refine sq (o_pv (.int .i64 (((j + 1) + 1 : Nat) : Int)) rfl (by kernel_rfl) ?_)
        refine nil_ ?_
        replace hb51 := ((((hb51.step s9).step s10).step s11).step s12)
        replace hf51 := ((((hf51.step s9).step s10).step s11).step s12)
        replace E0 := (Evo.then1 (Evo.then0 (Evo.then1 (Evo.then0 (Evo.then0 E0 e8) e9) e10 n9) e11) e12 n3)
        replace hXo := (((((hXo.step s8).step s9).step s10).step s11).step s12)
        refine then_normal (hA1 _ _ _ ⟨m - (j + 1), [(8, (.int .i64 ((j + 1 + 1 : Nat) : Int))), (6, (.string (bs1 (i - (j + 1)))))], by omega, fit_mk (AgB.mix _ _ _) (by kernel_rfl) (vs_cons (by kernel_rfl) (vs_cons (by kernel_rfl) (vs_nil))), ?_⟩)
        exact ⟨(b63 :: b9 :: Xl1), (j + 1), (bs1 (i - (j + 1))), a1_51, c1_51, a2_51, c2_51, rfl, rfl, (Sub.of_cons (List.mem_cons_of_mem _ (List.mem_cons_of_mem _ (hXl1 _ (List.mem_cons_self)))) (Sub.trans (Sub.trans (Sub.trans (Sub.trans (Sub.refl _) (Sub.cons _ _)) hXl1) (Sub.cons _ _)) (Sub.cons _ _))), E0, hXo, k3, hb51, hf51, (by omega), rfl⟩
      ·
        refine wp_exit ?_
        refine then_exit ?_
        refine then_exit ?_
        refine blk_exit ?_
        refine then_normal (hK15 _ _ _ _ ?_)
        refine seq_ (fun K24 hK24 => ?_)
        refine reg_ ?_
        have hjm : j = m := by omega
        refine sq (o_pv (.agg #[(.slice ab (((Bk i).take (m - j)).length) cb), (.slice af ((Fk i j).length) cf)]) rfl (x_loadN [(.slice ab (((Bk i).take (m - j)).length) cb), (.slice af ((Fk i j).length) cf)] (by kernel_rfl) Try.isAgg26 Try.sizeOf26 (k3.cells' 0 rfl)) ?_)
        refine sq (o_pv (.string now) rfl (by kernel_rfl) ?_)
        refine sq (o_call 8 #[(.agg #[(.slice ab (((Bk i).take (m - j)).length) cb), (.slice af ((Fk i j).length) cf)]), (.string now)] rfl (x_call Try.call8 (by kernel_rfl)) (Undo_w0 (Lb := (Bk i).take (m - j)) hXo (by rw [show m - j = 0 from by omega]; rfl)) ?_)
        rintro _ w13 ⟨e13, rfl⟩
        have s13 := Step.of0 Xl1 e13
        refine sq (o_pv (.tuple #[(.agg #[(.slice none 0 0), (.slice none 0 0)]), (.string (ByteArray.mk #[])), (.int .i64 10)]) rfl (by kernel_rfl) ?_)
        refine sq (o_pv (.agg #[(.slice none 0 0), (.slice none 0 0)]) rfl (by kernel_rfl) ?_)
        refine sq (o_pv (.string (ByteArray.mk #[])) rfl (by kernel_rfl) ?_)
        refine sq (o_pv (.int .i64 10) rfl (by kernel_rfl) ?_)
        refine sq (o_new [(.slice none 0 0), (.slice none 0 0)] 26 rfl (by kernel_rfl) ?_)
        replace k3 := (k3.evo0 e13)
        rintro b12 w14 hb12 e14 k12
        have n12 : w.heap.size ≤ b12 := Nat.le_trans (Evo.then0 E0 e13).size (Nat.le_of_eq hb12.symm)
        have l3_12 : b3 < b12 := Nat.lt_of_lt_of_eq k3.lt hb12.symm
        have s14 := Step.fresh Xl1 e14 b12 (Nat.le_of_eq hb12.symm) k12.lt
        refine sq (o_store (o := 0) (v := (.agg #[(.slice none 0 0), (.slice none 0 0)])) [(.slice none 0 0), (.slice none 0 0)] rfl k12 (by kernel_rfl) (by kernel_rfl) Try.sizeOf26 rfl rfl rfl ?_)
        intro w15 e15 kn15
        have s15 := Step.one e15 (X := b12 :: Xl1) (List.mem_cons_self)
        clear k12; have k12 := kn15
        refine sq (o_pv (.string (ByteArray.mk #[])) rfl (by kernel_rfl) ?_)
        refine sq (o_pv (.int .i64 10) rfl (by kernel_rfl) ?_)
        refine nil_ ?_
        refine then_normal (hK24 _ _ _ _ ?_)
        refine seq_ (fun K25 hK25 => ?_)
        refine seq_ (fun K26 hK26 => ?_)
        refine reg_ ?_
        refine sq (o_pv (.int .i64 ((m : Nat) : Int)) rfl (by kernel_rfl) ?_)
        refine sq (o_pv (.int .i64 ((j : Int) - 1 - ((0 : Nat) : Int))) rfl (x_sub (a := ((m : Nat) : Int)) (b := 1) ((j : Int) - 1 - ((0 : Nat) : Int)) (by kernel_rfl) (by kernel_rfl) (by omega) (wrap_i64 (by omega) (by omega))) ?_)
        refine sq (o_pv (.int .i64 ((j : Int) - 1 - ((0 : Nat) : Int))) rfl (by kernel_rfl) ?_)
        refine nil_ ?_
        refine then_normal (hK26 _ _ _ _ ?_)
        refine wp_block ?_
        have eB : (Bk i).take (m - j) = Gk i j 0 := by rw [show m - j = 0 from by omega]; rfl
        replace E0 := (Evo.then1 (Evo.then0 (Evo.then0 E0 e13) e14) e15 n12)
        replace hXo := (((hXo.step s13).step s14).step s15)
        replace k3 := ((k3.evo0 e14).evo1 e15 (Nat.ne_of_lt l3_12))
        replace hb := (((hb.step s13).step s14).step s15)
        replace hf := (((hf.step s13).step s14).step s15)
        refine loop_ 10141204499594380308316332458052 (fun kq lq wl2 => ∃ Xl2 : List Nat, ∃ r : Nat, ∃ now : ByteArray, ∃ ab : Option Addr, ∃ cb : Nat, ∃ af : Option Addr, ∃ cf : Nat, (lq = [(15, (.int .i64 ((j : Int) - 1 - (r : Int)))), (6, (.string now))]) ∧ (kq = j - r) ∧ (Sub (b3 :: X) Xl2) ∧ (Evo [] w wl2) ∧ (Old Xl2 wl2) ∧ (Blk wl2 b3 [(.slice ab ((Gk i j r).length) cb), (.slice af ((Fk i (j - r)).length) cf)] 26) ∧ (Sl rStr Xl2 wl2 ab cb (Gk i j r)) ∧ (Sl rStr Xl2 wl2 af cf (Fk i (j - r))) ∧ (r ≤ j) ∧ (now = bs1 (i - j + r))) (j - 0) [(15, (.int .i64 ((j : Int) - 1 - ((0 : Nat) : Int)))), (6, (.string now))] (vs_cons (by kernel_rfl) (vs_cons (by kernel_rfl) (vs_nil))) ⟨(b12 :: Xl1), 0, now, ab, cb, af, cf, rfl, rfl, (Sub.of_cons (List.mem_cons_of_mem _ (hXl1 _ (List.mem_cons_self))) (Sub.trans (Sub.trans (Sub.trans (Sub.refl _) (Sub.cons _ _)) hXl1) (Sub.cons _ _))), E0, hXo, (by rw [← eB]; exact k3), (eB ▸ hb), hf, (Nat.zero_le _), hnow⟩ ?_
        rintro k2 l2 wl2 g2 ⟨Xl2, r, now, ab, cb, af, cf, rfl, hk2, hXl2, E0, hXo, k3, hb, hf, hr, hnow⟩ Kl2 hA2
        refine seq_ (fun K27 hK27 => ?_)
        refine seq_ (fun K28 hK28 => ?_)
        refine reg_ ?_
        refine sq (o_pv (.int .i64 ((j : Int) - 1 - (r : Int))) rfl (by kernel_rfl) ?_)
        refine sq (o_pv (.bool (decide (((j : Int) - 1 - (r : Int)) ≥ 0))) rfl (by kernel_rfl) ?_)
        refine nil_ ?_
        refine then_normal (hK28 _ _ _ _ ?_)
        refine cond_d (((j : Int) - 1 - (r : Int)) ≥ 0) (by kernel_rfl) (fun h79 => ?_) (fun h79 => ?_)
        ·
          refine wp_skip ?_
          refine then_normal (hK27 _ _ _ _ ?_)
          refine seq_ (fun K29 hK29 => ?_)
          refine wp_block ?_
          refine seq_ (fun K30 hK30 => ?_)
          refine reg_ ?_
          refine sq (o_pv (.agg #[(.slice ab ((Gk i j r).length) cb), (.slice af ((Fk i (j - r)).length) cf)]) rfl (x_loadN [(.slice ab ((Gk i j r).length) cb), (.slice af ((Fk i (j - r)).length) cf)] (by kernel_rfl) Try.isAgg26 Try.sizeOf26 (k3.cells' 0 rfl)) ?_)
          refine sq (o_pv (.string now) rfl (by kernel_rfl) ?_)
          refine sq (o_call 9 #[(.agg #[(.slice ab ((Gk i j r).length) cb), (.slice af ((Fk i (j - r)).length) cf)]), (.string now)] rfl (x_call Try.call9 (by kernel_rfl)) (Redo_w (Lb := Gk i j r) (Lf := Fk i (j - r)) (K := Fk i (j - (r + 1))) (x := (bs1 (i - (j - (r + 1))))) (M := Gk i j (r + 1)) hXo (Fk_last i (by omega)) (by rw [hnow]; exact Gk_succ i j r (by omega)) hb hf (by rw [hnow]; exact bs1_len _) (by first | (rw [Gk_len]; omega) | (rw [Fk_len]; omega)) (by first | (rw [Gk_len]; omega) | (rw [Fk_len]; omega))) ?_)
          rintro _ w16 ⟨e16, a1_85, c1_85, a2_85, c2_85, rfl, hb85, hf85⟩
          have s16 := Step.of0 Xl2 e16
          refine sq (o_pv (.tuple #[(.agg #[(.slice a1_85 ((Gk i j (r + 1)).length) c1_85), (.slice a2_85 ((Fk i (j - (r + 1))).length) c2_85)]), (.string (bs1 (i - (j - (r + 1))))), (.int .i64 0)]) rfl (by kernel_rfl) ?_)
          refine sq (o_pv (.agg #[(.slice a1_85 ((Gk i j (r + 1)).length) c1_85), (.slice a2_85 ((Fk i (j - (r + 1))).length) c2_85)]) rfl (by kernel_rfl) ?_)
          refine sq (o_pv (.string (bs1 (i - (j - (r + 1))))) rfl (by kernel_rfl) ?_)
          refine sq (o_pv (.int .i64 0) rfl (by kernel_rfl) ?_)
          refine sq (o_new [(.slice none 0 0), (.slice none 0 0)] 26 rfl (by kernel_rfl) ?_)
          replace k3 := (k3.evo0 e16)
          rintro b16 w17 hb16 e17 k16
          have n16 : w.heap.size ≤ b16 := Nat.le_trans (Evo.then0 E0 e16).size (Nat.le_of_eq hb16.symm)
          have l3_16 : b3 < b16 := Nat.lt_of_lt_of_eq k3.lt hb16.symm
          have s17 := Step.fresh Xl2 e17 b16 (Nat.le_of_eq hb16.symm) k16.lt
          refine sq (o_store (o := 0) (v := (.agg #[(.slice a1_85 ((Gk i j (r + 1)).length) c1_85), (.slice a2_85 ((Fk i (j - (r + 1))).length) c2_85)])) [(.slice a1_85 ((Gk i j (r + 1)).length) c1_85), (.slice a2_85 ((Fk i (j - (r + 1))).length) c2_85)] rfl k16 (by kernel_rfl) (by kernel_rfl) Try.sizeOf26 rfl rfl rfl ?_)
          intro w18 e18 kn18
          have s18 := Step.one e18 (X := b16 :: Xl2) (List.mem_cons_self)
          clear k16; have k16 := kn18
          refine sq (o_pv (.string (bs1 (i - (j - (r + 1))))) rfl (by kernel_rfl) ?_)
          refine sq (o_pv (.int .i64 0) rfl (by kernel_rfl) ?_)
          refine nil_ ?_
          refine then_normal (hK30 _ _ _ _ ?_)
          refine seq_ (fun K31 hK31 => ?_)
          refine seq_ (fun K32 hK32 => ?_)
          refine reg_ ?_
          refine sq (o_pv (.int .i64 0) rfl (by kernel_rfl) ?_)
          refine sq (o_pv (.bool false) rfl (x_ndf (p := (0 : Int) = 0) (by kernel_rfl) (by decide)) ?_)
          refine sq (o_pv (.bool false) rfl (by kernel_rfl) ?_)
          refine sq (o_pv (.string (bs1 (i - (j - (r + 1))))) (by kernel_rfl) (by kernel_rfl) ?_)
          refine sq (o_pv (.int .i64 ((k : Nat) : Int)) (by kernel_rfl) (by kernel_rfl) ?_)
          refine sq (o_pv (.int .i64 ((j : Int) - 1 - (r : Int))) (by kernel_rfl) (by kernel_rfl) ?_)
          refine sq (o_pv (.int .i64 ((i - (j - (r + 1)) : Nat) : Int)) (by kernel_rfl) (x_sub (a := ((k : Nat) : Int)) (b := (j : Int) - 1 - (r : Int)) ((i - (j - (r + 1)) : Nat) : Int) (by kernel_rfl) (by kernel_rfl) (by omega) (wrap_i64 (by omega) (by omega))) ?_)
          refine sq (o_pv (.int .u8 ((i - (j - (r + 1)) : Nat) : Int)) (by kernel_rfl) (x_conv (k := .i64) Try.underlying3 Try.underlying5 (by kernel_rfl) (wrap_u8 (by omega) (by omega))) ?_)
          refine sq (o_row [(.int .u8 ((i - (j - (r + 1)) : Nat) : Int))] 5 1 (by kernel_rfl) (by kernel_rfl) ?_)
          replace k3 := ((k3.evo0 e17).evo1 e18 (Nat.ne_of_lt l3_16))
          rintro b97 w19 hb97 e19 k97
          have n97 : w.heap.size ≤ b97 := Nat.le_trans (Evo.then1 (Evo.then0 (Evo.then0 E0 e16) e17) e18 n16).size (Nat.le_of_eq hb97.symm)
          have l3_97 : b3 < b97 := Nat.lt_of_lt_of_eq k3.lt hb97.symm
          have l16_97 : b16 < b97 := Nat.lt_of_lt_of_eq k16.lt hb97.symm
          have s19 := Step.fresh (b16 :: Xl2) e19 b97 (Nat.le_of_eq hb97.symm) k97.lt
          refine sq (o_pv (.string (bs1 (i - (j - (r + 1))))) (by kernel_rfl) (x_b2s (b := b97) (o := 0) (len := 1) (c := 1) [((i - (j - (r + 1)) : Nat) : Int)] Try.underlying36 Try.underlying5 Try.underlying9 (by kernel_rfl) rfl (k97.cells' 0 rfl)) ?_)
          refine sq (o_pv (.bool false) (by kernel_rfl) (x_ndf (p := ((bs1 (i - (j - (r + 1)))) : ByteArray) = (bs1 (i - (j - (r + 1))))) (x_strne (by kernel_rfl) (by kernel_rfl)) rfl) ?_)
          refine sq (o_pv (.bool false) rfl (by kernel_rfl) ?_)
          refine nil_ ?_
          refine then_normal (hK32 _ _ _ _ ?_)
          refine cond_f (by kernel_rfl) ?_
          refine wp_skip ?_
          refine then_normal (hK31 _ _ _ _ ?_)
          refine seq_ (fun K33 hK33 => ?_)
          refine reg_ ?_
          replace k16 := (k16.evo0 e19)
          refine sq (o_pv (.agg #[(.slice a1_85 ((Gk i j (r + 1)).length) c1_85), (.slice a2_85 ((Fk i (j - (r + 1))).length) c2_85)]) rfl (x_loadN [(.slice a1_85 ((Gk i j (r + 1)).length) c1_85), (.slice a2_85 ((Fk i (j - (r + 1))).length) c2_85)] (by kernel_rfl) Try.isAgg26 Try.sizeOf26 (k16.cells' 0 rfl)) ?_)
          replace k3 := (k3.evo0 e19)
          refine sq (o_store (o := 0) (v := (.agg #[(.slice a1_85 ((Gk i j (r + 1)).length) c1_85), (.slice a2_85 ((Fk i (j - (r + 1))).length) c2_85)])) [(.slice a1_85 ((Gk i j (r + 1)).length) c1_85), (.slice a2_85 ((Fk i (j - (r + 1))).length) c2_85)] rfl k3 (by kernel_rfl) (by kernel_rfl) Try.sizeOf26 rfl rfl rfl ?_)
          intro w20 e20 kn20
          have s20 := Step.one e20 (X := b97 :: b16 :: Xl2) (List.mem_cons_of_mem _ (List.mem_cons_of_mem _ (hXl2 _ (List.mem_cons_self))))
          clear k3; have k3 := kn20
          refine nil_ ?_
          refine then_normal (hK33 _ _ _ _ ?_)
          refine reg_ ?_
          refine sq (o_pv (.string (bs1 (i - (j - (r + 1))))) rfl (by kernel_rfl) ?_)
          refine sq (o_pv (.string (bs1 (i - (j - (r + 1))))) rfl (by kernel_rfl) ?_)
          refine nil_ ?_
          refine blk_normal ?_
          refine then_normal (hK29 _ _ _ _ ?_)
          refine reg_ ?_
          refine sq (o_pv (.int .i64 ((j : Int) - 1 - (r : Int))) rfl (by kernel_rfl) ?_)
          refine sq (o_pv (.int .i64 ((j : Int) - 1 - ((r + 1 : Nat) : Int))) rfl (x_sub (a := (j : Int) - 1 - (r : Int)) (b := 1) ((j : Int) - 1 - ((r + 1 : Nat) : Int)) (by kernel_rfl) (by kernel_rfl) (by omega) (wrap_i64 (by omega) (by omega))) ?_)
          refine sq (o_pv (.int .i64 ((j : Int) - 1 - ((r + 1 : Nat) : Int))) rfl (by kernel_rfl) ?_)
          refine nil_ ?_
          replace hb85 := ((((hb85.step s17).step s18).step s19).step s20)
          replace hf85 := ((((hf85.step s17).step s18).step s19).step s20)
          replace E0 := (Evo.then1 (Evo.then0 (Evo.then1 (Evo.then0 (Evo.then0 E0 e16) e17) e18 n16) e19) e20 n3)
          replace hXo := (((((hXo.step s16).step s17).step s18).step s19).step s20)
          refine then_normal (hA2 _ _ _ ⟨j - (r + 1), [(15, (.int .i64 ((j : Int) - 1 - ((r + 1 : Nat) : Int)))), (6, (.string (bs1 (i - (j - (r + 1))))))], by omega, fit_mk (AgB.mix _ _ _) (by kernel_rfl) (vs_cons (by kernel_rfl) (vs_cons (by kernel_rfl) (vs_nil))), ?_⟩)
          exact ⟨(b97 :: b16 :: Xl2), (r + 1), (bs1 (i - (j - (r + 1)))), a1_85, c1_85, a2_85, c2_85, rfl, rfl, (Sub.of_cons (List.mem_cons_of_mem _ (List.mem_cons_of_mem _ (hXl2 _ (List.mem_cons_self)))) (Sub.trans (Sub.trans (Sub.trans (Sub.trans (Sub.refl _) (Sub.cons _ _)) hXl2) (Sub.cons _ _)) (Sub.cons _ _))), E0, hXo, k3, hb85, hf85, (by omega), (by congr 1; omega)⟩
        ·
          refine wp_exit ?_
          refine then_exit ?_
          refine then_exit ?_
          refine blk_exit ?_
          refine then_normal (hK25 _ _ _ _ ?_)
          refine seq_ (fun K34 hK34 => ?_)
          refine reg_ ?_
          refine sq (o_pv (.int .i64 10) rfl (by kernel_rfl) ?_)
          refine sq (o_pv (.bool true) rfl (x_dt (p := (10 : Int) = 10) (by kernel_rfl) (by decide)) ?_)
          refine sq (o_pv (.bool true) rfl (by kernel_rfl) ?_)
          refine sq (o_pv (.pointer (some ⟨b3, 0, none⟩)) (by kernel_rfl) (by kernel_rfl) ?_)
          refine sq (o_pv (.slice ab ((Gk i j r).length) cb) (by kernel_rfl) (x_load1 (by kernel_rfl) Try.isAgg24 (k3.cell' 0 rfl)) ?_)
          refine sq (o_pv (.int .i64 (((Gk i j r).length : Nat) : Int)) (by kernel_rfl) (by kernel_rfl) ?_)
          refine sq (o_pv (.int .i64 ((m : Nat) : Int)) (by kernel_rfl) (by kernel_rfl) ?_)
          refine sq (o_pv (.bool true) (by kernel_rfl) (x_dt (p := (((Gk i j r).length : Nat) : Int) = ((m : Nat) : Int)) (by kernel_rfl) (by rw [Gk_len]; omega)) ?_)
          refine sq (o_pv (.bool true) rfl (by kernel_rfl) ?_)
          refine sq (o_pv (.bool true) rfl (by kernel_rfl) ?_)
          refine sq (o_pv (.pointer (some ⟨b3, 1, none⟩)) (by kernel_rfl) (by kernel_rfl) ?_)
          refine sq (o_pv (.slice af ((Fk i (j - r)).length) cf) (by kernel_rfl) (x_load1 (by kernel_rfl) Try.isAgg24 (k3.cell' 1 rfl)) ?_)
          refine sq (o_pv (.int .i64 (((Fk i (j - r)).length : Nat) : Int)) (by kernel_rfl) (by kernel_rfl) ?_)
          refine sq (o_pv (.bool true) (by kernel_rfl) (x_dt (p := (((Fk i (j - r)).length : Nat) : Int) = 0) (by kernel_rfl) (by rw [Fk_len]; omega)) ?_)
          refine sq (o_pv (.bool true) rfl (by kernel_rfl) ?_)
          refine sq (o_pv (.bool true) rfl (by kernel_rfl) ?_)
          refine nil_ ?_
          refine then_normal (hK34 _ _ _ _ ?_)
          refine wp_ret ?_
          refine end_ret hQ (.bool true) (by kernel_rfl) ?_
          exact ⟨E0, rfl⟩

namespace logBack
open Go.ChangeShapes Go.WideShapes Go.ChangeAt Go.RowKit
open Go.ChangeMaps (open_string shut_string)
theorem own : ownKnob Try.prog.godebug = none := by kernel_rfl
theorem laidOut : laidOutB Try.prog = true := by kernel_rfl
set_option maxRecDepth 100000 in
set_option maxHeartbeats 1000000 in
theorem lifted (os : Os) (started : os.Started) (H : Type) (enc : TypeId × Value → H) :
    ReturnsInHanded {} Try.checked os 4 .any (Rows.logBackSpec.pre6 enc Try.prog Try.f4 Rows.logBackRow.domain false) (Rows.logBackSpec.post enc Try.prog Try.f4 false true false false) := by
  refine returnsInHanded_of_change (C := Try.checked) own started (by kernel_rfl) Try.func4
    (ChangeSpec.witness6 (enc := enc) (C := Try.checked) false ⟨#[], #[.int .u8 0], []⟩ 8 (by kernel_rfl) (by kernel_rfl) (by kernel_rfl) (by kernel_rfl)) ?_
  intro W base args ds gs before hval0 hW hcnd _
  have hval : ∀ (j : Nat) t v, Try.f4.params[j]? = some t → args[j]? = some v → Value.okWide Try.prog W .any base t v := hval0
  have hW' := hW
  obtain ⟨p, q, hA0, hV, rfl, hfz, hnd⟩ := hW
  have hA : DataW.TrodAll enc Try.prog W 0 (fun _ => true) true Try.f4.params.toList args.toList ds p := hA0
  rw [Try.params4] at hA hval
  obtain ⟨v0, vs0, d0, ds0, p0, q0, hargs, rfl, rfl, h0, r0⟩ := trodAll_cons hA
  obtain ⟨rfl, rfl, rfl⟩ := trodAll_nil r0
  obtain rfl : args = #[v0] := by cases args; simp_all
  obtain ⟨rfl, rfl⟩ := trodVars_none hV
  have k0 := h0
  have lt0 : ∀ x ∈ p0, x.block < W.heap.size := by obtain ⟨m, hm⟩ := k0; exact DataW.trod_lt m _ _ _ hm
  obtain ⟨n, rfl, _, _, wf0⟩ := open_int Try.underlying5 (hval 0 5 v0 rfl rfl) h0
  have h_n : inR .u8 n := wf_inR wf0
  obtain ⟨n, rfl⟩ := Int.eq_ofNat_of_zero_le (inR_u8.1 h_n).1
  clear hA0 hval0
  refine (logBack_w (X := []) (Old.nil _) (by have := (inR_u8.1 h_n).2; omega)).mono fun e W' hq => ?_
  obtain ⟨v, he, hE, hv⟩ := hq
  subst he; subst hv
  have bel := hE.below
  exact ⟨_, rfl, _, _, _, [], _, [], hW', trodAll_mk1 (shut_bool Try.underlying4 _), (trodAll_cons_mk (Below.trod laidOut (by kernel_rfl) (of_decide_eq_true (by kernel_rfl)) k0 bel lt0) trodAll_mk0), rfl, bel.frame _, fun h => by cases h⟩
theorem over : Rows.logBackRow.holds Try.pinned (OpenSpec.ofChange Rows.logBackSpec) :=
  OpenClaim.holds_of_wide 4 Try.f4 rfl rfl rfl rfl rfl rfl rfl ⟨rfl, rfl, rfl, rfl, rfl⟩ rfl rfl rfl rfl rfl (by kernel_rfl) Try.func4 (by kernel_rfl)
    (of_decide_eq_true (by kernel_rfl)) (by unfold Func.isWrapper; first | (rw [if_pos (by decide +kernel)]; kernel_rfl) | (rw [if_neg (by decide +kernel)]; exact ⟨rfl, rfl⟩))
    (fun os started H enc _ => lifted os started H enc)
theorem proved : Rows.LogBackSaid := over
#print axioms proved
end logBack
end Go.Proofs.Ytjbdamojffgmaaa
