/- The walks of oplog's functions: what each computes. -/
import Derived.Test.YtjbdamojffgmaaaChecked
import Derived.Test.YtjbdamojffgmaaaOps
import Derived.Test.YtjbdamojffgmaaaPlain
namespace Go.Proofs.Ytjbdamojffgmaaa
open Go
theorem elT24 : ElemT Try.prog 24 9 1 16 := elemT_mk (i := Try.t9) (z := (.string (ByteArray.mk #[]))) (by kernel_rfl) (by kernel_rfl) (by kernel_rfl) (by kernel_rfl) Try.underlying24 Try.sizeOf9 (by decide) (by decide)
def pushL (L : List ByteArray) (s : ByteArray) : List ByteArray := (L ++ [s]).drop (L.length + 1 - 64)
set_option maxRecDepth 20000 in
set_option maxHeartbeats 4000000 in
theorem clip_str {X : List Nat} {w : World} {a : Option Addr} {c : Nat} {L : List ByteArray} (hL : Sl rStr X w a c L) :
    Calls Try.prog 14 #[(.slice a L.length c)] w (Ret fun v w' => Evo [] w w' ∧ ∃ a' c', v = .slice a' L.length c' ∧ Sl rStr X w' a' c' L) := by
  have hc := hL.1
  have E0 : Evo [] w w := RB.refl _ _ _
  refine enter_ Try.func14 rfl 9 (upds (fun _ => undef) [(0, (.slice a L.length c))]) (by kernel_rfl) ?_
  refine seq_ ?_
  refine reg_ ?_
  refine sq (o_pv (.slice none 0 0) rfl (by kernel_rfl) ?_)
  refine nil_ ?_
  refine then_normal ?_
  refine seq_ ?_
  refine reg_ ?_
  refine sq (o_pv (.slice a L.length c) rfl (by kernel_rfl) ?_)
  refine sq (o_pv (.slice a L.length c) rfl (by kernel_rfl) ?_)
  refine sq (o_pv (.int .i64 ((L.length : Nat) : Int)) rfl (by kernel_rfl) ?_)
  refine sq (o_pv (.slice a L.length c) rfl (by kernel_rfl) ?_)
  refine sq (o_pv (.int .i64 ((L.length : Nat) : Int)) rfl (by kernel_rfl) ?_)
  refine sq (o_slice3 L.length L.length L Try.underlying24 Try.sizeOf9 hL (by kernel_rfl) rfl rfl (.inr ⟨.i64, by kernel_rfl⟩) (.inr ⟨.i64, by kernel_rfl⟩) (by omega) (by simp) ?_)
  intro a8 hs8
  refine sq (o_pv (.slice a8 L.length L.length) rfl (by kernel_rfl) ?_)
  refine nil_ ?_
  refine then_normal ?_
  refine wp_ret ?_
  refine end_ret (.slice a8 L.length L.length) (by kernel_rfl) ?_
  refine ⟨_, rfl, ?_⟩
  exact ⟨E0, _, _, rfl, hs8⟩

set_option maxRecDepth 20000 in
set_option maxHeartbeats 4000000 in
theorem clone_str {X : List Nat} {w : World} {a : Option Addr} {c : Nat} {L : List ByteArray} (hX0 : Old X w) (hL : Sl rStr X w a c L) (hb : L.length * 16 ≤ 140737488355328) :
    Calls Try.prog 15 #[(.slice a L.length c)] w (Ret fun v w' => Evo [] w w' ∧ ∃ a' c', v = .slice a' L.length c' ∧ (∀ b ∈ blkL a', w.heap.size ≤ b) ∧ Own rStr (blkL a' ++ X) w' w.heap.size 9 a' c' L) := by
  cases a with
  | none =>
    have hXo := hX0
    have E0 : Evo [] w w := RB.refl _ _ _
    refine enter_ Try.func15 rfl 8 (upds (fun _ => undef) [(0, (.slice none L.length c))]) (by kernel_rfl) ?_
    have hLn : L = [] := hL.2.2.elim (fun h => h.1) (fun ⟨b, o, xs, h, _⟩ => by cases h)
    refine seq_ ?_
    refine reg_ ?_
    refine sq (o_pv (.slice none 0 0) rfl (by kernel_rfl) ?_)
    refine nil_ ?_
    refine then_normal ?_
    refine seq_ ?_
    refine seq_ ?_
    refine reg_ ?_
    refine sq (o_pv (.slice none L.length c) rfl (by kernel_rfl) ?_)
    refine sq (o_pv (.bool true) rfl (by kernel_rfl) ?_)
    refine nil_ ?_
    refine then_normal ?_
    refine cond_t (by kernel_rfl) ?_
    refine seq_ ?_
    refine reg_ ?_
    refine sq (o_pv (.slice none 0 0) rfl (by kernel_rfl) ?_)
    refine nil_ ?_
    refine then_normal ?_
    refine wp_ret ?_
    refine then_ret ?_
    refine end_ret (.slice none 0 0) (by kernel_rfl) ?_
    refine ⟨_, rfl, ?_⟩
    exact ⟨E0, none, 0, by rw [hLn]; rfl, (fun _ h => by cases h), by rw [hLn]; exact Own.nil E0.size⟩
  | some ad =>
    have hXo := hX0
    have E0 : Evo [] w w := RB.refl _ _ _
    refine enter_ Try.func15 rfl 8 (upds (fun _ => undef) [(0, (.slice (some ad) L.length c))]) (by kernel_rfl) ?_
    refine seq_ ?_
    refine reg_ ?_
    refine sq (o_pv (.slice none 0 0) rfl (by kernel_rfl) ?_)
    refine nil_ ?_
    refine then_normal ?_
    refine seq_ ?_
    refine seq_ ?_
    refine reg_ ?_
    refine sq (o_pv (.slice (some ad) L.length c) rfl (by kernel_rfl) ?_)
    refine sq (o_pv (.bool false) rfl (by kernel_rfl) ?_)
    refine nil_ ?_
    refine then_normal ?_
    refine cond_f (by kernel_rfl) ?_
    refine wp_skip ?_
    refine then_normal ?_
    refine seq_ ?_
    refine reg_ ?_
    refine sq (o_row [] 9 0 rfl (by kernel_rfl) ?_)
    rintro b5 w1 hb5 e1 k5
    have n5 : w.heap.size ≤ b5 := Nat.le_trans E0.size (Nat.le_of_eq hb5.symm)
    have s1 := Step.fresh X e1 b5 (Nat.le_of_eq hb5.symm) k5.lt
    refine sq (o_pv (.slice (some ad) L.length c) rfl (by kernel_rfl) ?_)
    have o7 : Own rStr (b5 :: X) w1 (w.heap.size) 9 (some ⟨b5, 0, none⟩) 0 [] := k5.own (List.mem_cons_self) Flat.nil 0 rfl (by decide) n5
    replace hL := (hL.step s1)
    refine sq (o_append (R := rStr) rfl elT24 rfl o7 hL.src (by kernel_rfl) (by kernel_rfl) rfl rfl (by simp; omega) ?_)
    intro a7 c7 w2 X2 s2 hX2 hn2 hO7
    rw [show ([]) ++ L = L from by simp] at hO7 ⊢
    subst hX2
    have hl7 : L.length = 0 + L.length := by simp
    have p2 := o7
    refine sq (o_pv (.slice a7 L.length c7) rfl (by kernel_rfl) ?_)
    refine nil_ ?_
    refine then_normal ?_
    refine wp_ret ?_
    refine end_ret (.slice a7 L.length c7) (by kernel_rfl) ?_
    refine ⟨_, rfl, ?_⟩
    replace E0 := (Evo.thenO (Evo.then0 E0 e1) s2.evo p2 (Nat.le_refl _))
    exact ⟨E0, _, _, rfl, fun b hb => (hO7.lt b hb).1, hO7.sub' (fun b hb => List.mem_append_left _ hb) (fun b hb => by rcases List.mem_append.1 hb with h | h; exact .inl (hO7.mem b h); exact .inl ((Sub.trans (Sub.trans (Sub.refl _) (Sub.cons _ _)) (fun _ h => List.mem_append_right _ h)) b h))⟩

set_option maxRecDepth 20000 in
set_option maxHeartbeats 4000000 in
theorem push_w {X : List Nat} {w : World} {a : Option Addr} {c : Nat} {L M : List ByteArray} {s : ByteArray} (hX0 : Old X w) (hM : pushL L s = M) (hL : Sl rStr X w a c L) (hs : s.size ≤ maxLen) (hb : L.length ≤ 1000000) :
    Calls Try.prog 12 #[(.slice a L.length c), (.string s)] w (Ret fun v w' => Evo [] w w' ∧ ∃ a' c', v = .slice a' M.length c' ∧ Sl rStr X w' a' c' M) := by
  have hXo := hX0
  have E0 : Evo [] w w := RB.refl _ _ _
  refine enter_ Try.func12 rfl 18 (upds (fun _ => undef) [(0, (.slice a L.length c)), (1, (.string s))]) (by kernel_rfl) ?_
  refine seq_ ?_
  refine reg_ ?_
  refine sq (o_pv (.slice none 0 0) rfl (by kernel_rfl) ?_)
  refine nil_ ?_
  refine then_normal ?_
  refine seq_ ?_
  refine reg_ ?_
  refine sq (o_pv (.slice a L.length c) rfl (by kernel_rfl) ?_)
  refine sq (o_call 15 #[(.slice a L.length c)] rfl (x_call Try.call15 (by kernel_rfl)) (clone_str (L := L) hXo hL (by omega)) ?_)
  rintro _ w1 ⟨e1, a7, c7, rfl, hg7, hO7⟩
  have s1 := Step.app X (blkL a7) e1 (fun b hb => ⟨hg7 b hb, (hO7.lt b hb).2⟩)
  replace hO7 := hO7.down (base' := w.heap.size) E0.size
  refine sq (o_pv (.string s) rfl (by kernel_rfl) ?_)
  refine sq (o_row [(.string s)] 9 1 rfl (by kernel_rfl) ?_)
  rintro b9 w2 hb9 e2 k9
  have n9 : w.heap.size ≤ b9 := Nat.le_trans (Evo.then0 E0 e1).size (Nat.le_of_eq hb9.symm)
  have q9_hO7 : b9 ∉ blkL a7 := fun h => by have := (hO7.lt _ h).2; omega
  have s2 := Step.fresh (blkL a7 ++ (X)) e2 b9 (Nat.le_of_eq hb9.symm) k9.lt
  replace hO7 := (hO7.step s2 (fun _ _ => by simp))
  refine sq (o_append (R := rStr) rfl elT24 rfl hO7 (k9.src (c := 1) (Flat.cons1 ⟨rfl, hs⟩ Flat.nil)) (by kernel_rfl) (by kernel_rfl) rfl rfl (by simp; omega) ?_)
  intro a10 c10 w3 X3 s3 hX3 hn3 hO10
  subst hX3
  have hl10 : (L ++ ([s])).length = L.length + 1 := by simp
  have p3 := hO7
  replace hL := (((hL.step s1).step s2).step s3)
  replace hXo := (((hXo.step s1).step s2).step s3)
  replace E0 := (Evo.thenO (Evo.then0 (Evo.then0 E0 e1) e2) s3.evo p3 (Nat.le_refl _))
  have u4 : Sub (X) (blkL a10 ++ (b9 :: blkL a7 ++ (X))) := (Sub.trans (Sub.trans (Sub.trans (Sub.refl _) (fun _ h => List.mem_append_right _ h)) (Sub.cons _ _)) (fun _ h => List.mem_append_right _ h))
  have r4 := hO10.sl u4 (hO10.notin hX0)
  replace hL := hL.less u4
  replace hXo := hXo.less u4
  refine sq (o_pv (.slice a10 ((L ++ ([s])).length) c10) rfl (by kernel_rfl) ?_)
  refine nil_ ?_
  refine then_normal ?_
  refine seq_ ?_
  refine reg_ ?_
  refine sq (o_pv (.slice a10 ((L ++ ([s])).length) c10) rfl (by kernel_rfl) ?_)
  refine sq (o_pv (.slice a10 ((L ++ ([s])).length) c10) rfl (by kernel_rfl) ?_)
  refine sq (o_pv (.int .i64 (((L ++ ([s])).length : Nat) : Int)) rfl (by kernel_rfl) ?_)
  refine sq (o_pv (.int .i64 ((((L ++ ([s])).length : Nat) : Int) - 64)) rfl (x_sub (a := (((L ++ ([s])).length : Nat) : Int)) (b := 64) ((((L ++ ([s])).length : Nat) : Int) - 64) (by kernel_rfl) (by kernel_rfl) (by omega) (wrap_i64 (by omega) (by omega))) ?_)
  refine sq (o_pv (.int .i64 ((L.length + 1 - 64 : Nat) : Int)) rfl (x_max (a := (((L ++ ([s])).length : Nat) : Int) - 64) (b := 0) ((L.length + 1 - 64 : Nat) : Int) (by kernel_rfl) (by kernel_rfl) (by omega)) ?_)
  refine sq (o_slice (L.length + 1 - 64) ((L ++ ([s])).length) M rfl Try.underlying24 Try.sizeOf9 r4 (by kernel_rfl) (by simp) (.inr ⟨.i64, by kernel_rfl⟩) (.inl ⟨rfl, rfl, rfl⟩) (by omega) (by first | omega | simp) (by rw [List.take_length]; exact hM.symm) ?_)
  intro a16 c16 hs16
  refine sq (o_call 14 #[(.slice a16 M.length c16)] rfl (x_call Try.call14 (by kernel_rfl)) (clip_str (L := M) hs16) ?_)
  rintro _ w4 ⟨e5, a17, c17, rfl, h17⟩
  have s5 := Step.of0 X e5
  refine sq (o_pv (.slice a17 M.length c17) rfl (by kernel_rfl) ?_)
  refine nil_ ?_
  refine then_normal ?_
  refine wp_ret ?_
  refine end_ret (.slice a17 M.length c17) (by kernel_rfl) ?_
  refine ⟨_, rfl, ?_⟩
  replace E0 := (Evo.then0 E0 e5)
  exact ⟨E0, _, _, rfl, h17⟩

set_option maxRecDepth 20000 in
set_option maxHeartbeats 4000000 in
theorem Do_w {X : List Nat} {w : World} {s : ByteArray} {ab : Option Addr} {cb : Nat} {vf : Value} {Lb M : List ByteArray} (hX0 : Old X w) (hM : pushL Lb s = M) (hB : Sl rStr X w ab cb Lb) (hs : s.size ≤ maxLen) (hb : Lb.length ≤ 1000000) :
    Calls Try.prog 7 #[(.agg #[(.slice ab Lb.length cb), vf]), (.string s)] w (Ret fun v w' => Evo [] w w' ∧ ∃ a' c', v = .agg #[.slice a' M.length c', .slice none 0 0] ∧ Sl rStr X w' a' c' M) := by
  have hXo := hX0
  have E0 : Evo [] w w := RB.refl _ _ _
  refine enter_ Try.func7 rfl 10 (upds (fun _ => undef) [(0, (.agg #[(.slice ab Lb.length cb), vf])), (1, (.string s))]) (by kernel_rfl) ?_
  refine seq_ ?_
  refine reg_ ?_
  refine sq (o_new [(.slice ab Lb.length cb), vf] 26 rfl (by kernel_rfl) ?_)
  rintro b2 w1 hb2 e1 k2
  have n2 : w.heap.size ≤ b2 := Nat.le_trans E0.size (Nat.le_of_eq hb2.symm)
  have s1 := Step.fresh X e1 b2 (Nat.le_of_eq hb2.symm) k2.lt
  refine sq (o_new [(.slice none 0 0), (.slice none 0 0)] 26 rfl (by kernel_rfl) ?_)
  rintro b4 w2 hb4 e2 k4
  have n4 : w.heap.size ≤ b4 := Nat.le_trans (Evo.then0 E0 e1).size (Nat.le_of_eq hb4.symm)
  have l2_4 : b2 < b4 := Nat.lt_of_lt_of_eq k2.lt hb4.symm
  have s2 := Step.fresh (b2 :: X) e2 b4 (Nat.le_of_eq hb4.symm) k4.lt
  refine nil_ ?_
  refine then_normal ?_
  refine seq_ ?_
  refine reg_ ?_
  refine sq (o_pv (.pointer (some ⟨b2, 0, none⟩)) rfl (by kernel_rfl) ?_)
  replace k2 := (k2.evo0 e2)
  refine sq (o_pv (.slice ab Lb.length cb) rfl (x_load1 (by kernel_rfl) Try.isAgg24 (k2.cell' 0 rfl)) ?_)
  refine sq (o_pv (.string s) rfl (by kernel_rfl) ?_)
  replace hB := ((hB.step s1).step s2)
  replace hXo := ((hXo.step s1).step s2)
  refine sq (o_call 12 #[(.slice ab Lb.length cb), (.string s)] rfl (x_call Try.call12 (by kernel_rfl)) (push_w (L := Lb) (M := M) hXo hM hB hs (by omega)) ?_)
  rintro _ w3 ⟨e3, a8, c8, rfl, h8⟩
  have s3 := Step.of0 (b4 :: b2 :: X) e3
  refine sq (o_pv (.agg #[(.slice a8 M.length c8), (.slice none 0 0)]) rfl (by kernel_rfl) ?_)
  replace k4 := (k4.evo0 e3)
  refine sq (o_store (o := 0) (v := (.agg #[(.slice a8 M.length c8), (.slice none 0 0)])) [(.slice a8 M.length c8), (.slice none 0 0)] rfl k4 (by kernel_rfl) (by kernel_rfl) Try.sizeOf26 rfl rfl rfl ?_)
  intro w4 e4 kn4
  have s4 := Step.one e4 (X := b4 :: b2 :: X) (List.mem_cons_self)
  clear k4; have k4 := kn4
  refine nil_ ?_
  refine then_normal ?_
  refine wp_ret ?_
  refine end_ret (.agg #[(.slice a8 M.length c8), (.slice none 0 0)]) (rs_single Try.results7 (rs_agg [(.slice a8 M.length c8), (.slice none 0 0)] (by kernel_rfl) Try.isAgg26 Try.sizeOf26 (k4.cells' 0 rfl))) ?_
  refine ⟨_, rfl, ?_⟩
  replace E0 := (Evo.then1 (Evo.then0 (Evo.then0 (Evo.then0 E0 e1) e2) e3) e4 n4)
  replace h8 := (h8.step s4)
  exact ⟨E0, _, _, rfl, h8.less (Sub.trans (Sub.trans (Sub.refl _) (Sub.cons _ _)) (Sub.cons _ _))⟩

set_option maxRecDepth 20000 in
set_option maxHeartbeats 4000000 in
theorem pop_w {X : List Nat} {w : World} {a : Option Addr} {c : Nat} {K : List ByteArray} {x : ByteArray} (hX0 : Old X w) (hL : Sl rStr X w a c (K ++ [x])) (hb : K.length ≤ 1000000) :
    Calls Try.prog 13 #[(.slice a ((K ++ [x]).length) c)] w (Ret fun v w' => Evo [] w w' ∧ ∃ a' c', v = .tuple #[.slice a' K.length c', .string x] ∧ Sl rStr X w' a' c' K) := by
  have hl : (K ++ [x]).length = K.length + 1 := by simp
  have hlast : (K ++ [x])[K.length] = x := by simp
  have hXo := hX0
  have E0 : Evo [] w w := RB.refl _ _ _
  refine enter_ Try.func13 rfl 17 (upds (fun _ => undef) [(0, (.slice a ((K ++ [x]).length) c))]) (by kernel_rfl) ?_
  refine seq_ ?_
  refine reg_ ?_
  refine sq (o_pv (.slice none 0 0) rfl (by kernel_rfl) ?_)
  refine sq (o_pv (.string (ByteArray.mk #[])) rfl (by kernel_rfl) ?_)
  refine nil_ ?_
  refine then_normal ?_
  refine seq_ ?_
  refine reg_ ?_
  refine sq (o_pv (.slice a ((K ++ [x]).length) c) rfl (by kernel_rfl) ?_)
  refine sq (o_pv (.int .i64 (((K ++ [x]).length : Nat) : Int)) rfl (by kernel_rfl) ?_)
  refine sq (o_pv (.int .i64 ((K.length : Nat) : Int)) rfl (x_sub (a := (((K ++ [x]).length : Nat) : Int)) (b := 1) ((K.length : Nat) : Int) (by kernel_rfl) (by kernel_rfl) (by omega) (wrap_i64 (by omega) (by omega))) ?_)
  refine sq (o_pv (.int .i64 ((K.length : Nat) : Int)) rfl (by kernel_rfl) ?_)
  refine nil_ ?_
  refine then_normal ?_
  refine seq_ ?_
  refine reg_drawn (RB w.heap.size []) 10 (by kernel_rfl) (fun w1 hd2 => ?_)
  have e1 := Evo.of_drew hd2
  have z2 : w1.heap.size = w.heap.size := by rw [hd2]
  clear hd2
  have s1 := Step.of0 X e1
  replace E0 := (Evo.then0 E0 e1)
  have zr2 : w.heap.size ≤ w.heap.size := by have := E0.size; omega
  refine r_take 0 (.slice a ((K ++ [x]).length) c) (RB.pre _ _) rfl (by kernel_rfl) (fun _ _ _ h => h) (.inl ⟨rfl, fun wq hq => (by kernel_rfl)⟩) ?_
  refine r_take 1 (.int .i64 ((K.length : Nat) : Int)) (RB.pre _ _) rfl (by kernel_rfl) (fun _ _ _ h => h) (.inl ⟨rfl, fun wq hq => (by kernel_rfl)⟩) ?_
  replace hL := (hL.step s1)
  refine r_slice 2 (RB.pre _ _) rfl (by kernel_rfl) (fun _ _ _ _ h => h) 0 K.length K rfl Try.underlying24 Try.sizeOf9 hL (by kernel_rfl) rfl (.inl ⟨rfl, rfl⟩) (.inr ⟨.i64, by kernel_rfl⟩) (by omega) (by first | omega | simp) (by simp) ?_
  intro a10 c10 hs10
  refine r_take 5 (.slice a ((K ++ [x]).length) c) (RB.pre _ _) rfl (by kernel_rfl) (fun _ _ _ h => h) (.inl ⟨rfl, fun wq hq => (by kernel_rfl)⟩) ?_
  refine r_take 6 (.int .i64 ((K.length : Nat) : Int)) (RB.pre _ _) rfl (by kernel_rfl) (fun _ _ _ h => h) (.inl ⟨rfl, fun wq hq => (by kernel_rfl)⟩) ?_
  have hi15 : K.length < (K ++ [x]).length := by omega
  obtain ⟨b15, o15, cs15, ha15, hnx15, hlt15, hok15, hc15⟩ := hL.at _ hi15
  obtain ⟨rfl, hz15⟩ := hok15
  refine r_take 7 (.pointer (some ⟨b15, o15 + K.length * 1, none⟩)) (RB.pre _ _) rfl (by kernel_rfl) (fun _ _ _ h => h) (.inl ⟨rfl, fun wq hq => (x_indexAddr (m := (K ++ [x]).length) (c := c) (k := .i64) (e := ((K.length : Nat) : Int)) (i := K.length) Try.underlying24 Try.sizeOf9 (by rw [← ha15]; kernel_rfl) (by kernel_rfl) rfl (by omega))⟩) ?_
  refine r_take 8 (.string ((K ++ [x])[K.length])) (RB.pre _ _) rfl (by kernel_rfl) (fun _ _ _ h => h) (.inl ⟨rfl, fun wq hq => (x_load1 (by kernel_rfl) Try.isAgg9 (hc15.rb hq (by omega) (by simp)).one)⟩) ?_
  refine r_ready [3] (by kernel_rfl) rfl (all_cons ⟨_, _, _, _, _, _, rfl, ?_⟩ all_nil)
  replace hXo := (hXo.step s1)
  have hXq11 := hXo
  refine  (o_call 15 #[(.slice a10 K.length c10)] rfl (x_call Try.call15 (by kernel_rfl)) (clone_str (L := K) hXo hs10 (by omega)) ?_)
  rintro _ w2 ⟨e2, a11, c11, rfl, hg11, hO11⟩
  have s2 := Step.of0 X e2
  have h11 : Sl rStr X w2 a11 c11 K := hO11.sl (fun _ h => List.mem_append_right _ h) (fun b hb hx => by have := hg11 b hb; have := hXq11 b hx; omega)
  refine ⟨fun _ => RB.mono e2 (by have := e2.size; omega) (fun _ h => by cases h), ?_⟩
  refine r_ready [4] (by kernel_rfl) rfl (all_cons ⟨_, _, _, _, _, _, rfl, ?_⟩ all_nil)
  refine  (o_call 14 #[(.slice a11 K.length c11)] rfl (x_call Try.call14 (by kernel_rfl)) (clip_str (L := K) h11) ?_)
  rintro _ w3 ⟨e3, a12, c12, rfl, h12⟩
  have s3 := Step.of0 X e3
  refine ⟨fun _ => RB.mono e3 (by have := e2.size; have := e3.size; omega) (fun _ h => by cases h), ?_⟩
  refine r_take 9 (.slice a12 K.length c12) (RB.pre _ _) rfl (by kernel_rfl) (fun _ _ _ h => h) (.inl ⟨rfl, fun wq hq => (by kernel_rfl)⟩) ?_
  refine r_ready [10] (by kernel_rfl) rfl (all_cons ⟨_, _, _, _, _, _, rfl, ?_⟩ all_nil)
  refine  (o_pv (.string ((K ++ [x])[K.length])) rfl (by kernel_rfl) ?_)
  refine ⟨fun h => absurd h (by decide), ?_⟩
  refine r_done (by kernel_rfl) ?_
  refine then_normal ?_
  refine wp_ret ?_
  refine end_ret (.tuple #[(.slice a12 K.length c12), (.string ((K ++ [x])[K.length]))]) (by kernel_rfl) ?_
  refine ⟨_, rfl, ?_⟩
  replace E0 := (Evo.then0 (Evo.then0 E0 e2) e3)
  rw [hlast]
  exact ⟨E0, _, _, rfl, h12⟩

set_option maxRecDepth 20000 in
set_option maxHeartbeats 4000000 in
theorem Undo_w0 {X : List Nat} {w : World} {s : ByteArray} {ab : Option Addr} {cb : Nat} {Lb : List ByteArray} {vf : Value} (hX0 : Old X w) (hE : Lb = []) :
    Calls Try.prog 8 #[(.agg #[(.slice ab Lb.length cb), vf]), (.string s)] w (Ret fun v w' => Evo [] w w' ∧ v = .tuple #[.agg #[.slice none 0 0, .slice none 0 0], .string (ByteArray.mk #[]), .int .i64 10]) := by
  have hXo := hX0
  have E0 : Evo [] w w := RB.refl _ _ _
  refine enter_ Try.func8 rfl 30 (upds (fun _ => undef) [(0, (.agg #[(.slice ab Lb.length cb), vf])), (1, (.string s))]) (by kernel_rfl) ?_
  refine seq_ ?_
  refine reg_ ?_
  refine sq (o_new [(.slice ab Lb.length cb), vf] 26 rfl (by kernel_rfl) ?_)
  rintro b2 w1 hb2 e1 k2
  have n2 : w.heap.size ≤ b2 := Nat.le_trans E0.size (Nat.le_of_eq hb2.symm)
  have s1 := Step.fresh X e1 b2 (Nat.le_of_eq hb2.symm) k2.lt
  refine sq (o_new [(.slice none 0 0), (.slice none 0 0)] 26 rfl (by kernel_rfl) ?_)
  rintro b4 w2 hb4 e2 k4
  have n4 : w.heap.size ≤ b4 := Nat.le_trans (Evo.then0 E0 e1).size (Nat.le_of_eq hb4.symm)
  have l2_4 : b2 < b4 := Nat.lt_of_lt_of_eq k2.lt hb4.symm
  have s2 := Step.fresh (b2 :: X) e2 b4 (Nat.le_of_eq hb4.symm) k4.lt
  refine sq (o_pv (.string (ByteArray.mk #[])) rfl (by kernel_rfl) ?_)
  refine sq (o_pv (.int .i64 0) rfl (by kernel_rfl) ?_)
  refine nil_ ?_
  refine then_normal ?_
  refine seq_ ?_
  refine seq_ ?_
  refine reg_ ?_
  refine sq (o_pv (.pointer (some ⟨b2, 0, none⟩)) rfl (by kernel_rfl) ?_)
  replace k2 := (k2.evo0 e2)
  refine sq (o_pv (.slice ab Lb.length cb) rfl (x_load1 (by kernel_rfl) Try.isAgg24 (k2.cell' 0 rfl)) ?_)
  refine sq (o_pv (.int .i64 ((Lb.length : Nat) : Int)) rfl (by kernel_rfl) ?_)
  refine sq (o_pv (.bool (decide (((Lb.length : Nat) : Int) = 0))) rfl (by kernel_rfl) ?_)
  refine nil_ ?_
  refine then_normal ?_
  refine cond_dt (((Lb.length : Nat) : Int) = 0) (by kernel_rfl) (by rw [hE]; simp) ?_
  refine seq_ ?_
  refine reg_ ?_
  refine sq (o_pv (.agg #[(.slice none 0 0), (.slice none 0 0)]) rfl (by kernel_rfl) ?_)
  refine sq (o_store (o := 0) (v := (.agg #[(.slice none 0 0), (.slice none 0 0)])) [(.slice none 0 0), (.slice none 0 0)] rfl k4 (by kernel_rfl) (by kernel_rfl) Try.sizeOf26 rfl rfl rfl ?_)
  intro w3 e3 kn3
  have s3 := Step.one e3 (X := b4 :: b2 :: X) (List.mem_cons_self)
  clear k4; have k4 := kn3
  refine sq (o_pv (.string (ByteArray.mk #[])) rfl (by kernel_rfl) ?_)
  refine sq (o_pv (.int .i64 10) rfl (by kernel_rfl) ?_)
  refine nil_ ?_
  refine then_normal ?_
  refine wp_ret ?_
  refine then_ret ?_
  refine end_ret (.tuple #[(.agg #[(.slice none 0 0), (.slice none 0 0)]), (.string (ByteArray.mk #[])), (.int .i64 10)]) (rs3 Try.results8 (rs_agg [(.slice none 0 0), (.slice none 0 0)] (by kernel_rfl) Try.isAgg26 Try.sizeOf26 (k4.cells' 0 rfl)) (rs_tmp (by kernel_rfl)) (rs_tmp (by kernel_rfl))) ?_
  refine ⟨_, rfl, ?_⟩
  replace E0 := (Evo.then1 (Evo.then0 (Evo.then0 E0 e1) e2) e3 n4)
  exact ⟨E0, rfl⟩

set_option maxRecDepth 20000 in
set_option maxHeartbeats 4000000 in
theorem Undo_w {X : List Nat} {w : World} {s x : ByteArray} {ab af : Option Addr} {cb cf : Nat} {Lb Lf K M : List ByteArray} (hX0 : Old X w) (hE : Lb = K ++ [x]) (hM : Lf ++ [s] = M) (hB : Sl rStr X w ab cb Lb) (hF : Sl rStr X w af cf Lf) (hs : s.size ≤ maxLen) (hb : Lf.length ≤ 1000000) (hk : K.length ≤ 1000000) :
    Calls Try.prog 8 #[(.agg #[(.slice ab Lb.length cb), (.slice af Lf.length cf)]), (.string s)] w (Ret fun v w' => Evo [] w w' ∧ ∃ a1 c1 a2 c2, v = .tuple #[.agg #[.slice a1 K.length c1, .slice a2 M.length c2], .string x, .int .i64 0] ∧ Sl rStr X w' a1 c1 K ∧ Sl rStr X w' a2 c2 M) := by
  subst hE; subst hM
  have hl : (K ++ [x]).length = K.length + 1 := by simp
  have hXo := hX0
  have E0 : Evo [] w w := RB.refl _ _ _
  refine enter_ Try.func8 rfl 30 (upds (fun _ => undef) [(0, (.agg #[(.slice ab ((K ++ [x]).length) cb), (.slice af Lf.length cf)])), (1, (.string s))]) (by kernel_rfl) ?_
  refine seq_ ?_
  refine reg_ ?_
  refine sq (o_new [(.slice ab ((K ++ [x]).length) cb), (.slice af Lf.length cf)] 26 rfl (by kernel_rfl) ?_)
  rintro b2 w1 hb2 e1 k2
  have n2 : w.heap.size ≤ b2 := Nat.le_trans E0.size (Nat.le_of_eq hb2.symm)
  have s1 := Step.fresh X e1 b2 (Nat.le_of_eq hb2.symm) k2.lt
  refine sq (o_new [(.slice none 0 0), (.slice none 0 0)] 26 rfl (by kernel_rfl) ?_)
  rintro b4 w2 hb4 e2 k4
  have n4 : w.heap.size ≤ b4 := Nat.le_trans (Evo.then0 E0 e1).size (Nat.le_of_eq hb4.symm)
  have l2_4 : b2 < b4 := Nat.lt_of_lt_of_eq k2.lt hb4.symm
  have s2 := Step.fresh (b2 :: X) e2 b4 (Nat.le_of_eq hb4.symm) k4.lt
  refine sq (o_pv (.string (ByteArray.mk #[])) rfl (by kernel_rfl) ?_)
  refine sq (o_pv (.int .i64 0) rfl (by kernel_rfl) ?_)
  refine nil_ ?_
  refine then_normal ?_
  refine seq_ ?_
  refine seq_ ?_
  refine reg_ ?_
  refine sq (o_pv (.pointer (some ⟨b2, 0, none⟩)) rfl (by kernel_rfl) ?_)
  replace k2 := (k2.evo0 e2)
  refine sq (o_pv (.slice ab ((K ++ [x]).length) cb) rfl (x_load1 (by kernel_rfl) Try.isAgg24 (k2.cell' 0 rfl)) ?_)
  refine sq (o_pv (.int .i64 (((K ++ [x]).length : Nat) : Int)) rfl (by kernel_rfl) ?_)
  refine sq (o_pv (.bool (decide ((((K ++ [x]).length : Nat) : Int) = 0))) rfl (by kernel_rfl) ?_)
  refine nil_ ?_
  refine then_normal ?_
  refine cond_df ((((K ++ [x]).length : Nat) : Int) = 0) (by kernel_rfl) (by omega) ?_
  refine wp_skip ?_
  refine then_normal ?_
  refine seq_ ?_
  refine reg_ ?_
  refine sq (o_pv (.pointer (some ⟨b2, 0, none⟩)) rfl (by kernel_rfl) ?_)
  refine sq (o_pv (.slice ab ((K ++ [x]).length) cb) rfl (x_load1 (by kernel_rfl) Try.isAgg24 (k2.cell' 0 rfl)) ?_)
  replace hB := ((hB.step s1).step s2)
  replace hXo := ((hXo.step s1).step s2)
  refine sq (o_call 13 #[(.slice ab ((K ++ [x]).length) cb)] rfl (x_call Try.call13 (by kernel_rfl)) (pop_w (K := K) (x := x) hXo hB (by omega)) ?_)
  rintro _ w3 ⟨e3, a17, c17, rfl, h17⟩
  have s3 := Step.of0 (b4 :: b2 :: X) e3
  refine sq (o_pv (.tuple #[(.slice a17 K.length c17), (.string x)]) rfl (by kernel_rfl) ?_)
  refine sq (o_pv (.slice a17 K.length c17) rfl (by kernel_rfl) ?_)
  refine sq (o_pv (.string x) rfl (by kernel_rfl) ?_)
  refine sq (o_pv (.slice a17 K.length c17) rfl (by kernel_rfl) ?_)
  refine sq (o_pv (.string x) rfl (by kernel_rfl) ?_)
  refine nil_ ?_
  refine then_normal ?_
  refine seq_ ?_
  refine reg_ ?_
  refine sq (o_pv (.slice a17 K.length c17) rfl (by kernel_rfl) ?_)
  refine sq (o_pv (.pointer (some ⟨b2, 1, none⟩)) rfl (by kernel_rfl) ?_)
  replace k2 := (k2.evo0 e3)
  refine sq (o_pv (.slice af Lf.length cf) rfl (x_load1 (by kernel_rfl) Try.isAgg24 (k2.cell' 1 rfl)) ?_)
  replace hF := (((hF.step s1).step s2).step s3)
  replace hXo := (hXo.step s3)
  refine sq (o_call 15 #[(.slice af Lf.length cf)] rfl (x_call Try.call15 (by kernel_rfl)) (clone_str (L := Lf) hXo hF (by omega)) ?_)
  rintro _ w4 ⟨e4, a23, c23, rfl, hg23, hO23⟩
  replace k4 := (k4.evo0 e3)
  have s4 := Step.app (b4 :: b2 :: X) (blkL a23) e4 (fun b hb => ⟨hg23 b hb, (hO23.lt b hb).2⟩)
  replace hO23 := hO23.down (base' := w.heap.size) (Evo.then0 (Evo.then0 (Evo.then0 E0 e1) e2) e3).size
  have q2_hO23 : b2 ∉ blkL a23 := fun h => by have := hg23 _ h; have := k2.lt; omega
  have q4_hO23 : b4 ∉ blkL a23 := fun h => by have := hg23 _ h; have := k4.lt; omega
  refine sq (o_pv (.string s) rfl (by kernel_rfl) ?_)
  refine sq (o_row [(.string s)] 9 1 rfl (by kernel_rfl) ?_)
  replace k2 := (k2.evo0 e4)
  replace k4 := (k4.evo0 e4)
  rintro b25 w5 hb25 e5 k25
  have n25 : w.heap.size ≤ b25 := Nat.le_trans (Evo.then0 (Evo.then0 (Evo.then0 (Evo.then0 E0 e1) e2) e3) e4).size (Nat.le_of_eq hb25.symm)
  have l2_25 : b2 < b25 := Nat.lt_of_lt_of_eq k2.lt hb25.symm
  have l4_25 : b4 < b25 := Nat.lt_of_lt_of_eq k4.lt hb25.symm
  have q25_hO23 : b25 ∉ blkL a23 := fun h => by have := (hO23.lt _ h).2; omega
  have s5 := Step.fresh (blkL a23 ++ (b4 :: b2 :: X)) e5 b25 (Nat.le_of_eq hb25.symm) k25.lt
  replace hO23 := (hO23.step s5 (fun _ _ => by simp))
  replace k2 := (k2.evo0 e5)
  replace k4 := (k4.evo0 e5)
  refine sq (o_append (R := rStr) rfl elT24 rfl hO23 (k25.src (c := 1) (Flat.cons1 ⟨rfl, hs⟩ Flat.nil)) (by kernel_rfl) (by kernel_rfl) rfl rfl (by simp; omega) ?_)
  intro a26 c26 w6 X6 s6 hX6 hn6 hO26
  subst hX6
  have hl26 : (Lf ++ ([s])).length = Lf.length + 1 := by simp
  have q2_hO26 : b2 ∉ blkL a26 := fun h => (hn6 _ h).elim q2_hO23 (fun e => by have := k2.lt; omega)
  have q4_hO26 : b4 ∉ blkL a26 := fun h => (hn6 _ h).elim q4_hO23 (fun e => by have := k4.lt; omega)
  have p6 := hO23
  replace hB := ((((hB.step s3).step s4).step s5).step s6)
  replace hF := (((hF.step s4).step s5).step s6)
  replace hXo := (((hXo.step s4).step s5).step s6)
  replace E0 := (Evo.thenO (Evo.then0 (Evo.then0 (Evo.then0 (Evo.then0 (Evo.then0 E0 e1) e2) e3) e4) e5) s6.evo p6 (Nat.le_refl _))
  replace k2 := (k2.evo s6.evo (q2_hO23))
  replace k4 := (k4.evo s6.evo (q4_hO23))
  replace h17 := (((h17.step s4).step s5).step s6)
  have u7 : Sub (b2 :: b4 :: X) (blkL a26 ++ (b25 :: blkL a23 ++ (b4 :: b2 :: X))) := (Sub.of_cons (List.mem_append_right _ (List.mem_cons_of_mem _ (List.mem_append_right _ (List.mem_cons_of_mem _ (List.mem_cons_self))))) (Sub.of_cons (List.mem_append_right _ (List.mem_cons_of_mem _ (List.mem_append_right _ (List.mem_cons_self)))) (Sub.trans (Sub.trans (Sub.trans (Sub.trans (Sub.trans (Sub.refl _) (Sub.cons _ _)) (Sub.cons _ _)) (fun _ h => List.mem_append_right _ h)) (Sub.cons _ _)) (fun _ h => List.mem_append_right _ h))))
  have r7 := hO26.sl u7 (NotIn.cons q2_hO26 (NotIn.cons q4_hO26 (hO26.notin hX0)))
  replace hB := hB.less u7
  replace hF := hF.less u7
  replace hXo := hXo.less u7
  replace h17 := h17.less u7
  refine sq (o_call 14 #[(.slice a26 ((Lf ++ ([s])).length) c26)] rfl (x_call Try.call14 (by kernel_rfl)) (clip_str (L := Lf ++ ([s])) r7) ?_)
  rintro _ w7 ⟨e8, a27, c27, rfl, h27⟩
  have s8 := Step.of0 (b2 :: b4 :: X) e8
  refine sq (o_pv (.agg #[(.slice a17 K.length c17), (.slice a27 ((Lf ++ ([s])).length) c27)]) rfl (by kernel_rfl) ?_)
  refine sq (o_pv (.string x) rfl (by kernel_rfl) ?_)
  replace k4 := (k4.evo0 e8)
  refine sq (o_store (o := 0) (v := (.agg #[(.slice a17 K.length c17), (.slice a27 ((Lf ++ ([s])).length) c27)])) [(.slice a17 K.length c17), (.slice a27 ((Lf ++ ([s])).length) c27)] rfl k4 (by kernel_rfl) (by kernel_rfl) Try.sizeOf26 rfl rfl rfl ?_)
  intro w8 e9 kn9
  have s9 := Step.one e9 (X := b2 :: b4 :: X) (List.mem_cons_of_mem _ (List.mem_cons_self))
  clear k4; have k4 := kn9
  refine sq (o_pv (.string x) rfl (by kernel_rfl) ?_)
  refine sq (o_pv (.int .i64 0) rfl (by kernel_rfl) ?_)
  refine nil_ ?_
  refine then_normal ?_
  refine wp_ret ?_
  refine end_ret (.tuple #[(.agg #[(.slice a17 K.length c17), (.slice a27 ((Lf ++ ([s])).length) c27)]), (.string x), (.int .i64 0)]) (rs3 Try.results8 (rs_agg [(.slice a17 K.length c17), (.slice a27 ((Lf ++ ([s])).length) c27)] (by kernel_rfl) Try.isAgg26 Try.sizeOf26 (k4.cells' 0 rfl)) (rs_tmp (by kernel_rfl)) (rs_tmp (by kernel_rfl))) ?_
  refine ⟨_, rfl, ?_⟩
  replace E0 := (Evo.then1 (Evo.then0 E0 e8) e9 n4)
  replace h17 := ((h17.step s8).step s9)
  replace h27 := (h27.step s9)
  exact ⟨E0, _, _, _, _, rfl, h17.less (Sub.trans (Sub.trans (Sub.refl _) (Sub.cons _ _)) (Sub.cons _ _)), h27.less (Sub.trans (Sub.trans (Sub.refl _) (Sub.cons _ _)) (Sub.cons _ _))⟩

set_option maxRecDepth 20000 in
set_option maxHeartbeats 4000000 in
theorem Redo_w0 {X : List Nat} {w : World} {s : ByteArray} {ab : Option Addr} {cb : Nat} {Lb : List ByteArray} {vf : Value} (hX0 : Old X w) (hE : Lb = []) :
    Calls Try.prog 9 #[(.agg #[vf, (.slice ab Lb.length cb)]), (.string s)] w (Ret fun v w' => Evo [] w w' ∧ v = .tuple #[.agg #[.slice none 0 0, .slice none 0 0], .string (ByteArray.mk #[]), .int .i64 10]) := by
  have hXo := hX0
  have E0 : Evo [] w w := RB.refl _ _ _
  refine enter_ Try.func9 rfl 27 (upds (fun _ => undef) [(0, (.agg #[vf, (.slice ab Lb.length cb)])), (1, (.string s))]) (by kernel_rfl) ?_
  refine seq_ ?_
  refine reg_ ?_
  refine sq (o_new [vf, (.slice ab Lb.length cb)] 26 rfl (by kernel_rfl) ?_)
  rintro b2 w1 hb2 e1 k2
  have n2 : w.heap.size ≤ b2 := Nat.le_trans E0.size (Nat.le_of_eq hb2.symm)
  have s1 := Step.fresh X e1 b2 (Nat.le_of_eq hb2.symm) k2.lt
  refine sq (o_new [(.slice none 0 0), (.slice none 0 0)] 26 rfl (by kernel_rfl) ?_)
  rintro b4 w2 hb4 e2 k4
  have n4 : w.heap.size ≤ b4 := Nat.le_trans (Evo.then0 E0 e1).size (Nat.le_of_eq hb4.symm)
  have l2_4 : b2 < b4 := Nat.lt_of_lt_of_eq k2.lt hb4.symm
  have s2 := Step.fresh (b2 :: X) e2 b4 (Nat.le_of_eq hb4.symm) k4.lt
  refine sq (o_pv (.string (ByteArray.mk #[])) rfl (by kernel_rfl) ?_)
  refine sq (o_pv (.int .i64 0) rfl (by kernel_rfl) ?_)
  refine nil_ ?_
  refine then_normal ?_
  refine seq_ ?_
  refine seq_ ?_
  refine reg_ ?_
  refine sq (o_pv (.pointer (some ⟨b2, 1, none⟩)) rfl (by kernel_rfl) ?_)
  replace k2 := (k2.evo0 e2)
  refine sq (o_pv (.slice ab Lb.length cb) rfl (x_load1 (by kernel_rfl) Try.isAgg24 (k2.cell' 1 rfl)) ?_)
  refine sq (o_pv (.int .i64 ((Lb.length : Nat) : Int)) rfl (by kernel_rfl) ?_)
  refine sq (o_pv (.bool (decide (((Lb.length : Nat) : Int) = 0))) rfl (by kernel_rfl) ?_)
  refine nil_ ?_
  refine then_normal ?_
  refine cond_dt (((Lb.length : Nat) : Int) = 0) (by kernel_rfl) (by rw [hE]; simp) ?_
  refine seq_ ?_
  refine reg_ ?_
  refine sq (o_pv (.agg #[(.slice none 0 0), (.slice none 0 0)]) rfl (by kernel_rfl) ?_)
  refine sq (o_store (o := 0) (v := (.agg #[(.slice none 0 0), (.slice none 0 0)])) [(.slice none 0 0), (.slice none 0 0)] rfl k4 (by kernel_rfl) (by kernel_rfl) Try.sizeOf26 rfl rfl rfl ?_)
  intro w3 e3 kn3
  have s3 := Step.one e3 (X := b4 :: b2 :: X) (List.mem_cons_self)
  clear k4; have k4 := kn3
  refine sq (o_pv (.string (ByteArray.mk #[])) rfl (by kernel_rfl) ?_)
  refine sq (o_pv (.int .i64 10) rfl (by kernel_rfl) ?_)
  refine nil_ ?_
  refine then_normal ?_
  refine wp_ret ?_
  refine then_ret ?_
  refine end_ret (.tuple #[(.agg #[(.slice none 0 0), (.slice none 0 0)]), (.string (ByteArray.mk #[])), (.int .i64 10)]) (rs3 Try.results9 (rs_agg [(.slice none 0 0), (.slice none 0 0)] (by kernel_rfl) Try.isAgg26 Try.sizeOf26 (k4.cells' 0 rfl)) (rs_tmp (by kernel_rfl)) (rs_tmp (by kernel_rfl))) ?_
  refine ⟨_, rfl, ?_⟩
  replace E0 := (Evo.then1 (Evo.then0 (Evo.then0 E0 e1) e2) e3 n4)
  exact ⟨E0, rfl⟩

set_option maxRecDepth 20000 in
set_option maxHeartbeats 4000000 in
theorem Redo_w {X : List Nat} {w : World} {s x : ByteArray} {ab af : Option Addr} {cb cf : Nat} {Lb Lf K M : List ByteArray} (hX0 : Old X w) (hE : Lf = K ++ [x]) (hM : pushL Lb s = M) (hB : Sl rStr X w ab cb Lb) (hF : Sl rStr X w af cf Lf) (hs : s.size ≤ maxLen) (hb : Lb.length ≤ 1000000) (hk : K.length ≤ 1000000) :
    Calls Try.prog 9 #[(.agg #[(.slice ab Lb.length cb), (.slice af Lf.length cf)]), (.string s)] w (Ret fun v w' => Evo [] w w' ∧ ∃ a1 c1 a2 c2, v = .tuple #[.agg #[.slice a1 M.length c1, .slice a2 K.length c2], .string x, .int .i64 0] ∧ Sl rStr X w' a1 c1 M ∧ Sl rStr X w' a2 c2 K) := by
  subst hE; subst hM
  have hl : (K ++ [x]).length = K.length + 1 := by simp
  have hXo := hX0
  have E0 : Evo [] w w := RB.refl _ _ _
  refine enter_ Try.func9 rfl 27 (upds (fun _ => undef) [(0, (.agg #[(.slice ab Lb.length cb), (.slice af ((K ++ [x]).length) cf)])), (1, (.string s))]) (by kernel_rfl) ?_
  refine seq_ ?_
  refine reg_ ?_
  refine sq (o_new [(.slice ab Lb.length cb), (.slice af ((K ++ [x]).length) cf)] 26 rfl (by kernel_rfl) ?_)
  rintro b2 w1 hb2 e1 k2
  have n2 : w.heap.size ≤ b2 := Nat.le_trans E0.size (Nat.le_of_eq hb2.symm)
  have s1 := Step.fresh X e1 b2 (Nat.le_of_eq hb2.symm) k2.lt
  refine sq (o_new [(.slice none 0 0), (.slice none 0 0)] 26 rfl (by kernel_rfl) ?_)
  rintro b4 w2 hb4 e2 k4
  have n4 : w.heap.size ≤ b4 := Nat.le_trans (Evo.then0 E0 e1).size (Nat.le_of_eq hb4.symm)
  have l2_4 : b2 < b4 := Nat.lt_of_lt_of_eq k2.lt hb4.symm
  have s2 := Step.fresh (b2 :: X) e2 b4 (Nat.le_of_eq hb4.symm) k4.lt
  refine sq (o_pv (.string (ByteArray.mk #[])) rfl (by kernel_rfl) ?_)
  refine sq (o_pv (.int .i64 0) rfl (by kernel_rfl) ?_)
  refine nil_ ?_
  refine then_normal ?_
  refine seq_ ?_
  refine seq_ ?_
  refine reg_ ?_
  refine sq (o_pv (.pointer (some ⟨b2, 1, none⟩)) rfl (by kernel_rfl) ?_)
  replace k2 := (k2.evo0 e2)
  refine sq (o_pv (.slice af ((K ++ [x]).length) cf) rfl (x_load1 (by kernel_rfl) Try.isAgg24 (k2.cell' 1 rfl)) ?_)
  refine sq (o_pv (.int .i64 (((K ++ [x]).length : Nat) : Int)) rfl (by kernel_rfl) ?_)
  refine sq (o_pv (.bool (decide ((((K ++ [x]).length : Nat) : Int) = 0))) rfl (by kernel_rfl) ?_)
  refine nil_ ?_
  refine then_normal ?_
  refine cond_df ((((K ++ [x]).length : Nat) : Int) = 0) (by kernel_rfl) (by omega) ?_
  refine wp_skip ?_
  refine then_normal ?_
  refine seq_ ?_
  refine reg_ ?_
  refine sq (o_pv (.pointer (some ⟨b2, 1, none⟩)) rfl (by kernel_rfl) ?_)
  refine sq (o_pv (.slice af ((K ++ [x]).length) cf) rfl (x_load1 (by kernel_rfl) Try.isAgg24 (k2.cell' 1 rfl)) ?_)
  replace hF := ((hF.step s1).step s2)
  replace hXo := ((hXo.step s1).step s2)
  refine sq (o_call 13 #[(.slice af ((K ++ [x]).length) cf)] rfl (x_call Try.call13 (by kernel_rfl)) (pop_w (K := K) (x := x) hXo hF (by omega)) ?_)
  rintro _ w3 ⟨e3, a17, c17, rfl, h17⟩
  have s3 := Step.of0 (b4 :: b2 :: X) e3
  refine sq (o_pv (.tuple #[(.slice a17 K.length c17), (.string x)]) rfl (by kernel_rfl) ?_)
  refine sq (o_pv (.slice a17 K.length c17) rfl (by kernel_rfl) ?_)
  refine sq (o_pv (.string x) rfl (by kernel_rfl) ?_)
  refine sq (o_pv (.slice a17 K.length c17) rfl (by kernel_rfl) ?_)
  refine sq (o_pv (.string x) rfl (by kernel_rfl) ?_)
  refine nil_ ?_
  refine then_normal ?_
  refine seq_ ?_
  refine reg_ ?_
  refine sq (o_pv (.pointer (some ⟨b2, 0, none⟩)) rfl (by kernel_rfl) ?_)
  replace k2 := (k2.evo0 e3)
  refine sq (o_pv (.slice ab Lb.length cb) rfl (x_load1 (by kernel_rfl) Try.isAgg24 (k2.cell' 0 rfl)) ?_)
  refine sq (o_pv (.string s) rfl (by kernel_rfl) ?_)
  replace hB := (((hB.step s1).step s2).step s3)
  replace hXo := (hXo.step s3)
  refine sq (o_call 12 #[(.slice ab Lb.length cb), (.string s)] rfl (x_call Try.call12 (by kernel_rfl)) (push_w (L := Lb) (M := pushL Lb s) hXo rfl hB hs (by omega)) ?_)
  rintro _ w4 ⟨e4, a23, c23, rfl, h23⟩
  have s4 := Step.of0 (b4 :: b2 :: X) e4
  refine sq (o_pv (.slice a17 K.length c17) rfl (by kernel_rfl) ?_)
  refine sq (o_pv (.agg #[(.slice a23 ((pushL Lb s).length) c23), (.slice a17 K.length c17)]) rfl (by kernel_rfl) ?_)
  refine sq (o_pv (.string x) rfl (by kernel_rfl) ?_)
  replace k4 := ((k4.evo0 e3).evo0 e4)
  refine sq (o_store (o := 0) (v := (.agg #[(.slice a23 ((pushL Lb s).length) c23), (.slice a17 K.length c17)])) [(.slice a23 ((pushL Lb s).length) c23), (.slice a17 K.length c17)] rfl k4 (by kernel_rfl) (by kernel_rfl) Try.sizeOf26 rfl rfl rfl ?_)
  intro w5 e5 kn5
  have s5 := Step.one e5 (X := b4 :: b2 :: X) (List.mem_cons_self)
  clear k4; have k4 := kn5
  refine sq (o_pv (.string x) rfl (by kernel_rfl) ?_)
  refine sq (o_pv (.int .i64 0) rfl (by kernel_rfl) ?_)
  refine nil_ ?_
  refine then_normal ?_
  refine wp_ret ?_
  refine end_ret (.tuple #[(.agg #[(.slice a23 ((pushL Lb s).length) c23), (.slice a17 K.length c17)]), (.string x), (.int .i64 0)]) (rs3 Try.results9 (rs_agg [(.slice a23 ((pushL Lb s).length) c23), (.slice a17 K.length c17)] (by kernel_rfl) Try.isAgg26 Try.sizeOf26 (k4.cells' 0 rfl)) (rs_tmp (by kernel_rfl)) (rs_tmp (by kernel_rfl))) ?_
  refine ⟨_, rfl, ?_⟩
  replace E0 := (Evo.then1 (Evo.then0 (Evo.then0 (Evo.then0 (Evo.then0 E0 e1) e2) e3) e4) e5 n4)
  replace h23 := (h23.step s5)
  replace h17 := ((h17.step s4).step s5)
  exact ⟨E0, _, _, _, _, rfl, h23.less (Sub.trans (Sub.trans (Sub.refl _) (Sub.cons _ _)) (Sub.cons _ _)), h17.less (Sub.trans (Sub.trans (Sub.refl _) (Sub.cons _ _)) (Sub.cons _ _))⟩

set_option maxRecDepth 20000 in
set_option maxHeartbeats 4000000 in
theorem texts_w {X : List Nat} {w : World} {a a2 : Option Addr} {c c2 : Nat} {L M : List ByteArray} {b : Bool} (hb : decide (L = M) = b) (hL : Sl rStr X w a c L) (hM : Sl rStr X w a2 c2 M) :
    Calls Try.prog 16 #[(.slice a L.length c), (.slice a2 M.length c2)] w (Ret fun v w' => Evo [] w w' ∧ v = .bool b) := by
  have hz1 := hL.len; have hz2 := hM.len
  have E0 : Evo [] w w := RB.refl _ _ _
  refine enter_ Try.func16 rfl 26 (upds (fun _ => undef) [(0, (.slice a L.length c)), (1, (.slice a2 M.length c2))]) (by kernel_rfl) ?_
  refine seq_ ?_
  refine reg_ ?_
  refine sq (o_pv (.bool false) rfl (by kernel_rfl) ?_)
  refine nil_ ?_
  refine then_normal ?_
  refine seq_ ?_
  refine seq_ ?_
  refine reg_ ?_
  refine sq (o_pv (.slice a L.length c) rfl (by kernel_rfl) ?_)
  refine sq (o_pv (.int .i64 ((L.length : Nat) : Int)) rfl (by kernel_rfl) ?_)
  refine sq (o_pv (.slice a2 M.length c2) rfl (by kernel_rfl) ?_)
  refine sq (o_pv (.int .i64 ((M.length : Nat) : Int)) rfl (by kernel_rfl) ?_)
  refine sq (o_pv (.bool (!decide (((L.length : Nat) : Int) = ((M.length : Nat) : Int)))) rfl (by kernel_rfl) ?_)
  refine nil_ ?_
  refine then_normal ?_
  refine cond_nd (((L.length : Nat) : Int) = ((M.length : Nat) : Int)) (by kernel_rfl) (fun h10 => ?_) (fun h10 => ?_)
  ·
    refine seq_ ?_
    refine reg_ ?_
    refine sq (o_pv (.bool false) rfl (by kernel_rfl) ?_)
    refine nil_ ?_
    refine then_normal ?_
    refine wp_ret ?_
    refine then_ret ?_
    refine end_ret (.bool false) (by kernel_rfl) ?_
    refine ⟨_, rfl, ?_⟩
    exact ⟨E0, by rw [← hb, decide_eq_false (fun e => h10 (by rw [e]))]⟩
  ·
    refine wp_skip ?_
    refine then_normal ?_
    refine seq_ ?_
    refine seq_ ?_
    refine reg_ ?_
    refine sq (o_pv (.int .i64 0) rfl (by kernel_rfl) ?_)
    refine nil_ ?_
    refine then_normal ?_
    refine wp_block ?_
    refine loop_ 67106864 (fun kq lq wl0 => ∃ i : Nat, (lq = [(5, (.int .i64 ((i : Nat) : Int)))]) ∧ (kq = L.length - i) ∧ (Evo [] w wl0) ∧ (Sl rStr X wl0 a c L) ∧ (Sl rStr X wl0 a2 c2 M) ∧ (i ≤ L.length) ∧ (L.take i = M.take i)) (L.length - 0) [(5, (.int .i64 0))] (by kernel_rfl) ⟨0, rfl, rfl, E0, hL, hM, (by omega), (by simp)⟩ ?_
    rintro k0 l0 wl0 g0 ⟨i, rfl, hk0, E0, hL, hM, hi, ht⟩
    refine seq_ ?_
    refine seq_ ?_
    refine reg_ ?_
    refine sq (o_pv (.int .i64 ((i : Nat) : Int)) rfl (by kernel_rfl) ?_)
    refine sq (o_pv (.slice a L.length c) rfl (by kernel_rfl) ?_)
    refine sq (o_pv (.int .i64 ((L.length : Nat) : Int)) rfl (by kernel_rfl) ?_)
    refine sq (o_pv (.bool (decide (((i : Nat) : Int) < ((L.length : Nat) : Int)))) rfl (by kernel_rfl) ?_)
    refine nil_ ?_
    refine then_normal ?_
    refine cond_d (((i : Nat) : Int) < ((L.length : Nat) : Int)) (by kernel_rfl) (fun h14 => ?_) (fun h14 => ?_)
    ·
      refine wp_skip ?_
      refine then_normal ?_
      refine seq_ ?_
      refine wp_block ?_
      refine seq_ ?_
      refine reg_drawn (RB wl0.heap.size []) 9 (by kernel_rfl) (fun w1 hd6 => ?_)
      have e1 := Evo.of_drew hd6
      have z6 : w1.heap.size = wl0.heap.size := by rw [hd6]
      clear hd6
      have s1 := Step.of0 X e1
      replace E0 := (Evo.then0 E0 e1)
      have zr6 : w.heap.size ≤ wl0.heap.size := by have := E0.size; omega
      refine r_take 0 (.slice a L.length c) (RB.pre _ _) rfl (by kernel_rfl) (fun _ _ _ h => h) (.inl ⟨rfl, fun wq hq => (by kernel_rfl)⟩) ?_
      refine r_take 1 (.int .i64 ((i : Nat) : Int)) (RB.pre _ _) rfl (by kernel_rfl) (fun _ _ _ h => h) (.inl ⟨rfl, fun wq hq => (by kernel_rfl)⟩) ?_
      replace hL := (hL.step s1)
      have hi19 : i < L.length := by omega
      obtain ⟨b19, o19, cs19, ha19, hnx19, hlt19, hok19, hc19⟩ := hL.at _ hi19
      obtain ⟨rfl, hz19⟩ := hok19
      refine r_take 2 (.pointer (some ⟨b19, o19 + i * 1, none⟩)) (RB.pre _ _) rfl (by kernel_rfl) (fun _ _ _ h => h) (.inl ⟨rfl, fun wq hq => (x_indexAddr (m := L.length) (c := c) (k := .i64) (e := ((i : Nat) : Int)) (i := i) Try.underlying24 Try.sizeOf9 (by rw [← ha19]; kernel_rfl) (by kernel_rfl) rfl (by omega))⟩) ?_
      refine r_take 3 (.string (L[i])) (RB.pre _ _) rfl (by kernel_rfl) (fun _ _ _ h => h) (.inl ⟨rfl, fun wq hq => (x_load1 (by kernel_rfl) Try.isAgg9 (hc19.rb hq (by omega) (by simp)).one)⟩) ?_
      refine r_take 4 (.slice a2 M.length c2) (RB.pre _ _) rfl (by kernel_rfl) (fun _ _ _ h => h) (.inl ⟨rfl, fun wq hq => (by kernel_rfl)⟩) ?_
      refine r_take 5 (.int .i64 ((i : Nat) : Int)) (RB.pre _ _) rfl (by kernel_rfl) (fun _ _ _ h => h) (.inl ⟨rfl, fun wq hq => (by kernel_rfl)⟩) ?_
      replace hM := (hM.step s1)
      have hi23 : i < M.length := by omega
      obtain ⟨b23, o23, cs23, ha23, hnx23, hlt23, hok23, hc23⟩ := hM.at _ hi23
      obtain ⟨rfl, hz23⟩ := hok23
      refine r_take 6 (.pointer (some ⟨b23, o23 + i * 1, none⟩)) (RB.pre _ _) rfl (by kernel_rfl) (fun _ _ _ h => h) (.inl ⟨rfl, fun wq hq => (x_indexAddr (m := M.length) (c := c2) (k := .i64) (e := ((i : Nat) : Int)) (i := i) Try.underlying24 Try.sizeOf9 (by rw [← ha23]; kernel_rfl) (by kernel_rfl) rfl (by omega))⟩) ?_
      refine r_take 7 (.string (M[i])) (RB.pre _ _) rfl (by kernel_rfl) (fun _ _ _ h => h) (.inl ⟨rfl, fun wq hq => (x_load1 (by kernel_rfl) Try.isAgg9 (hc23.rb hq (by omega) (by simp)).one)⟩) ?_
      refine r_take 8 (.bool (!decide ((L[i] : ByteArray) = M[i]))) (RB.pre _ _) rfl (by kernel_rfl) (fun _ _ _ h => h) (.inl ⟨rfl, fun wq hq => (x_strne (by kernel_rfl) (by kernel_rfl))⟩) ?_
      refine r_done (by kernel_rfl) ?_
      refine then_normal ?_
      refine cond_nd ((L[i] : ByteArray) = M[i]) (by kernel_rfl) (fun h25 => ?_) (fun h25 => ?_)
      ·
        refine seq_ ?_
        refine reg_ ?_
        refine sq (o_pv (.bool false) rfl (by kernel_rfl) ?_)
        refine nil_ ?_
        refine then_normal ?_
        refine wp_ret ?_
        refine blk_ret ?_
        refine then_ret ?_
        refine then_ret ?_
        refine blk_ret ?_
        refine then_ret ?_
        refine end_ret (.bool false) (by kernel_rfl) ?_
        refine ⟨_, rfl, ?_⟩
        exact ⟨E0, by rw [← hb, decide_eq_false (ne_of_get hi19 hi23 h25)]⟩
      ·
        refine wp_skip ?_
        refine blk_normal ?_
        refine then_normal ?_
        refine reg_ ?_
        refine sq (o_pv (.int .i64 ((i : Nat) : Int)) rfl (by kernel_rfl) ?_)
        refine sq (o_pv (.int .i64 ((i + 1 : Nat) : Int)) rfl (x_add (a := ((i : Nat) : Int)) (b := 1) ((i + 1 : Nat) : Int) (by kernel_rfl) (by kernel_rfl) (by omega) (wrap_i64 (by omega) (by omega))) ?_)
        refine sq (o_pv (.int .i64 ((i + 1 : Nat) : Int)) rfl (by kernel_rfl) ?_)
        refine nil_ ?_
        refine then_normal ?_
        refine again_ (L.length - (i + 1)) [(5, (.int .i64 ((i + 1 : Nat) : Int)))] (by kernel_rfl) ?_ ?_
        · exact (by omega)
        · exact ⟨(i + 1), rfl, rfl, E0, hL, hM, (by omega), (take_eq_succ ht hi19 hi23 h25)⟩
    ·
      refine wp_exit ?_
      refine then_exit ?_
      refine then_exit ?_
      refine blk_exit ?_
      refine then_normal ?_
      refine seq_ ?_
      refine reg_ ?_
      refine sq (o_pv (.bool true) rfl (by kernel_rfl) ?_)
      refine nil_ ?_
      refine then_normal ?_
      refine wp_ret ?_
      refine end_ret (.bool true) (by kernel_rfl) ?_
      refine ⟨_, rfl, ?_⟩
      exact ⟨E0, by rw [← hb, decide_eq_true (eq_of_take ht (by omega) (by omega))]⟩

set_option maxRecDepth 20000 in
set_option maxHeartbeats 4000000 in
theorem equal_w {X : List Nat} {w : World} {a a2 : Option Addr} {c c2 : Nat} {L M : List ByteArray} {b : Bool} (hb : decide (L = M) = b) (hL : Sl rStr X w a c L) (hM : Sl rStr X w a2 c2 M) :
    Calls Try.prog 17 #[(.slice a L.length c), (.slice a2 M.length c2)] w (Ret fun v w' => Evo [] w w' ∧ v = .bool b) := by
  have hz1 := hL.len; have hz2 := hM.len
  have E0 : Evo [] w w := RB.refl _ _ _
  refine enter_ Try.func17 rfl 26 (upds (fun _ => undef) [(0, (.slice a L.length c)), (1, (.slice a2 M.length c2))]) (by kernel_rfl) ?_
  refine seq_ ?_
  refine reg_ ?_
  refine sq (o_pv (.bool false) rfl (by kernel_rfl) ?_)
  refine nil_ ?_
  refine then_normal ?_
  refine seq_ ?_
  refine seq_ ?_
  refine reg_ ?_
  refine sq (o_pv (.slice a L.length c) rfl (by kernel_rfl) ?_)
  refine sq (o_pv (.int .i64 ((L.length : Nat) : Int)) rfl (by kernel_rfl) ?_)
  refine sq (o_pv (.slice a2 M.length c2) rfl (by kernel_rfl) ?_)
  refine sq (o_pv (.int .i64 ((M.length : Nat) : Int)) rfl (by kernel_rfl) ?_)
  refine sq (o_pv (.bool (!decide (((L.length : Nat) : Int) = ((M.length : Nat) : Int)))) rfl (by kernel_rfl) ?_)
  refine nil_ ?_
  refine then_normal ?_
  refine cond_nd (((L.length : Nat) : Int) = ((M.length : Nat) : Int)) (by kernel_rfl) (fun h10 => ?_) (fun h10 => ?_)
  ·
    refine seq_ ?_
    refine reg_ ?_
    refine sq (o_pv (.bool false) rfl (by kernel_rfl) ?_)
    refine nil_ ?_
    refine then_normal ?_
    refine wp_ret ?_
    refine then_ret ?_
    refine end_ret (.bool false) (by kernel_rfl) ?_
    refine ⟨_, rfl, ?_⟩
    exact ⟨E0, by rw [← hb, decide_eq_false (fun e => h10 (by rw [e]))]⟩
  ·
    refine wp_skip ?_
    refine then_normal ?_
    refine seq_ ?_
    refine seq_ ?_
    refine reg_ ?_
    refine sq (o_pv (.slice a L.length c) rfl (by kernel_rfl) ?_)
    refine sq (o_pv (.int .i64 ((L.length : Nat) : Int)) rfl (by kernel_rfl) ?_)
    refine sq (o_pv (.int .i64 0) rfl (by kernel_rfl) ?_)
    refine nil_ ?_
    refine then_normal ?_
    refine wp_block ?_
    refine loop_ 67100720 (fun kq lq wl0 => ∃ i : Nat, (lq = [(13, (.int .i64 ((i : Nat) : Int)))]) ∧ (kq = L.length - i) ∧ (Evo [] w wl0) ∧ (Sl rStr X wl0 a c L) ∧ (Sl rStr X wl0 a2 c2 M) ∧ (i ≤ L.length) ∧ (L.take i = M.take i)) (L.length - 0) [(13, (.int .i64 0))] (by kernel_rfl) ⟨0, rfl, rfl, E0, hL, hM, (by omega), (by simp)⟩ ?_
    rintro k0 l0 wl0 g0 ⟨i, rfl, hk0, E0, hL, hM, hi, ht⟩
    refine seq_ ?_
    refine reg_ ?_
    refine sq (o_pv (.bool (decide (((i : Nat) : Int) < ((L.length : Nat) : Int)))) rfl (by kernel_rfl) ?_)
    refine nil_ ?_
    refine then_normal ?_
    refine seq_ ?_
    refine cond_d (((i : Nat) : Int) < ((L.length : Nat) : Int)) (by kernel_rfl) (fun h14 => ?_) (fun h14 => ?_)
    ·
      refine wp_skip ?_
      refine then_normal ?_
      refine seq_ ?_
      refine wp_block ?_
      refine seq_ ?_
      refine reg_ ?_
      refine sq (o_pv (.int .i64 ((i : Nat) : Int)) rfl (by kernel_rfl) ?_)
      refine sq (o_pv (.int .i64 ((i : Nat) : Int)) rfl (by kernel_rfl) ?_)
      refine nil_ ?_
      refine then_normal ?_
      refine seq_ ?_
      refine reg_drawn (RB wl0.heap.size []) 9 (by kernel_rfl) (fun w1 hd6 => ?_)
      have e1 := Evo.of_drew hd6
      have z6 : w1.heap.size = wl0.heap.size := by rw [hd6]
      clear hd6
      have s1 := Step.of0 X e1
      replace E0 := (Evo.then0 E0 e1)
      have zr6 : w.heap.size ≤ wl0.heap.size := by have := E0.size; omega
      refine r_take 0 (.slice a L.length c) (RB.pre _ _) rfl (by kernel_rfl) (fun _ _ _ h => h) (.inl ⟨rfl, fun wq hq => (by kernel_rfl)⟩) ?_
      refine r_take 1 (.int .i64 ((i : Nat) : Int)) (RB.pre _ _) rfl (by kernel_rfl) (fun _ _ _ h => h) (.inl ⟨rfl, fun wq hq => (by kernel_rfl)⟩) ?_
      replace hL := (hL.step s1)
      have hi18 : i < L.length := by omega
      obtain ⟨b18, o18, cs18, ha18, hnx18, hlt18, hok18, hc18⟩ := hL.at _ hi18
      obtain ⟨rfl, hz18⟩ := hok18
      refine r_take 2 (.pointer (some ⟨b18, o18 + i * 1, none⟩)) (RB.pre _ _) rfl (by kernel_rfl) (fun _ _ _ h => h) (.inl ⟨rfl, fun wq hq => (x_indexAddr (m := L.length) (c := c) (k := .i64) (e := ((i : Nat) : Int)) (i := i) Try.underlying24 Try.sizeOf9 (by rw [← ha18]; kernel_rfl) (by kernel_rfl) rfl (by omega))⟩) ?_
      refine r_take 3 (.string (L[i])) (RB.pre _ _) rfl (by kernel_rfl) (fun _ _ _ h => h) (.inl ⟨rfl, fun wq hq => (x_load1 (by kernel_rfl) Try.isAgg9 (hc18.rb hq (by omega) (by simp)).one)⟩) ?_
      refine r_take 4 (.slice a2 M.length c2) (RB.pre _ _) rfl (by kernel_rfl) (fun _ _ _ h => h) (.inl ⟨rfl, fun wq hq => (by kernel_rfl)⟩) ?_
      refine r_take 5 (.int .i64 ((i : Nat) : Int)) (RB.pre _ _) rfl (by kernel_rfl) (fun _ _ _ h => h) (.inl ⟨rfl, fun wq hq => (by kernel_rfl)⟩) ?_
      replace hM := (hM.step s1)
      have hi22 : i < M.length := by omega
      obtain ⟨b22, o22, cs22, ha22, hnx22, hlt22, hok22, hc22⟩ := hM.at _ hi22
      obtain ⟨rfl, hz22⟩ := hok22
      refine r_take 6 (.pointer (some ⟨b22, o22 + i * 1, none⟩)) (RB.pre _ _) rfl (by kernel_rfl) (fun _ _ _ h => h) (.inl ⟨rfl, fun wq hq => (x_indexAddr (m := M.length) (c := c2) (k := .i64) (e := ((i : Nat) : Int)) (i := i) Try.underlying24 Try.sizeOf9 (by rw [← ha22]; kernel_rfl) (by kernel_rfl) rfl (by omega))⟩) ?_
      refine r_take 7 (.string (M[i])) (RB.pre _ _) rfl (by kernel_rfl) (fun _ _ _ h => h) (.inl ⟨rfl, fun wq hq => (x_load1 (by kernel_rfl) Try.isAgg9 (hc22.rb hq (by omega) (by simp)).one)⟩) ?_
      refine r_take 8 (.bool (!decide ((L[i] : ByteArray) = M[i]))) (RB.pre _ _) rfl (by kernel_rfl) (fun _ _ _ h => h) (.inl ⟨rfl, fun wq hq => (x_strne (by kernel_rfl) (by kernel_rfl))⟩) ?_
      refine r_done (by kernel_rfl) ?_
      refine then_normal ?_
      refine cond_nd ((L[i] : ByteArray) = M[i]) (by kernel_rfl) (fun h24 => ?_) (fun h24 => ?_)
      ·
        refine seq_ ?_
        refine reg_ ?_
        refine sq (o_pv (.bool false) rfl (by kernel_rfl) ?_)
        refine nil_ ?_
        refine then_normal ?_
        refine wp_ret ?_
        refine blk_ret ?_
        refine then_ret ?_
        refine then_ret ?_
        refine blk_ret ?_
        refine then_ret ?_
        refine end_ret (.bool false) (by kernel_rfl) ?_
        refine ⟨_, rfl, ?_⟩
        exact ⟨E0, by rw [← hb, decide_eq_false (ne_of_get hi18 hi22 h24)]⟩
      ·
        refine wp_skip ?_
        refine blk_normal ?_
        refine then_normal ?_
        refine reg_ ?_
        refine sq (o_pv (.int .i64 ((i + 1 : Nat) : Int)) rfl (x_add (a := ((i : Nat) : Int)) (b := 1) ((i + 1 : Nat) : Int) (by kernel_rfl) (by kernel_rfl) (by omega) (wrap_i64 (by omega) (by omega))) ?_)
        refine sq (o_pv (.int .i64 ((i + 1 : Nat) : Int)) rfl (by kernel_rfl) ?_)
        refine nil_ ?_
        refine then_normal ?_
        refine again_ (L.length - (i + 1)) [(13, (.int .i64 ((i + 1 : Nat) : Int)))] (by kernel_rfl) ?_ ?_
        · exact (by omega)
        · exact ⟨(i + 1), rfl, rfl, E0, hL, hM, (by omega), (take_eq_succ ht hi18 hi22 h24)⟩
    ·
      refine wp_exit ?_
      refine then_exit ?_
      refine then_exit ?_
      refine blk_exit ?_
      refine then_normal ?_
      refine seq_ ?_
      refine reg_ ?_
      refine sq (o_pv (.bool true) rfl (by kernel_rfl) ?_)
      refine nil_ ?_
      refine then_normal ?_
      refine wp_ret ?_
      refine end_ret (.bool true) (by kernel_rfl) ?_
      refine ⟨_, rfl, ?_⟩
      exact ⟨E0, by rw [← hb, decide_eq_true (eq_of_take ht (by omega) (by omega))]⟩

set_option maxRecDepth 20000 in
set_option maxHeartbeats 4000000 in
theorem Texts_w {X : List Nat} {w : World} {a a2 : Option Addr} {c c2 : Nat} {L M : List ByteArray} {b : Bool} (hb : decide (L = M) = b) (hL : Sl rStr X w a c L) (hM : Sl rStr X w a2 c2 M) :
    Calls Try.prog 10 #[(.slice a L.length c), (.slice a2 M.length c2)] w (Ret fun v w' => Evo [] w w' ∧ v = .bool b) := by
  have E0 : Evo [] w w := RB.refl _ _ _
  refine enter_ Try.func10 rfl 8 (upds (fun _ => undef) [(0, (.slice a L.length c)), (1, (.slice a2 M.length c2))]) (by kernel_rfl) ?_
  refine seq_ ?_
  refine reg_ ?_
  refine sq (o_pv (.bool false) rfl (by kernel_rfl) ?_)
  refine nil_ ?_
  refine then_normal ?_
  refine seq_ ?_
  refine reg_ ?_
  refine sq (o_pv (.slice a L.length c) rfl (by kernel_rfl) ?_)
  refine sq (o_pv (.slice a2 M.length c2) rfl (by kernel_rfl) ?_)
  refine sq (o_call 16 #[(.slice a L.length c), (.slice a2 M.length c2)] rfl (x_call Try.call16 (by kernel_rfl)) (texts_w (L := L) (M := M) rfl hL hM) ?_)
  rintro _ w1 ⟨e1, rfl⟩
  have s1 := Step.of0 X e1
  refine sq (o_pv (.bool (decide (L = M))) rfl (by kernel_rfl) ?_)
  refine nil_ ?_
  refine then_normal ?_
  refine wp_ret ?_
  refine end_ret (.bool (decide (L = M))) (by kernel_rfl) ?_
  refine ⟨_, rfl, ?_⟩
  replace E0 := (Evo.then0 E0 e1)
  exact ⟨E0, by rw [hb]⟩

set_option maxRecDepth 20000 in
set_option maxHeartbeats 4000000 in
theorem Same_w {X : List Nat} {w : World} {ab af ab2 af2 : Option Addr} {cb cf cb2 cf2 : Nat} {Lb Lf Mb Mf : List ByteArray} {b : Bool} (hb : decide (Lb = Mb ∧ Lf = Mf) = b) (hB : Sl rStr X w ab cb Lb) (hF : Sl rStr X w af cf Lf) (hB2 : Sl rStr X w ab2 cb2 Mb) (hF2 : Sl rStr X w af2 cf2 Mf) :
    Calls Try.prog 11 #[(.agg #[(.slice ab Lb.length cb), (.slice af Lf.length cf)]), (.agg #[(.slice ab2 Mb.length cb2), (.slice af2 Mf.length cf2)])] w (Ret fun v w' => Evo [] w w' ∧ v = .bool b) := by
  have E0 : Evo [] w w := RB.refl _ _ _
  refine enter_ Try.func11 rfl 17 (upds (fun _ => undef) [(0, (.agg #[(.slice ab Lb.length cb), (.slice af Lf.length cf)])), (1, (.agg #[(.slice ab2 Mb.length cb2), (.slice af2 Mf.length cf2)]))]) (by kernel_rfl) ?_
  refine seq_ ?_
  refine reg_ ?_
  refine sq (o_new [(.slice ab Lb.length cb), (.slice af Lf.length cf)] 26 rfl (by kernel_rfl) ?_)
  rintro b2 w1 hb2 e1 k2
  have n2 : w.heap.size ≤ b2 := Nat.le_trans E0.size (Nat.le_of_eq hb2.symm)
  have s1 := Step.fresh X e1 b2 (Nat.le_of_eq hb2.symm) k2.lt
  refine sq (o_new [(.slice ab2 Mb.length cb2), (.slice af2 Mf.length cf2)] 26 rfl (by kernel_rfl) ?_)
  rintro b3 w2 hb3 e2 k3
  have n3 : w.heap.size ≤ b3 := Nat.le_trans (Evo.then0 E0 e1).size (Nat.le_of_eq hb3.symm)
  have l2_3 : b2 < b3 := Nat.lt_of_lt_of_eq k2.lt hb3.symm
  have s2 := Step.fresh (b2 :: X) e2 b3 (Nat.le_of_eq hb3.symm) k3.lt
  refine sq (o_pv (.bool false) rfl (by kernel_rfl) ?_)
  refine nil_ ?_
  refine then_normal ?_
  refine seq_ ?_
  refine reg_ ?_
  refine sq (o_pv (.pointer (some ⟨b2, 0, none⟩)) rfl (by kernel_rfl) ?_)
  replace k2 := (k2.evo0 e2)
  refine sq (o_pv (.slice ab Lb.length cb) rfl (x_load1 (by kernel_rfl) Try.isAgg24 (k2.cell' 0 rfl)) ?_)
  refine sq (o_pv (.pointer (some ⟨b3, 0, none⟩)) rfl (by kernel_rfl) ?_)
  refine sq (o_pv (.slice ab2 Mb.length cb2) rfl (x_load1 (by kernel_rfl) Try.isAgg24 (k3.cell' 0 rfl)) ?_)
  by_cases h9 : Lb = Mb
  ·
    replace hB := ((hB.step s1).step s2)
    replace hB2 := ((hB2.step s1).step s2)
    refine sq (o_call 17 #[(.slice ab Lb.length cb), (.slice ab2 Mb.length cb2)] rfl (x_call Try.call17 (by kernel_rfl)) (equal_w (L := Lb) (M := Mb) (decide_eq_true h9) hB hB2) ?_)
    rintro _ w3 ⟨e3, rfl⟩
    have s3 := Step.of0 (b3 :: b2 :: X) e3
    refine sq (o_pv (.bool true) rfl (by kernel_rfl) ?_)
    refine sq (o_pv (.pointer (some ⟨b2, 1, none⟩)) (by kernel_rfl) (by kernel_rfl) ?_)
    replace k2 := (k2.evo0 e3)
    refine sq (o_pv (.slice af Lf.length cf) (by kernel_rfl) (x_load1 (by kernel_rfl) Try.isAgg24 (k2.cell' 1 rfl)) ?_)
    refine sq (o_pv (.pointer (some ⟨b3, 1, none⟩)) (by kernel_rfl) (by kernel_rfl) ?_)
    replace k3 := (k3.evo0 e3)
    refine sq (o_pv (.slice af2 Mf.length cf2) (by kernel_rfl) (x_load1 (by kernel_rfl) Try.isAgg24 (k3.cell' 1 rfl)) ?_)
    by_cases h15 : Lf = Mf
    ·
      replace hF := (((hF.step s1).step s2).step s3)
      replace hF2 := (((hF2.step s1).step s2).step s3)
      refine sq (o_call 17 #[(.slice af Lf.length cf), (.slice af2 Mf.length cf2)] (by kernel_rfl) (x_call Try.call17 (by kernel_rfl)) (equal_w (L := Lf) (M := Mf) (decide_eq_true h15) hF hF2) ?_)
      rintro _ w4 ⟨e4, rfl⟩
      have s4 := Step.of0 (b3 :: b2 :: X) e4
      refine sq (o_pv (.bool true) rfl (by kernel_rfl) ?_)
      refine sq (o_pv (.bool true) rfl (by kernel_rfl) ?_)
      refine nil_ ?_
      refine then_normal ?_
      refine wp_ret ?_
      refine end_ret (.bool true) (by kernel_rfl) ?_
      refine ⟨_, rfl, ?_⟩
      replace E0 := (Evo.then0 (Evo.then0 (Evo.then0 (Evo.then0 E0 e1) e2) e3) e4)
      exact ⟨E0, by rw [← hb]; simp [*]⟩
    ·
      replace hF := (((hF.step s1).step s2).step s3)
      replace hF2 := (((hF2.step s1).step s2).step s3)
      refine sq (o_call 17 #[(.slice af Lf.length cf), (.slice af2 Mf.length cf2)] (by kernel_rfl) (x_call Try.call17 (by kernel_rfl)) (equal_w (L := Lf) (M := Mf) (decide_eq_false h15) hF hF2) ?_)
      rintro _ w5 ⟨e5, rfl⟩
      have s5 := Step.of0 (b3 :: b2 :: X) e5
      refine sq (o_pv (.bool false) rfl (by kernel_rfl) ?_)
      refine sq (o_pv (.bool false) rfl (by kernel_rfl) ?_)
      refine nil_ ?_
      refine then_normal ?_
      refine wp_ret ?_
      refine end_ret (.bool false) (by kernel_rfl) ?_
      refine ⟨_, rfl, ?_⟩
      replace E0 := (Evo.then0 (Evo.then0 (Evo.then0 (Evo.then0 E0 e1) e2) e3) e5)
      exact ⟨E0, by rw [← hb]; simp [*]⟩
  ·
    replace hB := ((hB.step s1).step s2)
    replace hB2 := ((hB2.step s1).step s2)
    refine sq (o_call 17 #[(.slice ab Lb.length cb), (.slice ab2 Mb.length cb2)] rfl (x_call Try.call17 (by kernel_rfl)) (equal_w (L := Lb) (M := Mb) (decide_eq_false h9) hB hB2) ?_)
    rintro _ w6 ⟨e6, rfl⟩
    have s6 := Step.of0 (b3 :: b2 :: X) e6
    refine sq (o_pv (.bool false) rfl (by kernel_rfl) ?_)
    refine sq (o_not (by kernel_rfl) ?_)
    refine sq (o_not (by kernel_rfl) ?_)
    refine sq (o_not (by kernel_rfl) ?_)
    refine sq (o_not (by kernel_rfl) ?_)
    refine sq (o_not (by kernel_rfl) ?_)
    refine sq (o_pv (.bool false) rfl (by kernel_rfl) ?_)
    refine sq (o_pv (.bool false) rfl (by kernel_rfl) ?_)
    refine nil_ ?_
    refine then_normal ?_
    refine wp_ret ?_
    refine end_ret (.bool false) (by kernel_rfl) ?_
    refine ⟨_, rfl, ?_⟩
    replace E0 := (Evo.then0 (Evo.then0 (Evo.then0 E0 e1) e2) e6)
    exact ⟨E0, by rw [← hb]; simp [*]⟩

set_option maxRecDepth 20000 in
set_option maxHeartbeats 4000000 in
theorem known_w {X : List Nat} {w : World} (hX0 : Old X w) :
    Calls Try.prog 6 #[] w (Ret fun v w' => Evo [] w w' ∧ v = .bool true) := by
  have hXo := hX0
  have E0 : Evo [] w w := RB.refl _ _ _
  refine enter_ Try.func6 rfl 70 (upds (fun _ => undef) []) (by kernel_rfl) ?_
  refine seq_ ?_
  refine reg_ ?_
  refine sq (o_pv (.bool false) rfl (by kernel_rfl) ?_)
  refine nil_ ?_
  refine then_normal ?_
  refine seq_ ?_
  refine reg_ ?_
  refine sq (o_pv (.agg #[(.slice none 0 0), (.slice none 0 0)]) rfl (by kernel_rfl) ?_)
  refine sq (o_call 7 #[(.agg #[(.slice none 0 0), (.slice none 0 0)]), (.string (ByteArray.mk #[97]))] rfl (x_call Try.call7 (by kernel_rfl)) (Do_w (Lb := []) (M := [(ByteArray.mk #[97])]) hXo rfl Sl.nil (by decide) (by first | omega | (simp <;> omega))) ?_)
  rintro _ w1 ⟨e1, a12, c12, rfl, h12⟩
  have s1 := Step.of0 X e1
  refine sq (o_new [(.slice none 0 0), (.slice none 0 0)] 26 rfl (by kernel_rfl) ?_)
  rintro b1 w2 hb1 e2 k1
  have n1 : w.heap.size ≤ b1 := Nat.le_trans (Evo.then0 E0 e1).size (Nat.le_of_eq hb1.symm)
  have s2 := Step.fresh X e2 b1 (Nat.le_of_eq hb1.symm) k1.lt
  refine sq (o_store (o := 0) (v := (.agg #[(.slice a12 (([(ByteArray.mk #[97])]).length) c12), (.slice none 0 0)])) [(.slice a12 (([(ByteArray.mk #[97])]).length) c12), (.slice none 0 0)] rfl k1 (by kernel_rfl) (by kernel_rfl) Try.sizeOf26 rfl rfl rfl ?_)
  intro w3 e3 kn3
  have s3 := Step.one e3 (X := b1 :: X) (List.mem_cons_self)
  clear k1; have k1 := kn3
  refine nil_ ?_
  refine then_normal ?_
  refine seq_ ?_
  refine reg_ ?_
  refine sq (o_pv (.agg #[(.slice a12 (([(ByteArray.mk #[97])]).length) c12), (.slice none 0 0)]) rfl (x_loadN [(.slice a12 (([(ByteArray.mk #[97])]).length) c12), (.slice none 0 0)] (by kernel_rfl) Try.isAgg26 Try.sizeOf26 (k1.cells' 0 rfl)) ?_)
  replace h12 := ((h12.step s2).step s3)
  replace hXo := (((hXo.step s1).step s2).step s3)
  refine sq (o_call 8 #[(.agg #[(.slice a12 (([(ByteArray.mk #[97])]).length) c12), (.slice none 0 0)]), (.string (ByteArray.mk #[98]))] rfl (x_call Try.call8 (by kernel_rfl)) (Undo_w (Lb := [(ByteArray.mk #[97])]) (Lf := []) (K := []) (x := (ByteArray.mk #[97])) (M := [(ByteArray.mk #[98])]) hXo rfl rfl h12 Sl.nil (by decide) (by first | omega | (simp <;> omega)) (by first | omega | (simp <;> omega))) ?_)
  rintro _ w4 ⟨e4, a1_15, c1_15, a2_15, c2_15, rfl, hb15, hf15⟩
  have s4 := Step.of0 (b1 :: X) e4
  refine sq (o_pv (.tuple #[(.agg #[(.slice a1_15 0 c1_15), (.slice a2_15 (([(ByteArray.mk #[98])]).length) c2_15)]), (.string (ByteArray.mk #[97])), (.int .i64 0)]) rfl (by kernel_rfl) ?_)
  refine sq (o_pv (.agg #[(.slice a1_15 0 c1_15), (.slice a2_15 (([(ByteArray.mk #[98])]).length) c2_15)]) rfl (by kernel_rfl) ?_)
  refine sq (o_pv (.string (ByteArray.mk #[97])) rfl (by kernel_rfl) ?_)
  refine sq (o_pv (.int .i64 0) rfl (by kernel_rfl) ?_)
  refine sq (o_new [(.slice none 0 0), (.slice none 0 0)] 26 rfl (by kernel_rfl) ?_)
  replace k1 := (k1.evo0 e4)
  rintro b2 w5 hb2 e5 k2
  have n2 : w.heap.size ≤ b2 := Nat.le_trans (Evo.then0 (Evo.then1 (Evo.then0 (Evo.then0 E0 e1) e2) e3 n1) e4).size (Nat.le_of_eq hb2.symm)
  have l1_2 : b1 < b2 := Nat.lt_of_lt_of_eq k1.lt hb2.symm
  have s5 := Step.fresh (b1 :: X) e5 b2 (Nat.le_of_eq hb2.symm) k2.lt
  refine sq (o_store (o := 0) (v := (.agg #[(.slice a1_15 0 c1_15), (.slice a2_15 (([(ByteArray.mk #[98])]).length) c2_15)])) [(.slice a1_15 0 c1_15), (.slice a2_15 (([(ByteArray.mk #[98])]).length) c2_15)] rfl k2 (by kernel_rfl) (by kernel_rfl) Try.sizeOf26 rfl rfl rfl ?_)
  intro w6 e6 kn6
  have s6 := Step.one e6 (X := b2 :: b1 :: X) (List.mem_cons_self)
  clear k2; have k2 := kn6
  refine sq (o_pv (.string (ByteArray.mk #[97])) rfl (by kernel_rfl) ?_)
  refine sq (o_pv (.int .i64 0) rfl (by kernel_rfl) ?_)
  refine nil_ ?_
  refine then_normal ?_
  refine seq_ ?_
  refine reg_ ?_
  refine sq (o_pv (.agg #[(.slice a1_15 0 c1_15), (.slice a2_15 (([(ByteArray.mk #[98])]).length) c2_15)]) rfl (x_loadN [(.slice a1_15 0 c1_15), (.slice a2_15 (([(ByteArray.mk #[98])]).length) c2_15)] (by kernel_rfl) Try.isAgg26 Try.sizeOf26 (k2.cells' 0 rfl)) ?_)
  replace hb15 := ((hb15.step s5).step s6)
  replace hf15 := ((hf15.step s5).step s6)
  replace hXo := (((hXo.step s4).step s5).step s6)
  refine sq (o_call 9 #[(.agg #[(.slice a1_15 0 c1_15), (.slice a2_15 (([(ByteArray.mk #[98])]).length) c2_15)]), (.string (ByteArray.mk #[97]))] rfl (x_call Try.call9 (by kernel_rfl)) (Redo_w (Lb := []) (Lf := [(ByteArray.mk #[98])]) (K := []) (x := (ByteArray.mk #[98])) (M := [(ByteArray.mk #[97])]) hXo rfl rfl hb15 hf15 (by decide) (by first | omega | (simp <;> omega)) (by first | omega | (simp <;> omega))) ?_)
  rintro _ w7 ⟨e7, a1_21, c1_21, a2_21, c2_21, rfl, hb21, hf21⟩
  have s7 := Step.of0 (b2 :: b1 :: X) e7
  refine sq (o_pv (.tuple #[(.agg #[(.slice a1_21 (([(ByteArray.mk #[97])]).length) c1_21), (.slice a2_21 0 c2_21)]), (.string (ByteArray.mk #[98])), (.int .i64 0)]) rfl (by kernel_rfl) ?_)
  refine sq (o_pv (.agg #[(.slice a1_21 (([(ByteArray.mk #[97])]).length) c1_21), (.slice a2_21 0 c2_21)]) rfl (by kernel_rfl) ?_)
  refine sq (o_pv (.string (ByteArray.mk #[98])) rfl (by kernel_rfl) ?_)
  refine sq (o_pv (.int .i64 0) rfl (by kernel_rfl) ?_)
  refine sq (o_new [(.slice none 0 0), (.slice none 0 0)] 26 rfl (by kernel_rfl) ?_)
  replace k1 := (((k1.evo0 e5).evo1 e6 (Nat.ne_of_lt l1_2)).evo0 e7)
  replace k2 := (k2.evo0 e7)
  rintro b5 w8 hb5 e8 k5
  have n5 : w.heap.size ≤ b5 := Nat.le_trans (Evo.then0 (Evo.then1 (Evo.then0 (Evo.then0 (Evo.then1 (Evo.then0 (Evo.then0 E0 e1) e2) e3 n1) e4) e5) e6 n2) e7).size (Nat.le_of_eq hb5.symm)
  have l1_5 : b1 < b5 := Nat.lt_of_lt_of_eq k1.lt hb5.symm
  have l2_5 : b2 < b5 := Nat.lt_of_lt_of_eq k2.lt hb5.symm
  have s8 := Step.fresh (b2 :: b1 :: X) e8 b5 (Nat.le_of_eq hb5.symm) k5.lt
  refine sq (o_store (o := 0) (v := (.agg #[(.slice a1_21 (([(ByteArray.mk #[97])]).length) c1_21), (.slice a2_21 0 c2_21)])) [(.slice a1_21 (([(ByteArray.mk #[97])]).length) c1_21), (.slice a2_21 0 c2_21)] rfl k5 (by kernel_rfl) (by kernel_rfl) Try.sizeOf26 rfl rfl rfl ?_)
  intro w9 e9 kn9
  have s9 := Step.one e9 (X := b5 :: b2 :: b1 :: X) (List.mem_cons_self)
  clear k5; have k5 := kn9
  refine sq (o_pv (.string (ByteArray.mk #[98])) rfl (by kernel_rfl) ?_)
  refine sq (o_pv (.int .i64 0) rfl (by kernel_rfl) ?_)
  refine nil_ ?_
  refine then_normal ?_
  refine seq_ ?_
  refine reg_ ?_
  refine sq (o_pv (.agg #[(.slice a1_21 (([(ByteArray.mk #[97])]).length) c1_21), (.slice a2_21 0 c2_21)]) rfl (x_loadN [(.slice a1_21 (([(ByteArray.mk #[97])]).length) c1_21), (.slice a2_21 0 c2_21)] (by kernel_rfl) Try.isAgg26 Try.sizeOf26 (k5.cells' 0 rfl)) ?_)
  replace hf21 := ((hf21.step s8).step s9)
  replace hXo := (((hXo.step s7).step s8).step s9)
  refine sq (o_call 9 #[(.agg #[(.slice a1_21 (([(ByteArray.mk #[97])]).length) c1_21), (.slice a2_21 0 c2_21)]), (.string (ByteArray.mk #[120]))] rfl (x_call Try.call9 (by kernel_rfl)) (Redo_w0 (Lb := []) hXo rfl) ?_)
  rintro _ w10 ⟨e10, rfl⟩
  have s10 := Step.of0 (b5 :: b2 :: b1 :: X) e10
  refine sq (o_pv (.tuple #[(.agg #[(.slice none 0 0), (.slice none 0 0)]), (.string (ByteArray.mk #[])), (.int .i64 10)]) rfl (by kernel_rfl) ?_)
  refine sq (o_pv (.agg #[(.slice none 0 0), (.slice none 0 0)]) rfl (by kernel_rfl) ?_)
  refine sq (o_pv (.string (ByteArray.mk #[])) rfl (by kernel_rfl) ?_)
  refine sq (o_pv (.int .i64 10) rfl (by kernel_rfl) ?_)
  refine sq (o_new [(.slice none 0 0), (.slice none 0 0)] 26 rfl (by kernel_rfl) ?_)
  replace k1 := (((k1.evo0 e8).evo1 e9 (Nat.ne_of_lt l1_5)).evo0 e10)
  replace k2 := (((k2.evo0 e8).evo1 e9 (Nat.ne_of_lt l2_5)).evo0 e10)
  replace k5 := (k5.evo0 e10)
  rintro b8 w11 hb8 e11 k8
  have n8 : w.heap.size ≤ b8 := Nat.le_trans (Evo.then0 (Evo.then1 (Evo.then0 (Evo.then0 (Evo.then1 (Evo.then0 (Evo.then0 (Evo.then1 (Evo.then0 (Evo.then0 E0 e1) e2) e3 n1) e4) e5) e6 n2) e7) e8) e9 n5) e10).size (Nat.le_of_eq hb8.symm)
  have l1_8 : b1 < b8 := Nat.lt_of_lt_of_eq k1.lt hb8.symm
  have l2_8 : b2 < b8 := Nat.lt_of_lt_of_eq k2.lt hb8.symm
  have l5_8 : b5 < b8 := Nat.lt_of_lt_of_eq k5.lt hb8.symm
  have s11 := Step.fresh (b5 :: b2 :: b1 :: X) e11 b8 (Nat.le_of_eq hb8.symm) k8.lt
  refine sq (o_store (o := 0) (v := (.agg #[(.slice none 0 0), (.slice none 0 0)])) [(.slice none 0 0), (.slice none 0 0)] rfl k8 (by kernel_rfl) (by kernel_rfl) Try.sizeOf26 rfl rfl rfl ?_)
  intro w12 e12 kn12
  have s12 := Step.one e12 (X := b8 :: b5 :: b2 :: b1 :: X) (List.mem_cons_self)
  clear k8; have k8 := kn12
  refine sq (o_pv (.string (ByteArray.mk #[])) rfl (by kernel_rfl) ?_)
  refine sq (o_pv (.int .i64 10) rfl (by kernel_rfl) ?_)
  refine nil_ ?_
  refine then_normal ?_
  refine seq_ ?_
  refine reg_ ?_
  refine sq (o_pv (.int .i64 0) rfl (by kernel_rfl) ?_)
  refine sq (o_pv (.int .i64 0) rfl (by kernel_rfl) ?_)
  refine sq (o_pv (.int .i64 0) rfl (x_add (a := 0) (b := 0) 0 (by kernel_rfl) (by kernel_rfl) (by omega) (wrap_i64 (by omega) (by omega))) ?_)
  refine sq (o_pv (.bool true) rfl (x_dt (p := (0 : Int) = 0) (by kernel_rfl) (by decide)) ?_)
  refine sq (o_pv (.bool true) rfl (by kernel_rfl) ?_)
  refine sq (o_pv (.string (ByteArray.mk #[97])) (by kernel_rfl) (by kernel_rfl) ?_)
  refine sq (o_pv (.bool true) (by kernel_rfl) (x_dt (p := ((ByteArray.mk #[97]) : ByteArray) = (ByteArray.mk #[97])) (x_streq (by kernel_rfl) (by kernel_rfl)) (by decide)) ?_)
  refine sq (o_pv (.bool true) rfl (by kernel_rfl) ?_)
  refine sq (o_pv (.bool true) rfl (by kernel_rfl) ?_)
  refine sq (o_pv (.string (ByteArray.mk #[98])) (by kernel_rfl) (by kernel_rfl) ?_)
  refine sq (o_pv (.bool true) (by kernel_rfl) (x_dt (p := ((ByteArray.mk #[98]) : ByteArray) = (ByteArray.mk #[98])) (x_streq (by kernel_rfl) (by kernel_rfl)) (by decide)) ?_)
  refine sq (o_pv (.bool true) rfl (by kernel_rfl) ?_)
  refine sq (o_pv (.bool true) rfl (by kernel_rfl) ?_)
  refine sq (o_pv (.int .i64 10) (by kernel_rfl) (by kernel_rfl) ?_)
  refine sq (o_pv (.bool true) (by kernel_rfl) (x_dt (p := (10 : Int) = 10) (by kernel_rfl) (by decide)) ?_)
  refine sq (o_pv (.bool true) rfl (by kernel_rfl) ?_)
  refine sq (o_pv (.bool true) rfl (by kernel_rfl) ?_)
  refine sq (o_pv (.pointer (some ⟨b1, 0, none⟩)) (by kernel_rfl) (by kernel_rfl) ?_)
  replace k1 := ((k1.evo0 e11).evo1 e12 (Nat.ne_of_lt l1_8))
  refine sq (o_pv (.slice a12 (([(ByteArray.mk #[97])]).length) c12) (by kernel_rfl) (x_load1 (by kernel_rfl) Try.isAgg24 (k1.cell' 0 rfl)) ?_)
  refine sq (o_pv (.int .i64 ((([(ByteArray.mk #[97])]).length : Nat) : Int)) (by kernel_rfl) (by kernel_rfl) ?_)
  refine sq (o_pv (.bool true) (by kernel_rfl) (x_dt (p := ((([(ByteArray.mk #[97])]).length : Nat) : Int) = 1) (by kernel_rfl) rfl) ?_)
  refine sq (o_pv (.bool true) rfl (by kernel_rfl) ?_)
  refine sq (o_pv (.bool true) rfl (by kernel_rfl) ?_)
  refine sq (o_pv (.pointer (some ⟨b2, 1, none⟩)) (by kernel_rfl) (by kernel_rfl) ?_)
  replace k2 := ((k2.evo0 e11).evo1 e12 (Nat.ne_of_lt l2_8))
  refine sq (o_pv (.slice a2_15 (([(ByteArray.mk #[98])]).length) c2_15) (by kernel_rfl) (x_load1 (by kernel_rfl) Try.isAgg24 (k2.cell' 1 rfl)) ?_)
  refine sq (o_pv (.int .i64 ((([(ByteArray.mk #[98])]).length : Nat) : Int)) (by kernel_rfl) (by kernel_rfl) ?_)
  refine sq (o_pv (.bool true) (by kernel_rfl) (x_dt (p := ((([(ByteArray.mk #[98])]).length : Nat) : Int) = 1) (by kernel_rfl) rfl) ?_)
  refine sq (o_pv (.bool true) rfl (by kernel_rfl) ?_)
  refine sq (o_pv (.bool true) rfl (by kernel_rfl) ?_)
  refine sq (o_pv (.pointer (some ⟨b5, 0, none⟩)) (by kernel_rfl) (by kernel_rfl) ?_)
  replace k5 := ((k5.evo0 e11).evo1 e12 (Nat.ne_of_lt l5_8))
  refine sq (o_pv (.slice a1_21 (([(ByteArray.mk #[97])]).length) c1_21) (by kernel_rfl) (x_load1 (by kernel_rfl) Try.isAgg24 (k5.cell' 0 rfl)) ?_)
  refine sq (o_pv (.int .i64 ((([(ByteArray.mk #[97])]).length : Nat) : Int)) (by kernel_rfl) (by kernel_rfl) ?_)
  refine sq (o_pv (.bool true) (by kernel_rfl) (x_dt (p := ((([(ByteArray.mk #[97])]).length : Nat) : Int) = 1) (by kernel_rfl) rfl) ?_)
  refine sq (o_pv (.bool true) rfl (by kernel_rfl) ?_)
  refine sq (o_pv (.bool true) rfl (by kernel_rfl) ?_)
  refine sq (o_pv (.agg #[(.slice a1_21 (([(ByteArray.mk #[97])]).length) c1_21), (.slice a2_21 0 c2_21)]) (by kernel_rfl) (x_loadN [(.slice a1_21 (([(ByteArray.mk #[97])]).length) c1_21), (.slice a2_21 0 c2_21)] (by kernel_rfl) Try.isAgg26 Try.sizeOf26 (k5.cells' 0 rfl)) ?_)
  refine sq (o_pv (.agg #[(.slice a12 (([(ByteArray.mk #[97])]).length) c12), (.slice none 0 0)]) (by kernel_rfl) (x_loadN [(.slice a12 (([(ByteArray.mk #[97])]).length) c12), (.slice none 0 0)] (by kernel_rfl) Try.isAgg26 Try.sizeOf26 (k1.cells' 0 rfl)) ?_)
  replace hb21 := (((((hb21.step s8).step s9).step s10).step s11).step s12)
  replace hf21 := (((hf21.step s10).step s11).step s12)
  replace h12 := (((((((((h12.step s4).step s5).step s6).step s7).step s8).step s9).step s10).step s11).step s12)
  refine sq (o_call 11 #[(.agg #[(.slice a1_21 (([(ByteArray.mk #[97])]).length) c1_21), (.slice a2_21 0 c2_21)]), (.agg #[(.slice a12 (([(ByteArray.mk #[97])]).length) c12), (.slice none 0 0)])] (by kernel_rfl) (x_call Try.call11 (by kernel_rfl)) (Same_w (Lb := [(ByteArray.mk #[97])]) (Lf := []) (Mb := [(ByteArray.mk #[97])]) (Mf := []) (decide_eq_true ⟨rfl, rfl⟩) hb21 hf21 h12 Sl.nil) ?_)
  rintro _ w13 ⟨e13, rfl⟩
  have s13 := Step.of0 (b8 :: b5 :: b2 :: b1 :: X) e13
  refine sq (o_pv (.bool true) rfl (by kernel_rfl) ?_)
  refine sq (o_pv (.bool true) rfl (by kernel_rfl) ?_)
  refine nil_ ?_
  refine then_normal ?_
  refine wp_ret ?_
  refine end_ret (.bool true) (by kernel_rfl) ?_
  refine ⟨_, rfl, ?_⟩
  replace E0 := (Evo.then0 (Evo.then1 (Evo.then0 (Evo.then0 (Evo.then1 (Evo.then0 (Evo.then0 (Evo.then1 (Evo.then0 (Evo.then0 (Evo.then1 (Evo.then0 (Evo.then0 E0 e1) e2) e3 n1) e4) e5) e6 n2) e7) e8) e9 n5) e10) e11) e12 n8) e13)
  exact ⟨E0, rfl⟩

structure PAct where
  op : Int
  s : ByteArray
def rAct : Rep PAct := rMap (fun a => (a.op, a.s)) (rPair (rInt .i64) rStr)
theorem rAct_ok {X : List Nat} {w : World} {cs : List Value} {d : PAct} (h : rAct.ok X w cs d) : cs = [.int .i64 d.op, .string d.s] ∧ inR .i64 d.op ∧ d.s.size ≤ maxLen := by
  obtain ⟨c1, c2, rfl, ⟨rfl, h1⟩, rfl, h2⟩ := h
  exact ⟨rfl, h1, h2⟩

set_option maxRecDepth 20000 in
set_option maxHeartbeats 4000000 in
theorem logPlays_w {X : List Nat} {w : World} {a : Option Addr} {c : Nat} {l : List PAct} (hX0 : Old X w) (hl : Sl rAct X w a c l) :
    Calls Try.prog 3 #[(.slice a l.length c)] w (Ret fun v w' => Evo [] w w' ∧ v = .bool true) := by
  have hXo := hX0
  have E0 : Evo [] w w := RB.refl _ _ _
  refine enter_ Try.func3 rfl 195 (upds (fun _ => undef) [(0, (.slice a l.length c))]) (by kernel_rfl) ?_
  refine seq_ ?_
  refine reg_ ?_
  refine sq (o_pv (.bool false) rfl (by kernel_rfl) ?_)
  refine nil_ ?_
  refine then_normal ?_
  refine seq_ ?_
  refine seq_ ?_
  refine reg_ ?_
  refine sq (o_call 6 #[] rfl (x_call Try.call6 (by kernel_rfl)) (known_w hXo) ?_)
  rintro _ w1 ⟨e1, rfl⟩
  have s1 := Step.of0 X e1
  refine sq (o_pv (.bool false) rfl (by kernel_rfl) ?_)
  refine nil_ ?_
  refine then_normal ?_
  refine cond_f (by kernel_rfl) ?_
  refine wp_skip ?_
  refine then_normal ?_
  refine seq_ ?_
  refine seq_ ?_
  refine reg_ ?_
  refine sq (o_pv (.slice a l.length c) rfl (by kernel_rfl) ?_)
  refine sq (o_pv (.int .i64 ((l.length : Nat) : Int)) rfl (by kernel_rfl) ?_)
  refine sq (o_pv (.bool (decide (((l.length : Nat) : Int) > 150))) rfl (by kernel_rfl) ?_)
  refine nil_ ?_
  refine then_normal ?_
  refine cond_d (((l.length : Nat) : Int) > 150) (by kernel_rfl) (fun h21 => ?_) (fun h21 => ?_)
  ·
    refine seq_ ?_
    refine reg_ ?_
    refine sq (o_pv (.bool true) rfl (by kernel_rfl) ?_)
    refine nil_ ?_
    refine then_normal ?_
    refine wp_ret ?_
    refine then_ret ?_
    refine end_ret (.bool true) (by kernel_rfl) ?_
    refine ⟨_, rfl, ?_⟩
    replace E0 := (Evo.then0 E0 e1)
    exact ⟨E0, rfl⟩
  ·
    refine wp_skip ?_
    refine then_normal ?_
    refine seq_ ?_
    refine reg_ ?_
    refine sq (o_pv (.agg #[(.slice none 0 0), (.slice none 0 0)]) rfl (by kernel_rfl) ?_)
    refine sq (o_new [(.slice none 0 0), (.slice none 0 0)] 26 rfl (by kernel_rfl) ?_)
    rintro b3 w2 hb3 e2 k3
    have n3 : w.heap.size ≤ b3 := Nat.le_trans (Evo.then0 E0 e1).size (Nat.le_of_eq hb3.symm)
    have s2 := Step.fresh X e2 b3 (Nat.le_of_eq hb3.symm) k3.lt
    refine sq (o_store (o := 0) (v := (.agg #[(.slice none 0 0), (.slice none 0 0)])) [(.slice none 0 0), (.slice none 0 0)] rfl k3 (by kernel_rfl) (by kernel_rfl) Try.sizeOf26 rfl rfl rfl ?_)
    intro w3 e3 kn3
    have s3 := Step.one e3 (X := b3 :: X) (List.mem_cons_self)
    clear k3; have k3 := kn3
    refine nil_ ?_
    refine then_normal ?_
    refine seq_ ?_
    refine reg_ ?_
    refine sq (o_pv (.slice none 0 0) rfl (by kernel_rfl) ?_)
    refine sq (o_pv (.slice none 0 0) rfl (by kernel_rfl) ?_)
    refine nil_ ?_
    refine then_normal ?_
    refine seq_ ?_
    refine seq_ ?_
    refine reg_ ?_
    refine sq (o_pv (.int .i64 0) rfl (by kernel_rfl) ?_)
    refine nil_ ?_
    refine then_normal ?_
    refine wp_block ?_
    replace E0 := (Evo.then1 (Evo.then0 (Evo.then0 E0 e1) e2) e3 n3)
    replace hXo := (((hXo.step s1).step s2).step s3)
    replace hl := (((hl.step s1).step s2).step s3)
    refine loop_ 50216813883093446110686315385661331328818843555712267845620 (fun kq lq wl0 => ∃ Xl0 : List Nat, ∃ i : Nat, ∃ B : List ByteArray, ∃ F : List ByteArray, ∃ ab : Option Addr, ∃ af : Option Addr, ∃ a4 : Option Addr, ∃ a5 : Option Addr, ∃ cb : Nat, ∃ cf : Nat, ∃ c4 : Nat, ∃ c5 : Nat, (lq = [(6, (.int .i64 ((i : Nat) : Int))), (4, (.slice a4 B.length c4)), (5, (.slice a5 F.length c5))]) ∧ (kq = l.length - i) ∧ (Sub (b3 :: X) Xl0) ∧ (Evo [] w wl0) ∧ (Old Xl0 wl0) ∧ (Sl rAct Xl0 wl0 a c l) ∧ (Blk wl0 b3 [(.slice ab B.length cb), (.slice af F.length cf)] 26) ∧ (Sl rStr Xl0 wl0 ab cb B) ∧ (Sl rStr Xl0 wl0 af cf F) ∧ (Sl rStr Xl0 wl0 a4 c4 B) ∧ (Sl rStr Xl0 wl0 a5 c5 F) ∧ (i ≤ l.length) ∧ (B.length ≤ 64) ∧ (F.length ≤ i)) (l.length - 0) [(6, (.int .i64 0)), (4, (.slice none 0 0)), (5, (.slice none 0 0))] (by kernel_rfl) ⟨(b3 :: X), 0, ([]), ([]), none, none, none, none, 0, 0, 0, 0, rfl, rfl, (Sub.of_cons (List.mem_cons_self) (Sub.trans (Sub.refl _) (Sub.cons _ _))), E0, hXo, hl, k3, Sl.nil, Sl.nil, Sl.nil, Sl.nil, (by omega), (by simp), (by simp)⟩ ?_
    rintro k0 l0 wl0 g0 ⟨Xl0, i, B, F, ab, af, a4, a5, cb, cf, c4, c5, rfl, hk0, hXl0, E0, hXo, hl, k3, hb, hf, h4, h5, hi, hB, hF⟩
    refine seq_ ?_
    refine seq_ ?_
    refine reg_ ?_
    refine sq (o_pv (.int .i64 ((i : Nat) : Int)) rfl (by kernel_rfl) ?_)
    refine sq (o_pv (.slice a l.length c) rfl (by kernel_rfl) ?_)
    refine sq (o_pv (.int .i64 ((l.length : Nat) : Int)) rfl (by kernel_rfl) ?_)
    refine sq (o_pv (.bool (decide (((i : Nat) : Int) < ((l.length : Nat) : Int)))) rfl (by kernel_rfl) ?_)
    refine nil_ ?_
    refine then_normal ?_
    refine cond_d (((i : Nat) : Int) < ((l.length : Nat) : Int)) (by kernel_rfl) (fun h26 => ?_) (fun h26 => ?_)
    ·
      refine wp_skip ?_
      refine then_normal ?_
      refine seq_ ?_
      refine wp_block ?_
      refine seq_ ?_
      refine reg_ ?_
      refine sq (o_pv (.slice a l.length c) rfl (by kernel_rfl) ?_)
      refine sq (o_pv (.int .i64 ((i : Nat) : Int)) rfl (by kernel_rfl) ?_)
      have hi31 : i < l.length := by omega
      obtain ⟨b31, o31, cs31, ha31, hnx31, hlt31, hok31, hc31⟩ := hl.at _ hi31
      obtain ⟨rfl, hr31, hz31⟩ := rAct_ok hok31
      refine sq (o_pv (.pointer (some ⟨b31, o31 + i * 2, none⟩)) rfl (x_indexAddr (m := l.length) (c := c) (k := .i64) (e := ((i : Nat) : Int)) (i := i) Try.underlying22 Try.sizeOf28 (by rw [← ha31]; kernel_rfl) (by kernel_rfl) rfl (by omega)) ?_)
      refine sq (o_pv (.agg #[(.int .i64 ((l[i]).op)), (.string ((l[i]).s))]) rfl (x_loadN [(.int .i64 ((l[i]).op)), (.string ((l[i]).s))] (by kernel_rfl) Try.isAgg28 Try.sizeOf28 hc31) ?_)
      refine sq (o_new [(.int .i64 0), (.string (ByteArray.mk #[]))] 28 rfl (by kernel_rfl) ?_)
      rintro b7 w4 hb7 e4 k7
      have n7 : w.heap.size ≤ b7 := Nat.le_trans E0.size (Nat.le_of_eq hb7.symm)
      have l3_7 : b3 < b7 := Nat.lt_of_lt_of_eq k3.lt hb7.symm
      have s4 := Step.fresh Xl0 e4 b7 (Nat.le_of_eq hb7.symm) k7.lt
      refine sq (o_store (o := 0) (v := (.agg #[(.int .i64 ((l[i]).op)), (.string ((l[i]).s))])) [(.int .i64 ((l[i]).op)), (.string ((l[i]).s))] rfl k7 (by kernel_rfl) (by kernel_rfl) Try.sizeOf28 rfl rfl rfl ?_)
      intro w5 e5 kn5
      have s5 := Step.one e5 (X := b7 :: Xl0) (List.mem_cons_self)
      clear k7; have k7 := kn5
      refine nil_ ?_
      refine then_normal ?_
      refine seq_ ?_
      refine seq_ ?_
      refine reg_ ?_
      refine sq (o_pv (.pointer (some ⟨b7, 1, none⟩)) rfl (by kernel_rfl) ?_)
      refine sq (o_pv (.string ((l[i]).s)) rfl (x_load1 (by kernel_rfl) Try.isAgg9 (k7.cell' 1 rfl)) ?_)
      refine sq (o_pv (.int .i64 ((((l[i]).s).size : Nat) : Int)) rfl (by kernel_rfl) ?_)
      refine sq (o_pv (.bool (decide (((((l[i]).s).size : Nat) : Int) > 100))) rfl (by kernel_rfl) ?_)
      refine nil_ ?_
      refine then_normal ?_
      refine cond_d (((((l[i]).s).size : Nat) : Int) > 100) (by kernel_rfl) (fun h36 => ?_) (fun h36 => ?_)
      ·
        refine seq_ ?_
        refine reg_ ?_
        refine sq (o_pv (.bool true) rfl (by kernel_rfl) ?_)
        refine nil_ ?_
        refine then_normal ?_
        refine wp_ret ?_
        refine then_ret ?_
        refine blk_ret ?_
        refine then_ret ?_
        refine then_ret ?_
        refine blk_ret ?_
        refine then_ret ?_
        refine end_ret (.bool true) (by kernel_rfl) ?_
        refine ⟨_, rfl, ?_⟩
        replace E0 := (Evo.then1 (Evo.then0 E0 e4) e5 n7)
        exact ⟨E0, rfl⟩
      ·
        refine wp_skip ?_
        refine then_normal ?_
        refine seq_ ?_
        refine reg_ ?_
        refine sq (o_row [] 9 0 rfl (by kernel_rfl) ?_)
        replace k3 := ((k3.evo0 e4).evo1 e5 (Nat.ne_of_lt l3_7))
        rintro b37 w6 hb37 e6 k37
        have n37 : w.heap.size ≤ b37 := Nat.le_trans (Evo.then1 (Evo.then0 E0 e4) e5 n7).size (Nat.le_of_eq hb37.symm)
        have l3_37 : b3 < b37 := Nat.lt_of_lt_of_eq k3.lt hb37.symm
        have l7_37 : b7 < b37 := Nat.lt_of_lt_of_eq k7.lt hb37.symm
        have s6 := Step.fresh (b7 :: Xl0) e6 b37 (Nat.le_of_eq hb37.symm) k37.lt
        refine sq (o_pv (.pointer (some ⟨b3, 0, none⟩)) rfl (by kernel_rfl) ?_)
        replace k3 := (k3.evo0 e6)
        refine sq (o_pv (.slice ab B.length cb) rfl (x_load1 (by kernel_rfl) Try.isAgg24 (k3.cell' 0 rfl)) ?_)
        have o40 : Own rStr (b37 :: b7 :: Xl0) w6 (w.heap.size) 9 (some ⟨b37, 0, none⟩) 0 [] := k37.own (List.mem_cons_self) Flat.nil 0 rfl (by decide) n37
        have q3_o40 : b3 ∉ blkL (some ⟨b37, 0, none⟩) := by simp [blkL]; omega
        have q7_o40 : b7 ∉ blkL (some ⟨b37, 0, none⟩) := by simp [blkL]; omega
        replace hb := (((hb.step s4).step s5).step s6)
        replace k7 := (k7.evo0 e6)
        refine sq (o_append (R := rStr) rfl elT24 rfl o40 hb.src (by kernel_rfl) (by kernel_rfl) rfl rfl (by first | omega | (simp <;> omega)) ?_)
        intro a40 c40 w7 X7 s7 hX7 hn7 hO40
        rw [show ([]) ++ B = B from by simp] at hO40 ⊢
        subst hX7
        have hl40 : B.length = 0 + B.length := by simp
        have q3_hO40 : b3 ∉ blkL a40 := fun h => (hn7 _ h).elim q3_o40 (fun e => by have := k3.lt; omega)
        have q7_hO40 : b7 ∉ blkL a40 := fun h => (hn7 _ h).elim q7_o40 (fun e => by have := k7.lt; omega)
        have p7 := o40
        replace E0 := (Evo.thenO (Evo.then0 (Evo.then1 (Evo.then0 E0 e4) e5 n7) e6) s7.evo p7 (Nat.le_refl _))
        replace hXo := ((((hXo.step s4).step s5).step s6).step s7)
        replace hl := ((((hl.step s4).step s5).step s6).step s7)
        replace k3 := (k3.evo s7.evo (q3_o40))
        replace hb := (hb.step s7)
        replace hf := ((((hf.step s4).step s5).step s6).step s7)
        replace h4 := ((((h4.step s4).step s5).step s6).step s7)
        replace h5 := ((((h5.step s4).step s5).step s6).step s7)
        replace k7 := (k7.evo s7.evo (q7_o40))
        have u8 : Sub (b3 :: b7 :: X) (blkL a40 ++ (b37 :: b7 :: Xl0)) := (Sub.of_cons (List.mem_append_right _ (List.mem_cons_of_mem _ (List.mem_cons_of_mem _ (hXl0 _ (List.mem_cons_self))))) (Sub.of_cons (List.mem_append_right _ (List.mem_cons_of_mem _ (List.mem_cons_self))) (Sub.trans (Sub.trans (Sub.trans (Sub.trans (Sub.trans (Sub.refl _) (Sub.cons _ _)) hXl0) (Sub.cons _ _)) (Sub.cons _ _)) (fun _ h => List.mem_append_right _ h))))
        have r8 := hO40.sl u8 (NotIn.cons q3_hO40 (NotIn.cons q7_hO40 (hO40.notin hX0)))
        replace hXo := hXo.less u8
        replace hl := hl.less u8
        replace hb := hb.less u8
        replace hf := hf.less u8
        replace h4 := h4.less u8
        replace h5 := h5.less u8
        refine sq (o_pv (.slice a40 B.length c40) rfl (by kernel_rfl) ?_)
        refine nil_ ?_
        refine then_normal ?_
        refine seq_ ?_
        refine reg_ ?_
        refine sq (o_row [] 9 0 rfl (by kernel_rfl) ?_)
        rintro b41 w8 hb41 e9 k41
        have n41 : w.heap.size ≤ b41 := Nat.le_trans E0.size (Nat.le_of_eq hb41.symm)
        have l3_41 : b3 < b41 := Nat.lt_of_lt_of_eq k3.lt hb41.symm
        have l7_41 : b7 < b41 := Nat.lt_of_lt_of_eq k7.lt hb41.symm
        have s9 := Step.fresh (b3 :: b7 :: X) e9 b41 (Nat.le_of_eq hb41.symm) k41.lt
        refine sq (o_pv (.pointer (some ⟨b3, 1, none⟩)) rfl (by kernel_rfl) ?_)
        replace k3 := (k3.evo0 e9)
        refine sq (o_pv (.slice af F.length cf) rfl (x_load1 (by kernel_rfl) Try.isAgg24 (k3.cell' 1 rfl)) ?_)
        have o44 : Own rStr (b41 :: b3 :: b7 :: X) w8 (w.heap.size) 9 (some ⟨b41, 0, none⟩) 0 [] := k41.own (List.mem_cons_self) Flat.nil 0 rfl (by decide) n41
        have q3_o44 : b3 ∉ blkL (some ⟨b41, 0, none⟩) := by simp [blkL]; omega
        have q7_o44 : b7 ∉ blkL (some ⟨b41, 0, none⟩) := by simp [blkL]; omega
        replace hf := (hf.step s9)
        replace k7 := (k7.evo0 e9)
        refine sq (o_append (R := rStr) rfl elT24 rfl o44 hf.src (by kernel_rfl) (by kernel_rfl) rfl rfl (by first | omega | (simp <;> omega)) ?_)
        intro a44 c44 w9 X10 s10 hX10 hn10 hO44
        rw [show ([]) ++ F = F from by simp] at hO44 ⊢
        subst hX10
        have hl44 : F.length = 0 + F.length := by simp
        have q3_hO44 : b3 ∉ blkL a44 := fun h => (hn10 _ h).elim q3_o44 (fun e => by have := k3.lt; omega)
        have q7_hO44 : b7 ∉ blkL a44 := fun h => (hn10 _ h).elim q7_o44 (fun e => by have := k7.lt; omega)
        have p10 := o44
        replace E0 := (Evo.thenO (Evo.then0 E0 e9) s10.evo p10 (Nat.le_refl _))
        replace hXo := ((hXo.step s9).step s10)
        replace hl := ((hl.step s9).step s10)
        replace k3 := (k3.evo s10.evo (q3_o44))
        replace hb := ((hb.step s9).step s10)
        replace hf := (hf.step s10)
        replace h4 := ((h4.step s9).step s10)
        replace h5 := ((h5.step s9).step s10)
        replace k7 := (k7.evo s10.evo (q7_o44))
        replace r8 := ((r8.step s9).step s10)
        have u11 : Sub (b3 :: b7 :: X) (blkL a44 ++ (b41 :: b3 :: b7 :: X)) := (Sub.of_cons (List.mem_append_right _ (List.mem_cons_of_mem _ (List.mem_cons_self))) (Sub.of_cons (List.mem_append_right _ (List.mem_cons_of_mem _ (List.mem_cons_of_mem _ (List.mem_cons_self)))) (Sub.trans (Sub.trans (Sub.trans (Sub.trans (Sub.refl _) (Sub.cons _ _)) (Sub.cons _ _)) (Sub.cons _ _)) (fun _ h => List.mem_append_right _ h))))
        have r11 := hO44.sl u11 (NotIn.cons q3_hO44 (NotIn.cons q7_hO44 (hO44.notin hX0)))
        replace hXo := hXo.less u11
        replace hl := hl.less u11
        replace hb := hb.less u11
        replace hf := hf.less u11
        replace h4 := h4.less u11
        replace h5 := h5.less u11
        replace r8 := r8.less u11
        refine sq (o_pv (.slice a44 F.length c44) rfl (by kernel_rfl) ?_)
        refine nil_ ?_
        refine then_normal ?_
        refine seq_ ?_
        refine reg_ ?_
        refine sq (o_pv (.agg #[(.slice ab B.length cb), (.slice af F.length cf)]) rfl (x_loadN [(.slice ab B.length cb), (.slice af F.length cf)] (by kernel_rfl) Try.isAgg26 Try.sizeOf26 (k3.cells' 0 rfl)) ?_)
        refine sq (o_new [(.slice none 0 0), (.slice none 0 0)] 26 rfl (by kernel_rfl) ?_)
        rintro b10 w10 hb10 e12 k10
        have n10 : w.heap.size ≤ b10 := Nat.le_trans E0.size (Nat.le_of_eq hb10.symm)
        have l3_10 : b3 < b10 := Nat.lt_of_lt_of_eq k3.lt hb10.symm
        have l7_10 : b7 < b10 := Nat.lt_of_lt_of_eq k7.lt hb10.symm
        have s12 := Step.fresh (b3 :: b7 :: X) e12 b10 (Nat.le_of_eq hb10.symm) k10.lt
        refine sq (o_store (o := 0) (v := (.agg #[(.slice ab B.length cb), (.slice af F.length cf)])) [(.slice ab B.length cb), (.slice af F.length cf)] rfl k10 (by kernel_rfl) (by kernel_rfl) Try.sizeOf26 rfl rfl rfl ?_)
        intro w11 e13 kn13
        have s13 := Step.one e13 (X := b10 :: b3 :: b7 :: X) (List.mem_cons_self)
        clear k10; have k10 := kn13
        refine nil_ ?_
        refine then_normal ?_
        refine seq_ ?_
        refine seq_ ?_
        refine reg_ ?_
        refine sq (o_pv (.pointer (some ⟨b7, 0, none⟩)) rfl (by kernel_rfl) ?_)
        replace k7 := ((k7.evo0 e12).evo1 e13 (Nat.ne_of_lt l7_10))
        refine sq (o_pv (.int .i64 ((l[i]).op)) rfl (x_load1 (by kernel_rfl) Try.isAgg3 (k7.cell' 0 rfl)) ?_)
        refine nil_ ?_
        refine then_normal ?_
        replace r8 := ((r8.step s12).step s13)
        replace r11 := ((r11.step s12).step s13)
        replace E0 := (Evo.then1 (Evo.then0 E0 e12) e13 n10)
        replace hXo := ((hXo.step s12).step s13)
        replace hl := ((hl.step s12).step s13)
        replace k3 := ((k3.evo0 e12).evo1 e13 (Nat.ne_of_lt l3_10))
        replace hb := ((hb.step s12).step s13)
        replace hf := ((hf.step s12).step s13)
        replace h4 := ((h4.step s12).step s13)
        replace h5 := ((h5.step s12).step s13)
        refine join_ 11417981541647679048466287755595679616085391412 (fun lq wj1 => ∃ Xj1 : List Nat, ∃ NB : List ByteArray, ∃ NF : List ByteArray, ∃ HB : List ByteArray, ∃ ah : Option Addr, ∃ ag : Option Addr, ∃ a4n : Option Addr, ∃ a5n : Option Addr, ∃ ch : Nat, ∃ cg : Nat, ∃ c4n : Nat, ∃ c5n : Nat, (lq = [(4, (.slice a4n NB.length c4n)), (5, (.slice a5n NF.length c5n))]) ∧ (Sub (b3 :: b7 :: b10 :: X) Xj1) ∧ (Evo [] w wj1) ∧ (Old Xj1 wj1) ∧ (Sl rAct Xj1 wj1 a c l) ∧ (Blk wj1 b3 [(.slice ab B.length cb), (.slice af F.length cf)] 26) ∧ (Blk wj1 b7 [(.int .i64 ((l[i]).op)), (.string ((l[i]).s))] 28) ∧ (Sl rStr Xj1 wj1 ab cb B) ∧ (Sl rStr Xj1 wj1 af cf F) ∧ (Sl rStr Xj1 wj1 a40 c40 B) ∧ (Sl rStr Xj1 wj1 a44 c44 F) ∧ (Blk wj1 b10 [(.slice ah HB.length ch), (.slice ag NF.length cg)] 26) ∧ (Sl rStr Xj1 wj1 ah ch HB) ∧ (Sl rStr Xj1 wj1 ag cg NF) ∧ (Sl rStr Xj1 wj1 a4n c4n NB) ∧ (Sl rStr Xj1 wj1 a5n c5n NF) ∧ (HB = NB.drop (NB.length - 64)) ∧ (NB.length ≤ 65) ∧ (NF.length ≤ i + 1)) ?_ ?_
        ·
          refine wp_block ?_
          refine seq_ ?_
          refine reg_ ?_
          refine sq (o_pv (.bool (decide (((l[i]).op) = 1))) rfl (by kernel_rfl) ?_)
          refine sq (o_pv (.bool (decide (((l[i]).op) = 1))) rfl (by kernel_rfl) ?_)
          refine nil_ ?_
          refine then_normal ?_
          refine cond_d (((l[i]).op) = 1) (by kernel_rfl) (fun h48 => ?_) (fun h48 => ?_)
          ·
            refine seq_ ?_
            refine reg_ ?_
            refine sq (o_pv (.agg #[(.slice ab B.length cb), (.slice af F.length cf)]) rfl (x_loadN [(.slice ab B.length cb), (.slice af F.length cf)] (by kernel_rfl) Try.isAgg26 Try.sizeOf26 (k3.cells' 0 rfl)) ?_)
            refine sq (o_pv (.pointer (some ⟨b7, 1, none⟩)) rfl (by kernel_rfl) ?_)
            refine sq (o_pv (.string ((l[i]).s)) rfl (x_load1 (by kernel_rfl) Try.isAgg9 (k7.cell' 1 rfl)) ?_)
            refine sq (o_call 7 #[(.agg #[(.slice ab B.length cb), (.slice af F.length cf)]), (.string ((l[i]).s))] rfl (x_call Try.call7 (by kernel_rfl)) (Do_w (Lb := B) (M := pushL B ((l[i]).s)) hXo rfl hb hz31 (by omega)) ?_)
            rintro _ w12 ⟨e14, a53, c53, rfl, h53⟩
            have s14 := Step.of0 (b10 :: b3 :: b7 :: X) e14
            replace k10 := (k10.evo0 e14)
            refine sq (o_store (o := 0) (v := (.agg #[(.slice a53 ((pushL B ((l[i]).s)).length) c53), (.slice none 0 0)])) [(.slice a53 ((pushL B ((l[i]).s)).length) c53), (.slice none 0 0)] rfl k10 (by kernel_rfl) (by kernel_rfl) Try.sizeOf26 rfl rfl rfl ?_)
            intro w13 e15 kn15
            have s15 := Step.one e15 (X := b10 :: b3 :: b7 :: X) (List.mem_cons_self)
            clear k10; have k10 := kn15
            refine nil_ ?_
            refine then_normal ?_
            refine seq_ ?_
            replace E0 := (Evo.then1 (Evo.then0 E0 e14) e15 n10)
            replace hXo := ((hXo.step s14).step s15)
            replace hl := ((hl.step s14).step s15)
            replace k3 := ((k3.evo0 e14).evo1 e15 (Nat.ne_of_lt l3_10))
            replace hb := ((hb.step s14).step s15)
            replace hf := ((hf.step s14).step s15)
            replace h4 := ((h4.step s14).step s15)
            replace h5 := ((h5.step s14).step s15)
            replace k7 := ((k7.evo0 e14).evo1 e15 (Nat.ne_of_lt l7_10))
            replace r8 := ((r8.step s14).step s15)
            replace r11 := ((r11.step s14).step s15)
            replace h53 := (h53.step s15)
            refine join_ 2287828610704211984 (fun lq wj2 => ∃ Xj2 : List Nat, ∃ aq : Option Addr, ∃ cq : Nat, (lq = [(4, (.slice aq ((B ++ [(l[i]).s]).length) cq))]) ∧ (Sub (b3 :: b7 :: b10 :: X) Xj2) ∧ (Evo [] w wj2) ∧ (Old Xj2 wj2) ∧ (Sl rAct Xj2 wj2 a c l) ∧ (Blk wj2 b3 [(.slice ab B.length cb), (.slice af F.length cf)] 26) ∧ (Sl rStr Xj2 wj2 ab cb B) ∧ (Sl rStr Xj2 wj2 af cf F) ∧ (Sl rStr Xj2 wj2 a4 c4 B) ∧ (Sl rStr Xj2 wj2 a5 c5 F) ∧ (Blk wj2 b7 [(.int .i64 ((l[i]).op)), (.string ((l[i]).s))] 28) ∧ (Sl rStr Xj2 wj2 a40 c40 B) ∧ (Sl rStr Xj2 wj2 a44 c44 F) ∧ (Sl rStr Xj2 wj2 a53 c53 (pushL B ((l[i]).s))) ∧ (Blk wj2 b10 [(.slice a53 ((pushL B ((l[i]).s)).length) c53), (.slice none 0 0)] 26) ∧ (Sl rStr Xj2 wj2 aq cq (B ++ [(l[i]).s]))) ?_ ?_
            ·
              refine reg_drawn (RB w13.heap.size []) 7 (by kernel_rfl) (fun w14 hd19 => ?_)
              have e16 := Evo.of_drew hd19
              have z19 : w14.heap.size = w13.heap.size := by rw [hd19]
              clear hd19
              have s16 := Step.of0 (b10 :: b3 :: b7 :: X) e16
              replace E0 := (Evo.then0 E0 e16)
              have zr19 : w.heap.size ≤ w13.heap.size := by have := E0.size; omega
              replace k3 := (k3.evo0 e16)
              have lt19_3 : b3 < w13.heap.size := by have := k3.lt; omega
              replace k7 := (k7.evo0 e16)
              have lt19_7 : b7 < w13.heap.size := by have := k7.lt; omega
              replace k10 := (k10.evo0 e16)
              have lt19_10 : b10 < w13.heap.size := by have := k10.lt; omega
              refine r_take 1 (.slice a4 B.length c4) (RB.pre _ _) rfl (by kernel_rfl) (fun _ _ _ h => h) (.inl ⟨rfl, fun wq hq => (by kernel_rfl)⟩) ?_
              refine r_take 3 (.pointer (some ⟨b7, 1, none⟩)) (RB.pre _ _) rfl (by kernel_rfl) (fun _ _ _ h => h) (.inl ⟨rfl, fun wq hq => (by kernel_rfl)⟩) ?_
              refine r_take 4 (.string ((l[i]).s)) (RB.pre _ _) rfl (by kernel_rfl) (fun _ _ _ h => h) (.inl ⟨rfl, fun wq hq => (x_load1 (by kernel_rfl) Try.isAgg9 ((k7.rb hq lt19_7 (by simp)).cell' 1 rfl))⟩) ?_
              refine r_ready [0, 5] (by kernel_rfl) rfl (all_cons ⟨_, _, _, _, _, _, rfl, ?_⟩ (all_cons ⟨_, _, _, _, _, _, rfl, ?_⟩ (all_nil)))
              ·
                refine  (o_row [] 9 0 rfl (by kernel_rfl) ?_)
                rintro b54 w15 hb54 e17 k54
                have n54 : w.heap.size ≤ b54 := Nat.le_trans E0.size (Nat.le_of_eq hb54.symm)
                have n54r : w13.heap.size ≤ b54 := by omega
                have l3_54 : b3 < b54 := Nat.lt_of_lt_of_eq k3.lt hb54.symm
                have l7_54 : b7 < b54 := Nat.lt_of_lt_of_eq k7.lt hb54.symm
                have l10_54 : b10 < b54 := Nat.lt_of_lt_of_eq k10.lt hb54.symm
                have s17 := Step.fresh (b10 :: b3 :: b7 :: X) e17 b54 (Nat.le_of_eq hb54.symm) k54.lt
                refine ⟨fun _ => RB.mono e17 (by have := e17.size; omega) (fun _ h => by cases h), ?_⟩
                refine r_ready [2, 5] (by kernel_rfl) rfl (all_cons ⟨_, _, _, _, _, _, rfl, ?_⟩ (all_cons ⟨_, _, _, _, _, _, rfl, ?_⟩ (all_nil)))
                ·
                  have o56 : Own rStr (b54 :: b10 :: b3 :: b7 :: X) w15 (w13.heap.size) 9 (some ⟨b54, 0, none⟩) 0 [] := k54.own (List.mem_cons_self) Flat.nil 0 rfl (by decide) n54r
                  have q3_o56 : b3 ∉ blkL (some ⟨b54, 0, none⟩) := by simp [blkL]; omega
                  have q7_o56 : b7 ∉ blkL (some ⟨b54, 0, none⟩) := by simp [blkL]; omega
                  have q10_o56 : b10 ∉ blkL (some ⟨b54, 0, none⟩) := by simp [blkL]; omega
                  replace h4 := ((h4.step s16).step s17)
                  replace k3 := (k3.evo0 e17)
                  replace k7 := (k7.evo0 e17)
                  replace k10 := (k10.evo0 e17)
                  refine  (o_append (R := rStr) rfl elT24 rfl o56 h4.src (by kernel_rfl) (by kernel_rfl) rfl rfl (by first | omega | (simp <;> omega)) ?_)
                  intro a56 c56 w16 X18 s18 hX18 hn18 hO56
                  rw [show ([]) ++ B = B from by simp] at hO56 ⊢
                  subst hX18
                  have hl56 : B.length = 0 + B.length := by simp
                  have q3_hO56 : b3 ∉ blkL a56 := fun h => (hn18 _ h).elim q3_o56 (fun e => by have := k3.lt; omega)
                  have q7_hO56 : b7 ∉ blkL a56 := fun h => (hn18 _ h).elim q7_o56 (fun e => by have := k7.lt; omega)
                  have q10_hO56 : b10 ∉ blkL a56 := fun h => (hn18 _ h).elim q10_o56 (fun e => by have := k10.lt; omega)
                  have p18 := o56
                  refine ⟨fun _ => RB.mono s18.evo (by have := e17.size; have := s18.evo.size; omega) (fun x hx => .inr (p18.lt x hx).1), ?_⟩
                  refine r_ready [5] (by kernel_rfl) rfl (all_cons ⟨_, _, _, _, _, _, rfl, ?_⟩ all_nil)
                  refine  (o_row [(.string ((l[i]).s))] 9 1 rfl (by kernel_rfl) ?_)
                  replace k3 := (k3.evo s18.evo (q3_o56))
                  replace k7 := (k7.evo s18.evo (q7_o56))
                  replace k10 := (k10.evo s18.evo (q10_o56))
                  rintro b59 w17 hb59 e19 k59
                  have n59 : w.heap.size ≤ b59 := Nat.le_trans (Evo.thenO (Evo.then0 E0 e17) s18.evo p18 zr19).size (Nat.le_of_eq hb59.symm)
                  have n59r : w13.heap.size ≤ b59 := by have := e17.size; have := s18.evo.size; omega
                  have l3_59 : b3 < b59 := Nat.lt_of_lt_of_eq k3.lt hb59.symm
                  have l7_59 : b7 < b59 := Nat.lt_of_lt_of_eq k7.lt hb59.symm
                  have l10_59 : b10 < b59 := Nat.lt_of_lt_of_eq k10.lt hb59.symm
                  have q59_hO56 : b59 ∉ blkL a56 := fun h => by have := (hO56.lt _ h).2; omega
                  have s19 := Step.fresh (blkL a56 ++ (b54 :: b10 :: b3 :: b7 :: X)) e19 b59 (Nat.le_of_eq hb59.symm) k59.lt
                  refine ⟨fun _ => RB.mono e19 (by have := e17.size; have := s18.evo.size; have := e19.size; omega) (fun _ h => by cases h), ?_⟩
                  refine r_ready [6] (by kernel_rfl) rfl (all_cons ⟨_, _, _, _, _, _, rfl, ?_⟩ all_nil)
                  replace hO56 := (hO56.step s19 (fun _ _ => by simp))
                  replace k3 := (k3.evo0 e19)
                  replace k7 := (k7.evo0 e19)
                  replace k10 := (k10.evo0 e19)
                  refine  (o_append (R := rStr) rfl elT24 rfl hO56 (k59.src (c := 1) (Flat.cons1 ⟨rfl, hz31⟩ Flat.nil)) (by kernel_rfl) (by kernel_rfl) rfl rfl (by first | omega | (simp <;> omega)) ?_)
                  intro a60 c60 w18 X20 s20 hX20 hn20 hO60
                  subst hX20
                  have hl60 : (B ++ ([(l[i]).s])).length = B.length + 1 := by simp
                  have q3_hO60 : b3 ∉ blkL a60 := fun h => (hn20 _ h).elim q3_hO56 (fun e => by have := k3.lt; omega)
                  have q7_hO60 : b7 ∉ blkL a60 := fun h => (hn20 _ h).elim q7_hO56 (fun e => by have := k7.lt; omega)
                  have q10_hO60 : b10 ∉ blkL a60 := fun h => (hn20 _ h).elim q10_hO56 (fun e => by have := k10.lt; omega)
                  have p20 := hO56
                  refine ⟨fun _ => RB.mono s20.evo (by have := e17.size; have := s18.evo.size; have := e19.size; have := s20.evo.size; omega) (fun x hx => .inr (p20.lt x hx).1), ?_⟩
                  replace E0 := (Evo.thenO (Evo.then0 (Evo.thenO (Evo.then0 E0 e17) s18.evo p18 zr19) e19) s20.evo p20 zr19)
                  replace hXo := (((((hXo.step s16).step s17).step s18).step s19).step s20)
                  replace hl := (((((hl.step s16).step s17).step s18).step s19).step s20)
                  replace k3 := (k3.evo s20.evo (q3_hO56))
                  replace hb := (((((hb.step s16).step s17).step s18).step s19).step s20)
                  replace hf := (((((hf.step s16).step s17).step s18).step s19).step s20)
                  replace h4 := (((h4.step s18).step s19).step s20)
                  replace h5 := (((((h5.step s16).step s17).step s18).step s19).step s20)
                  replace k7 := (k7.evo s20.evo (q7_hO56))
                  replace r8 := (((((r8.step s16).step s17).step s18).step s19).step s20)
                  replace r11 := (((((r11.step s16).step s17).step s18).step s19).step s20)
                  replace h53 := (((((h53.step s16).step s17).step s18).step s19).step s20)
                  replace k10 := (k10.evo s20.evo (q10_hO56))
                  have u21 : Sub (b3 :: b7 :: b10 :: X) (blkL a60 ++ (b59 :: blkL a56 ++ (b54 :: b10 :: b3 :: b7 :: X))) := (Sub.of_cons (List.mem_append_right _ (List.mem_cons_of_mem _ (List.mem_append_right _ (List.mem_cons_of_mem _ (List.mem_cons_of_mem _ (List.mem_cons_self)))))) (Sub.of_cons (List.mem_append_right _ (List.mem_cons_of_mem _ (List.mem_append_right _ (List.mem_cons_of_mem _ (List.mem_cons_of_mem _ (List.mem_cons_of_mem _ (List.mem_cons_self))))))) (Sub.of_cons (List.mem_append_right _ (List.mem_cons_of_mem _ (List.mem_append_right _ (List.mem_cons_of_mem _ (List.mem_cons_self))))) (Sub.trans (Sub.trans (Sub.trans (Sub.trans (Sub.trans (Sub.trans (Sub.trans (Sub.refl _) (Sub.cons _ _)) (Sub.cons _ _)) (Sub.cons _ _)) (Sub.cons _ _)) (fun _ h => List.mem_append_right _ h)) (Sub.cons _ _)) (fun _ h => List.mem_append_right _ h)))))
                  have r21 := hO60.sl u21 (NotIn.cons q3_hO60 (NotIn.cons q7_hO60 (NotIn.cons q10_hO60 (hO60.notin (fun b hb => Nat.lt_of_lt_of_le (hX0 b hb) zr19)))))
                  replace hXo := hXo.less u21
                  replace hl := hl.less u21
                  replace hb := hb.less u21
                  replace hf := hf.less u21
                  replace h4 := h4.less u21
                  replace h5 := h5.less u21
                  replace r8 := r8.less u21
                  replace r11 := r11.less u21
                  replace h53 := h53.less u21
                  refine r_ready [7] (by kernel_rfl) rfl (all_cons ⟨_, _, _, _, _, _, rfl, ?_⟩ all_nil)
                  refine  (o_pv (.slice a60 ((B ++ ([(l[i]).s])).length) c60) rfl (by kernel_rfl) ?_)
                  refine ⟨fun h => absurd h (by decide), ?_⟩
                  refine r_done (by kernel_rfl) ?_
                  refine then_normal ?_
                  refine meet_ [(4, (.slice a60 ((B ++ ([(l[i]).s])).length) c60))] (by kernel_rfl) ?_
                  exact ⟨(b3 :: b7 :: b10 :: X), a60, c60, rfl, (Sub.of_cons (List.mem_cons_self) (Sub.of_cons (List.mem_cons_of_mem _ (List.mem_cons_self)) (Sub.of_cons (List.mem_cons_of_mem _ (List.mem_cons_of_mem _ (List.mem_cons_self))) (Sub.trans (Sub.trans (Sub.trans (Sub.refl _) (Sub.cons _ _)) (Sub.cons _ _)) (Sub.cons _ _))))), E0, hXo, hl, k3, hb, hf, h4, h5, k7, r8, r11, h53, k10, r21⟩
                ·
                  refine  (o_row [(.string ((l[i]).s))] 9 1 rfl (by kernel_rfl) ?_)
                  replace k3 := (k3.evo0 e17)
                  replace k7 := (k7.evo0 e17)
                  replace k10 := (k10.evo0 e17)
                  rintro b59 w19 hb59 e22 k59
                  have n59 : w.heap.size ≤ b59 := Nat.le_trans (Evo.then0 E0 e17).size (Nat.le_of_eq hb59.symm)
                  have n59r : w13.heap.size ≤ b59 := by have := e17.size; omega
                  have l3_59 : b3 < b59 := Nat.lt_of_lt_of_eq k3.lt hb59.symm
                  have l7_59 : b7 < b59 := Nat.lt_of_lt_of_eq k7.lt hb59.symm
                  have l10_59 : b10 < b59 := Nat.lt_of_lt_of_eq k10.lt hb59.symm
                  have l54_59 : b54 < b59 := Nat.lt_of_lt_of_eq k54.lt hb59.symm
                  have s22 := Step.fresh (b54 :: b10 :: b3 :: b7 :: X) e22 b59 (Nat.le_of_eq hb59.symm) k59.lt
                  refine ⟨fun _ => RB.mono e22 (by have := e17.size; have := e22.size; omega) (fun _ h => by cases h), ?_⟩
                  refine r_ready [2] (by kernel_rfl) rfl (all_cons ⟨_, _, _, _, _, _, rfl, ?_⟩ all_nil)
                  replace k54 := (k54.evo0 e22)
                  have o56 : Own rStr (b59 :: b54 :: b10 :: b3 :: b7 :: X) w19 (w13.heap.size) 9 (some ⟨b54, 0, none⟩) 0 [] := k54.own (List.mem_cons_of_mem _ (List.mem_cons_self)) Flat.nil 0 rfl (by decide) n54r
                  have q3_o56 : b3 ∉ blkL (some ⟨b54, 0, none⟩) := by simp [blkL]; omega
                  have q7_o56 : b7 ∉ blkL (some ⟨b54, 0, none⟩) := by simp [blkL]; omega
                  have q10_o56 : b10 ∉ blkL (some ⟨b54, 0, none⟩) := by simp [blkL]; omega
                  have q59_o56 : b59 ∉ blkL (some ⟨b54, 0, none⟩) := by simp [blkL]; omega
                  replace h4 := (((h4.step s16).step s17).step s22)
                  replace k3 := (k3.evo0 e22)
                  replace k7 := (k7.evo0 e22)
                  replace k10 := (k10.evo0 e22)
                  refine  (o_append (R := rStr) rfl elT24 rfl o56 h4.src (by kernel_rfl) (by kernel_rfl) rfl rfl (by first | omega | (simp <;> omega)) ?_)
                  intro a56 c56 w20 X23 s23 hX23 hn23 hO56
                  rw [show ([]) ++ B = B from by simp] at hO56 ⊢
                  subst hX23
                  have hl56 : B.length = 0 + B.length := by simp
                  have q3_hO56 : b3 ∉ blkL a56 := fun h => (hn23 _ h).elim q3_o56 (fun e => by have := k3.lt; omega)
                  have q7_hO56 : b7 ∉ blkL a56 := fun h => (hn23 _ h).elim q7_o56 (fun e => by have := k7.lt; omega)
                  have q10_hO56 : b10 ∉ blkL a56 := fun h => (hn23 _ h).elim q10_o56 (fun e => by have := k10.lt; omega)
                  have q59_hO56 : b59 ∉ blkL a56 := fun h => (hn23 _ h).elim q59_o56 (fun e => by have := k59.lt; omega)
                  have p23 := o56
                  refine ⟨fun _ => RB.mono s23.evo (by have := e17.size; have := e22.size; have := s23.evo.size; omega) (fun x hx => .inr (p23.lt x hx).1), ?_⟩
                  refine r_ready [6] (by kernel_rfl) rfl (all_cons ⟨_, _, _, _, _, _, rfl, ?_⟩ all_nil)
                  replace k59 := (k59.evo s23.evo (q59_o56))
                  replace k3 := (k3.evo s23.evo (q3_o56))
                  replace k7 := (k7.evo s23.evo (q7_o56))
                  replace k10 := (k10.evo s23.evo (q10_o56))
                  refine  (o_append (R := rStr) rfl elT24 rfl hO56 (k59.src (c := 1) (Flat.cons1 ⟨rfl, hz31⟩ Flat.nil)) (by kernel_rfl) (by kernel_rfl) rfl rfl (by first | omega | (simp <;> omega)) ?_)
                  intro a60 c60 w21 X24 s24 hX24 hn24 hO60
                  subst hX24
                  have hl60 : (B ++ ([(l[i]).s])).length = B.length + 1 := by simp
                  have q3_hO60 : b3 ∉ blkL a60 := fun h => (hn24 _ h).elim q3_hO56 (fun e => by have := k3.lt; omega)
                  have q7_hO60 : b7 ∉ blkL a60 := fun h => (hn24 _ h).elim q7_hO56 (fun e => by have := k7.lt; omega)
                  have q10_hO60 : b10 ∉ blkL a60 := fun h => (hn24 _ h).elim q10_hO56 (fun e => by have := k10.lt; omega)
                  have p24 := hO56
                  refine ⟨fun _ => RB.mono s24.evo (by have := e17.size; have := e22.size; have := s23.evo.size; have := s24.evo.size; omega) (fun x hx => .inr (p24.lt x hx).1), ?_⟩
                  replace E0 := (Evo.thenO (Evo.thenO (Evo.then0 (Evo.then0 E0 e17) e22) s23.evo p23 zr19) s24.evo p24 zr19)
                  replace hXo := (((((hXo.step s16).step s17).step s22).step s23).step s24)
                  replace hl := (((((hl.step s16).step s17).step s22).step s23).step s24)
                  replace k3 := (k3.evo s24.evo (q3_hO56))
                  replace hb := (((((hb.step s16).step s17).step s22).step s23).step s24)
                  replace hf := (((((hf.step s16).step s17).step s22).step s23).step s24)
                  replace h4 := ((h4.step s23).step s24)
                  replace h5 := (((((h5.step s16).step s17).step s22).step s23).step s24)
                  replace k7 := (k7.evo s24.evo (q7_hO56))
                  replace r8 := (((((r8.step s16).step s17).step s22).step s23).step s24)
                  replace r11 := (((((r11.step s16).step s17).step s22).step s23).step s24)
                  replace h53 := (((((h53.step s16).step s17).step s22).step s23).step s24)
                  replace k10 := (k10.evo s24.evo (q10_hO56))
                  have u25 : Sub (b3 :: b7 :: b10 :: X) (blkL a60 ++ (blkL a56 ++ (b59 :: b54 :: b10 :: b3 :: b7 :: X))) := (Sub.of_cons (List.mem_append_right _ (List.mem_append_right _ (List.mem_cons_of_mem _ (List.mem_cons_of_mem _ (List.mem_cons_of_mem _ (List.mem_cons_self)))))) (Sub.of_cons (List.mem_append_right _ (List.mem_append_right _ (List.mem_cons_of_mem _ (List.mem_cons_of_mem _ (List.mem_cons_of_mem _ (List.mem_cons_of_mem _ (List.mem_cons_self))))))) (Sub.of_cons (List.mem_append_right _ (List.mem_append_right _ (List.mem_cons_of_mem _ (List.mem_cons_of_mem _ (List.mem_cons_self))))) (Sub.trans (Sub.trans (Sub.trans (Sub.trans (Sub.trans (Sub.trans (Sub.trans (Sub.refl _) (Sub.cons _ _)) (Sub.cons _ _)) (Sub.cons _ _)) (Sub.cons _ _)) (Sub.cons _ _)) (fun _ h => List.mem_append_right _ h)) (fun _ h => List.mem_append_right _ h)))))
                  have r25 := hO60.sl u25 (NotIn.cons q3_hO60 (NotIn.cons q7_hO60 (NotIn.cons q10_hO60 (hO60.notin (fun b hb => Nat.lt_of_lt_of_le (hX0 b hb) zr19)))))
                  replace hXo := hXo.less u25
                  replace hl := hl.less u25
                  replace hb := hb.less u25
                  replace hf := hf.less u25
                  replace h4 := h4.less u25
                  replace h5 := h5.less u25
                  replace r8 := r8.less u25
                  replace r11 := r11.less u25
                  replace h53 := h53.less u25
                  refine r_ready [7] (by kernel_rfl) rfl (all_cons ⟨_, _, _, _, _, _, rfl, ?_⟩ all_nil)
                  refine  (o_pv (.slice a60 ((B ++ ([(l[i]).s])).length) c60) rfl (by kernel_rfl) ?_)
                  refine ⟨fun h => absurd h (by decide), ?_⟩
                  refine r_done (by kernel_rfl) ?_
                  refine then_normal ?_
                  refine meet_ [(4, (.slice a60 ((B ++ ([(l[i]).s])).length) c60))] (by kernel_rfl) ?_
                  exact ⟨(b3 :: b7 :: b10 :: X), a60, c60, rfl, (Sub.of_cons (List.mem_cons_self) (Sub.of_cons (List.mem_cons_of_mem _ (List.mem_cons_self)) (Sub.of_cons (List.mem_cons_of_mem _ (List.mem_cons_of_mem _ (List.mem_cons_self))) (Sub.trans (Sub.trans (Sub.trans (Sub.refl _) (Sub.cons _ _)) (Sub.cons _ _)) (Sub.cons _ _))))), E0, hXo, hl, k3, hb, hf, h4, h5, k7, r8, r11, h53, k10, r25⟩
              ·
                refine  (o_row [(.string ((l[i]).s))] 9 1 rfl (by kernel_rfl) ?_)
                rintro b59 w22 hb59 e26 k59
                have n59 : w.heap.size ≤ b59 := Nat.le_trans E0.size (Nat.le_of_eq hb59.symm)
                have n59r : w13.heap.size ≤ b59 := by omega
                have l3_59 : b3 < b59 := Nat.lt_of_lt_of_eq k3.lt hb59.symm
                have l7_59 : b7 < b59 := Nat.lt_of_lt_of_eq k7.lt hb59.symm
                have l10_59 : b10 < b59 := Nat.lt_of_lt_of_eq k10.lt hb59.symm
                have s26 := Step.fresh (b10 :: b3 :: b7 :: X) e26 b59 (Nat.le_of_eq hb59.symm) k59.lt
                refine ⟨fun _ => RB.mono e26 (by have := e26.size; omega) (fun _ h => by cases h), ?_⟩
                refine r_ready [0] (by kernel_rfl) rfl (all_cons ⟨_, _, _, _, _, _, rfl, ?_⟩ all_nil)
                refine  (o_row [] 9 0 rfl (by kernel_rfl) ?_)
                replace k3 := (k3.evo0 e26)
                replace k7 := (k7.evo0 e26)
                replace k10 := (k10.evo0 e26)
                rintro b54 w23 hb54 e27 k54
                have n54 : w.heap.size ≤ b54 := Nat.le_trans (Evo.then0 E0 e26).size (Nat.le_of_eq hb54.symm)
                have n54r : w13.heap.size ≤ b54 := by have := e26.size; omega
                have l3_54 : b3 < b54 := Nat.lt_of_lt_of_eq k3.lt hb54.symm
                have l7_54 : b7 < b54 := Nat.lt_of_lt_of_eq k7.lt hb54.symm
                have l10_54 : b10 < b54 := Nat.lt_of_lt_of_eq k10.lt hb54.symm
                have l59_54 : b59 < b54 := Nat.lt_of_lt_of_eq k59.lt hb54.symm
                have s27 := Step.fresh (b59 :: b10 :: b3 :: b7 :: X) e27 b54 (Nat.le_of_eq hb54.symm) k54.lt
                refine ⟨fun _ => RB.mono e27 (by have := e26.size; have := e27.size; omega) (fun _ h => by cases h), ?_⟩
                refine r_ready [2] (by kernel_rfl) rfl (all_cons ⟨_, _, _, _, _, _, rfl, ?_⟩ all_nil)
                have o56 : Own rStr (b54 :: b59 :: b10 :: b3 :: b7 :: X) w23 (w13.heap.size) 9 (some ⟨b54, 0, none⟩) 0 [] := k54.own (List.mem_cons_self) Flat.nil 0 rfl (by decide) n54r
                have q3_o56 : b3 ∉ blkL (some ⟨b54, 0, none⟩) := by simp [blkL]; omega
                have q7_o56 : b7 ∉ blkL (some ⟨b54, 0, none⟩) := by simp [blkL]; omega
                have q10_o56 : b10 ∉ blkL (some ⟨b54, 0, none⟩) := by simp [blkL]; omega
                have q59_o56 : b59 ∉ blkL (some ⟨b54, 0, none⟩) := by simp [blkL]; omega
                replace h4 := (((h4.step s16).step s26).step s27)
                replace k3 := (k3.evo0 e27)
                replace k7 := (k7.evo0 e27)
                replace k10 := (k10.evo0 e27)
                replace k59 := (k59.evo0 e27)
                refine  (o_append (R := rStr) rfl elT24 rfl o56 h4.src (by kernel_rfl) (by kernel_rfl) rfl rfl (by first | omega | (simp <;> omega)) ?_)
                intro a56 c56 w24 X28 s28 hX28 hn28 hO56
                rw [show ([]) ++ B = B from by simp] at hO56 ⊢
                subst hX28
                have hl56 : B.length = 0 + B.length := by simp
                have q3_hO56 : b3 ∉ blkL a56 := fun h => (hn28 _ h).elim q3_o56 (fun e => by have := k3.lt; omega)
                have q7_hO56 : b7 ∉ blkL a56 := fun h => (hn28 _ h).elim q7_o56 (fun e => by have := k7.lt; omega)
                have q10_hO56 : b10 ∉ blkL a56 := fun h => (hn28 _ h).elim q10_o56 (fun e => by have := k10.lt; omega)
                have q59_hO56 : b59 ∉ blkL a56 := fun h => (hn28 _ h).elim q59_o56 (fun e => by have := k59.lt; omega)
                have p28 := o56
                refine ⟨fun _ => RB.mono s28.evo (by have := e26.size; have := e27.size; have := s28.evo.size; omega) (fun x hx => .inr (p28.lt x hx).1), ?_⟩
                refine r_ready [6] (by kernel_rfl) rfl (all_cons ⟨_, _, _, _, _, _, rfl, ?_⟩ all_nil)
                replace k59 := (k59.evo s28.evo (q59_o56))
                replace k3 := (k3.evo s28.evo (q3_o56))
                replace k7 := (k7.evo s28.evo (q7_o56))
                replace k10 := (k10.evo s28.evo (q10_o56))
                refine  (o_append (R := rStr) rfl elT24 rfl hO56 (k59.src (c := 1) (Flat.cons1 ⟨rfl, hz31⟩ Flat.nil)) (by kernel_rfl) (by kernel_rfl) rfl rfl (by first | omega | (simp <;> omega)) ?_)
                intro a60 c60 w25 X29 s29 hX29 hn29 hO60
                subst hX29
                have hl60 : (B ++ ([(l[i]).s])).length = B.length + 1 := by simp
                have q3_hO60 : b3 ∉ blkL a60 := fun h => (hn29 _ h).elim q3_hO56 (fun e => by have := k3.lt; omega)
                have q7_hO60 : b7 ∉ blkL a60 := fun h => (hn29 _ h).elim q7_hO56 (fun e => by have := k7.lt; omega)
                have q10_hO60 : b10 ∉ blkL a60 := fun h => (hn29 _ h).elim q10_hO56 (fun e => by have := k10.lt; omega)
                have p29 := hO56
                refine ⟨fun _ => RB.mono s29.evo (by have := e26.size; have := e27.size; have := s28.evo.size; have := s29.evo.size; omega) (fun x hx => .inr (p29.lt x hx).1), ?_⟩
                replace E0 := (Evo.thenO (Evo.thenO (Evo.then0 (Evo.then0 E0 e26) e27) s28.evo p28 zr19) s29.evo p29 zr19)
                replace hXo := (((((hXo.step s16).step s26).step s27).step s28).step s29)
                replace hl := (((((hl.step s16).step s26).step s27).step s28).step s29)
                replace k3 := (k3.evo s29.evo (q3_hO56))
                replace hb := (((((hb.step s16).step s26).step s27).step s28).step s29)
                replace hf := (((((hf.step s16).step s26).step s27).step s28).step s29)
                replace h4 := ((h4.step s28).step s29)
                replace h5 := (((((h5.step s16).step s26).step s27).step s28).step s29)
                replace k7 := (k7.evo s29.evo (q7_hO56))
                replace r8 := (((((r8.step s16).step s26).step s27).step s28).step s29)
                replace r11 := (((((r11.step s16).step s26).step s27).step s28).step s29)
                replace h53 := (((((h53.step s16).step s26).step s27).step s28).step s29)
                replace k10 := (k10.evo s29.evo (q10_hO56))
                have u30 : Sub (b3 :: b7 :: b10 :: X) (blkL a60 ++ (blkL a56 ++ (b54 :: b59 :: b10 :: b3 :: b7 :: X))) := (Sub.of_cons (List.mem_append_right _ (List.mem_append_right _ (List.mem_cons_of_mem _ (List.mem_cons_of_mem _ (List.mem_cons_of_mem _ (List.mem_cons_self)))))) (Sub.of_cons (List.mem_append_right _ (List.mem_append_right _ (List.mem_cons_of_mem _ (List.mem_cons_of_mem _ (List.mem_cons_of_mem _ (List.mem_cons_of_mem _ (List.mem_cons_self))))))) (Sub.of_cons (List.mem_append_right _ (List.mem_append_right _ (List.mem_cons_of_mem _ (List.mem_cons_of_mem _ (List.mem_cons_self))))) (Sub.trans (Sub.trans (Sub.trans (Sub.trans (Sub.trans (Sub.trans (Sub.trans (Sub.refl _) (Sub.cons _ _)) (Sub.cons _ _)) (Sub.cons _ _)) (Sub.cons _ _)) (Sub.cons _ _)) (fun _ h => List.mem_append_right _ h)) (fun _ h => List.mem_append_right _ h)))))
                have r30 := hO60.sl u30 (NotIn.cons q3_hO60 (NotIn.cons q7_hO60 (NotIn.cons q10_hO60 (hO60.notin (fun b hb => Nat.lt_of_lt_of_le (hX0 b hb) zr19)))))
                replace hXo := hXo.less u30
                replace hl := hl.less u30
                replace hb := hb.less u30
                replace hf := hf.less u30
                replace h4 := h4.less u30
                replace h5 := h5.less u30
                replace r8 := r8.less u30
                replace r11 := r11.less u30
                replace h53 := h53.less u30
                refine r_ready [7] (by kernel_rfl) rfl (all_cons ⟨_, _, _, _, _, _, rfl, ?_⟩ all_nil)
                refine  (o_pv (.slice a60 ((B ++ ([(l[i]).s])).length) c60) rfl (by kernel_rfl) ?_)
                refine ⟨fun h => absurd h (by decide), ?_⟩
                refine r_done (by kernel_rfl) ?_
                refine then_normal ?_
                refine meet_ [(4, (.slice a60 ((B ++ ([(l[i]).s])).length) c60))] (by kernel_rfl) ?_
                exact ⟨(b3 :: b7 :: b10 :: X), a60, c60, rfl, (Sub.of_cons (List.mem_cons_self) (Sub.of_cons (List.mem_cons_of_mem _ (List.mem_cons_self)) (Sub.of_cons (List.mem_cons_of_mem _ (List.mem_cons_of_mem _ (List.mem_cons_self))) (Sub.trans (Sub.trans (Sub.trans (Sub.refl _) (Sub.cons _ _)) (Sub.cons _ _)) (Sub.cons _ _))))), E0, hXo, hl, k3, hb, hf, h4, h5, k7, r8, r11, h53, k10, r30⟩
            ·
              rintro lj2 wj2 gj2 ⟨Xj2, aq, cq, rfl, hXj2, E0, hXo, hl, k3, hb, hf, h4, h5, k7, r8, r11, h53, k10, hq4⟩
              refine then_normal ?_
              refine reg_ ?_
              refine sq (o_pv (.slice none 0 0) rfl (by kernel_rfl) ?_)
              refine nil_ ?_
              refine blk_normal ?_
              refine then_normal ?_
              refine meet_ [(4, (.slice aq ((B ++ [(l[i]).s]).length) cq)), (5, (.slice none 0 0))] (by kernel_rfl) ?_
              exact ⟨Xj2, (B ++ [(l[i]).s]), ([]), (pushL B ((l[i]).s)), a53, none, aq, none, c53, 0, cq, 0, rfl, (Sub.of_cons (hXj2 _ (List.mem_cons_self)) (Sub.of_cons (hXj2 _ (List.mem_cons_of_mem _ (List.mem_cons_self))) (Sub.of_cons (hXj2 _ (List.mem_cons_of_mem _ (List.mem_cons_of_mem _ (List.mem_cons_self)))) (Sub.trans (Sub.trans (Sub.trans (Sub.trans (Sub.refl _) (Sub.cons _ _)) (Sub.cons _ _)) (Sub.cons _ _)) hXj2)))), E0, hXo, hl, k3, k7, hb, hf, r8, r11, k10, h53, Sl.nil, hq4, Sl.nil, (by first | (simp [pushL]; done) | (rw [show (B ++ [(l[i]).s]).length - 64 = 0 from by first | omega | (simp <;> omega)]; rfl)), (by first | omega | (simp <;> omega)), (by first | omega | (simp <;> omega))⟩
          ·
            refine seq_ ?_
            refine reg_ ?_
            refine sq (o_pv (.bool (decide (((l[i]).op) = 2))) rfl (by kernel_rfl) ?_)
            refine sq (o_pv (.bool (decide (((l[i]).op) = 2))) rfl (by kernel_rfl) ?_)
            refine nil_ ?_
            refine then_normal ?_
            refine cond_d (((l[i]).op) = 2) (by kernel_rfl) (fun h61 => ?_) (fun h61 => ?_)
            ·
              refine seq_ ?_
              refine reg_ ?_
              refine sq (o_pv (.agg #[(.slice ab B.length cb), (.slice af F.length cf)]) rfl (x_loadN [(.slice ab B.length cb), (.slice af F.length cf)] (by kernel_rfl) Try.isAgg26 Try.sizeOf26 (k3.cells' 0 rfl)) ?_)
              refine sq (o_pv (.pointer (some ⟨b7, 1, none⟩)) rfl (by kernel_rfl) ?_)
              refine sq (o_pv (.string ((l[i]).s)) rfl (x_load1 (by kernel_rfl) Try.isAgg9 (k7.cell' 1 rfl)) ?_)
              rcases nil_or_snoc B with hE | ⟨K, x, hE⟩
              ·
                have hEl : B.length = 0 := by rw [hE]; rfl
                refine sq (o_call 8 #[(.agg #[(.slice ab B.length cb), (.slice af F.length cf)]), (.string ((l[i]).s))] rfl (x_call Try.call8 (by kernel_rfl)) (Undo_w0 (Lb := B) hXo hE) ?_)
                rintro _ w26 ⟨e31, rfl⟩
                have s31 := Step.of0 (b10 :: b3 :: b7 :: X) e31
                refine sq (o_pv (.tuple #[(.agg #[(.slice none 0 0), (.slice none 0 0)]), (.string (ByteArray.mk #[])), (.int .i64 10)]) rfl (by kernel_rfl) ?_)
                refine sq (o_pv (.agg #[(.slice none 0 0), (.slice none 0 0)]) rfl (by kernel_rfl) ?_)
                refine sq (o_pv (.string (ByteArray.mk #[])) rfl (by kernel_rfl) ?_)
                refine sq (o_pv (.int .i64 10) rfl (by kernel_rfl) ?_)
                refine sq (o_new [(.slice none 0 0), (.slice none 0 0)] 26 rfl (by kernel_rfl) ?_)
                replace k3 := (k3.evo0 e31)
                replace k7 := (k7.evo0 e31)
                replace k10 := (k10.evo0 e31)
                rintro b11 w27 hb11 e32 k11
                have n11 : w.heap.size ≤ b11 := Nat.le_trans (Evo.then0 E0 e31).size (Nat.le_of_eq hb11.symm)
                have l3_11 : b3 < b11 := Nat.lt_of_lt_of_eq k3.lt hb11.symm
                have l7_11 : b7 < b11 := Nat.lt_of_lt_of_eq k7.lt hb11.symm
                have l10_11 : b10 < b11 := Nat.lt_of_lt_of_eq k10.lt hb11.symm
                have s32 := Step.fresh (b10 :: b3 :: b7 :: X) e32 b11 (Nat.le_of_eq hb11.symm) k11.lt
                refine sq (o_store (o := 0) (v := (.agg #[(.slice none 0 0), (.slice none 0 0)])) [(.slice none 0 0), (.slice none 0 0)] rfl k11 (by kernel_rfl) (by kernel_rfl) Try.sizeOf26 rfl rfl rfl ?_)
                intro w28 e33 kn33
                have s33 := Step.one e33 (X := b11 :: b10 :: b3 :: b7 :: X) (List.mem_cons_self)
                clear k11; have k11 := kn33
                refine sq (o_pv (.string (ByteArray.mk #[])) rfl (by kernel_rfl) ?_)
                refine sq (o_pv (.int .i64 10) rfl (by kernel_rfl) ?_)
                refine nil_ ?_
                refine then_normal ?_
                refine seq_ ?_
                refine seq_ ?_
                refine reg_ ?_
                refine sq (o_pv (.slice a4 B.length c4) rfl (by kernel_rfl) ?_)
                refine sq (o_pv (.int .i64 ((B.length : Nat) : Int)) rfl (by kernel_rfl) ?_)
                refine sq (o_pv (.bool (decide (((B.length : Nat) : Int) = 0))) rfl (by kernel_rfl) ?_)
                refine nil_ ?_
                refine then_normal ?_
                refine cond_dt (((B.length : Nat) : Int) = 0) (by kernel_rfl) (by omega) ?_
                refine seq_ ?_
                refine seq_ ?_
                refine reg_ ?_
                refine sq (o_pv (.int .i64 10) rfl (by kernel_rfl) ?_)
                refine sq (o_pv (.bool false) rfl (x_ndf (p := (10 : Int) = 10) (by kernel_rfl) (by decide)) ?_)
                refine sq (o_pv (.bool false) rfl (by kernel_rfl) ?_)
                refine sq (o_pv (.string (ByteArray.mk #[])) (by kernel_rfl) (by kernel_rfl) ?_)
                refine sq (o_pv (.bool false) (by kernel_rfl) (x_ndf (p := ((ByteArray.mk #[]) : ByteArray) = (ByteArray.mk #[])) (x_strne (by kernel_rfl) (by kernel_rfl)) (by decide)) ?_)
                refine sq (o_pv (.bool false) rfl (by kernel_rfl) ?_)
                refine nil_ ?_
                refine then_normal ?_
                refine cond_f (by kernel_rfl) ?_
                refine wp_skip ?_
                refine then_normal ?_
                refine wp_exit ?_
                refine then_exit ?_
                refine blk_exit ?_
                refine then_normal ?_
                replace hb := (((hb.step s31).step s32).step s33)
                replace hf := (((hf.step s31).step s32).step s33)
                replace h4 := (((h4.step s31).step s32).step s33)
                replace h5 := (((h5.step s31).step s32).step s33)
                replace E0 := (Evo.then1 (Evo.then0 (Evo.then0 E0 e31) e32) e33 n11)
                replace hXo := (((hXo.step s31).step s32).step s33)
                replace hl := (((hl.step s31).step s32).step s33)
                replace k3 := ((k3.evo0 e32).evo1 e33 (Nat.ne_of_lt l3_11))
                replace k7 := ((k7.evo0 e32).evo1 e33 (Nat.ne_of_lt l7_11))
                replace r8 := (((r8.step s31).step s32).step s33)
                replace r11 := (((r11.step s31).step s32).step s33)
                replace k10 := ((k10.evo0 e32).evo1 e33 (Nat.ne_of_lt l10_11))
                refine meet_ [(4, (.slice a4 B.length c4)), (5, (.slice a5 F.length c5))] (by kernel_rfl) ?_
                exact ⟨(b11 :: b10 :: b3 :: b7 :: X), B, F, B, ab, af, a4, a5, cb, cf, c4, c5, rfl, (Sub.of_cons (List.mem_cons_of_mem _ (List.mem_cons_of_mem _ (List.mem_cons_self))) (Sub.of_cons (List.mem_cons_of_mem _ (List.mem_cons_of_mem _ (List.mem_cons_of_mem _ (List.mem_cons_self)))) (Sub.of_cons (List.mem_cons_of_mem _ (List.mem_cons_self)) (Sub.trans (Sub.trans (Sub.trans (Sub.trans (Sub.refl _) (Sub.cons _ _)) (Sub.cons _ _)) (Sub.cons _ _)) (Sub.cons _ _))))), E0, hXo, hl, k3, k7, hb, hf, r8, r11, k10, hb, hf, h4, h5, (by first | (simp [pushL]; done) | (rw [show B.length - 64 = 0 from by first | omega | (simp <;> omega)]; rfl)), (by first | omega | (simp <;> omega)), (by first | omega | (simp <;> omega))⟩
              ·
                have hEl := snoc_len hE
                refine sq (o_call 8 #[(.agg #[(.slice ab B.length cb), (.slice af F.length cf)]), (.string ((l[i]).s))] rfl (x_call Try.call8 (by kernel_rfl)) (Undo_w (Lb := B) (Lf := F) (K := K) (x := x) (M := F ++ [(l[i]).s]) hXo hE rfl hb hf hz31 (by omega) (by omega)) ?_)
                rintro _ w29 ⟨e34, a1_67, c1_67, a2_67, c2_67, rfl, hb67, hf67⟩
                have s34 := Step.of0 (b10 :: b3 :: b7 :: X) e34
                refine sq (o_pv (.tuple #[(.agg #[(.slice a1_67 K.length c1_67), (.slice a2_67 ((F ++ [(l[i]).s]).length) c2_67)]), (.string x), (.int .i64 0)]) rfl (by kernel_rfl) ?_)
                refine sq (o_pv (.agg #[(.slice a1_67 K.length c1_67), (.slice a2_67 ((F ++ [(l[i]).s]).length) c2_67)]) rfl (by kernel_rfl) ?_)
                refine sq (o_pv (.string x) rfl (by kernel_rfl) ?_)
                refine sq (o_pv (.int .i64 0) rfl (by kernel_rfl) ?_)
                refine sq (o_new [(.slice none 0 0), (.slice none 0 0)] 26 rfl (by kernel_rfl) ?_)
                replace k3 := (k3.evo0 e34)
                replace k7 := (k7.evo0 e34)
                replace k10 := (k10.evo0 e34)
                rintro b11 w30 hb11 e35 k11
                have n11 : w.heap.size ≤ b11 := Nat.le_trans (Evo.then0 E0 e34).size (Nat.le_of_eq hb11.symm)
                have l3_11 : b3 < b11 := Nat.lt_of_lt_of_eq k3.lt hb11.symm
                have l7_11 : b7 < b11 := Nat.lt_of_lt_of_eq k7.lt hb11.symm
                have l10_11 : b10 < b11 := Nat.lt_of_lt_of_eq k10.lt hb11.symm
                have s35 := Step.fresh (b10 :: b3 :: b7 :: X) e35 b11 (Nat.le_of_eq hb11.symm) k11.lt
                refine sq (o_store (o := 0) (v := (.agg #[(.slice a1_67 K.length c1_67), (.slice a2_67 ((F ++ [(l[i]).s]).length) c2_67)])) [(.slice a1_67 K.length c1_67), (.slice a2_67 ((F ++ [(l[i]).s]).length) c2_67)] rfl k11 (by kernel_rfl) (by kernel_rfl) Try.sizeOf26 rfl rfl rfl ?_)
                intro w31 e36 kn36
                have s36 := Step.one e36 (X := b11 :: b10 :: b3 :: b7 :: X) (List.mem_cons_self)
                clear k11; have k11 := kn36
                refine sq (o_pv (.string x) rfl (by kernel_rfl) ?_)
                refine sq (o_pv (.int .i64 0) rfl (by kernel_rfl) ?_)
                refine nil_ ?_
                refine then_normal ?_
                refine seq_ ?_
                refine seq_ ?_
                refine reg_ ?_
                refine sq (o_pv (.slice a4 B.length c4) rfl (by kernel_rfl) ?_)
                refine sq (o_pv (.int .i64 ((B.length : Nat) : Int)) rfl (by kernel_rfl) ?_)
                refine sq (o_pv (.bool (decide (((B.length : Nat) : Int) = 0))) rfl (by kernel_rfl) ?_)
                refine nil_ ?_
                refine then_normal ?_
                refine cond_df (((B.length : Nat) : Int) = 0) (by kernel_rfl) (by omega) ?_
                refine wp_skip ?_
                refine then_normal ?_
                refine seq_ ?_
                refine seq_ ?_
                refine reg_ ?_
                refine sq (o_pv (.int .i64 0) rfl (by kernel_rfl) ?_)
                refine sq (o_pv (.bool false) rfl (x_ndf (p := (0 : Int) = 0) (by kernel_rfl) (by decide)) ?_)
                refine sq (o_pv (.bool false) rfl (by kernel_rfl) ?_)
                refine sq (o_pv (.string x) (by kernel_rfl) (by kernel_rfl) ?_)
                refine sq (o_pv (.slice a4 B.length c4) (by kernel_rfl) (by kernel_rfl) ?_)
                refine sq (o_pv (.slice a4 B.length c4) (by kernel_rfl) (by kernel_rfl) ?_)
                refine sq (o_pv (.int .i64 ((B.length : Nat) : Int)) (by kernel_rfl) (by kernel_rfl) ?_)
                refine sq (o_pv (.int .i64 ((B.length - 1 : Nat) : Int)) (by kernel_rfl) (x_sub (a := ((B.length : Nat) : Int)) (b := 1) ((B.length - 1 : Nat) : Int) (by kernel_rfl) (by kernel_rfl) (by omega) (wrap_i64 (by omega) (by omega))) ?_)
                replace h4 := (((h4.step s34).step s35).step s36)
                have hi88 : B.length - 1 < B.length := by omega
                obtain ⟨b88, o88, cs88, ha88, hnx88, hlt88, hok88, hc88⟩ := h4.at _ hi88
                obtain ⟨rfl, hz88⟩ := hok88
                refine sq (o_pv (.pointer (some ⟨b88, o88 + (B.length - 1) * 1, none⟩)) (by kernel_rfl) (x_indexAddr (m := B.length) (c := c4) (k := .i64) (e := ((B.length - 1 : Nat) : Int)) (i := B.length - 1) Try.underlying24 Try.sizeOf9 (by rw [← ha88]; kernel_rfl) (by kernel_rfl) rfl (by omega)) ?_)
                refine sq (o_pv (.string (B[B.length - 1])) (by kernel_rfl) (x_load1 (by kernel_rfl) Try.isAgg9 hc88.one) ?_)
                refine sq (o_pv (.bool false) (by kernel_rfl) (x_ndf (p := (x : ByteArray) = B[B.length - 1]) (x_strne (by kernel_rfl) (by kernel_rfl)) (snoc_last hE hi88)) ?_)
                refine sq (o_pv (.bool false) rfl (by kernel_rfl) ?_)
                refine nil_ ?_
                refine then_normal ?_
                refine cond_f (by kernel_rfl) ?_
                refine wp_skip ?_
                refine then_normal ?_
                refine seq_ ?_
                refine reg_ ?_
                refine sq (o_pv (.agg #[(.slice a1_67 K.length c1_67), (.slice a2_67 ((F ++ [(l[i]).s]).length) c2_67)]) rfl (x_loadN [(.slice a1_67 K.length c1_67), (.slice a2_67 ((F ++ [(l[i]).s]).length) c2_67)] (by kernel_rfl) Try.isAgg26 Try.sizeOf26 (k11.cells' 0 rfl)) ?_)
                replace k10 := ((k10.evo0 e35).evo1 e36 (Nat.ne_of_lt l10_11))
                refine sq (o_store (o := 0) (v := (.agg #[(.slice a1_67 K.length c1_67), (.slice a2_67 ((F ++ [(l[i]).s]).length) c2_67)])) [(.slice a1_67 K.length c1_67), (.slice a2_67 ((F ++ [(l[i]).s]).length) c2_67)] rfl k10 (by kernel_rfl) (by kernel_rfl) Try.sizeOf26 rfl rfl rfl ?_)
                intro w32 e37 kn37
                have s37 := Step.one e37 (X := b11 :: b10 :: b3 :: b7 :: X) (List.mem_cons_of_mem _ (List.mem_cons_self))
                clear k10; have k10 := kn37
                refine nil_ ?_
                refine then_normal ?_
                refine seq_ ?_
                refine reg_ ?_
                refine sq (o_row [] 9 0 rfl (by kernel_rfl) ?_)
                replace k3 := (((k3.evo0 e35).evo1 e36 (Nat.ne_of_lt l3_11)).evo1 e37 (Nat.ne_of_lt l3_10))
                replace k7 := (((k7.evo0 e35).evo1 e36 (Nat.ne_of_lt l7_11)).evo1 e37 (Nat.ne_of_lt l7_10))
                replace k11 := (k11.evo1 e37 (Nat.ne_of_gt l10_11))
                rintro b93 w33 hb93 e38 k93
                have n93 : w.heap.size ≤ b93 := Nat.le_trans (Evo.then1 (Evo.then1 (Evo.then0 (Evo.then0 E0 e34) e35) e36 n11) e37 n10).size (Nat.le_of_eq hb93.symm)
                have l3_93 : b3 < b93 := Nat.lt_of_lt_of_eq k3.lt hb93.symm
                have l7_93 : b7 < b93 := Nat.lt_of_lt_of_eq k7.lt hb93.symm
                have l11_93 : b11 < b93 := Nat.lt_of_lt_of_eq k11.lt hb93.symm
                have l10_93 : b10 < b93 := Nat.lt_of_lt_of_eq k10.lt hb93.symm
                have s38 := Step.fresh (b11 :: b10 :: b3 :: b7 :: X) e38 b93 (Nat.le_of_eq hb93.symm) k93.lt
                refine sq (o_pv (.slice a4 B.length c4) rfl (by kernel_rfl) ?_)
                refine sq (o_pv (.slice a4 B.length c4) rfl (by kernel_rfl) ?_)
                refine sq (o_pv (.int .i64 ((B.length : Nat) : Int)) rfl (by kernel_rfl) ?_)
                refine sq (o_pv (.int .i64 ((B.length - 1 : Nat) : Int)) rfl (x_sub (a := ((B.length : Nat) : Int)) (b := 1) ((B.length - 1 : Nat) : Int) (by kernel_rfl) (by kernel_rfl) (by omega) (wrap_i64 (by omega) (by omega))) ?_)
                replace h4 := ((h4.step s37).step s38)
                refine sq (o_slice 0 (B.length - 1) K rfl Try.underlying24 Try.sizeOf9 h4 (by kernel_rfl) rfl (.inl ⟨rfl, rfl⟩) (.inr ⟨.i64, by kernel_rfl⟩) (by omega) (by first | omega | simp) (by rw [List.drop_zero]; exact snoc_init hE) ?_)
                intro a98 c98 hs98
                have o99 : Own rStr (b93 :: b11 :: b10 :: b3 :: b7 :: X) w33 (w.heap.size) 9 (some ⟨b93, 0, none⟩) 0 [] := k93.own (List.mem_cons_self) Flat.nil 0 rfl (by decide) n93
                have q3_o99 : b3 ∉ blkL (some ⟨b93, 0, none⟩) := by simp [blkL]; omega
                have q7_o99 : b7 ∉ blkL (some ⟨b93, 0, none⟩) := by simp [blkL]; omega
                have q11_o99 : b11 ∉ blkL (some ⟨b93, 0, none⟩) := by simp [blkL]; omega
                have q10_o99 : b10 ∉ blkL (some ⟨b93, 0, none⟩) := by simp [blkL]; omega
                replace k3 := (k3.evo0 e38)
                replace k7 := (k7.evo0 e38)
                replace k11 := (k11.evo0 e38)
                replace k10 := (k10.evo0 e38)
                refine sq (o_append (R := rStr) rfl elT24 rfl o99 hs98.src (by kernel_rfl) (by kernel_rfl) rfl rfl (by first | omega | (simp <;> omega)) ?_)
                intro a99 c99 w34 X39 s39 hX39 hn39 hO99
                rw [show ([]) ++ K = K from by simp] at hO99 ⊢
                subst hX39
                have hl99 : K.length = 0 + K.length := by simp
                have q3_hO99 : b3 ∉ blkL a99 := fun h => (hn39 _ h).elim q3_o99 (fun e => by have := k3.lt; omega)
                have q7_hO99 : b7 ∉ blkL a99 := fun h => (hn39 _ h).elim q7_o99 (fun e => by have := k7.lt; omega)
                have q11_hO99 : b11 ∉ blkL a99 := fun h => (hn39 _ h).elim q11_o99 (fun e => by have := k11.lt; omega)
                have q10_hO99 : b10 ∉ blkL a99 := fun h => (hn39 _ h).elim q10_o99 (fun e => by have := k10.lt; omega)
                have p39 := o99
                replace E0 := (Evo.thenO (Evo.then0 (Evo.then1 (Evo.then1 (Evo.then0 (Evo.then0 E0 e34) e35) e36 n11) e37 n10) e38) s39.evo p39 (Nat.le_refl _))
                replace hXo := ((((((hXo.step s34).step s35).step s36).step s37).step s38).step s39)
                replace hl := ((((((hl.step s34).step s35).step s36).step s37).step s38).step s39)
                replace k3 := (k3.evo s39.evo (q3_o99))
                replace hb := ((((((hb.step s34).step s35).step s36).step s37).step s38).step s39)
                replace hf := ((((((hf.step s34).step s35).step s36).step s37).step s38).step s39)
                replace h4 := (h4.step s39)
                replace h5 := ((((((h5.step s34).step s35).step s36).step s37).step s38).step s39)
                replace k7 := (k7.evo s39.evo (q7_o99))
                replace r8 := ((((((r8.step s34).step s35).step s36).step s37).step s38).step s39)
                replace r11 := ((((((r11.step s34).step s35).step s36).step s37).step s38).step s39)
                replace hb67 := (((((hb67.step s35).step s36).step s37).step s38).step s39)
                replace hf67 := (((((hf67.step s35).step s36).step s37).step s38).step s39)
                replace k11 := (k11.evo s39.evo (q11_o99))
                replace k10 := (k10.evo s39.evo (q10_o99))
                replace hs98 := (hs98.step s39)
                have u40 : Sub (b3 :: b7 :: b11 :: b10 :: X) (blkL a99 ++ (b93 :: b11 :: b10 :: b3 :: b7 :: X)) := (Sub.of_cons (List.mem_append_right _ (List.mem_cons_of_mem _ (List.mem_cons_of_mem _ (List.mem_cons_of_mem _ (List.mem_cons_self))))) (Sub.of_cons (List.mem_append_right _ (List.mem_cons_of_mem _ (List.mem_cons_of_mem _ (List.mem_cons_of_mem _ (List.mem_cons_of_mem _ (List.mem_cons_self)))))) (Sub.of_cons (List.mem_append_right _ (List.mem_cons_of_mem _ (List.mem_cons_self))) (Sub.of_cons (List.mem_append_right _ (List.mem_cons_of_mem _ (List.mem_cons_of_mem _ (List.mem_cons_self)))) (Sub.trans (Sub.trans (Sub.trans (Sub.trans (Sub.trans (Sub.trans (Sub.refl _) (Sub.cons _ _)) (Sub.cons _ _)) (Sub.cons _ _)) (Sub.cons _ _)) (Sub.cons _ _)) (fun _ h => List.mem_append_right _ h))))))
                have r40 := hO99.sl u40 (NotIn.cons q3_hO99 (NotIn.cons q7_hO99 (NotIn.cons q11_hO99 (NotIn.cons q10_hO99 (hO99.notin hX0)))))
                replace hXo := hXo.less u40
                replace hl := hl.less u40
                replace hb := hb.less u40
                replace hf := hf.less u40
                replace h4 := h4.less u40
                replace h5 := h5.less u40
                replace r8 := r8.less u40
                replace r11 := r11.less u40
                replace hb67 := hb67.less u40
                replace hf67 := hf67.less u40
                replace hs98 := hs98.less u40
                refine sq (o_pv (.slice a99 K.length c99) rfl (by kernel_rfl) ?_)
                refine nil_ ?_
                refine then_normal ?_
                refine join_ 160991626228985133990081307082784 (fun lq wj3 => ∃ Xj3 : List Nat, ∃ aq : Option Addr, ∃ cq : Nat, (lq = [(5, (.slice aq ((F ++ [(l[i]).s]).length) cq))]) ∧ (Sub (b3 :: b7 :: b11 :: b10 :: X) Xj3) ∧ (Evo [] w wj3) ∧ (Old Xj3 wj3) ∧ (Sl rAct Xj3 wj3 a c l) ∧ (Blk wj3 b3 [(.slice ab B.length cb), (.slice af F.length cf)] 26) ∧ (Sl rStr Xj3 wj3 ab cb B) ∧ (Sl rStr Xj3 wj3 af cf F) ∧ (Sl rStr Xj3 wj3 a4 c4 B) ∧ (Sl rStr Xj3 wj3 a5 c5 F) ∧ (Blk wj3 b7 [(.int .i64 ((l[i]).op)), (.string ((l[i]).s))] 28) ∧ (Sl rStr Xj3 wj3 a40 c40 B) ∧ (Sl rStr Xj3 wj3 a44 c44 F) ∧ (Sl rStr Xj3 wj3 a1_67 c1_67 K) ∧ (Sl rStr Xj3 wj3 a2_67 c2_67 (F ++ [(l[i]).s])) ∧ (Blk wj3 b11 [(.slice a1_67 K.length c1_67), (.slice a2_67 ((F ++ [(l[i]).s]).length) c2_67)] 26) ∧ (Blk wj3 b10 [(.slice a1_67 K.length c1_67), (.slice a2_67 ((F ++ [(l[i]).s]).length) c2_67)] 26) ∧ (Sl rStr Xj3 wj3 a98 c98 K) ∧ (Sl rStr Xj3 wj3 a99 c99 K) ∧ (Sl rStr Xj3 wj3 aq cq (F ++ [(l[i]).s]))) ?_ ?_
                ·
                  refine reg_drawn (RB w34.heap.size []) 7 (by kernel_rfl) (fun w35 hd30 => ?_)
                  have e41 := Evo.of_drew hd30
                  have z30 : w35.heap.size = w34.heap.size := by rw [hd30]
                  clear hd30
                  have s41 := Step.of0 (b3 :: b7 :: b11 :: b10 :: X) e41
                  replace E0 := (Evo.then0 E0 e41)
                  have zr30 : w.heap.size ≤ w34.heap.size := by have := E0.size; omega
                  replace k3 := (k3.evo0 e41)
                  have lt30_3 : b3 < w34.heap.size := by have := k3.lt; omega
                  replace k7 := (k7.evo0 e41)
                  have lt30_7 : b7 < w34.heap.size := by have := k7.lt; omega
                  replace k11 := (k11.evo0 e41)
                  have lt30_11 : b11 < w34.heap.size := by have := k11.lt; omega
                  replace k10 := (k10.evo0 e41)
                  have lt30_10 : b10 < w34.heap.size := by have := k10.lt; omega
                  refine r_take 1 (.slice a5 F.length c5) (RB.pre _ _) rfl (by kernel_rfl) (fun _ _ _ h => h) (.inl ⟨rfl, fun wq hq => (by kernel_rfl)⟩) ?_
                  refine r_take 3 (.pointer (some ⟨b7, 1, none⟩)) (RB.pre _ _) rfl (by kernel_rfl) (fun _ _ _ h => h) (.inl ⟨rfl, fun wq hq => (by kernel_rfl)⟩) ?_
                  refine r_take 4 (.string ((l[i]).s)) (RB.pre _ _) rfl (by kernel_rfl) (fun _ _ _ h => h) (.inl ⟨rfl, fun wq hq => (x_load1 (by kernel_rfl) Try.isAgg9 ((k7.rb hq lt30_7 (by simp)).cell' 1 rfl))⟩) ?_
                  refine r_ready [0, 5] (by kernel_rfl) rfl (all_cons ⟨_, _, _, _, _, _, rfl, ?_⟩ (all_cons ⟨_, _, _, _, _, _, rfl, ?_⟩ (all_nil)))
                  ·
                    refine  (o_row [] 9 0 rfl (by kernel_rfl) ?_)
                    rintro b100 w36 hb100 e42 k100
                    have n100 : w.heap.size ≤ b100 := Nat.le_trans E0.size (Nat.le_of_eq hb100.symm)
                    have n100r : w34.heap.size ≤ b100 := by omega
                    have l3_100 : b3 < b100 := Nat.lt_of_lt_of_eq k3.lt hb100.symm
                    have l7_100 : b7 < b100 := Nat.lt_of_lt_of_eq k7.lt hb100.symm
                    have l11_100 : b11 < b100 := Nat.lt_of_lt_of_eq k11.lt hb100.symm
                    have l10_100 : b10 < b100 := Nat.lt_of_lt_of_eq k10.lt hb100.symm
                    have s42 := Step.fresh (b3 :: b7 :: b11 :: b10 :: X) e42 b100 (Nat.le_of_eq hb100.symm) k100.lt
                    refine ⟨fun _ => RB.mono e42 (by have := e42.size; omega) (fun _ h => by cases h), ?_⟩
                    refine r_ready [2, 5] (by kernel_rfl) rfl (all_cons ⟨_, _, _, _, _, _, rfl, ?_⟩ (all_cons ⟨_, _, _, _, _, _, rfl, ?_⟩ (all_nil)))
                    ·
                      have o102 : Own rStr (b100 :: b3 :: b7 :: b11 :: b10 :: X) w36 (w34.heap.size) 9 (some ⟨b100, 0, none⟩) 0 [] := k100.own (List.mem_cons_self) Flat.nil 0 rfl (by decide) n100r
                      have q3_o102 : b3 ∉ blkL (some ⟨b100, 0, none⟩) := by simp [blkL]; omega
                      have q7_o102 : b7 ∉ blkL (some ⟨b100, 0, none⟩) := by simp [blkL]; omega
                      have q11_o102 : b11 ∉ blkL (some ⟨b100, 0, none⟩) := by simp [blkL]; omega
                      have q10_o102 : b10 ∉ blkL (some ⟨b100, 0, none⟩) := by simp [blkL]; omega
                      replace h5 := ((h5.step s41).step s42)
                      replace k3 := (k3.evo0 e42)
                      replace k7 := (k7.evo0 e42)
                      replace k11 := (k11.evo0 e42)
                      replace k10 := (k10.evo0 e42)
                      refine  (o_append (R := rStr) rfl elT24 rfl o102 h5.src (by kernel_rfl) (by kernel_rfl) rfl rfl (by first | omega | (simp <;> omega)) ?_)
                      intro a102 c102 w37 X43 s43 hX43 hn43 hO102
                      rw [show ([]) ++ F = F from by simp] at hO102 ⊢
                      subst hX43
                      have hl102 : F.length = 0 + F.length := by simp
                      have q3_hO102 : b3 ∉ blkL a102 := fun h => (hn43 _ h).elim q3_o102 (fun e => by have := k3.lt; omega)
                      have q7_hO102 : b7 ∉ blkL a102 := fun h => (hn43 _ h).elim q7_o102 (fun e => by have := k7.lt; omega)
                      have q11_hO102 : b11 ∉ blkL a102 := fun h => (hn43 _ h).elim q11_o102 (fun e => by have := k11.lt; omega)
                      have q10_hO102 : b10 ∉ blkL a102 := fun h => (hn43 _ h).elim q10_o102 (fun e => by have := k10.lt; omega)
                      have p43 := o102
                      refine ⟨fun _ => RB.mono s43.evo (by have := e42.size; have := s43.evo.size; omega) (fun x hx => .inr (p43.lt x hx).1), ?_⟩
                      refine r_ready [5] (by kernel_rfl) rfl (all_cons ⟨_, _, _, _, _, _, rfl, ?_⟩ all_nil)
                      refine  (o_row [(.string ((l[i]).s))] 9 1 rfl (by kernel_rfl) ?_)
                      replace k3 := (k3.evo s43.evo (q3_o102))
                      replace k7 := (k7.evo s43.evo (q7_o102))
                      replace k11 := (k11.evo s43.evo (q11_o102))
                      replace k10 := (k10.evo s43.evo (q10_o102))
                      rintro b105 w38 hb105 e44 k105
                      have n105 : w.heap.size ≤ b105 := Nat.le_trans (Evo.thenO (Evo.then0 E0 e42) s43.evo p43 zr30).size (Nat.le_of_eq hb105.symm)
                      have n105r : w34.heap.size ≤ b105 := by have := e42.size; have := s43.evo.size; omega
                      have l3_105 : b3 < b105 := Nat.lt_of_lt_of_eq k3.lt hb105.symm
                      have l7_105 : b7 < b105 := Nat.lt_of_lt_of_eq k7.lt hb105.symm
                      have l11_105 : b11 < b105 := Nat.lt_of_lt_of_eq k11.lt hb105.symm
                      have l10_105 : b10 < b105 := Nat.lt_of_lt_of_eq k10.lt hb105.symm
                      have q105_hO102 : b105 ∉ blkL a102 := fun h => by have := (hO102.lt _ h).2; omega
                      have s44 := Step.fresh (blkL a102 ++ (b100 :: b3 :: b7 :: b11 :: b10 :: X)) e44 b105 (Nat.le_of_eq hb105.symm) k105.lt
                      refine ⟨fun _ => RB.mono e44 (by have := e42.size; have := s43.evo.size; have := e44.size; omega) (fun _ h => by cases h), ?_⟩
                      refine r_ready [6] (by kernel_rfl) rfl (all_cons ⟨_, _, _, _, _, _, rfl, ?_⟩ all_nil)
                      replace hO102 := (hO102.step s44 (fun _ _ => by simp))
                      replace k3 := (k3.evo0 e44)
                      replace k7 := (k7.evo0 e44)
                      replace k11 := (k11.evo0 e44)
                      replace k10 := (k10.evo0 e44)
                      refine  (o_append (R := rStr) rfl elT24 rfl hO102 (k105.src (c := 1) (Flat.cons1 ⟨rfl, hz31⟩ Flat.nil)) (by kernel_rfl) (by kernel_rfl) rfl rfl (by first | omega | (simp <;> omega)) ?_)
                      intro a106 c106 w39 X45 s45 hX45 hn45 hO106
                      subst hX45
                      have hl106 : (F ++ ([(l[i]).s])).length = F.length + 1 := by simp
                      have q3_hO106 : b3 ∉ blkL a106 := fun h => (hn45 _ h).elim q3_hO102 (fun e => by have := k3.lt; omega)
                      have q7_hO106 : b7 ∉ blkL a106 := fun h => (hn45 _ h).elim q7_hO102 (fun e => by have := k7.lt; omega)
                      have q11_hO106 : b11 ∉ blkL a106 := fun h => (hn45 _ h).elim q11_hO102 (fun e => by have := k11.lt; omega)
                      have q10_hO106 : b10 ∉ blkL a106 := fun h => (hn45 _ h).elim q10_hO102 (fun e => by have := k10.lt; omega)
                      have p45 := hO102
                      refine ⟨fun _ => RB.mono s45.evo (by have := e42.size; have := s43.evo.size; have := e44.size; have := s45.evo.size; omega) (fun x hx => .inr (p45.lt x hx).1), ?_⟩
                      replace E0 := (Evo.thenO (Evo.then0 (Evo.thenO (Evo.then0 E0 e42) s43.evo p43 zr30) e44) s45.evo p45 zr30)
                      replace hXo := (((((hXo.step s41).step s42).step s43).step s44).step s45)
                      replace hl := (((((hl.step s41).step s42).step s43).step s44).step s45)
                      replace k3 := (k3.evo s45.evo (q3_hO102))
                      replace hb := (((((hb.step s41).step s42).step s43).step s44).step s45)
                      replace hf := (((((hf.step s41).step s42).step s43).step s44).step s45)
                      replace h4 := (((((h4.step s41).step s42).step s43).step s44).step s45)
                      replace h5 := (((h5.step s43).step s44).step s45)
                      replace k7 := (k7.evo s45.evo (q7_hO102))
                      replace r8 := (((((r8.step s41).step s42).step s43).step s44).step s45)
                      replace r11 := (((((r11.step s41).step s42).step s43).step s44).step s45)
                      replace hb67 := (((((hb67.step s41).step s42).step s43).step s44).step s45)
                      replace hf67 := (((((hf67.step s41).step s42).step s43).step s44).step s45)
                      replace k11 := (k11.evo s45.evo (q11_hO102))
                      replace k10 := (k10.evo s45.evo (q10_hO102))
                      replace hs98 := (((((hs98.step s41).step s42).step s43).step s44).step s45)
                      replace r40 := (((((r40.step s41).step s42).step s43).step s44).step s45)
                      have u46 : Sub (b3 :: b7 :: b11 :: b10 :: X) (blkL a106 ++ (b105 :: blkL a102 ++ (b100 :: b3 :: b7 :: b11 :: b10 :: X))) := (Sub.of_cons (List.mem_append_right _ (List.mem_cons_of_mem _ (List.mem_append_right _ (List.mem_cons_of_mem _ (List.mem_cons_self))))) (Sub.of_cons (List.mem_append_right _ (List.mem_cons_of_mem _ (List.mem_append_right _ (List.mem_cons_of_mem _ (List.mem_cons_of_mem _ (List.mem_cons_self)))))) (Sub.of_cons (List.mem_append_right _ (List.mem_cons_of_mem _ (List.mem_append_right _ (List.mem_cons_of_mem _ (List.mem_cons_of_mem _ (List.mem_cons_of_mem _ (List.mem_cons_self))))))) (Sub.of_cons (List.mem_append_right _ (List.mem_cons_of_mem _ (List.mem_append_right _ (List.mem_cons_of_mem _ (List.mem_cons_of_mem _ (List.mem_cons_of_mem _ (List.mem_cons_of_mem _ (List.mem_cons_self)))))))) (Sub.trans (Sub.trans (Sub.trans (Sub.trans (Sub.trans (Sub.trans (Sub.trans (Sub.trans (Sub.refl _) (Sub.cons _ _)) (Sub.cons _ _)) (Sub.cons _ _)) (Sub.cons _ _)) (Sub.cons _ _)) (fun _ h => List.mem_append_right _ h)) (Sub.cons _ _)) (fun _ h => List.mem_append_right _ h))))))
                      have r46 := hO106.sl u46 (NotIn.cons q3_hO106 (NotIn.cons q7_hO106 (NotIn.cons q11_hO106 (NotIn.cons q10_hO106 (hO106.notin (fun b hb => Nat.lt_of_lt_of_le (hX0 b hb) zr30))))))
                      replace hXo := hXo.less u46
                      replace hl := hl.less u46
                      replace hb := hb.less u46
                      replace hf := hf.less u46
                      replace h4 := h4.less u46
                      replace h5 := h5.less u46
                      replace r8 := r8.less u46
                      replace r11 := r11.less u46
                      replace hb67 := hb67.less u46
                      replace hf67 := hf67.less u46
                      replace hs98 := hs98.less u46
                      replace r40 := r40.less u46
                      refine r_ready [7] (by kernel_rfl) rfl (all_cons ⟨_, _, _, _, _, _, rfl, ?_⟩ all_nil)
                      refine  (o_pv (.slice a106 ((F ++ ([(l[i]).s])).length) c106) rfl (by kernel_rfl) ?_)
                      refine ⟨fun h => absurd h (by decide), ?_⟩
                      refine r_done (by kernel_rfl) ?_
                      refine then_normal ?_
                      refine meet_ [(5, (.slice a106 ((F ++ ([(l[i]).s])).length) c106))] (by kernel_rfl) ?_
                      exact ⟨(b3 :: b7 :: b11 :: b10 :: X), a106, c106, rfl, (Sub.of_cons (List.mem_cons_self) (Sub.of_cons (List.mem_cons_of_mem _ (List.mem_cons_self)) (Sub.of_cons (List.mem_cons_of_mem _ (List.mem_cons_of_mem _ (List.mem_cons_self))) (Sub.of_cons (List.mem_cons_of_mem _ (List.mem_cons_of_mem _ (List.mem_cons_of_mem _ (List.mem_cons_self)))) (Sub.trans (Sub.trans (Sub.trans (Sub.trans (Sub.refl _) (Sub.cons _ _)) (Sub.cons _ _)) (Sub.cons _ _)) (Sub.cons _ _)))))), E0, hXo, hl, k3, hb, hf, h4, h5, k7, r8, r11, hb67, hf67, k11, k10, hs98, r40, r46⟩
                    ·
                      refine  (o_row [(.string ((l[i]).s))] 9 1 rfl (by kernel_rfl) ?_)
                      replace k3 := (k3.evo0 e42)
                      replace k7 := (k7.evo0 e42)
                      replace k11 := (k11.evo0 e42)
                      replace k10 := (k10.evo0 e42)
                      rintro b105 w40 hb105 e47 k105
                      have n105 : w.heap.size ≤ b105 := Nat.le_trans (Evo.then0 E0 e42).size (Nat.le_of_eq hb105.symm)
                      have n105r : w34.heap.size ≤ b105 := by have := e42.size; omega
                      have l3_105 : b3 < b105 := Nat.lt_of_lt_of_eq k3.lt hb105.symm
                      have l7_105 : b7 < b105 := Nat.lt_of_lt_of_eq k7.lt hb105.symm
                      have l11_105 : b11 < b105 := Nat.lt_of_lt_of_eq k11.lt hb105.symm
                      have l10_105 : b10 < b105 := Nat.lt_of_lt_of_eq k10.lt hb105.symm
                      have l100_105 : b100 < b105 := Nat.lt_of_lt_of_eq k100.lt hb105.symm
                      have s47 := Step.fresh (b100 :: b3 :: b7 :: b11 :: b10 :: X) e47 b105 (Nat.le_of_eq hb105.symm) k105.lt
                      refine ⟨fun _ => RB.mono e47 (by have := e42.size; have := e47.size; omega) (fun _ h => by cases h), ?_⟩
                      refine r_ready [2] (by kernel_rfl) rfl (all_cons ⟨_, _, _, _, _, _, rfl, ?_⟩ all_nil)
                      replace k100 := (k100.evo0 e47)
                      have o102 : Own rStr (b105 :: b100 :: b3 :: b7 :: b11 :: b10 :: X) w40 (w34.heap.size) 9 (some ⟨b100, 0, none⟩) 0 [] := k100.own (List.mem_cons_of_mem _ (List.mem_cons_self)) Flat.nil 0 rfl (by decide) n100r
                      have q3_o102 : b3 ∉ blkL (some ⟨b100, 0, none⟩) := by simp [blkL]; omega
                      have q7_o102 : b7 ∉ blkL (some ⟨b100, 0, none⟩) := by simp [blkL]; omega
                      have q11_o102 : b11 ∉ blkL (some ⟨b100, 0, none⟩) := by simp [blkL]; omega
                      have q10_o102 : b10 ∉ blkL (some ⟨b100, 0, none⟩) := by simp [blkL]; omega
                      have q105_o102 : b105 ∉ blkL (some ⟨b100, 0, none⟩) := by simp [blkL]; omega
                      replace h5 := (((h5.step s41).step s42).step s47)
                      replace k3 := (k3.evo0 e47)
                      replace k7 := (k7.evo0 e47)
                      replace k11 := (k11.evo0 e47)
                      replace k10 := (k10.evo0 e47)
                      refine  (o_append (R := rStr) rfl elT24 rfl o102 h5.src (by kernel_rfl) (by kernel_rfl) rfl rfl (by first | omega | (simp <;> omega)) ?_)
                      intro a102 c102 w41 X48 s48 hX48 hn48 hO102
                      rw [show ([]) ++ F = F from by simp] at hO102 ⊢
                      subst hX48
                      have hl102 : F.length = 0 + F.length := by simp
                      have q3_hO102 : b3 ∉ blkL a102 := fun h => (hn48 _ h).elim q3_o102 (fun e => by have := k3.lt; omega)
                      have q7_hO102 : b7 ∉ blkL a102 := fun h => (hn48 _ h).elim q7_o102 (fun e => by have := k7.lt; omega)
                      have q11_hO102 : b11 ∉ blkL a102 := fun h => (hn48 _ h).elim q11_o102 (fun e => by have := k11.lt; omega)
                      have q10_hO102 : b10 ∉ blkL a102 := fun h => (hn48 _ h).elim q10_o102 (fun e => by have := k10.lt; omega)
                      have q105_hO102 : b105 ∉ blkL a102 := fun h => (hn48 _ h).elim q105_o102 (fun e => by have := k105.lt; omega)
                      have p48 := o102
                      refine ⟨fun _ => RB.mono s48.evo (by have := e42.size; have := e47.size; have := s48.evo.size; omega) (fun x hx => .inr (p48.lt x hx).1), ?_⟩
                      refine r_ready [6] (by kernel_rfl) rfl (all_cons ⟨_, _, _, _, _, _, rfl, ?_⟩ all_nil)
                      replace k105 := (k105.evo s48.evo (q105_o102))
                      replace k3 := (k3.evo s48.evo (q3_o102))
                      replace k7 := (k7.evo s48.evo (q7_o102))
                      replace k11 := (k11.evo s48.evo (q11_o102))
                      replace k10 := (k10.evo s48.evo (q10_o102))
                      refine  (o_append (R := rStr) rfl elT24 rfl hO102 (k105.src (c := 1) (Flat.cons1 ⟨rfl, hz31⟩ Flat.nil)) (by kernel_rfl) (by kernel_rfl) rfl rfl (by first | omega | (simp <;> omega)) ?_)
                      intro a106 c106 w42 X49 s49 hX49 hn49 hO106
                      subst hX49
                      have hl106 : (F ++ ([(l[i]).s])).length = F.length + 1 := by simp
                      have q3_hO106 : b3 ∉ blkL a106 := fun h => (hn49 _ h).elim q3_hO102 (fun e => by have := k3.lt; omega)
                      have q7_hO106 : b7 ∉ blkL a106 := fun h => (hn49 _ h).elim q7_hO102 (fun e => by have := k7.lt; omega)
                      have q11_hO106 : b11 ∉ blkL a106 := fun h => (hn49 _ h).elim q11_hO102 (fun e => by have := k11.lt; omega)
                      have q10_hO106 : b10 ∉ blkL a106 := fun h => (hn49 _ h).elim q10_hO102 (fun e => by have := k10.lt; omega)
                      have p49 := hO102
                      refine ⟨fun _ => RB.mono s49.evo (by have := e42.size; have := e47.size; have := s48.evo.size; have := s49.evo.size; omega) (fun x hx => .inr (p49.lt x hx).1), ?_⟩
                      replace E0 := (Evo.thenO (Evo.thenO (Evo.then0 (Evo.then0 E0 e42) e47) s48.evo p48 zr30) s49.evo p49 zr30)
                      replace hXo := (((((hXo.step s41).step s42).step s47).step s48).step s49)
                      replace hl := (((((hl.step s41).step s42).step s47).step s48).step s49)
                      replace k3 := (k3.evo s49.evo (q3_hO102))
                      replace hb := (((((hb.step s41).step s42).step s47).step s48).step s49)
                      replace hf := (((((hf.step s41).step s42).step s47).step s48).step s49)
                      replace h4 := (((((h4.step s41).step s42).step s47).step s48).step s49)
                      replace h5 := ((h5.step s48).step s49)
                      replace k7 := (k7.evo s49.evo (q7_hO102))
                      replace r8 := (((((r8.step s41).step s42).step s47).step s48).step s49)
                      replace r11 := (((((r11.step s41).step s42).step s47).step s48).step s49)
                      replace hb67 := (((((hb67.step s41).step s42).step s47).step s48).step s49)
                      replace hf67 := (((((hf67.step s41).step s42).step s47).step s48).step s49)
                      replace k11 := (k11.evo s49.evo (q11_hO102))
                      replace k10 := (k10.evo s49.evo (q10_hO102))
                      replace hs98 := (((((hs98.step s41).step s42).step s47).step s48).step s49)
                      replace r40 := (((((r40.step s41).step s42).step s47).step s48).step s49)
                      have u50 : Sub (b3 :: b7 :: b11 :: b10 :: X) (blkL a106 ++ (blkL a102 ++ (b105 :: b100 :: b3 :: b7 :: b11 :: b10 :: X))) := (Sub.of_cons (List.mem_append_right _ (List.mem_append_right _ (List.mem_cons_of_mem _ (List.mem_cons_of_mem _ (List.mem_cons_self))))) (Sub.of_cons (List.mem_append_right _ (List.mem_append_right _ (List.mem_cons_of_mem _ (List.mem_cons_of_mem _ (List.mem_cons_of_mem _ (List.mem_cons_self)))))) (Sub.of_cons (List.mem_append_right _ (List.mem_append_right _ (List.mem_cons_of_mem _ (List.mem_cons_of_mem _ (List.mem_cons_of_mem _ (List.mem_cons_of_mem _ (List.mem_cons_self))))))) (Sub.of_cons (List.mem_append_right _ (List.mem_append_right _ (List.mem_cons_of_mem _ (List.mem_cons_of_mem _ (List.mem_cons_of_mem _ (List.mem_cons_of_mem _ (List.mem_cons_of_mem _ (List.mem_cons_self)))))))) (Sub.trans (Sub.trans (Sub.trans (Sub.trans (Sub.trans (Sub.trans (Sub.trans (Sub.trans (Sub.refl _) (Sub.cons _ _)) (Sub.cons _ _)) (Sub.cons _ _)) (Sub.cons _ _)) (Sub.cons _ _)) (Sub.cons _ _)) (fun _ h => List.mem_append_right _ h)) (fun _ h => List.mem_append_right _ h))))))
                      have r50 := hO106.sl u50 (NotIn.cons q3_hO106 (NotIn.cons q7_hO106 (NotIn.cons q11_hO106 (NotIn.cons q10_hO106 (hO106.notin (fun b hb => Nat.lt_of_lt_of_le (hX0 b hb) zr30))))))
                      replace hXo := hXo.less u50
                      replace hl := hl.less u50
                      replace hb := hb.less u50
                      replace hf := hf.less u50
                      replace h4 := h4.less u50
                      replace h5 := h5.less u50
                      replace r8 := r8.less u50
                      replace r11 := r11.less u50
                      replace hb67 := hb67.less u50
                      replace hf67 := hf67.less u50
                      replace hs98 := hs98.less u50
                      replace r40 := r40.less u50
                      refine r_ready [7] (by kernel_rfl) rfl (all_cons ⟨_, _, _, _, _, _, rfl, ?_⟩ all_nil)
                      refine  (o_pv (.slice a106 ((F ++ ([(l[i]).s])).length) c106) rfl (by kernel_rfl) ?_)
                      refine ⟨fun h => absurd h (by decide), ?_⟩
                      refine r_done (by kernel_rfl) ?_
                      refine then_normal ?_
                      refine meet_ [(5, (.slice a106 ((F ++ ([(l[i]).s])).length) c106))] (by kernel_rfl) ?_
                      exact ⟨(b3 :: b7 :: b11 :: b10 :: X), a106, c106, rfl, (Sub.of_cons (List.mem_cons_self) (Sub.of_cons (List.mem_cons_of_mem _ (List.mem_cons_self)) (Sub.of_cons (List.mem_cons_of_mem _ (List.mem_cons_of_mem _ (List.mem_cons_self))) (Sub.of_cons (List.mem_cons_of_mem _ (List.mem_cons_of_mem _ (List.mem_cons_of_mem _ (List.mem_cons_self)))) (Sub.trans (Sub.trans (Sub.trans (Sub.trans (Sub.refl _) (Sub.cons _ _)) (Sub.cons _ _)) (Sub.cons _ _)) (Sub.cons _ _)))))), E0, hXo, hl, k3, hb, hf, h4, h5, k7, r8, r11, hb67, hf67, k11, k10, hs98, r40, r50⟩
                  ·
                    refine  (o_row [(.string ((l[i]).s))] 9 1 rfl (by kernel_rfl) ?_)
                    rintro b105 w43 hb105 e51 k105
                    have n105 : w.heap.size ≤ b105 := Nat.le_trans E0.size (Nat.le_of_eq hb105.symm)
                    have n105r : w34.heap.size ≤ b105 := by omega
                    have l3_105 : b3 < b105 := Nat.lt_of_lt_of_eq k3.lt hb105.symm
                    have l7_105 : b7 < b105 := Nat.lt_of_lt_of_eq k7.lt hb105.symm
                    have l11_105 : b11 < b105 := Nat.lt_of_lt_of_eq k11.lt hb105.symm
                    have l10_105 : b10 < b105 := Nat.lt_of_lt_of_eq k10.lt hb105.symm
                    have s51 := Step.fresh (b3 :: b7 :: b11 :: b10 :: X) e51 b105 (Nat.le_of_eq hb105.symm) k105.lt
                    refine ⟨fun _ => RB.mono e51 (by have := e51.size; omega) (fun _ h => by cases h), ?_⟩
                    refine r_ready [0] (by kernel_rfl) rfl (all_cons ⟨_, _, _, _, _, _, rfl, ?_⟩ all_nil)
                    refine  (o_row [] 9 0 rfl (by kernel_rfl) ?_)
                    replace k3 := (k3.evo0 e51)
                    replace k7 := (k7.evo0 e51)
                    replace k11 := (k11.evo0 e51)
                    replace k10 := (k10.evo0 e51)
                    rintro b100 w44 hb100 e52 k100
                    have n100 : w.heap.size ≤ b100 := Nat.le_trans (Evo.then0 E0 e51).size (Nat.le_of_eq hb100.symm)
                    have n100r : w34.heap.size ≤ b100 := by have := e51.size; omega
                    have l3_100 : b3 < b100 := Nat.lt_of_lt_of_eq k3.lt hb100.symm
                    have l7_100 : b7 < b100 := Nat.lt_of_lt_of_eq k7.lt hb100.symm
                    have l11_100 : b11 < b100 := Nat.lt_of_lt_of_eq k11.lt hb100.symm
                    have l10_100 : b10 < b100 := Nat.lt_of_lt_of_eq k10.lt hb100.symm
                    have l105_100 : b105 < b100 := Nat.lt_of_lt_of_eq k105.lt hb100.symm
                    have s52 := Step.fresh (b105 :: b3 :: b7 :: b11 :: b10 :: X) e52 b100 (Nat.le_of_eq hb100.symm) k100.lt
                    refine ⟨fun _ => RB.mono e52 (by have := e51.size; have := e52.size; omega) (fun _ h => by cases h), ?_⟩
                    refine r_ready [2] (by kernel_rfl) rfl (all_cons ⟨_, _, _, _, _, _, rfl, ?_⟩ all_nil)
                    have o102 : Own rStr (b100 :: b105 :: b3 :: b7 :: b11 :: b10 :: X) w44 (w34.heap.size) 9 (some ⟨b100, 0, none⟩) 0 [] := k100.own (List.mem_cons_self) Flat.nil 0 rfl (by decide) n100r
                    have q3_o102 : b3 ∉ blkL (some ⟨b100, 0, none⟩) := by simp [blkL]; omega
                    have q7_o102 : b7 ∉ blkL (some ⟨b100, 0, none⟩) := by simp [blkL]; omega
                    have q11_o102 : b11 ∉ blkL (some ⟨b100, 0, none⟩) := by simp [blkL]; omega
                    have q10_o102 : b10 ∉ blkL (some ⟨b100, 0, none⟩) := by simp [blkL]; omega
                    have q105_o102 : b105 ∉ blkL (some ⟨b100, 0, none⟩) := by simp [blkL]; omega
                    replace h5 := (((h5.step s41).step s51).step s52)
                    replace k3 := (k3.evo0 e52)
                    replace k7 := (k7.evo0 e52)
                    replace k11 := (k11.evo0 e52)
                    replace k10 := (k10.evo0 e52)
                    replace k105 := (k105.evo0 e52)
                    refine  (o_append (R := rStr) rfl elT24 rfl o102 h5.src (by kernel_rfl) (by kernel_rfl) rfl rfl (by first | omega | (simp <;> omega)) ?_)
                    intro a102 c102 w45 X53 s53 hX53 hn53 hO102
                    rw [show ([]) ++ F = F from by simp] at hO102 ⊢
                    subst hX53
                    have hl102 : F.length = 0 + F.length := by simp
                    have q3_hO102 : b3 ∉ blkL a102 := fun h => (hn53 _ h).elim q3_o102 (fun e => by have := k3.lt; omega)
                    have q7_hO102 : b7 ∉ blkL a102 := fun h => (hn53 _ h).elim q7_o102 (fun e => by have := k7.lt; omega)
                    have q11_hO102 : b11 ∉ blkL a102 := fun h => (hn53 _ h).elim q11_o102 (fun e => by have := k11.lt; omega)
                    have q10_hO102 : b10 ∉ blkL a102 := fun h => (hn53 _ h).elim q10_o102 (fun e => by have := k10.lt; omega)
                    have q105_hO102 : b105 ∉ blkL a102 := fun h => (hn53 _ h).elim q105_o102 (fun e => by have := k105.lt; omega)
                    have p53 := o102
                    refine ⟨fun _ => RB.mono s53.evo (by have := e51.size; have := e52.size; have := s53.evo.size; omega) (fun x hx => .inr (p53.lt x hx).1), ?_⟩
                    refine r_ready [6] (by kernel_rfl) rfl (all_cons ⟨_, _, _, _, _, _, rfl, ?_⟩ all_nil)
                    replace k105 := (k105.evo s53.evo (q105_o102))
                    replace k3 := (k3.evo s53.evo (q3_o102))
                    replace k7 := (k7.evo s53.evo (q7_o102))
                    replace k11 := (k11.evo s53.evo (q11_o102))
                    replace k10 := (k10.evo s53.evo (q10_o102))
                    refine  (o_append (R := rStr) rfl elT24 rfl hO102 (k105.src (c := 1) (Flat.cons1 ⟨rfl, hz31⟩ Flat.nil)) (by kernel_rfl) (by kernel_rfl) rfl rfl (by first | omega | (simp <;> omega)) ?_)
                    intro a106 c106 w46 X54 s54 hX54 hn54 hO106
                    subst hX54
                    have hl106 : (F ++ ([(l[i]).s])).length = F.length + 1 := by simp
                    have q3_hO106 : b3 ∉ blkL a106 := fun h => (hn54 _ h).elim q3_hO102 (fun e => by have := k3.lt; omega)
                    have q7_hO106 : b7 ∉ blkL a106 := fun h => (hn54 _ h).elim q7_hO102 (fun e => by have := k7.lt; omega)
                    have q11_hO106 : b11 ∉ blkL a106 := fun h => (hn54 _ h).elim q11_hO102 (fun e => by have := k11.lt; omega)
                    have q10_hO106 : b10 ∉ blkL a106 := fun h => (hn54 _ h).elim q10_hO102 (fun e => by have := k10.lt; omega)
                    have p54 := hO102
                    refine ⟨fun _ => RB.mono s54.evo (by have := e51.size; have := e52.size; have := s53.evo.size; have := s54.evo.size; omega) (fun x hx => .inr (p54.lt x hx).1), ?_⟩
                    replace E0 := (Evo.thenO (Evo.thenO (Evo.then0 (Evo.then0 E0 e51) e52) s53.evo p53 zr30) s54.evo p54 zr30)
                    replace hXo := (((((hXo.step s41).step s51).step s52).step s53).step s54)
                    replace hl := (((((hl.step s41).step s51).step s52).step s53).step s54)
                    replace k3 := (k3.evo s54.evo (q3_hO102))
                    replace hb := (((((hb.step s41).step s51).step s52).step s53).step s54)
                    replace hf := (((((hf.step s41).step s51).step s52).step s53).step s54)
                    replace h4 := (((((h4.step s41).step s51).step s52).step s53).step s54)
                    replace h5 := ((h5.step s53).step s54)
                    replace k7 := (k7.evo s54.evo (q7_hO102))
                    replace r8 := (((((r8.step s41).step s51).step s52).step s53).step s54)
                    replace r11 := (((((r11.step s41).step s51).step s52).step s53).step s54)
                    replace hb67 := (((((hb67.step s41).step s51).step s52).step s53).step s54)
                    replace hf67 := (((((hf67.step s41).step s51).step s52).step s53).step s54)
                    replace k11 := (k11.evo s54.evo (q11_hO102))
                    replace k10 := (k10.evo s54.evo (q10_hO102))
                    replace hs98 := (((((hs98.step s41).step s51).step s52).step s53).step s54)
                    replace r40 := (((((r40.step s41).step s51).step s52).step s53).step s54)
                    have u55 : Sub (b3 :: b7 :: b11 :: b10 :: X) (blkL a106 ++ (blkL a102 ++ (b100 :: b105 :: b3 :: b7 :: b11 :: b10 :: X))) := (Sub.of_cons (List.mem_append_right _ (List.mem_append_right _ (List.mem_cons_of_mem _ (List.mem_cons_of_mem _ (List.mem_cons_self))))) (Sub.of_cons (List.mem_append_right _ (List.mem_append_right _ (List.mem_cons_of_mem _ (List.mem_cons_of_mem _ (List.mem_cons_of_mem _ (List.mem_cons_self)))))) (Sub.of_cons (List.mem_append_right _ (List.mem_append_right _ (List.mem_cons_of_mem _ (List.mem_cons_of_mem _ (List.mem_cons_of_mem _ (List.mem_cons_of_mem _ (List.mem_cons_self))))))) (Sub.of_cons (List.mem_append_right _ (List.mem_append_right _ (List.mem_cons_of_mem _ (List.mem_cons_of_mem _ (List.mem_cons_of_mem _ (List.mem_cons_of_mem _ (List.mem_cons_of_mem _ (List.mem_cons_self)))))))) (Sub.trans (Sub.trans (Sub.trans (Sub.trans (Sub.trans (Sub.trans (Sub.trans (Sub.trans (Sub.refl _) (Sub.cons _ _)) (Sub.cons _ _)) (Sub.cons _ _)) (Sub.cons _ _)) (Sub.cons _ _)) (Sub.cons _ _)) (fun _ h => List.mem_append_right _ h)) (fun _ h => List.mem_append_right _ h))))))
                    have r55 := hO106.sl u55 (NotIn.cons q3_hO106 (NotIn.cons q7_hO106 (NotIn.cons q11_hO106 (NotIn.cons q10_hO106 (hO106.notin (fun b hb => Nat.lt_of_lt_of_le (hX0 b hb) zr30))))))
                    replace hXo := hXo.less u55
                    replace hl := hl.less u55
                    replace hb := hb.less u55
                    replace hf := hf.less u55
                    replace h4 := h4.less u55
                    replace h5 := h5.less u55
                    replace r8 := r8.less u55
                    replace r11 := r11.less u55
                    replace hb67 := hb67.less u55
                    replace hf67 := hf67.less u55
                    replace hs98 := hs98.less u55
                    replace r40 := r40.less u55
                    refine r_ready [7] (by kernel_rfl) rfl (all_cons ⟨_, _, _, _, _, _, rfl, ?_⟩ all_nil)
                    refine  (o_pv (.slice a106 ((F ++ ([(l[i]).s])).length) c106) rfl (by kernel_rfl) ?_)
                    refine ⟨fun h => absurd h (by decide), ?_⟩
                    refine r_done (by kernel_rfl) ?_
                    refine then_normal ?_
                    refine meet_ [(5, (.slice a106 ((F ++ ([(l[i]).s])).length) c106))] (by kernel_rfl) ?_
                    exact ⟨(b3 :: b7 :: b11 :: b10 :: X), a106, c106, rfl, (Sub.of_cons (List.mem_cons_self) (Sub.of_cons (List.mem_cons_of_mem _ (List.mem_cons_self)) (Sub.of_cons (List.mem_cons_of_mem _ (List.mem_cons_of_mem _ (List.mem_cons_self))) (Sub.of_cons (List.mem_cons_of_mem _ (List.mem_cons_of_mem _ (List.mem_cons_of_mem _ (List.mem_cons_self)))) (Sub.trans (Sub.trans (Sub.trans (Sub.trans (Sub.refl _) (Sub.cons _ _)) (Sub.cons _ _)) (Sub.cons _ _)) (Sub.cons _ _)))))), E0, hXo, hl, k3, hb, hf, h4, h5, k7, r8, r11, hb67, hf67, k11, k10, hs98, r40, r55⟩
                ·
                  rintro lj3 wj3 gj3 ⟨Xj3, aq, cq, rfl, hXj3, E0, hXo, hl, k3, hb, hf, h4, h5, k7, r8, r11, hb67, hf67, k11, k10, hs98, r40, hq5⟩
                  refine blk_normal ?_
                  refine then_normal ?_
                  refine meet_ [(4, (.slice a99 K.length c99)), (5, (.slice aq ((F ++ [(l[i]).s]).length) cq))] (by kernel_rfl) ?_
                  exact ⟨Xj3, K, (F ++ [(l[i]).s]), K, a1_67, a2_67, a99, aq, c1_67, c2_67, c99, cq, rfl, (Sub.of_cons (hXj3 _ (List.mem_cons_self)) (Sub.of_cons (hXj3 _ (List.mem_cons_of_mem _ (List.mem_cons_self))) (Sub.of_cons (hXj3 _ (List.mem_cons_of_mem _ (List.mem_cons_of_mem _ (List.mem_cons_of_mem _ (List.mem_cons_self))))) (Sub.trans (Sub.trans (Sub.trans (Sub.trans (Sub.trans (Sub.refl _) (Sub.cons _ _)) (Sub.cons _ _)) (Sub.cons _ _)) (Sub.cons _ _)) hXj3)))), E0, hXo, hl, k3, k7, hb, hf, r8, r11, k10, hb67, hf67, r40, hq5, (by first | (simp [pushL]; done) | (rw [show K.length - 64 = 0 from by first | omega | (simp <;> omega)]; rfl)), (by first | omega | (simp <;> omega)), (by first | omega | (simp <;> omega))⟩
            ·
              refine seq_ ?_
              refine reg_ ?_
              refine sq (o_pv (.bool (decide (((l[i]).op) = 3))) rfl (by kernel_rfl) ?_)
              refine sq (o_pv (.bool (decide (((l[i]).op) = 3))) rfl (by kernel_rfl) ?_)
              refine nil_ ?_
              refine then_normal ?_
              refine cond_d (((l[i]).op) = 3) (by kernel_rfl) (fun h107 => ?_) (fun h107 => ?_)
              ·
                refine seq_ ?_
                refine reg_ ?_
                refine sq (o_pv (.agg #[(.slice ab B.length cb), (.slice af F.length cf)]) rfl (x_loadN [(.slice ab B.length cb), (.slice af F.length cf)] (by kernel_rfl) Try.isAgg26 Try.sizeOf26 (k3.cells' 0 rfl)) ?_)
                refine sq (o_pv (.pointer (some ⟨b7, 1, none⟩)) rfl (by kernel_rfl) ?_)
                refine sq (o_pv (.string ((l[i]).s)) rfl (x_load1 (by kernel_rfl) Try.isAgg9 (k7.cell' 1 rfl)) ?_)
                rcases nil_or_snoc F with hE | ⟨K, x, hE⟩
                ·
                  have hEl : F.length = 0 := by rw [hE]; rfl
                  refine sq (o_call 9 #[(.agg #[(.slice ab B.length cb), (.slice af F.length cf)]), (.string ((l[i]).s))] rfl (x_call Try.call9 (by kernel_rfl)) (Redo_w0 (Lb := F) hXo hE) ?_)
                  rintro _ w47 ⟨e56, rfl⟩
                  have s56 := Step.of0 (b10 :: b3 :: b7 :: X) e56
                  refine sq (o_pv (.tuple #[(.agg #[(.slice none 0 0), (.slice none 0 0)]), (.string (ByteArray.mk #[])), (.int .i64 10)]) rfl (by kernel_rfl) ?_)
                  refine sq (o_pv (.agg #[(.slice none 0 0), (.slice none 0 0)]) rfl (by kernel_rfl) ?_)
                  refine sq (o_pv (.string (ByteArray.mk #[])) rfl (by kernel_rfl) ?_)
                  refine sq (o_pv (.int .i64 10) rfl (by kernel_rfl) ?_)
                  refine sq (o_new [(.slice none 0 0), (.slice none 0 0)] 26 rfl (by kernel_rfl) ?_)
                  replace k3 := (k3.evo0 e56)
                  replace k7 := (k7.evo0 e56)
                  replace k10 := (k10.evo0 e56)
                  rintro b14 w48 hb14 e57 k14
                  have n14 : w.heap.size ≤ b14 := Nat.le_trans (Evo.then0 E0 e56).size (Nat.le_of_eq hb14.symm)
                  have l3_14 : b3 < b14 := Nat.lt_of_lt_of_eq k3.lt hb14.symm
                  have l7_14 : b7 < b14 := Nat.lt_of_lt_of_eq k7.lt hb14.symm
                  have l10_14 : b10 < b14 := Nat.lt_of_lt_of_eq k10.lt hb14.symm
                  have s57 := Step.fresh (b10 :: b3 :: b7 :: X) e57 b14 (Nat.le_of_eq hb14.symm) k14.lt
                  refine sq (o_store (o := 0) (v := (.agg #[(.slice none 0 0), (.slice none 0 0)])) [(.slice none 0 0), (.slice none 0 0)] rfl k14 (by kernel_rfl) (by kernel_rfl) Try.sizeOf26 rfl rfl rfl ?_)
                  intro w49 e58 kn58
                  have s58 := Step.one e58 (X := b14 :: b10 :: b3 :: b7 :: X) (List.mem_cons_self)
                  clear k14; have k14 := kn58
                  refine sq (o_pv (.string (ByteArray.mk #[])) rfl (by kernel_rfl) ?_)
                  refine sq (o_pv (.int .i64 10) rfl (by kernel_rfl) ?_)
                  refine nil_ ?_
                  refine then_normal ?_
                  refine seq_ ?_
                  refine seq_ ?_
                  refine reg_ ?_
                  refine sq (o_pv (.slice a5 F.length c5) rfl (by kernel_rfl) ?_)
                  refine sq (o_pv (.int .i64 ((F.length : Nat) : Int)) rfl (by kernel_rfl) ?_)
                  refine sq (o_pv (.bool (decide (((F.length : Nat) : Int) = 0))) rfl (by kernel_rfl) ?_)
                  refine nil_ ?_
                  refine then_normal ?_
                  refine cond_dt (((F.length : Nat) : Int) = 0) (by kernel_rfl) (by omega) ?_
                  refine seq_ ?_
                  refine seq_ ?_
                  refine reg_ ?_
                  refine sq (o_pv (.int .i64 10) rfl (by kernel_rfl) ?_)
                  refine sq (o_pv (.bool false) rfl (x_ndf (p := (10 : Int) = 10) (by kernel_rfl) (by decide)) ?_)
                  refine sq (o_pv (.bool false) rfl (by kernel_rfl) ?_)
                  refine sq (o_pv (.string (ByteArray.mk #[])) (by kernel_rfl) (by kernel_rfl) ?_)
                  refine sq (o_pv (.bool false) (by kernel_rfl) (x_ndf (p := ((ByteArray.mk #[]) : ByteArray) = (ByteArray.mk #[])) (x_strne (by kernel_rfl) (by kernel_rfl)) (by decide)) ?_)
                  refine sq (o_pv (.bool false) rfl (by kernel_rfl) ?_)
                  refine nil_ ?_
                  refine then_normal ?_
                  refine cond_f (by kernel_rfl) ?_
                  refine wp_skip ?_
                  refine then_normal ?_
                  refine wp_exit ?_
                  refine then_exit ?_
                  refine blk_exit ?_
                  refine then_normal ?_
                  replace hb := (((hb.step s56).step s57).step s58)
                  replace hf := (((hf.step s56).step s57).step s58)
                  replace h4 := (((h4.step s56).step s57).step s58)
                  replace h5 := (((h5.step s56).step s57).step s58)
                  replace E0 := (Evo.then1 (Evo.then0 (Evo.then0 E0 e56) e57) e58 n14)
                  replace hXo := (((hXo.step s56).step s57).step s58)
                  replace hl := (((hl.step s56).step s57).step s58)
                  replace k3 := ((k3.evo0 e57).evo1 e58 (Nat.ne_of_lt l3_14))
                  replace k7 := ((k7.evo0 e57).evo1 e58 (Nat.ne_of_lt l7_14))
                  replace r8 := (((r8.step s56).step s57).step s58)
                  replace r11 := (((r11.step s56).step s57).step s58)
                  replace k10 := ((k10.evo0 e57).evo1 e58 (Nat.ne_of_lt l10_14))
                  refine meet_ [(4, (.slice a4 B.length c4)), (5, (.slice a5 F.length c5))] (by kernel_rfl) ?_
                  exact ⟨(b14 :: b10 :: b3 :: b7 :: X), B, F, B, ab, af, a4, a5, cb, cf, c4, c5, rfl, (Sub.of_cons (List.mem_cons_of_mem _ (List.mem_cons_of_mem _ (List.mem_cons_self))) (Sub.of_cons (List.mem_cons_of_mem _ (List.mem_cons_of_mem _ (List.mem_cons_of_mem _ (List.mem_cons_self)))) (Sub.of_cons (List.mem_cons_of_mem _ (List.mem_cons_self)) (Sub.trans (Sub.trans (Sub.trans (Sub.trans (Sub.refl _) (Sub.cons _ _)) (Sub.cons _ _)) (Sub.cons _ _)) (Sub.cons _ _))))), E0, hXo, hl, k3, k7, hb, hf, r8, r11, k10, hb, hf, h4, h5, (by first | (simp [pushL]; done) | (rw [show B.length - 64 = 0 from by first | omega | (simp <;> omega)]; rfl)), (by first | omega | (simp <;> omega)), (by first | omega | (simp <;> omega))⟩
                ·
                  have hEl := snoc_len hE
                  refine sq (o_call 9 #[(.agg #[(.slice ab B.length cb), (.slice af F.length cf)]), (.string ((l[i]).s))] rfl (x_call Try.call9 (by kernel_rfl)) (Redo_w (Lb := B) (Lf := F) (K := K) (x := x) (M := pushL B (l[i]).s) hXo hE rfl hb hf hz31 (by omega) (by omega)) ?_)
                  rintro _ w50 ⟨e59, a1_113, c1_113, a2_113, c2_113, rfl, hb113, hf113⟩
                  have s59 := Step.of0 (b10 :: b3 :: b7 :: X) e59
                  refine sq (o_pv (.tuple #[(.agg #[(.slice a1_113 ((pushL B (l[i]).s).length) c1_113), (.slice a2_113 K.length c2_113)]), (.string x), (.int .i64 0)]) rfl (by kernel_rfl) ?_)
                  refine sq (o_pv (.agg #[(.slice a1_113 ((pushL B (l[i]).s).length) c1_113), (.slice a2_113 K.length c2_113)]) rfl (by kernel_rfl) ?_)
                  refine sq (o_pv (.string x) rfl (by kernel_rfl) ?_)
                  refine sq (o_pv (.int .i64 0) rfl (by kernel_rfl) ?_)
                  refine sq (o_new [(.slice none 0 0), (.slice none 0 0)] 26 rfl (by kernel_rfl) ?_)
                  replace k3 := (k3.evo0 e59)
                  replace k7 := (k7.evo0 e59)
                  replace k10 := (k10.evo0 e59)
                  rintro b14 w51 hb14 e60 k14
                  have n14 : w.heap.size ≤ b14 := Nat.le_trans (Evo.then0 E0 e59).size (Nat.le_of_eq hb14.symm)
                  have l3_14 : b3 < b14 := Nat.lt_of_lt_of_eq k3.lt hb14.symm
                  have l7_14 : b7 < b14 := Nat.lt_of_lt_of_eq k7.lt hb14.symm
                  have l10_14 : b10 < b14 := Nat.lt_of_lt_of_eq k10.lt hb14.symm
                  have s60 := Step.fresh (b10 :: b3 :: b7 :: X) e60 b14 (Nat.le_of_eq hb14.symm) k14.lt
                  refine sq (o_store (o := 0) (v := (.agg #[(.slice a1_113 ((pushL B (l[i]).s).length) c1_113), (.slice a2_113 K.length c2_113)])) [(.slice a1_113 ((pushL B (l[i]).s).length) c1_113), (.slice a2_113 K.length c2_113)] rfl k14 (by kernel_rfl) (by kernel_rfl) Try.sizeOf26 rfl rfl rfl ?_)
                  intro w52 e61 kn61
                  have s61 := Step.one e61 (X := b14 :: b10 :: b3 :: b7 :: X) (List.mem_cons_self)
                  clear k14; have k14 := kn61
                  refine sq (o_pv (.string x) rfl (by kernel_rfl) ?_)
                  refine sq (o_pv (.int .i64 0) rfl (by kernel_rfl) ?_)
                  refine nil_ ?_
                  refine then_normal ?_
                  refine seq_ ?_
                  refine seq_ ?_
                  refine reg_ ?_
                  refine sq (o_pv (.slice a5 F.length c5) rfl (by kernel_rfl) ?_)
                  refine sq (o_pv (.int .i64 ((F.length : Nat) : Int)) rfl (by kernel_rfl) ?_)
                  refine sq (o_pv (.bool (decide (((F.length : Nat) : Int) = 0))) rfl (by kernel_rfl) ?_)
                  refine nil_ ?_
                  refine then_normal ?_
                  refine cond_df (((F.length : Nat) : Int) = 0) (by kernel_rfl) (by omega) ?_
                  refine wp_skip ?_
                  refine then_normal ?_
                  refine seq_ ?_
                  refine seq_ ?_
                  refine reg_ ?_
                  refine sq (o_pv (.int .i64 0) rfl (by kernel_rfl) ?_)
                  refine sq (o_pv (.bool false) rfl (x_ndf (p := (0 : Int) = 0) (by kernel_rfl) (by decide)) ?_)
                  refine sq (o_pv (.bool false) rfl (by kernel_rfl) ?_)
                  refine sq (o_pv (.string x) (by kernel_rfl) (by kernel_rfl) ?_)
                  refine sq (o_pv (.slice a5 F.length c5) (by kernel_rfl) (by kernel_rfl) ?_)
                  refine sq (o_pv (.slice a5 F.length c5) (by kernel_rfl) (by kernel_rfl) ?_)
                  refine sq (o_pv (.int .i64 ((F.length : Nat) : Int)) (by kernel_rfl) (by kernel_rfl) ?_)
                  refine sq (o_pv (.int .i64 ((F.length - 1 : Nat) : Int)) (by kernel_rfl) (x_sub (a := ((F.length : Nat) : Int)) (b := 1) ((F.length - 1 : Nat) : Int) (by kernel_rfl) (by kernel_rfl) (by omega) (wrap_i64 (by omega) (by omega))) ?_)
                  replace h5 := (((h5.step s59).step s60).step s61)
                  have hi134 : F.length - 1 < F.length := by omega
                  obtain ⟨b134, o134, cs134, ha134, hnx134, hlt134, hok134, hc134⟩ := h5.at _ hi134
                  obtain ⟨rfl, hz134⟩ := hok134
                  refine sq (o_pv (.pointer (some ⟨b134, o134 + (F.length - 1) * 1, none⟩)) (by kernel_rfl) (x_indexAddr (m := F.length) (c := c5) (k := .i64) (e := ((F.length - 1 : Nat) : Int)) (i := F.length - 1) Try.underlying24 Try.sizeOf9 (by rw [← ha134]; kernel_rfl) (by kernel_rfl) rfl (by omega)) ?_)
                  refine sq (o_pv (.string (F[F.length - 1])) (by kernel_rfl) (x_load1 (by kernel_rfl) Try.isAgg9 hc134.one) ?_)
                  refine sq (o_pv (.bool false) (by kernel_rfl) (x_ndf (p := (x : ByteArray) = F[F.length - 1]) (x_strne (by kernel_rfl) (by kernel_rfl)) (snoc_last hE hi134)) ?_)
                  refine sq (o_pv (.bool false) rfl (by kernel_rfl) ?_)
                  refine nil_ ?_
                  refine then_normal ?_
                  refine cond_f (by kernel_rfl) ?_
                  refine wp_skip ?_
                  refine then_normal ?_
                  refine seq_ ?_
                  refine reg_ ?_
                  refine sq (o_pv (.agg #[(.slice a1_113 ((pushL B (l[i]).s).length) c1_113), (.slice a2_113 K.length c2_113)]) rfl (x_loadN [(.slice a1_113 ((pushL B (l[i]).s).length) c1_113), (.slice a2_113 K.length c2_113)] (by kernel_rfl) Try.isAgg26 Try.sizeOf26 (k14.cells' 0 rfl)) ?_)
                  replace k10 := ((k10.evo0 e60).evo1 e61 (Nat.ne_of_lt l10_14))
                  refine sq (o_store (o := 0) (v := (.agg #[(.slice a1_113 ((pushL B (l[i]).s).length) c1_113), (.slice a2_113 K.length c2_113)])) [(.slice a1_113 ((pushL B (l[i]).s).length) c1_113), (.slice a2_113 K.length c2_113)] rfl k10 (by kernel_rfl) (by kernel_rfl) Try.sizeOf26 rfl rfl rfl ?_)
                  intro w53 e62 kn62
                  have s62 := Step.one e62 (X := b14 :: b10 :: b3 :: b7 :: X) (List.mem_cons_of_mem _ (List.mem_cons_self))
                  clear k10; have k10 := kn62
                  refine nil_ ?_
                  refine then_normal ?_
                  refine seq_ ?_
                  refine reg_ ?_
                  refine sq (o_row [] 9 0 rfl (by kernel_rfl) ?_)
                  replace k3 := (((k3.evo0 e60).evo1 e61 (Nat.ne_of_lt l3_14)).evo1 e62 (Nat.ne_of_lt l3_10))
                  replace k7 := (((k7.evo0 e60).evo1 e61 (Nat.ne_of_lt l7_14)).evo1 e62 (Nat.ne_of_lt l7_10))
                  replace k14 := (k14.evo1 e62 (Nat.ne_of_gt l10_14))
                  rintro b139 w54 hb139 e63 k139
                  have n139 : w.heap.size ≤ b139 := Nat.le_trans (Evo.then1 (Evo.then1 (Evo.then0 (Evo.then0 E0 e59) e60) e61 n14) e62 n10).size (Nat.le_of_eq hb139.symm)
                  have l3_139 : b3 < b139 := Nat.lt_of_lt_of_eq k3.lt hb139.symm
                  have l7_139 : b7 < b139 := Nat.lt_of_lt_of_eq k7.lt hb139.symm
                  have l14_139 : b14 < b139 := Nat.lt_of_lt_of_eq k14.lt hb139.symm
                  have l10_139 : b10 < b139 := Nat.lt_of_lt_of_eq k10.lt hb139.symm
                  have s63 := Step.fresh (b14 :: b10 :: b3 :: b7 :: X) e63 b139 (Nat.le_of_eq hb139.symm) k139.lt
                  refine sq (o_pv (.slice a5 F.length c5) rfl (by kernel_rfl) ?_)
                  refine sq (o_pv (.slice a5 F.length c5) rfl (by kernel_rfl) ?_)
                  refine sq (o_pv (.int .i64 ((F.length : Nat) : Int)) rfl (by kernel_rfl) ?_)
                  refine sq (o_pv (.int .i64 ((F.length - 1 : Nat) : Int)) rfl (x_sub (a := ((F.length : Nat) : Int)) (b := 1) ((F.length - 1 : Nat) : Int) (by kernel_rfl) (by kernel_rfl) (by omega) (wrap_i64 (by omega) (by omega))) ?_)
                  replace h5 := ((h5.step s62).step s63)
                  refine sq (o_slice 0 (F.length - 1) K rfl Try.underlying24 Try.sizeOf9 h5 (by kernel_rfl) rfl (.inl ⟨rfl, rfl⟩) (.inr ⟨.i64, by kernel_rfl⟩) (by omega) (by first | omega | simp) (by rw [List.drop_zero]; exact snoc_init hE) ?_)
                  intro a144 c144 hs144
                  have o145 : Own rStr (b139 :: b14 :: b10 :: b3 :: b7 :: X) w54 (w.heap.size) 9 (some ⟨b139, 0, none⟩) 0 [] := k139.own (List.mem_cons_self) Flat.nil 0 rfl (by decide) n139
                  have q3_o145 : b3 ∉ blkL (some ⟨b139, 0, none⟩) := by simp [blkL]; omega
                  have q7_o145 : b7 ∉ blkL (some ⟨b139, 0, none⟩) := by simp [blkL]; omega
                  have q14_o145 : b14 ∉ blkL (some ⟨b139, 0, none⟩) := by simp [blkL]; omega
                  have q10_o145 : b10 ∉ blkL (some ⟨b139, 0, none⟩) := by simp [blkL]; omega
                  replace k3 := (k3.evo0 e63)
                  replace k7 := (k7.evo0 e63)
                  replace k14 := (k14.evo0 e63)
                  replace k10 := (k10.evo0 e63)
                  refine sq (o_append (R := rStr) rfl elT24 rfl o145 hs144.src (by kernel_rfl) (by kernel_rfl) rfl rfl (by first | omega | (simp <;> omega)) ?_)
                  intro a145 c145 w55 X64 s64 hX64 hn64 hO145
                  rw [show ([]) ++ K = K from by simp] at hO145 ⊢
                  subst hX64
                  have hl145 : K.length = 0 + K.length := by simp
                  have q3_hO145 : b3 ∉ blkL a145 := fun h => (hn64 _ h).elim q3_o145 (fun e => by have := k3.lt; omega)
                  have q7_hO145 : b7 ∉ blkL a145 := fun h => (hn64 _ h).elim q7_o145 (fun e => by have := k7.lt; omega)
                  have q14_hO145 : b14 ∉ blkL a145 := fun h => (hn64 _ h).elim q14_o145 (fun e => by have := k14.lt; omega)
                  have q10_hO145 : b10 ∉ blkL a145 := fun h => (hn64 _ h).elim q10_o145 (fun e => by have := k10.lt; omega)
                  have p64 := o145
                  replace E0 := (Evo.thenO (Evo.then0 (Evo.then1 (Evo.then1 (Evo.then0 (Evo.then0 E0 e59) e60) e61 n14) e62 n10) e63) s64.evo p64 (Nat.le_refl _))
                  replace hXo := ((((((hXo.step s59).step s60).step s61).step s62).step s63).step s64)
                  replace hl := ((((((hl.step s59).step s60).step s61).step s62).step s63).step s64)
                  replace k3 := (k3.evo s64.evo (q3_o145))
                  replace hb := ((((((hb.step s59).step s60).step s61).step s62).step s63).step s64)
                  replace hf := ((((((hf.step s59).step s60).step s61).step s62).step s63).step s64)
                  replace h4 := ((((((h4.step s59).step s60).step s61).step s62).step s63).step s64)
                  replace h5 := (h5.step s64)
                  replace k7 := (k7.evo s64.evo (q7_o145))
                  replace r8 := ((((((r8.step s59).step s60).step s61).step s62).step s63).step s64)
                  replace r11 := ((((((r11.step s59).step s60).step s61).step s62).step s63).step s64)
                  replace hb113 := (((((hb113.step s60).step s61).step s62).step s63).step s64)
                  replace hf113 := (((((hf113.step s60).step s61).step s62).step s63).step s64)
                  replace k14 := (k14.evo s64.evo (q14_o145))
                  replace k10 := (k10.evo s64.evo (q10_o145))
                  replace hs144 := (hs144.step s64)
                  have u65 : Sub (b3 :: b7 :: b14 :: b10 :: X) (blkL a145 ++ (b139 :: b14 :: b10 :: b3 :: b7 :: X)) := (Sub.of_cons (List.mem_append_right _ (List.mem_cons_of_mem _ (List.mem_cons_of_mem _ (List.mem_cons_of_mem _ (List.mem_cons_self))))) (Sub.of_cons (List.mem_append_right _ (List.mem_cons_of_mem _ (List.mem_cons_of_mem _ (List.mem_cons_of_mem _ (List.mem_cons_of_mem _ (List.mem_cons_self)))))) (Sub.of_cons (List.mem_append_right _ (List.mem_cons_of_mem _ (List.mem_cons_self))) (Sub.of_cons (List.mem_append_right _ (List.mem_cons_of_mem _ (List.mem_cons_of_mem _ (List.mem_cons_self)))) (Sub.trans (Sub.trans (Sub.trans (Sub.trans (Sub.trans (Sub.trans (Sub.refl _) (Sub.cons _ _)) (Sub.cons _ _)) (Sub.cons _ _)) (Sub.cons _ _)) (Sub.cons _ _)) (fun _ h => List.mem_append_right _ h))))))
                  have r65 := hO145.sl u65 (NotIn.cons q3_hO145 (NotIn.cons q7_hO145 (NotIn.cons q14_hO145 (NotIn.cons q10_hO145 (hO145.notin hX0)))))
                  replace hXo := hXo.less u65
                  replace hl := hl.less u65
                  replace hb := hb.less u65
                  replace hf := hf.less u65
                  replace h4 := h4.less u65
                  replace h5 := h5.less u65
                  replace r8 := r8.less u65
                  replace r11 := r11.less u65
                  replace hb113 := hb113.less u65
                  replace hf113 := hf113.less u65
                  replace hs144 := hs144.less u65
                  refine sq (o_pv (.slice a145 K.length c145) rfl (by kernel_rfl) ?_)
                  refine nil_ ?_
                  refine then_normal ?_
                  refine join_ 11328778560853556555900144882505367645038051344 (fun lq wj4 => ∃ Xj4 : List Nat, ∃ aq : Option Addr, ∃ cq : Nat, (lq = [(4, (.slice aq ((B ++ [(l[i]).s]).length) cq))]) ∧ (Sub (b3 :: b7 :: b14 :: b10 :: X) Xj4) ∧ (Evo [] w wj4) ∧ (Old Xj4 wj4) ∧ (Sl rAct Xj4 wj4 a c l) ∧ (Blk wj4 b3 [(.slice ab B.length cb), (.slice af F.length cf)] 26) ∧ (Sl rStr Xj4 wj4 ab cb B) ∧ (Sl rStr Xj4 wj4 af cf F) ∧ (Sl rStr Xj4 wj4 a4 c4 B) ∧ (Sl rStr Xj4 wj4 a5 c5 F) ∧ (Blk wj4 b7 [(.int .i64 ((l[i]).op)), (.string ((l[i]).s))] 28) ∧ (Sl rStr Xj4 wj4 a40 c40 B) ∧ (Sl rStr Xj4 wj4 a44 c44 F) ∧ (Sl rStr Xj4 wj4 a1_113 c1_113 (pushL B (l[i]).s)) ∧ (Sl rStr Xj4 wj4 a2_113 c2_113 K) ∧ (Blk wj4 b14 [(.slice a1_113 ((pushL B (l[i]).s).length) c1_113), (.slice a2_113 K.length c2_113)] 26) ∧ (Blk wj4 b10 [(.slice a1_113 ((pushL B (l[i]).s).length) c1_113), (.slice a2_113 K.length c2_113)] 26) ∧ (Sl rStr Xj4 wj4 a144 c144 K) ∧ (Sl rStr Xj4 wj4 a145 c145 K) ∧ (Sl rStr Xj4 wj4 aq cq (B ++ [(l[i]).s]))) ?_ ?_
                  ·
                    refine reg_drawn (RB w55.heap.size []) 7 (by kernel_rfl) (fun w56 hd40 => ?_)
                    have e66 := Evo.of_drew hd40
                    have z40 : w56.heap.size = w55.heap.size := by rw [hd40]
                    clear hd40
                    have s66 := Step.of0 (b3 :: b7 :: b14 :: b10 :: X) e66
                    replace E0 := (Evo.then0 E0 e66)
                    have zr40 : w.heap.size ≤ w55.heap.size := by have := E0.size; omega
                    replace k3 := (k3.evo0 e66)
                    have lt40_3 : b3 < w55.heap.size := by have := k3.lt; omega
                    replace k7 := (k7.evo0 e66)
                    have lt40_7 : b7 < w55.heap.size := by have := k7.lt; omega
                    replace k14 := (k14.evo0 e66)
                    have lt40_14 : b14 < w55.heap.size := by have := k14.lt; omega
                    replace k10 := (k10.evo0 e66)
                    have lt40_10 : b10 < w55.heap.size := by have := k10.lt; omega
                    refine r_take 1 (.slice a4 B.length c4) (RB.pre _ _) rfl (by kernel_rfl) (fun _ _ _ h => h) (.inl ⟨rfl, fun wq hq => (by kernel_rfl)⟩) ?_
                    refine r_take 3 (.pointer (some ⟨b7, 1, none⟩)) (RB.pre _ _) rfl (by kernel_rfl) (fun _ _ _ h => h) (.inl ⟨rfl, fun wq hq => (by kernel_rfl)⟩) ?_
                    refine r_take 4 (.string ((l[i]).s)) (RB.pre _ _) rfl (by kernel_rfl) (fun _ _ _ h => h) (.inl ⟨rfl, fun wq hq => (x_load1 (by kernel_rfl) Try.isAgg9 ((k7.rb hq lt40_7 (by simp)).cell' 1 rfl))⟩) ?_
                    refine r_ready [0, 5] (by kernel_rfl) rfl (all_cons ⟨_, _, _, _, _, _, rfl, ?_⟩ (all_cons ⟨_, _, _, _, _, _, rfl, ?_⟩ (all_nil)))
                    ·
                      refine  (o_row [] 9 0 rfl (by kernel_rfl) ?_)
                      rintro b146 w57 hb146 e67 k146
                      have n146 : w.heap.size ≤ b146 := Nat.le_trans E0.size (Nat.le_of_eq hb146.symm)
                      have n146r : w55.heap.size ≤ b146 := by omega
                      have l3_146 : b3 < b146 := Nat.lt_of_lt_of_eq k3.lt hb146.symm
                      have l7_146 : b7 < b146 := Nat.lt_of_lt_of_eq k7.lt hb146.symm
                      have l14_146 : b14 < b146 := Nat.lt_of_lt_of_eq k14.lt hb146.symm
                      have l10_146 : b10 < b146 := Nat.lt_of_lt_of_eq k10.lt hb146.symm
                      have s67 := Step.fresh (b3 :: b7 :: b14 :: b10 :: X) e67 b146 (Nat.le_of_eq hb146.symm) k146.lt
                      refine ⟨fun _ => RB.mono e67 (by have := e67.size; omega) (fun _ h => by cases h), ?_⟩
                      refine r_ready [2, 5] (by kernel_rfl) rfl (all_cons ⟨_, _, _, _, _, _, rfl, ?_⟩ (all_cons ⟨_, _, _, _, _, _, rfl, ?_⟩ (all_nil)))
                      ·
                        have o148 : Own rStr (b146 :: b3 :: b7 :: b14 :: b10 :: X) w57 (w55.heap.size) 9 (some ⟨b146, 0, none⟩) 0 [] := k146.own (List.mem_cons_self) Flat.nil 0 rfl (by decide) n146r
                        have q3_o148 : b3 ∉ blkL (some ⟨b146, 0, none⟩) := by simp [blkL]; omega
                        have q7_o148 : b7 ∉ blkL (some ⟨b146, 0, none⟩) := by simp [blkL]; omega
                        have q14_o148 : b14 ∉ blkL (some ⟨b146, 0, none⟩) := by simp [blkL]; omega
                        have q10_o148 : b10 ∉ blkL (some ⟨b146, 0, none⟩) := by simp [blkL]; omega
                        replace h4 := ((h4.step s66).step s67)
                        replace k3 := (k3.evo0 e67)
                        replace k7 := (k7.evo0 e67)
                        replace k14 := (k14.evo0 e67)
                        replace k10 := (k10.evo0 e67)
                        refine  (o_append (R := rStr) rfl elT24 rfl o148 h4.src (by kernel_rfl) (by kernel_rfl) rfl rfl (by first | omega | (simp <;> omega)) ?_)
                        intro a148 c148 w58 X68 s68 hX68 hn68 hO148
                        rw [show ([]) ++ B = B from by simp] at hO148 ⊢
                        subst hX68
                        have hl148 : B.length = 0 + B.length := by simp
                        have q3_hO148 : b3 ∉ blkL a148 := fun h => (hn68 _ h).elim q3_o148 (fun e => by have := k3.lt; omega)
                        have q7_hO148 : b7 ∉ blkL a148 := fun h => (hn68 _ h).elim q7_o148 (fun e => by have := k7.lt; omega)
                        have q14_hO148 : b14 ∉ blkL a148 := fun h => (hn68 _ h).elim q14_o148 (fun e => by have := k14.lt; omega)
                        have q10_hO148 : b10 ∉ blkL a148 := fun h => (hn68 _ h).elim q10_o148 (fun e => by have := k10.lt; omega)
                        have p68 := o148
                        refine ⟨fun _ => RB.mono s68.evo (by have := e67.size; have := s68.evo.size; omega) (fun x hx => .inr (p68.lt x hx).1), ?_⟩
                        refine r_ready [5] (by kernel_rfl) rfl (all_cons ⟨_, _, _, _, _, _, rfl, ?_⟩ all_nil)
                        refine  (o_row [(.string ((l[i]).s))] 9 1 rfl (by kernel_rfl) ?_)
                        replace k3 := (k3.evo s68.evo (q3_o148))
                        replace k7 := (k7.evo s68.evo (q7_o148))
                        replace k14 := (k14.evo s68.evo (q14_o148))
                        replace k10 := (k10.evo s68.evo (q10_o148))
                        rintro b151 w59 hb151 e69 k151
                        have n151 : w.heap.size ≤ b151 := Nat.le_trans (Evo.thenO (Evo.then0 E0 e67) s68.evo p68 zr40).size (Nat.le_of_eq hb151.symm)
                        have n151r : w55.heap.size ≤ b151 := by have := e67.size; have := s68.evo.size; omega
                        have l3_151 : b3 < b151 := Nat.lt_of_lt_of_eq k3.lt hb151.symm
                        have l7_151 : b7 < b151 := Nat.lt_of_lt_of_eq k7.lt hb151.symm
                        have l14_151 : b14 < b151 := Nat.lt_of_lt_of_eq k14.lt hb151.symm
                        have l10_151 : b10 < b151 := Nat.lt_of_lt_of_eq k10.lt hb151.symm
                        have q151_hO148 : b151 ∉ blkL a148 := fun h => by have := (hO148.lt _ h).2; omega
                        have s69 := Step.fresh (blkL a148 ++ (b146 :: b3 :: b7 :: b14 :: b10 :: X)) e69 b151 (Nat.le_of_eq hb151.symm) k151.lt
                        refine ⟨fun _ => RB.mono e69 (by have := e67.size; have := s68.evo.size; have := e69.size; omega) (fun _ h => by cases h), ?_⟩
                        refine r_ready [6] (by kernel_rfl) rfl (all_cons ⟨_, _, _, _, _, _, rfl, ?_⟩ all_nil)
                        replace hO148 := (hO148.step s69 (fun _ _ => by simp))
                        replace k3 := (k3.evo0 e69)
                        replace k7 := (k7.evo0 e69)
                        replace k14 := (k14.evo0 e69)
                        replace k10 := (k10.evo0 e69)
                        refine  (o_append (R := rStr) rfl elT24 rfl hO148 (k151.src (c := 1) (Flat.cons1 ⟨rfl, hz31⟩ Flat.nil)) (by kernel_rfl) (by kernel_rfl) rfl rfl (by first | omega | (simp <;> omega)) ?_)
                        intro a152 c152 w60 X70 s70 hX70 hn70 hO152
                        subst hX70
                        have hl152 : (B ++ ([(l[i]).s])).length = B.length + 1 := by simp
                        have q3_hO152 : b3 ∉ blkL a152 := fun h => (hn70 _ h).elim q3_hO148 (fun e => by have := k3.lt; omega)
                        have q7_hO152 : b7 ∉ blkL a152 := fun h => (hn70 _ h).elim q7_hO148 (fun e => by have := k7.lt; omega)
                        have q14_hO152 : b14 ∉ blkL a152 := fun h => (hn70 _ h).elim q14_hO148 (fun e => by have := k14.lt; omega)
                        have q10_hO152 : b10 ∉ blkL a152 := fun h => (hn70 _ h).elim q10_hO148 (fun e => by have := k10.lt; omega)
                        have p70 := hO148
                        refine ⟨fun _ => RB.mono s70.evo (by have := e67.size; have := s68.evo.size; have := e69.size; have := s70.evo.size; omega) (fun x hx => .inr (p70.lt x hx).1), ?_⟩
                        replace E0 := (Evo.thenO (Evo.then0 (Evo.thenO (Evo.then0 E0 e67) s68.evo p68 zr40) e69) s70.evo p70 zr40)
                        replace hXo := (((((hXo.step s66).step s67).step s68).step s69).step s70)
                        replace hl := (((((hl.step s66).step s67).step s68).step s69).step s70)
                        replace k3 := (k3.evo s70.evo (q3_hO148))
                        replace hb := (((((hb.step s66).step s67).step s68).step s69).step s70)
                        replace hf := (((((hf.step s66).step s67).step s68).step s69).step s70)
                        replace h4 := (((h4.step s68).step s69).step s70)
                        replace h5 := (((((h5.step s66).step s67).step s68).step s69).step s70)
                        replace k7 := (k7.evo s70.evo (q7_hO148))
                        replace r8 := (((((r8.step s66).step s67).step s68).step s69).step s70)
                        replace r11 := (((((r11.step s66).step s67).step s68).step s69).step s70)
                        replace hb113 := (((((hb113.step s66).step s67).step s68).step s69).step s70)
                        replace hf113 := (((((hf113.step s66).step s67).step s68).step s69).step s70)
                        replace k14 := (k14.evo s70.evo (q14_hO148))
                        replace k10 := (k10.evo s70.evo (q10_hO148))
                        replace hs144 := (((((hs144.step s66).step s67).step s68).step s69).step s70)
                        replace r65 := (((((r65.step s66).step s67).step s68).step s69).step s70)
                        have u71 : Sub (b3 :: b7 :: b14 :: b10 :: X) (blkL a152 ++ (b151 :: blkL a148 ++ (b146 :: b3 :: b7 :: b14 :: b10 :: X))) := (Sub.of_cons (List.mem_append_right _ (List.mem_cons_of_mem _ (List.mem_append_right _ (List.mem_cons_of_mem _ (List.mem_cons_self))))) (Sub.of_cons (List.mem_append_right _ (List.mem_cons_of_mem _ (List.mem_append_right _ (List.mem_cons_of_mem _ (List.mem_cons_of_mem _ (List.mem_cons_self)))))) (Sub.of_cons (List.mem_append_right _ (List.mem_cons_of_mem _ (List.mem_append_right _ (List.mem_cons_of_mem _ (List.mem_cons_of_mem _ (List.mem_cons_of_mem _ (List.mem_cons_self))))))) (Sub.of_cons (List.mem_append_right _ (List.mem_cons_of_mem _ (List.mem_append_right _ (List.mem_cons_of_mem _ (List.mem_cons_of_mem _ (List.mem_cons_of_mem _ (List.mem_cons_of_mem _ (List.mem_cons_self)))))))) (Sub.trans (Sub.trans (Sub.trans (Sub.trans (Sub.trans (Sub.trans (Sub.trans (Sub.trans (Sub.refl _) (Sub.cons _ _)) (Sub.cons _ _)) (Sub.cons _ _)) (Sub.cons _ _)) (Sub.cons _ _)) (fun _ h => List.mem_append_right _ h)) (Sub.cons _ _)) (fun _ h => List.mem_append_right _ h))))))
                        have r71 := hO152.sl u71 (NotIn.cons q3_hO152 (NotIn.cons q7_hO152 (NotIn.cons q14_hO152 (NotIn.cons q10_hO152 (hO152.notin (fun b hb => Nat.lt_of_lt_of_le (hX0 b hb) zr40))))))
                        replace hXo := hXo.less u71
                        replace hl := hl.less u71
                        replace hb := hb.less u71
                        replace hf := hf.less u71
                        replace h4 := h4.less u71
                        replace h5 := h5.less u71
                        replace r8 := r8.less u71
                        replace r11 := r11.less u71
                        replace hb113 := hb113.less u71
                        replace hf113 := hf113.less u71
                        replace hs144 := hs144.less u71
                        replace r65 := r65.less u71
                        refine r_ready [7] (by kernel_rfl) rfl (all_cons ⟨_, _, _, _, _, _, rfl, ?_⟩ all_nil)
                        refine  (o_pv (.slice a152 ((B ++ ([(l[i]).s])).length) c152) rfl (by kernel_rfl) ?_)
                        refine ⟨fun h => absurd h (by decide), ?_⟩
                        refine r_done (by kernel_rfl) ?_
                        refine then_normal ?_
                        refine meet_ [(4, (.slice a152 ((B ++ ([(l[i]).s])).length) c152))] (by kernel_rfl) ?_
                        exact ⟨(b3 :: b7 :: b14 :: b10 :: X), a152, c152, rfl, (Sub.of_cons (List.mem_cons_self) (Sub.of_cons (List.mem_cons_of_mem _ (List.mem_cons_self)) (Sub.of_cons (List.mem_cons_of_mem _ (List.mem_cons_of_mem _ (List.mem_cons_self))) (Sub.of_cons (List.mem_cons_of_mem _ (List.mem_cons_of_mem _ (List.mem_cons_of_mem _ (List.mem_cons_self)))) (Sub.trans (Sub.trans (Sub.trans (Sub.trans (Sub.refl _) (Sub.cons _ _)) (Sub.cons _ _)) (Sub.cons _ _)) (Sub.cons _ _)))))), E0, hXo, hl, k3, hb, hf, h4, h5, k7, r8, r11, hb113, hf113, k14, k10, hs144, r65, r71⟩
                      ·
                        refine  (o_row [(.string ((l[i]).s))] 9 1 rfl (by kernel_rfl) ?_)
                        replace k3 := (k3.evo0 e67)
                        replace k7 := (k7.evo0 e67)
                        replace k14 := (k14.evo0 e67)
                        replace k10 := (k10.evo0 e67)
                        rintro b151 w61 hb151 e72 k151
                        have n151 : w.heap.size ≤ b151 := Nat.le_trans (Evo.then0 E0 e67).size (Nat.le_of_eq hb151.symm)
                        have n151r : w55.heap.size ≤ b151 := by have := e67.size; omega
                        have l3_151 : b3 < b151 := Nat.lt_of_lt_of_eq k3.lt hb151.symm
                        have l7_151 : b7 < b151 := Nat.lt_of_lt_of_eq k7.lt hb151.symm
                        have l14_151 : b14 < b151 := Nat.lt_of_lt_of_eq k14.lt hb151.symm
                        have l10_151 : b10 < b151 := Nat.lt_of_lt_of_eq k10.lt hb151.symm
                        have l146_151 : b146 < b151 := Nat.lt_of_lt_of_eq k146.lt hb151.symm
                        have s72 := Step.fresh (b146 :: b3 :: b7 :: b14 :: b10 :: X) e72 b151 (Nat.le_of_eq hb151.symm) k151.lt
                        refine ⟨fun _ => RB.mono e72 (by have := e67.size; have := e72.size; omega) (fun _ h => by cases h), ?_⟩
                        refine r_ready [2] (by kernel_rfl) rfl (all_cons ⟨_, _, _, _, _, _, rfl, ?_⟩ all_nil)
                        replace k146 := (k146.evo0 e72)
                        have o148 : Own rStr (b151 :: b146 :: b3 :: b7 :: b14 :: b10 :: X) w61 (w55.heap.size) 9 (some ⟨b146, 0, none⟩) 0 [] := k146.own (List.mem_cons_of_mem _ (List.mem_cons_self)) Flat.nil 0 rfl (by decide) n146r
                        have q3_o148 : b3 ∉ blkL (some ⟨b146, 0, none⟩) := by simp [blkL]; omega
                        have q7_o148 : b7 ∉ blkL (some ⟨b146, 0, none⟩) := by simp [blkL]; omega
                        have q14_o148 : b14 ∉ blkL (some ⟨b146, 0, none⟩) := by simp [blkL]; omega
                        have q10_o148 : b10 ∉ blkL (some ⟨b146, 0, none⟩) := by simp [blkL]; omega
                        have q151_o148 : b151 ∉ blkL (some ⟨b146, 0, none⟩) := by simp [blkL]; omega
                        replace h4 := (((h4.step s66).step s67).step s72)
                        replace k3 := (k3.evo0 e72)
                        replace k7 := (k7.evo0 e72)
                        replace k14 := (k14.evo0 e72)
                        replace k10 := (k10.evo0 e72)
                        refine  (o_append (R := rStr) rfl elT24 rfl o148 h4.src (by kernel_rfl) (by kernel_rfl) rfl rfl (by first | omega | (simp <;> omega)) ?_)
                        intro a148 c148 w62 X73 s73 hX73 hn73 hO148
                        rw [show ([]) ++ B = B from by simp] at hO148 ⊢
                        subst hX73
                        have hl148 : B.length = 0 + B.length := by simp
                        have q3_hO148 : b3 ∉ blkL a148 := fun h => (hn73 _ h).elim q3_o148 (fun e => by have := k3.lt; omega)
                        have q7_hO148 : b7 ∉ blkL a148 := fun h => (hn73 _ h).elim q7_o148 (fun e => by have := k7.lt; omega)
                        have q14_hO148 : b14 ∉ blkL a148 := fun h => (hn73 _ h).elim q14_o148 (fun e => by have := k14.lt; omega)
                        have q10_hO148 : b10 ∉ blkL a148 := fun h => (hn73 _ h).elim q10_o148 (fun e => by have := k10.lt; omega)
                        have q151_hO148 : b151 ∉ blkL a148 := fun h => (hn73 _ h).elim q151_o148 (fun e => by have := k151.lt; omega)
                        have p73 := o148
                        refine ⟨fun _ => RB.mono s73.evo (by have := e67.size; have := e72.size; have := s73.evo.size; omega) (fun x hx => .inr (p73.lt x hx).1), ?_⟩
                        refine r_ready [6] (by kernel_rfl) rfl (all_cons ⟨_, _, _, _, _, _, rfl, ?_⟩ all_nil)
                        replace k151 := (k151.evo s73.evo (q151_o148))
                        replace k3 := (k3.evo s73.evo (q3_o148))
                        replace k7 := (k7.evo s73.evo (q7_o148))
                        replace k14 := (k14.evo s73.evo (q14_o148))
                        replace k10 := (k10.evo s73.evo (q10_o148))
                        refine  (o_append (R := rStr) rfl elT24 rfl hO148 (k151.src (c := 1) (Flat.cons1 ⟨rfl, hz31⟩ Flat.nil)) (by kernel_rfl) (by kernel_rfl) rfl rfl (by first | omega | (simp <;> omega)) ?_)
                        intro a152 c152 w63 X74 s74 hX74 hn74 hO152
                        subst hX74
                        have hl152 : (B ++ ([(l[i]).s])).length = B.length + 1 := by simp
                        have q3_hO152 : b3 ∉ blkL a152 := fun h => (hn74 _ h).elim q3_hO148 (fun e => by have := k3.lt; omega)
                        have q7_hO152 : b7 ∉ blkL a152 := fun h => (hn74 _ h).elim q7_hO148 (fun e => by have := k7.lt; omega)
                        have q14_hO152 : b14 ∉ blkL a152 := fun h => (hn74 _ h).elim q14_hO148 (fun e => by have := k14.lt; omega)
                        have q10_hO152 : b10 ∉ blkL a152 := fun h => (hn74 _ h).elim q10_hO148 (fun e => by have := k10.lt; omega)
                        have p74 := hO148
                        refine ⟨fun _ => RB.mono s74.evo (by have := e67.size; have := e72.size; have := s73.evo.size; have := s74.evo.size; omega) (fun x hx => .inr (p74.lt x hx).1), ?_⟩
                        replace E0 := (Evo.thenO (Evo.thenO (Evo.then0 (Evo.then0 E0 e67) e72) s73.evo p73 zr40) s74.evo p74 zr40)
                        replace hXo := (((((hXo.step s66).step s67).step s72).step s73).step s74)
                        replace hl := (((((hl.step s66).step s67).step s72).step s73).step s74)
                        replace k3 := (k3.evo s74.evo (q3_hO148))
                        replace hb := (((((hb.step s66).step s67).step s72).step s73).step s74)
                        replace hf := (((((hf.step s66).step s67).step s72).step s73).step s74)
                        replace h4 := ((h4.step s73).step s74)
                        replace h5 := (((((h5.step s66).step s67).step s72).step s73).step s74)
                        replace k7 := (k7.evo s74.evo (q7_hO148))
                        replace r8 := (((((r8.step s66).step s67).step s72).step s73).step s74)
                        replace r11 := (((((r11.step s66).step s67).step s72).step s73).step s74)
                        replace hb113 := (((((hb113.step s66).step s67).step s72).step s73).step s74)
                        replace hf113 := (((((hf113.step s66).step s67).step s72).step s73).step s74)
                        replace k14 := (k14.evo s74.evo (q14_hO148))
                        replace k10 := (k10.evo s74.evo (q10_hO148))
                        replace hs144 := (((((hs144.step s66).step s67).step s72).step s73).step s74)
                        replace r65 := (((((r65.step s66).step s67).step s72).step s73).step s74)
                        have u75 : Sub (b3 :: b7 :: b14 :: b10 :: X) (blkL a152 ++ (blkL a148 ++ (b151 :: b146 :: b3 :: b7 :: b14 :: b10 :: X))) := (Sub.of_cons (List.mem_append_right _ (List.mem_append_right _ (List.mem_cons_of_mem _ (List.mem_cons_of_mem _ (List.mem_cons_self))))) (Sub.of_cons (List.mem_append_right _ (List.mem_append_right _ (List.mem_cons_of_mem _ (List.mem_cons_of_mem _ (List.mem_cons_of_mem _ (List.mem_cons_self)))))) (Sub.of_cons (List.mem_append_right _ (List.mem_append_right _ (List.mem_cons_of_mem _ (List.mem_cons_of_mem _ (List.mem_cons_of_mem _ (List.mem_cons_of_mem _ (List.mem_cons_self))))))) (Sub.of_cons (List.mem_append_right _ (List.mem_append_right _ (List.mem_cons_of_mem _ (List.mem_cons_of_mem _ (List.mem_cons_of_mem _ (List.mem_cons_of_mem _ (List.mem_cons_of_mem _ (List.mem_cons_self)))))))) (Sub.trans (Sub.trans (Sub.trans (Sub.trans (Sub.trans (Sub.trans (Sub.trans (Sub.trans (Sub.refl _) (Sub.cons _ _)) (Sub.cons _ _)) (Sub.cons _ _)) (Sub.cons _ _)) (Sub.cons _ _)) (Sub.cons _ _)) (fun _ h => List.mem_append_right _ h)) (fun _ h => List.mem_append_right _ h))))))
                        have r75 := hO152.sl u75 (NotIn.cons q3_hO152 (NotIn.cons q7_hO152 (NotIn.cons q14_hO152 (NotIn.cons q10_hO152 (hO152.notin (fun b hb => Nat.lt_of_lt_of_le (hX0 b hb) zr40))))))
                        replace hXo := hXo.less u75
                        replace hl := hl.less u75
                        replace hb := hb.less u75
                        replace hf := hf.less u75
                        replace h4 := h4.less u75
                        replace h5 := h5.less u75
                        replace r8 := r8.less u75
                        replace r11 := r11.less u75
                        replace hb113 := hb113.less u75
                        replace hf113 := hf113.less u75
                        replace hs144 := hs144.less u75
                        replace r65 := r65.less u75
                        refine r_ready [7] (by kernel_rfl) rfl (all_cons ⟨_, _, _, _, _, _, rfl, ?_⟩ all_nil)
                        refine  (o_pv (.slice a152 ((B ++ ([(l[i]).s])).length) c152) rfl (by kernel_rfl) ?_)
                        refine ⟨fun h => absurd h (by decide), ?_⟩
                        refine r_done (by kernel_rfl) ?_
                        refine then_normal ?_
                        refine meet_ [(4, (.slice a152 ((B ++ ([(l[i]).s])).length) c152))] (by kernel_rfl) ?_
                        exact ⟨(b3 :: b7 :: b14 :: b10 :: X), a152, c152, rfl, (Sub.of_cons (List.mem_cons_self) (Sub.of_cons (List.mem_cons_of_mem _ (List.mem_cons_self)) (Sub.of_cons (List.mem_cons_of_mem _ (List.mem_cons_of_mem _ (List.mem_cons_self))) (Sub.of_cons (List.mem_cons_of_mem _ (List.mem_cons_of_mem _ (List.mem_cons_of_mem _ (List.mem_cons_self)))) (Sub.trans (Sub.trans (Sub.trans (Sub.trans (Sub.refl _) (Sub.cons _ _)) (Sub.cons _ _)) (Sub.cons _ _)) (Sub.cons _ _)))))), E0, hXo, hl, k3, hb, hf, h4, h5, k7, r8, r11, hb113, hf113, k14, k10, hs144, r65, r75⟩
                    ·
                      refine  (o_row [(.string ((l[i]).s))] 9 1 rfl (by kernel_rfl) ?_)
                      rintro b151 w64 hb151 e76 k151
                      have n151 : w.heap.size ≤ b151 := Nat.le_trans E0.size (Nat.le_of_eq hb151.symm)
                      have n151r : w55.heap.size ≤ b151 := by omega
                      have l3_151 : b3 < b151 := Nat.lt_of_lt_of_eq k3.lt hb151.symm
                      have l7_151 : b7 < b151 := Nat.lt_of_lt_of_eq k7.lt hb151.symm
                      have l14_151 : b14 < b151 := Nat.lt_of_lt_of_eq k14.lt hb151.symm
                      have l10_151 : b10 < b151 := Nat.lt_of_lt_of_eq k10.lt hb151.symm
                      have s76 := Step.fresh (b3 :: b7 :: b14 :: b10 :: X) e76 b151 (Nat.le_of_eq hb151.symm) k151.lt
                      refine ⟨fun _ => RB.mono e76 (by have := e76.size; omega) (fun _ h => by cases h), ?_⟩
                      refine r_ready [0] (by kernel_rfl) rfl (all_cons ⟨_, _, _, _, _, _, rfl, ?_⟩ all_nil)
                      refine  (o_row [] 9 0 rfl (by kernel_rfl) ?_)
                      replace k3 := (k3.evo0 e76)
                      replace k7 := (k7.evo0 e76)
                      replace k14 := (k14.evo0 e76)
                      replace k10 := (k10.evo0 e76)
                      rintro b146 w65 hb146 e77 k146
                      have n146 : w.heap.size ≤ b146 := Nat.le_trans (Evo.then0 E0 e76).size (Nat.le_of_eq hb146.symm)
                      have n146r : w55.heap.size ≤ b146 := by have := e76.size; omega
                      have l3_146 : b3 < b146 := Nat.lt_of_lt_of_eq k3.lt hb146.symm
                      have l7_146 : b7 < b146 := Nat.lt_of_lt_of_eq k7.lt hb146.symm
                      have l14_146 : b14 < b146 := Nat.lt_of_lt_of_eq k14.lt hb146.symm
                      have l10_146 : b10 < b146 := Nat.lt_of_lt_of_eq k10.lt hb146.symm
                      have l151_146 : b151 < b146 := Nat.lt_of_lt_of_eq k151.lt hb146.symm
                      have s77 := Step.fresh (b151 :: b3 :: b7 :: b14 :: b10 :: X) e77 b146 (Nat.le_of_eq hb146.symm) k146.lt
                      refine ⟨fun _ => RB.mono e77 (by have := e76.size; have := e77.size; omega) (fun _ h => by cases h), ?_⟩
                      refine r_ready [2] (by kernel_rfl) rfl (all_cons ⟨_, _, _, _, _, _, rfl, ?_⟩ all_nil)
                      have o148 : Own rStr (b146 :: b151 :: b3 :: b7 :: b14 :: b10 :: X) w65 (w55.heap.size) 9 (some ⟨b146, 0, none⟩) 0 [] := k146.own (List.mem_cons_self) Flat.nil 0 rfl (by decide) n146r
                      have q3_o148 : b3 ∉ blkL (some ⟨b146, 0, none⟩) := by simp [blkL]; omega
                      have q7_o148 : b7 ∉ blkL (some ⟨b146, 0, none⟩) := by simp [blkL]; omega
                      have q14_o148 : b14 ∉ blkL (some ⟨b146, 0, none⟩) := by simp [blkL]; omega
                      have q10_o148 : b10 ∉ blkL (some ⟨b146, 0, none⟩) := by simp [blkL]; omega
                      have q151_o148 : b151 ∉ blkL (some ⟨b146, 0, none⟩) := by simp [blkL]; omega
                      replace h4 := (((h4.step s66).step s76).step s77)
                      replace k3 := (k3.evo0 e77)
                      replace k7 := (k7.evo0 e77)
                      replace k14 := (k14.evo0 e77)
                      replace k10 := (k10.evo0 e77)
                      replace k151 := (k151.evo0 e77)
                      refine  (o_append (R := rStr) rfl elT24 rfl o148 h4.src (by kernel_rfl) (by kernel_rfl) rfl rfl (by first | omega | (simp <;> omega)) ?_)
                      intro a148 c148 w66 X78 s78 hX78 hn78 hO148
                      rw [show ([]) ++ B = B from by simp] at hO148 ⊢
                      subst hX78
                      have hl148 : B.length = 0 + B.length := by simp
                      have q3_hO148 : b3 ∉ blkL a148 := fun h => (hn78 _ h).elim q3_o148 (fun e => by have := k3.lt; omega)
                      have q7_hO148 : b7 ∉ blkL a148 := fun h => (hn78 _ h).elim q7_o148 (fun e => by have := k7.lt; omega)
                      have q14_hO148 : b14 ∉ blkL a148 := fun h => (hn78 _ h).elim q14_o148 (fun e => by have := k14.lt; omega)
                      have q10_hO148 : b10 ∉ blkL a148 := fun h => (hn78 _ h).elim q10_o148 (fun e => by have := k10.lt; omega)
                      have q151_hO148 : b151 ∉ blkL a148 := fun h => (hn78 _ h).elim q151_o148 (fun e => by have := k151.lt; omega)
                      have p78 := o148
                      refine ⟨fun _ => RB.mono s78.evo (by have := e76.size; have := e77.size; have := s78.evo.size; omega) (fun x hx => .inr (p78.lt x hx).1), ?_⟩
                      refine r_ready [6] (by kernel_rfl) rfl (all_cons ⟨_, _, _, _, _, _, rfl, ?_⟩ all_nil)
                      replace k151 := (k151.evo s78.evo (q151_o148))
                      replace k3 := (k3.evo s78.evo (q3_o148))
                      replace k7 := (k7.evo s78.evo (q7_o148))
                      replace k14 := (k14.evo s78.evo (q14_o148))
                      replace k10 := (k10.evo s78.evo (q10_o148))
                      refine  (o_append (R := rStr) rfl elT24 rfl hO148 (k151.src (c := 1) (Flat.cons1 ⟨rfl, hz31⟩ Flat.nil)) (by kernel_rfl) (by kernel_rfl) rfl rfl (by first | omega | (simp <;> omega)) ?_)
                      intro a152 c152 w67 X79 s79 hX79 hn79 hO152
                      subst hX79
                      have hl152 : (B ++ ([(l[i]).s])).length = B.length + 1 := by simp
                      have q3_hO152 : b3 ∉ blkL a152 := fun h => (hn79 _ h).elim q3_hO148 (fun e => by have := k3.lt; omega)
                      have q7_hO152 : b7 ∉ blkL a152 := fun h => (hn79 _ h).elim q7_hO148 (fun e => by have := k7.lt; omega)
                      have q14_hO152 : b14 ∉ blkL a152 := fun h => (hn79 _ h).elim q14_hO148 (fun e => by have := k14.lt; omega)
                      have q10_hO152 : b10 ∉ blkL a152 := fun h => (hn79 _ h).elim q10_hO148 (fun e => by have := k10.lt; omega)
                      have p79 := hO148
                      refine ⟨fun _ => RB.mono s79.evo (by have := e76.size; have := e77.size; have := s78.evo.size; have := s79.evo.size; omega) (fun x hx => .inr (p79.lt x hx).1), ?_⟩
                      replace E0 := (Evo.thenO (Evo.thenO (Evo.then0 (Evo.then0 E0 e76) e77) s78.evo p78 zr40) s79.evo p79 zr40)
                      replace hXo := (((((hXo.step s66).step s76).step s77).step s78).step s79)
                      replace hl := (((((hl.step s66).step s76).step s77).step s78).step s79)
                      replace k3 := (k3.evo s79.evo (q3_hO148))
                      replace hb := (((((hb.step s66).step s76).step s77).step s78).step s79)
                      replace hf := (((((hf.step s66).step s76).step s77).step s78).step s79)
                      replace h4 := ((h4.step s78).step s79)
                      replace h5 := (((((h5.step s66).step s76).step s77).step s78).step s79)
                      replace k7 := (k7.evo s79.evo (q7_hO148))
                      replace r8 := (((((r8.step s66).step s76).step s77).step s78).step s79)
                      replace r11 := (((((r11.step s66).step s76).step s77).step s78).step s79)
                      replace hb113 := (((((hb113.step s66).step s76).step s77).step s78).step s79)
                      replace hf113 := (((((hf113.step s66).step s76).step s77).step s78).step s79)
                      replace k14 := (k14.evo s79.evo (q14_hO148))
                      replace k10 := (k10.evo s79.evo (q10_hO148))
                      replace hs144 := (((((hs144.step s66).step s76).step s77).step s78).step s79)
                      replace r65 := (((((r65.step s66).step s76).step s77).step s78).step s79)
                      have u80 : Sub (b3 :: b7 :: b14 :: b10 :: X) (blkL a152 ++ (blkL a148 ++ (b146 :: b151 :: b3 :: b7 :: b14 :: b10 :: X))) := (Sub.of_cons (List.mem_append_right _ (List.mem_append_right _ (List.mem_cons_of_mem _ (List.mem_cons_of_mem _ (List.mem_cons_self))))) (Sub.of_cons (List.mem_append_right _ (List.mem_append_right _ (List.mem_cons_of_mem _ (List.mem_cons_of_mem _ (List.mem_cons_of_mem _ (List.mem_cons_self)))))) (Sub.of_cons (List.mem_append_right _ (List.mem_append_right _ (List.mem_cons_of_mem _ (List.mem_cons_of_mem _ (List.mem_cons_of_mem _ (List.mem_cons_of_mem _ (List.mem_cons_self))))))) (Sub.of_cons (List.mem_append_right _ (List.mem_append_right _ (List.mem_cons_of_mem _ (List.mem_cons_of_mem _ (List.mem_cons_of_mem _ (List.mem_cons_of_mem _ (List.mem_cons_of_mem _ (List.mem_cons_self)))))))) (Sub.trans (Sub.trans (Sub.trans (Sub.trans (Sub.trans (Sub.trans (Sub.trans (Sub.trans (Sub.refl _) (Sub.cons _ _)) (Sub.cons _ _)) (Sub.cons _ _)) (Sub.cons _ _)) (Sub.cons _ _)) (Sub.cons _ _)) (fun _ h => List.mem_append_right _ h)) (fun _ h => List.mem_append_right _ h))))))
                      have r80 := hO152.sl u80 (NotIn.cons q3_hO152 (NotIn.cons q7_hO152 (NotIn.cons q14_hO152 (NotIn.cons q10_hO152 (hO152.notin (fun b hb => Nat.lt_of_lt_of_le (hX0 b hb) zr40))))))
                      replace hXo := hXo.less u80
                      replace hl := hl.less u80
                      replace hb := hb.less u80
                      replace hf := hf.less u80
                      replace h4 := h4.less u80
                      replace h5 := h5.less u80
                      replace r8 := r8.less u80
                      replace r11 := r11.less u80
                      replace hb113 := hb113.less u80
                      replace hf113 := hf113.less u80
                      replace hs144 := hs144.less u80
                      replace r65 := r65.less u80
                      refine r_ready [7] (by kernel_rfl) rfl (all_cons ⟨_, _, _, _, _, _, rfl, ?_⟩ all_nil)
                      refine  (o_pv (.slice a152 ((B ++ ([(l[i]).s])).length) c152) rfl (by kernel_rfl) ?_)
                      refine ⟨fun h => absurd h (by decide), ?_⟩
                      refine r_done (by kernel_rfl) ?_
                      refine then_normal ?_
                      refine meet_ [(4, (.slice a152 ((B ++ ([(l[i]).s])).length) c152))] (by kernel_rfl) ?_
                      exact ⟨(b3 :: b7 :: b14 :: b10 :: X), a152, c152, rfl, (Sub.of_cons (List.mem_cons_self) (Sub.of_cons (List.mem_cons_of_mem _ (List.mem_cons_self)) (Sub.of_cons (List.mem_cons_of_mem _ (List.mem_cons_of_mem _ (List.mem_cons_self))) (Sub.of_cons (List.mem_cons_of_mem _ (List.mem_cons_of_mem _ (List.mem_cons_of_mem _ (List.mem_cons_self)))) (Sub.trans (Sub.trans (Sub.trans (Sub.trans (Sub.refl _) (Sub.cons _ _)) (Sub.cons _ _)) (Sub.cons _ _)) (Sub.cons _ _)))))), E0, hXo, hl, k3, hb, hf, h4, h5, k7, r8, r11, hb113, hf113, k14, k10, hs144, r65, r80⟩
                  ·
                    rintro lj4 wj4 gj4 ⟨Xj4, aq, cq, rfl, hXj4, E0, hXo, hl, k3, hb, hf, h4, h5, k7, r8, r11, hb113, hf113, k14, k10, hs144, r65, hq4⟩
                    refine blk_normal ?_
                    refine then_normal ?_
                    refine meet_ [(4, (.slice aq ((B ++ [(l[i]).s]).length) cq)), (5, (.slice a145 K.length c145))] (by kernel_rfl) ?_
                    exact ⟨Xj4, (B ++ [(l[i]).s]), K, (pushL B (l[i]).s), a1_113, a2_113, aq, a145, c1_113, c2_113, cq, c145, rfl, (Sub.of_cons (hXj4 _ (List.mem_cons_self)) (Sub.of_cons (hXj4 _ (List.mem_cons_of_mem _ (List.mem_cons_self))) (Sub.of_cons (hXj4 _ (List.mem_cons_of_mem _ (List.mem_cons_of_mem _ (List.mem_cons_of_mem _ (List.mem_cons_self))))) (Sub.trans (Sub.trans (Sub.trans (Sub.trans (Sub.trans (Sub.refl _) (Sub.cons _ _)) (Sub.cons _ _)) (Sub.cons _ _)) (Sub.cons _ _)) hXj4)))), E0, hXo, hl, k3, k7, hb, hf, r8, r11, k10, hb113, hf113, hq4, r65, (by first | (simp [pushL]; done) | (rw [show (B ++ [(l[i]).s]).length - 64 = 0 from by first | omega | (simp <;> omega)]; rfl)), (by first | omega | (simp <;> omega)), (by first | omega | (simp <;> omega))⟩
              ·
                refine wp_skip ?_
                refine blk_normal ?_
                refine then_normal ?_
                refine meet_ [(4, (.slice a4 B.length c4)), (5, (.slice a5 F.length c5))] (by kernel_rfl) ?_
                exact ⟨(b10 :: b3 :: b7 :: X), B, F, B, ab, af, a4, a5, cb, cf, c4, c5, rfl, (Sub.of_cons (List.mem_cons_of_mem _ (List.mem_cons_self)) (Sub.of_cons (List.mem_cons_of_mem _ (List.mem_cons_of_mem _ (List.mem_cons_self))) (Sub.of_cons (List.mem_cons_self) (Sub.trans (Sub.trans (Sub.trans (Sub.refl _) (Sub.cons _ _)) (Sub.cons _ _)) (Sub.cons _ _))))), E0, hXo, hl, k3, k7, hb, hf, r8, r11, k10, hb, hf, h4, h5, (by first | (simp [pushL]; done) | (rw [show B.length - 64 = 0 from by first | omega | (simp <;> omega)]; rfl)), (by first | omega | (simp <;> omega)), (by first | omega | (simp <;> omega))⟩
        ·
          rintro lj1 wj1 gj1 ⟨Xj1, NB, NF, HB, ah, ag, a4n, a5n, ch, cg, c4n, c5n, rfl, hXj1, E0, hXo, hl, k3, k7, hb, hf, r8, r11, k10, hh, hg, h4n, h5n, hHB, hNB, hNF⟩
          refine then_normal ?_
          refine seq_ ?_
          refine seq_ ?_
          refine reg_ ?_
          refine sq (o_pv (.slice a4n NB.length c4n) rfl (by kernel_rfl) ?_)
          refine sq (o_pv (.int .i64 ((NB.length : Nat) : Int)) rfl (by kernel_rfl) ?_)
          refine sq (o_pv (.bool (decide (((NB.length : Nat) : Int) > 64))) rfl (by kernel_rfl) ?_)
          refine nil_ ?_
          refine then_normal ?_
          refine cond_d (((NB.length : Nat) : Int) > 64) (by kernel_rfl) (fun h155 => ?_) (fun h155 => ?_)
          ·
            have hHe : HB = NB.drop 1 := by rw [hHB, show NB.length - 64 = 1 from by omega]
            refine reg_ ?_
            refine sq (o_row [] 9 0 rfl (by kernel_rfl) ?_)
            rintro b156 w68 hb156 e81 k156
            have n156 : w.heap.size ≤ b156 := Nat.le_trans E0.size (Nat.le_of_eq hb156.symm)
            have l3_156 : b3 < b156 := Nat.lt_of_lt_of_eq k3.lt hb156.symm
            have l7_156 : b7 < b156 := Nat.lt_of_lt_of_eq k7.lt hb156.symm
            have l10_156 : b10 < b156 := Nat.lt_of_lt_of_eq k10.lt hb156.symm
            have s81 := Step.fresh Xj1 e81 b156 (Nat.le_of_eq hb156.symm) k156.lt
            refine sq (o_pv (.slice a4n NB.length c4n) rfl (by kernel_rfl) ?_)
            replace h4n := (h4n.step s81)
            refine sq (o_slice 1 NB.length (NB.drop 1) rfl Try.underlying24 Try.sizeOf9 h4n (by kernel_rfl) rfl (.inr ⟨.i64, by kernel_rfl⟩) (.inl ⟨rfl, rfl, rfl⟩) (by omega) (by first | omega | simp) (by rw [List.take_length]) ?_)
            intro a158 c158 hs158
            have o159 : Own rStr (b156 :: Xj1) w68 (w.heap.size) 9 (some ⟨b156, 0, none⟩) 0 [] := k156.own (List.mem_cons_self) Flat.nil 0 rfl (by decide) n156
            have q3_o159 : b3 ∉ blkL (some ⟨b156, 0, none⟩) := by simp [blkL]; omega
            have q7_o159 : b7 ∉ blkL (some ⟨b156, 0, none⟩) := by simp [blkL]; omega
            have q10_o159 : b10 ∉ blkL (some ⟨b156, 0, none⟩) := by simp [blkL]; omega
            replace k3 := (k3.evo0 e81)
            replace k7 := (k7.evo0 e81)
            replace k10 := (k10.evo0 e81)
            refine sq (o_append (R := rStr) rfl elT24 rfl o159 hs158.src (by kernel_rfl) (by kernel_rfl) rfl rfl (by first | omega | (simp <;> omega)) ?_)
            intro a159 c159 w69 X82 s82 hX82 hn82 hO159
            rw [show ([]) ++ (NB.drop 1) = NB.drop 1 from by simp] at hO159 ⊢
            subst hX82
            have hl159 : (NB.drop 1).length = 0 + (NB.drop 1).length := by simp
            have q3_hO159 : b3 ∉ blkL a159 := fun h => (hn82 _ h).elim q3_o159 (fun e => by have := k3.lt; omega)
            have q7_hO159 : b7 ∉ blkL a159 := fun h => (hn82 _ h).elim q7_o159 (fun e => by have := k7.lt; omega)
            have q10_hO159 : b10 ∉ blkL a159 := fun h => (hn82 _ h).elim q10_o159 (fun e => by have := k10.lt; omega)
            have p82 := o159
            replace E0 := (Evo.thenO (Evo.then0 E0 e81) s82.evo p82 (Nat.le_refl _))
            replace hXo := ((hXo.step s81).step s82)
            replace hl := ((hl.step s81).step s82)
            replace k3 := (k3.evo s82.evo (q3_o159))
            replace k7 := (k7.evo s82.evo (q7_o159))
            replace hb := ((hb.step s81).step s82)
            replace hf := ((hf.step s81).step s82)
            replace r8 := ((r8.step s81).step s82)
            replace r11 := ((r11.step s81).step s82)
            replace k10 := (k10.evo s82.evo (q10_o159))
            replace hh := ((hh.step s81).step s82)
            replace hg := ((hg.step s81).step s82)
            replace h4n := (h4n.step s82)
            replace h5n := ((h5n.step s81).step s82)
            replace hs158 := (hs158.step s82)
            have u83 : Sub (b3 :: b7 :: b10 :: X) (blkL a159 ++ (b156 :: Xj1)) := (Sub.of_cons (List.mem_append_right _ (List.mem_cons_of_mem _ (hXj1 _ (List.mem_cons_self)))) (Sub.of_cons (List.mem_append_right _ (List.mem_cons_of_mem _ (hXj1 _ (List.mem_cons_of_mem _ (List.mem_cons_self))))) (Sub.of_cons (List.mem_append_right _ (List.mem_cons_of_mem _ (hXj1 _ (List.mem_cons_of_mem _ (List.mem_cons_of_mem _ (List.mem_cons_self)))))) (Sub.trans (Sub.trans (Sub.trans (Sub.trans (Sub.trans (Sub.trans (Sub.refl _) (Sub.cons _ _)) (Sub.cons _ _)) (Sub.cons _ _)) hXj1) (Sub.cons _ _)) (fun _ h => List.mem_append_right _ h)))))
            have r83 := hO159.sl u83 (NotIn.cons q3_hO159 (NotIn.cons q7_hO159 (NotIn.cons q10_hO159 (hO159.notin hX0))))
            replace hXo := hXo.less u83
            replace hl := hl.less u83
            replace hb := hb.less u83
            replace hf := hf.less u83
            replace r8 := r8.less u83
            replace r11 := r11.less u83
            replace hh := hh.less u83
            replace hg := hg.less u83
            replace h4n := h4n.less u83
            replace h5n := h5n.less u83
            replace hs158 := hs158.less u83
            refine sq (o_pv (.slice a159 ((NB.drop 1).length) c159) rfl (by kernel_rfl) ?_)
            refine nil_ ?_
            refine then_normal ?_
            refine seq_ ?_
            refine seq_ ?_
            refine reg_ ?_
            refine sq (o_pv (.pointer (some ⟨b3, 0, none⟩)) rfl (by kernel_rfl) ?_)
            refine sq (o_pv (.slice ab B.length cb) rfl (x_load1 (by kernel_rfl) Try.isAgg24 (k3.cell' 0 rfl)) ?_)
            refine sq (o_pv (.slice a40 B.length c40) rfl (by kernel_rfl) ?_)
            refine sq (o_call 10 #[(.slice ab B.length cb), (.slice a40 B.length c40)] rfl (x_call Try.call10 (by kernel_rfl)) (Texts_w (L := B) (M := B) (decide_eq_true rfl) hb r8) ?_)
            rintro _ w70 ⟨e84, rfl⟩
            have s84 := Step.of0 (b3 :: b7 :: b10 :: X) e84
            refine sq (o_pv (.bool false) rfl (by kernel_rfl) ?_)
            refine sq (o_pv (.bool false) rfl (by kernel_rfl) ?_)
            refine sq (o_pv (.pointer (some ⟨b3, 1, none⟩)) (by kernel_rfl) (by kernel_rfl) ?_)
            replace k3 := (k3.evo0 e84)
            refine sq (o_pv (.slice af F.length cf) (by kernel_rfl) (x_load1 (by kernel_rfl) Try.isAgg24 (k3.cell' 1 rfl)) ?_)
            refine sq (o_pv (.slice a44 F.length c44) (by kernel_rfl) (by kernel_rfl) ?_)
            replace hf := (hf.step s84)
            replace r11 := (r11.step s84)
            refine sq (o_call 10 #[(.slice af F.length cf), (.slice a44 F.length c44)] (by kernel_rfl) (x_call Try.call10 (by kernel_rfl)) (Texts_w (L := F) (M := F) (decide_eq_true rfl) hf r11) ?_)
            rintro _ w71 ⟨e85, rfl⟩
            have s85 := Step.of0 (b3 :: b7 :: b10 :: X) e85
            refine sq (o_pv (.bool false) (by kernel_rfl) (by kernel_rfl) ?_)
            refine sq (o_pv (.bool false) rfl (by kernel_rfl) ?_)
            refine sq (o_pv (.bool false) rfl (by kernel_rfl) ?_)
            refine sq (o_pv (.pointer (some ⟨b10, 0, none⟩)) (by kernel_rfl) (by kernel_rfl) ?_)
            replace k10 := ((k10.evo0 e84).evo0 e85)
            refine sq (o_pv (.slice ah HB.length ch) (by kernel_rfl) (x_load1 (by kernel_rfl) Try.isAgg24 (k10.cell' 0 rfl)) ?_)
            refine sq (o_pv (.slice a159 ((NB.drop 1).length) c159) (by kernel_rfl) (by kernel_rfl) ?_)
            replace hh := ((hh.step s84).step s85)
            replace r83 := ((r83.step s84).step s85)
            refine sq (o_call 10 #[(.slice ah HB.length ch), (.slice a159 ((NB.drop 1).length) c159)] (by kernel_rfl) (x_call Try.call10 (by kernel_rfl)) (Texts_w (L := HB) (M := NB.drop 1) (decide_eq_true hHe) hh r83) ?_)
            rintro _ w72 ⟨e86, rfl⟩
            have s86 := Step.of0 (b3 :: b7 :: b10 :: X) e86
            refine sq (o_pv (.bool false) (by kernel_rfl) (by kernel_rfl) ?_)
            refine sq (o_pv (.bool false) rfl (by kernel_rfl) ?_)
            refine sq (o_pv (.bool false) rfl (by kernel_rfl) ?_)
            refine sq (o_pv (.pointer (some ⟨b10, 1, none⟩)) (by kernel_rfl) (by kernel_rfl) ?_)
            replace k10 := (k10.evo0 e86)
            refine sq (o_pv (.slice ag NF.length cg) (by kernel_rfl) (x_load1 (by kernel_rfl) Try.isAgg24 (k10.cell' 1 rfl)) ?_)
            refine sq (o_pv (.slice a5n NF.length c5n) (by kernel_rfl) (by kernel_rfl) ?_)
            replace hg := (((hg.step s84).step s85).step s86)
            replace h5n := (((h5n.step s84).step s85).step s86)
            refine sq (o_call 10 #[(.slice ag NF.length cg), (.slice a5n NF.length c5n)] (by kernel_rfl) (x_call Try.call10 (by kernel_rfl)) (Texts_w (L := NF) (M := NF) (decide_eq_true rfl) hg h5n) ?_)
            rintro _ w73 ⟨e87, rfl⟩
            have s87 := Step.of0 (b3 :: b7 :: b10 :: X) e87
            refine sq (o_pv (.bool false) (by kernel_rfl) (by kernel_rfl) ?_)
            refine sq (o_pv (.bool false) rfl (by kernel_rfl) ?_)
            refine sq (o_pv (.bool false) rfl (by kernel_rfl) ?_)
            replace k10 := (k10.evo0 e87)
            refine sq (o_pv (.agg #[(.slice ah HB.length ch), (.slice ag NF.length cg)]) (by kernel_rfl) (x_loadN [(.slice ah HB.length ch), (.slice ag NF.length cg)] (by kernel_rfl) Try.isAgg26 Try.sizeOf26 (k10.cells' 0 rfl)) ?_)
            refine sq (o_pv (.slice a159 ((NB.drop 1).length) c159) (by kernel_rfl) (by kernel_rfl) ?_)
            refine sq (o_pv (.slice a5n NF.length c5n) (by kernel_rfl) (by kernel_rfl) ?_)
            refine sq (o_pv (.agg #[(.slice a159 ((NB.drop 1).length) c159), (.slice a5n NF.length c5n)]) (by kernel_rfl) (by kernel_rfl) ?_)
            replace hh := ((hh.step s86).step s87)
            replace hg := (hg.step s87)
            replace r83 := ((r83.step s86).step s87)
            replace h5n := (h5n.step s87)
            refine sq (o_call 11 #[(.agg #[(.slice ah HB.length ch), (.slice ag NF.length cg)]), (.agg #[(.slice a159 ((NB.drop 1).length) c159), (.slice a5n NF.length c5n)])] (by kernel_rfl) (x_call Try.call11 (by kernel_rfl)) (Same_w (Lb := HB) (Lf := NF) (Mb := NB.drop 1) (Mf := NF) (decide_eq_true ⟨hHe, rfl⟩) hh hg r83 h5n) ?_)
            rintro _ w74 ⟨e88, rfl⟩
            have s88 := Step.of0 (b3 :: b7 :: b10 :: X) e88
            refine sq (o_pv (.bool false) (by kernel_rfl) (by kernel_rfl) ?_)
            refine sq (o_pv (.bool false) rfl (by kernel_rfl) ?_)
            refine nil_ ?_
            refine then_normal ?_
            refine cond_f (by kernel_rfl) ?_
            refine wp_skip ?_
            refine then_normal ?_
            refine reg_ ?_
            replace k10 := (k10.evo0 e88)
            refine sq (o_pv (.agg #[(.slice ah HB.length ch), (.slice ag NF.length cg)]) rfl (x_loadN [(.slice ah HB.length ch), (.slice ag NF.length cg)] (by kernel_rfl) Try.isAgg26 Try.sizeOf26 (k10.cells' 0 rfl)) ?_)
            replace k3 := ((((k3.evo0 e85).evo0 e86).evo0 e87).evo0 e88)
            refine sq (o_store (o := 0) (v := (.agg #[(.slice ah HB.length ch), (.slice ag NF.length cg)])) [(.slice ah HB.length ch), (.slice ag NF.length cg)] rfl k3 (by kernel_rfl) (by kernel_rfl) Try.sizeOf26 rfl rfl rfl ?_)
            intro w75 e89 kn89
            have s89 := Step.one e89 (X := b3 :: b7 :: b10 :: X) (List.mem_cons_self)
            clear k3; have k3 := kn89
            refine nil_ ?_
            refine blk_normal ?_
            refine then_normal ?_
            refine reg_ ?_
            refine sq (o_pv (.int .i64 ((i : Nat) : Int)) rfl (by kernel_rfl) ?_)
            refine sq (o_pv (.int .i64 ((i + 1 : Nat) : Int)) rfl (x_add (a := ((i : Nat) : Int)) (b := 1) ((i + 1 : Nat) : Int) (by kernel_rfl) (by kernel_rfl) (by omega) (wrap_i64 (by omega) (by omega))) ?_)
            refine sq (o_pv (.int .i64 ((i + 1 : Nat) : Int)) rfl (by kernel_rfl) ?_)
            refine nil_ ?_
            refine then_normal ?_
            replace r83 := ((r83.step s88).step s89)
            have hB2 : (NB.drop 1).length ≤ 64 := by first | omega | (simp <;> omega)
            replace hh := ((hh.step s88).step s89)
            replace hg := ((hg.step s88).step s89)
            replace h5n := ((h5n.step s88).step s89)
            replace E0 := (Evo.then1 (Evo.then0 (Evo.then0 (Evo.then0 (Evo.then0 (Evo.then0 E0 e84) e85) e86) e87) e88) e89 n3)
            replace hXo := ((((((hXo.step s84).step s85).step s86).step s87).step s88).step s89)
            replace hl := ((((((hl.step s84).step s85).step s86).step s87).step s88).step s89)
            refine again_ (l.length - (i + 1)) [(6, (.int .i64 ((i + 1 : Nat) : Int))), (4, (.slice a159 ((NB.drop 1).length) c159)), (5, (.slice a5n NF.length c5n))] (by kernel_rfl) ?_ ?_
            · exact (by omega)
            · exact ⟨(b3 :: b7 :: b10 :: X), (i + 1), (NB.drop 1), NF, ah, ag, a159, a5n, ch, cg, c159, c5n, rfl, rfl, (Sub.of_cons (List.mem_cons_self) (Sub.trans (Sub.trans (Sub.trans (Sub.refl _) (Sub.cons _ _)) (Sub.cons _ _)) (Sub.cons _ _))), E0, hXo, hl, (by rw [← hHe]; exact k3), (by rw [← hHe]; exact hh), hg, r83, h5n, (by omega), hB2, (by omega)⟩
          ·
            have hHe : HB = NB := by rw [hHB, show NB.length - 64 = 0 from by omega]; rfl
            refine wp_skip ?_
            refine then_normal ?_
            refine seq_ ?_
            refine seq_ ?_
            refine reg_ ?_
            refine sq (o_pv (.pointer (some ⟨b3, 0, none⟩)) rfl (by kernel_rfl) ?_)
            refine sq (o_pv (.slice ab B.length cb) rfl (x_load1 (by kernel_rfl) Try.isAgg24 (k3.cell' 0 rfl)) ?_)
            refine sq (o_pv (.slice a40 B.length c40) rfl (by kernel_rfl) ?_)
            refine sq (o_call 10 #[(.slice ab B.length cb), (.slice a40 B.length c40)] rfl (x_call Try.call10 (by kernel_rfl)) (Texts_w (L := B) (M := B) (decide_eq_true rfl) hb r8) ?_)
            rintro _ w76 ⟨e90, rfl⟩
            have s90 := Step.of0 Xj1 e90
            refine sq (o_pv (.bool false) rfl (by kernel_rfl) ?_)
            refine sq (o_pv (.bool false) rfl (by kernel_rfl) ?_)
            refine sq (o_pv (.pointer (some ⟨b3, 1, none⟩)) (by kernel_rfl) (by kernel_rfl) ?_)
            replace k3 := (k3.evo0 e90)
            refine sq (o_pv (.slice af F.length cf) (by kernel_rfl) (x_load1 (by kernel_rfl) Try.isAgg24 (k3.cell' 1 rfl)) ?_)
            refine sq (o_pv (.slice a44 F.length c44) (by kernel_rfl) (by kernel_rfl) ?_)
            replace hf := (hf.step s90)
            replace r11 := (r11.step s90)
            refine sq (o_call 10 #[(.slice af F.length cf), (.slice a44 F.length c44)] (by kernel_rfl) (x_call Try.call10 (by kernel_rfl)) (Texts_w (L := F) (M := F) (decide_eq_true rfl) hf r11) ?_)
            rintro _ w77 ⟨e91, rfl⟩
            have s91 := Step.of0 Xj1 e91
            refine sq (o_pv (.bool false) (by kernel_rfl) (by kernel_rfl) ?_)
            refine sq (o_pv (.bool false) rfl (by kernel_rfl) ?_)
            refine sq (o_pv (.bool false) rfl (by kernel_rfl) ?_)
            refine sq (o_pv (.pointer (some ⟨b10, 0, none⟩)) (by kernel_rfl) (by kernel_rfl) ?_)
            replace k10 := ((k10.evo0 e90).evo0 e91)
            refine sq (o_pv (.slice ah HB.length ch) (by kernel_rfl) (x_load1 (by kernel_rfl) Try.isAgg24 (k10.cell' 0 rfl)) ?_)
            refine sq (o_pv (.slice a4n NB.length c4n) (by kernel_rfl) (by kernel_rfl) ?_)
            replace hh := ((hh.step s90).step s91)
            replace h4n := ((h4n.step s90).step s91)
            refine sq (o_call 10 #[(.slice ah HB.length ch), (.slice a4n NB.length c4n)] (by kernel_rfl) (x_call Try.call10 (by kernel_rfl)) (Texts_w (L := HB) (M := NB) (decide_eq_true hHe) hh h4n) ?_)
            rintro _ w78 ⟨e92, rfl⟩
            have s92 := Step.of0 Xj1 e92
            refine sq (o_pv (.bool false) (by kernel_rfl) (by kernel_rfl) ?_)
            refine sq (o_pv (.bool false) rfl (by kernel_rfl) ?_)
            refine sq (o_pv (.bool false) rfl (by kernel_rfl) ?_)
            refine sq (o_pv (.pointer (some ⟨b10, 1, none⟩)) (by kernel_rfl) (by kernel_rfl) ?_)
            replace k10 := (k10.evo0 e92)
            refine sq (o_pv (.slice ag NF.length cg) (by kernel_rfl) (x_load1 (by kernel_rfl) Try.isAgg24 (k10.cell' 1 rfl)) ?_)
            refine sq (o_pv (.slice a5n NF.length c5n) (by kernel_rfl) (by kernel_rfl) ?_)
            replace hg := (((hg.step s90).step s91).step s92)
            replace h5n := (((h5n.step s90).step s91).step s92)
            refine sq (o_call 10 #[(.slice ag NF.length cg), (.slice a5n NF.length c5n)] (by kernel_rfl) (x_call Try.call10 (by kernel_rfl)) (Texts_w (L := NF) (M := NF) (decide_eq_true rfl) hg h5n) ?_)
            rintro _ w79 ⟨e93, rfl⟩
            have s93 := Step.of0 Xj1 e93
            refine sq (o_pv (.bool false) (by kernel_rfl) (by kernel_rfl) ?_)
            refine sq (o_pv (.bool false) rfl (by kernel_rfl) ?_)
            refine sq (o_pv (.bool false) rfl (by kernel_rfl) ?_)
            replace k10 := (k10.evo0 e93)
            refine sq (o_pv (.agg #[(.slice ah HB.length ch), (.slice ag NF.length cg)]) (by kernel_rfl) (x_loadN [(.slice ah HB.length ch), (.slice ag NF.length cg)] (by kernel_rfl) Try.isAgg26 Try.sizeOf26 (k10.cells' 0 rfl)) ?_)
            refine sq (o_pv (.slice a4n NB.length c4n) (by kernel_rfl) (by kernel_rfl) ?_)
            refine sq (o_pv (.slice a5n NF.length c5n) (by kernel_rfl) (by kernel_rfl) ?_)
            refine sq (o_pv (.agg #[(.slice a4n NB.length c4n), (.slice a5n NF.length c5n)]) (by kernel_rfl) (by kernel_rfl) ?_)
            replace hh := ((hh.step s92).step s93)
            replace hg := (hg.step s93)
            replace h4n := ((h4n.step s92).step s93)
            replace h5n := (h5n.step s93)
            refine sq (o_call 11 #[(.agg #[(.slice ah HB.length ch), (.slice ag NF.length cg)]), (.agg #[(.slice a4n NB.length c4n), (.slice a5n NF.length c5n)])] (by kernel_rfl) (x_call Try.call11 (by kernel_rfl)) (Same_w (Lb := HB) (Lf := NF) (Mb := NB) (Mf := NF) (decide_eq_true ⟨hHe, rfl⟩) hh hg h4n h5n) ?_)
            rintro _ w80 ⟨e94, rfl⟩
            have s94 := Step.of0 Xj1 e94
            refine sq (o_pv (.bool false) (by kernel_rfl) (by kernel_rfl) ?_)
            refine sq (o_pv (.bool false) rfl (by kernel_rfl) ?_)
            refine nil_ ?_
            refine then_normal ?_
            refine cond_f (by kernel_rfl) ?_
            refine wp_skip ?_
            refine then_normal ?_
            refine reg_ ?_
            replace k10 := (k10.evo0 e94)
            refine sq (o_pv (.agg #[(.slice ah HB.length ch), (.slice ag NF.length cg)]) rfl (x_loadN [(.slice ah HB.length ch), (.slice ag NF.length cg)] (by kernel_rfl) Try.isAgg26 Try.sizeOf26 (k10.cells' 0 rfl)) ?_)
            replace k3 := ((((k3.evo0 e91).evo0 e92).evo0 e93).evo0 e94)
            refine sq (o_store (o := 0) (v := (.agg #[(.slice ah HB.length ch), (.slice ag NF.length cg)])) [(.slice ah HB.length ch), (.slice ag NF.length cg)] rfl k3 (by kernel_rfl) (by kernel_rfl) Try.sizeOf26 rfl rfl rfl ?_)
            intro w81 e95 kn95
            have s95 := Step.one e95 (X := Xj1) (hXj1 _ (List.mem_cons_self))
            clear k3; have k3 := kn95
            refine nil_ ?_
            refine blk_normal ?_
            refine then_normal ?_
            refine reg_ ?_
            refine sq (o_pv (.int .i64 ((i : Nat) : Int)) rfl (by kernel_rfl) ?_)
            refine sq (o_pv (.int .i64 ((i + 1 : Nat) : Int)) rfl (x_add (a := ((i : Nat) : Int)) (b := 1) ((i + 1 : Nat) : Int) (by kernel_rfl) (by kernel_rfl) (by omega) (wrap_i64 (by omega) (by omega))) ?_)
            refine sq (o_pv (.int .i64 ((i + 1 : Nat) : Int)) rfl (by kernel_rfl) ?_)
            refine nil_ ?_
            refine then_normal ?_
            replace h4n := ((h4n.step s94).step s95)
            have hB2 : NB.length ≤ 64 := by first | omega | (simp <;> omega)
            replace hh := ((hh.step s94).step s95)
            replace hg := ((hg.step s94).step s95)
            replace h5n := ((h5n.step s94).step s95)
            replace E0 := (Evo.then1 (Evo.then0 (Evo.then0 (Evo.then0 (Evo.then0 (Evo.then0 E0 e90) e91) e92) e93) e94) e95 n3)
            replace hXo := ((((((hXo.step s90).step s91).step s92).step s93).step s94).step s95)
            replace hl := ((((((hl.step s90).step s91).step s92).step s93).step s94).step s95)
            refine again_ (l.length - (i + 1)) [(6, (.int .i64 ((i + 1 : Nat) : Int))), (4, (.slice a4n NB.length c4n)), (5, (.slice a5n NF.length c5n))] (by kernel_rfl) ?_ ?_
            · exact (by omega)
            · exact ⟨Xj1, (i + 1), NB, NF, ah, ag, a4n, a5n, ch, cg, c4n, c5n, rfl, rfl, (Sub.of_cons (hXj1 _ (List.mem_cons_self)) (Sub.trans (Sub.trans (Sub.trans (Sub.trans (Sub.refl _) (Sub.cons _ _)) (Sub.cons _ _)) (Sub.cons _ _)) hXj1)), E0, hXo, hl, (by rw [← hHe]; exact k3), (by rw [← hHe]; exact hh), hg, h4n, h5n, (by omega), hB2, (by omega)⟩
    ·
      refine wp_exit ?_
      refine then_exit ?_
      refine then_exit ?_
      refine blk_exit ?_
      refine then_normal ?_
      refine seq_ ?_
      refine reg_ ?_
      refine sq (o_pv (.bool true) rfl (by kernel_rfl) ?_)
      refine nil_ ?_
      refine then_normal ?_
      refine wp_ret ?_
      refine end_ret (.bool true) (by kernel_rfl) ?_
      refine ⟨_, rfl, ?_⟩
      exact ⟨E0, rfl⟩

end Go.Proofs.Ytjbdamojffgmaaa
