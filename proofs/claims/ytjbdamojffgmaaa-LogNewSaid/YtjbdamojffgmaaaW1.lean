/- The walks of oplog's functions: what each computes. -/
import Derived.Test.YtjbdamojffgmaaaChecked
import Derived.Test.YtjbdamojffgmaaaOps
import Derived.Test.YtjbdamojffgmaaaPlain
namespace Go.Proofs.Ytjbdamojffgmaaa
open Go
theorem elT24 : ElemT Try.prog 24 9 1 16 := elemT_mk (i := Try.t9) (z := (.string (ByteArray.mk #[]))) (by kernel_rfl) (by kernel_rfl) (by kernel_rfl) (by kernel_rfl) Try.underlying24 Try.sizeOf9 (by decide) (by decide)
def pushL (L : List ByteArray) (s : ByteArray) : List ByteArray := (L ++ [s]).drop (L.length + 1 - 64)
set_option maxRecDepth 20000 in
set_option maxHeartbeats 4000000 in
theorem clip_str {X : List Nat} {w : World} {a : Option Addr} {c : Nat} {L : List ByteArray} (hL : Sl rStr X w a c L) :
    Calls Try.prog 14 #[(.slice a L.length c)] w (Ret fun v w' => Evo [] w w' ∧ ∃ a' c', v = .slice a' L.length c' ∧ Sl rStr X w' a' c' L) := by
  have hc := hL.1
  have E0 : Evo [] w w := RB.refl _ _ _
  refine enter_ Try.func14 rfl 9 [(0, (.slice a L.length c))] (by kernel_rfl) (fun Q hQ => ?_)
  refine seq_ (fun K1 hK1 => ?_)
  refine reg_ ?_
  refine sq (o_pv (.slice none 0 0) rfl (by kernel_rfl) ?_)
  refine nil_ ?_
  refine then_normal (hK1 _ _ _ _ ?_)
  refine seq_ (fun K2 hK2 => ?_)
  refine reg_ ?_
  refine sq (o_pv (.slice a L.length c) rfl (by kernel_rfl) ?_)
  refine sq (o_pv (.slice a L.length c) rfl (by kernel_rfl) ?_)
  refine sq (o_pv (.int .i64 ((L.length : Nat) : Int)) rfl (by kernel_rfl) ?_)
  refine sq (o_pv (.slice a L.length c) rfl (by kernel_rfl) ?_)
  refine sq (o_pv (.int .i64 ((L.length : Nat) : Int)) rfl (by kernel_rfl) ?_)
  refine sq (o_slice3 L.length L.length L Try.underlying24 Try.sizeOf9 hL (by kernel_rfl) rfl rfl (.inr ⟨.i64, by kernel_rfl⟩) (.inr ⟨.i64, by kernel_rfl⟩) (by omega) (by simp) ?_)
  intro a8 hs8
  refine sq (o_pv (.slice a8 L.length L.length) rfl (by kernel_rfl) ?_)
  refine nil_ ?_
  refine then_normal (hK2 _ _ _ _ ?_)
  refine wp_ret ?_
  refine end_ret hQ (.slice a8 L.length L.length) (by kernel_rfl) ?_
  exact ⟨E0, _, _, rfl, hs8⟩

set_option maxRecDepth 20000 in
set_option maxHeartbeats 4000000 in
theorem clone_str {X : List Nat} {w : World} {a : Option Addr} {c : Nat} {L : List ByteArray} (hX0 : Old X w) (hL : Sl rStr X w a c L) (hb : L.length * 16 ≤ 140737488355328) :
    Calls Try.prog 15 #[(.slice a L.length c)] w (Ret fun v w' => Evo [] w w' ∧ ∃ a' c', v = .slice a' L.length c' ∧ (∀ b ∈ blkL a', w.heap.size ≤ b) ∧ Own rStr (blkL a' ++ X) w' w.heap.size 9 a' c' L) := by
  cases a with
  | none =>
    have hXo := hX0
    have E0 : Evo [] w w := RB.refl _ _ _
    refine enter_ Try.func15 rfl 8 [(0, (.slice none L.length c))] (by kernel_rfl) (fun Q hQ => ?_)
    have hLn : L = [] := hL.2.2.elim (fun h => h.1) (fun ⟨b, o, xs, h, _⟩ => by cases h)
    refine seq_ (fun K1 hK1 => ?_)
    refine reg_ ?_
    refine sq (o_pv (.slice none 0 0) rfl (by kernel_rfl) ?_)
    refine nil_ ?_
    refine then_normal (hK1 _ _ _ _ ?_)
    refine seq_ (fun K2 hK2 => ?_)
    refine seq_ (fun K3 hK3 => ?_)
    refine reg_ ?_
    refine sq (o_pv (.slice none L.length c) rfl (by kernel_rfl) ?_)
    refine sq (o_pv (.bool true) rfl (by kernel_rfl) ?_)
    refine nil_ ?_
    refine then_normal (hK3 _ _ _ _ ?_)
    refine cond_t (by kernel_rfl) ?_
    refine seq_ (fun K4 hK4 => ?_)
    refine reg_ ?_
    refine sq (o_pv (.slice none 0 0) rfl (by kernel_rfl) ?_)
    refine nil_ ?_
    refine then_normal (hK4 _ _ _ _ ?_)
    refine wp_ret ?_
    refine then_ret ?_
    refine end_ret hQ (.slice none 0 0) (by kernel_rfl) ?_
    exact ⟨E0, none, 0, by rw [hLn]; rfl, (fun _ h => by cases h), by rw [hLn]; exact Own.nil E0.size⟩
  | some ad =>
    have hXo := hX0
    have E0 : Evo [] w w := RB.refl _ _ _
    refine enter_ Try.func15 rfl 8 [(0, (.slice (some ad) L.length c))] (by kernel_rfl) (fun Q hQ => ?_)
    refine seq_ (fun K1 hK1 => ?_)
    refine reg_ ?_
    refine sq (o_pv (.slice none 0 0) rfl (by kernel_rfl) ?_)
    refine nil_ ?_
    refine then_normal (hK1 _ _ _ _ ?_)
    refine seq_ (fun K2 hK2 => ?_)
    refine seq_ (fun K3 hK3 => ?_)
    refine reg_ ?_
    refine sq (o_pv (.slice (some ad) L.length c) rfl (by kernel_rfl) ?_)
    refine sq (o_pv (.bool false) rfl (by kernel_rfl) ?_)
    refine nil_ ?_
    refine then_normal (hK3 _ _ _ _ ?_)
    refine cond_f (by kernel_rfl) ?_
    refine wp_skip ?_
    refine then_normal (hK2 _ _ _ _ ?_)
    refine seq_ (fun K4 hK4 => ?_)
    refine reg_ ?_
    refine sq (o_row [] 9 0 rfl (by kernel_rfl) ?_)
    rintro b5 w1 hb5 e1 k5
    have n5 : w.heap.size ≤ b5 := Nat.le_trans E0.size (Nat.le_of_eq hb5.symm)
    have s1 := Step.fresh X e1 b5 (Nat.le_of_eq hb5.symm) k5.lt
    refine sq (o_pv (.slice (some ad) L.length c) rfl (by kernel_rfl) ?_)
    have o7 : Own rStr (b5 :: X) w1 (w.heap.size) 9 (some ⟨b5, 0, none⟩) 0 [] := k5.own (List.mem_cons_self) Flat.nil 0 rfl (by decide) n5
    replace hL := (hL.step s1)
    refine sq (o_append (R := rStr) rfl elT24 rfl o7 hL.src (by kernel_rfl) (by kernel_rfl) rfl rfl (by simp; omega) ?_)
    intro a7 c7 w2 X2 s2 hX2 hn2 hO7
    rw [show ([]) ++ L = L from by simp] at hO7 ⊢
    subst hX2
    have hl7 : L.length = 0 + L.length := by simp
    have p2 := o7
    refine sq (o_pv (.slice a7 L.length c7) rfl (by kernel_rfl) ?_)
    refine nil_ ?_
    refine then_normal (hK4 _ _ _ _ ?_)
    refine wp_ret ?_
    refine end_ret hQ (.slice a7 L.length c7) (by kernel_rfl) ?_
    replace E0 := (Evo.thenO (Evo.then0 E0 e1) s2.evo p2 (Nat.le_refl _))
    exact ⟨E0, _, _, rfl, fun b hb => (hO7.lt b hb).1, hO7.sub' (fun b hb => List.mem_append_left _ hb) (fun b hb => by rcases List.mem_append.1 hb with h | h; exact .inl (hO7.mem b h); exact .inl ((Sub.trans (Sub.trans (Sub.refl _) (Sub.cons _ _)) (fun _ h => List.mem_append_right _ h)) b h))⟩

set_option maxRecDepth 20000 in
set_option maxHeartbeats 4000000 in
theorem push_w {X : List Nat} {w : World} {a : Option Addr} {c : Nat} {L M : List ByteArray} {s : ByteArray} (hX0 : Old X w) (hM : pushL L s = M) (hL : Sl rStr X w a c L) (hs : s.size ≤ maxLen) (hb : L.length ≤ 1000000) :
    Calls Try.prog 12 #[(.slice a L.length c), (.string s)] w (Ret fun v w' => Evo [] w w' ∧ ∃ a' c', v = .slice a' M.length c' ∧ Sl rStr X w' a' c' M) := by
  have hXo := hX0
  have E0 : Evo [] w w := RB.refl _ _ _
  refine enter_ Try.func12 rfl 18 [(0, (.slice a L.length c)), (1, (.string s))] (by kernel_rfl) (fun Q hQ => ?_)
  refine seq_ (fun K1 hK1 => ?_)
  refine reg_ ?_
  refine sq (o_pv (.slice none 0 0) rfl (by kernel_rfl) ?_)
  refine nil_ ?_
  refine then_normal (hK1 _ _ _ _ ?_)
  refine seq_ (fun K2 hK2 => ?_)
  refine reg_ ?_
  refine sq (o_pv (.slice a L.length c) rfl (by kernel_rfl) ?_)
  refine sq (o_call 15 #[(.slice a L.length c)] rfl (x_call Try.call15 (by kernel_rfl)) (clone_str (L := L) hXo hL (by omega)) ?_)
  rintro _ w1 ⟨e1, a7, c7, rfl, hg7, hO7⟩
  have s1 := Step.app X (blkL a7) e1 (fun b hb => ⟨hg7 b hb, (hO7.lt b hb).2⟩)
  replace hO7 := hO7.down (base' := w.heap.size) E0.size
  refine sq (o_pv (.string s) rfl (by kernel_rfl) ?_)
  refine sq (o_row [(.string s)] 9 1 rfl (by kernel_rfl) ?_)
  rintro b9 w2 hb9 e2 k9
  have n9 : w.heap.size ≤ b9 := Nat.le_trans (Evo.then0 E0 e1).size (Nat.le_of_eq hb9.symm)
  have q9_hO7 : b9 ∉ blkL a7 := fun h => by have := (hO7.lt _ h).2; omega
  have s2 := Step.fresh (blkL a7 ++ (X)) e2 b9 (Nat.le_of_eq hb9.symm) k9.lt
  replace hO7 := (hO7.step s2 (fun _ _ => by simp))
  refine sq (o_append (R := rStr) rfl elT24 rfl hO7 (k9.src (c := 1) (Flat.cons1 ⟨rfl, hs⟩ Flat.nil)) (by kernel_rfl) (by kernel_rfl) rfl rfl (by simp; omega) ?_)
  intro a10 c10 w3 X3 s3 hX3 hn3 hO10
  subst hX3
  have hl10 : (L ++ ([s])).length = L.length + 1 := by simp
  have p3 := hO7
  replace hL := (((hL.step s1).step s2).step s3)
  replace hXo := (((hXo.step s1).step s2).step s3)
  replace E0 := (Evo.thenO (Evo.then0 (Evo.then0 E0 e1) e2) s3.evo p3 (Nat.le_refl _))
  have u4 : Sub (X) (blkL a10 ++ (b9 :: blkL a7 ++ (X))) := (Sub.trans (Sub.trans (Sub.trans (Sub.refl _) (fun _ h => List.mem_append_right _ h)) (Sub.cons _ _)) (fun _ h => List.mem_append_right _ h))
  have r4 := hO10.sl u4 (hO10.notin hX0)
  replace hL := hL.less u4
  replace hXo := hXo.less u4
  refine sq (o_pv (.slice a10 ((L ++ ([s])).length) c10) rfl (by kernel_rfl) ?_)
  refine nil_ ?_
  refine then_normal (hK2 _ _ _ _ ?_)
  refine seq_ (fun K3 hK3 => ?_)
  refine reg_ ?_
  refine sq (o_pv (.slice a10 ((L ++ ([s])).length) c10) rfl (by kernel_rfl) ?_)
  refine sq (o_pv (.slice a10 ((L ++ ([s])).length) c10) rfl (by kernel_rfl) ?_)
  refine sq (o_pv (.int .i64 (((L ++ ([s])).length : Nat) : Int)) rfl (by kernel_rfl) ?_)
  refine sq (o_pv (.int .i64 ((((L ++ ([s])).length : Nat) : Int) - 64)) rfl (x_sub (a := (((L ++ ([s])).length : Nat) : Int)) (b := 64) ((((L ++ ([s])).length : Nat) : Int) - 64) (by kernel_rfl) (by kernel_rfl) (by omega) (wrap_i64 (by omega) (by omega))) ?_)
  refine sq (o_pv (.int .i64 ((L.length + 1 - 64 : Nat) : Int)) rfl (x_max (a := (((L ++ ([s])).length : Nat) : Int) - 64) (b := 0) ((L.length + 1 - 64 : Nat) : Int) (by kernel_rfl) (by kernel_rfl) (by omega)) ?_)
  refine sq (o_slice (L.length + 1 - 64) ((L ++ ([s])).length) M rfl Try.underlying24 Try.sizeOf9 r4 (by kernel_rfl) (by simp) (.inr ⟨.i64, by kernel_rfl⟩) (.inl ⟨rfl, rfl, rfl⟩) (by omega) (by first | omega | simp) (by rw [List.take_length]; exact hM.symm) ?_)
  intro a16 c16 hs16
  refine sq (o_call 14 #[(.slice a16 M.length c16)] rfl (x_call Try.call14 (by kernel_rfl)) (clip_str (L := M) hs16) ?_)
  rintro _ w4 ⟨e5, a17, c17, rfl, h17⟩
  have s5 := Step.of0 X e5
  refine sq (o_pv (.slice a17 M.length c17) rfl (by kernel_rfl) ?_)
  refine nil_ ?_
  refine then_normal (hK3 _ _ _ _ ?_)
  refine wp_ret ?_
  refine end_ret hQ (.slice a17 M.length c17) (by kernel_rfl) ?_
  replace E0 := (Evo.then0 E0 e5)
  exact ⟨E0, _, _, rfl, h17⟩

set_option maxRecDepth 20000 in
set_option maxHeartbeats 4000000 in
theorem Do_w {X : List Nat} {w : World} {s : ByteArray} {ab : Option Addr} {cb : Nat} {vf : Value} {Lb M : List ByteArray} (hX0 : Old X w) (hM : pushL Lb s = M) (hB : Sl rStr X w ab cb Lb) (hs : s.size ≤ maxLen) (hb : Lb.length ≤ 1000000) :
    Calls Try.prog 7 #[(.agg #[(.slice ab Lb.length cb), vf]), (.string s)] w (Ret fun v w' => Evo [] w w' ∧ ∃ a' c', v = .agg #[.slice a' M.length c', .slice none 0 0] ∧ Sl rStr X w' a' c' M) := by
  have hXo := hX0
  have E0 : Evo [] w w := RB.refl _ _ _
  refine enter_ Try.func7 rfl 10 [(0, (.agg #[(.slice ab Lb.length cb), vf])), (1, (.string s))] (by kernel_rfl) (fun Q hQ => ?_)
  refine seq_ (fun K1 hK1 => ?_)
  refine reg_ ?_
  refine sq (o_new [(.slice ab Lb.length cb), vf] 26 rfl (by kernel_rfl) ?_)
  rintro b2 w1 hb2 e1 k2
  have n2 : w.heap.size ≤ b2 := Nat.le_trans E0.size (Nat.le_of_eq hb2.symm)
  have s1 := Step.fresh X e1 b2 (Nat.le_of_eq hb2.symm) k2.lt
  refine sq (o_new [(.slice none 0 0), (.slice none 0 0)] 26 rfl (by kernel_rfl) ?_)
  rintro b4 w2 hb4 e2 k4
  have n4 : w.heap.size ≤ b4 := Nat.le_trans (Evo.then0 E0 e1).size (Nat.le_of_eq hb4.symm)
  have l2_4 : b2 < b4 := Nat.lt_of_lt_of_eq k2.lt hb4.symm
  have s2 := Step.fresh (b2 :: X) e2 b4 (Nat.le_of_eq hb4.symm) k4.lt
  refine nil_ ?_
  refine then_normal (hK1 _ _ _ _ ?_)
  refine seq_ (fun K2 hK2 => ?_)
  refine reg_ ?_
  refine sq (o_pv (.pointer (some ⟨b2, 0, none⟩)) rfl (by kernel_rfl) ?_)
  replace k2 := (k2.evo0 e2)
  refine sq (o_pv (.slice ab Lb.length cb) rfl (x_load1 (by kernel_rfl) Try.isAgg24 (k2.cell' 0 rfl)) ?_)
  refine sq (o_pv (.string s) rfl (by kernel_rfl) ?_)
  replace hB := ((hB.step s1).step s2)
  replace hXo := ((hXo.step s1).step s2)
  refine sq (o_call 12 #[(.slice ab Lb.length cb), (.string s)] rfl (x_call Try.call12 (by kernel_rfl)) (push_w (L := Lb) (M := M) hXo hM hB hs (by omega)) ?_)
  rintro _ w3 ⟨e3, a8, c8, rfl, h8⟩
  have s3 := Step.of0 (b4 :: b2 :: X) e3
  refine sq (o_pv (.agg #[(.slice a8 M.length c8), (.slice none 0 0)]) rfl (by kernel_rfl) ?_)
  replace k4 := (k4.evo0 e3)
  refine sq (o_store (o := 0) (v := (.agg #[(.slice a8 M.length c8), (.slice none 0 0)])) [(.slice a8 M.length c8), (.slice none 0 0)] rfl k4 (by kernel_rfl) (by kernel_rfl) Try.sizeOf26 rfl rfl rfl ?_)
  intro w4 e4 kn4
  have s4 := Step.one e4 (X := b4 :: b2 :: X) (List.mem_cons_self)
  clear k4; have k4 := kn4
  refine nil_ ?_
  refine then_normal (hK2 _ _ _ _ ?_)
  refine wp_ret ?_
  refine end_ret hQ (.agg #[(.slice a8 M.length c8), (.slice none 0 0)]) (rs_single Try.results7 (rs_agg [(.slice a8 M.length c8), (.slice none 0 0)] (by kernel_rfl) Try.isAgg26 Try.sizeOf26 (k4.cells' 0 rfl))) ?_
  replace E0 := (Evo.then1 (Evo.then0 (Evo.then0 (Evo.then0 E0 e1) e2) e3) e4 n4)
  replace h8 := (h8.step s4)
  exact ⟨E0, _, _, rfl, h8.less (Sub.trans (Sub.trans (Sub.refl _) (Sub.cons _ _)) (Sub.cons _ _))⟩

set_option maxRecDepth 20000 in
set_option maxHeartbeats 4000000 in
theorem pop_w {X : List Nat} {w : World} {a : Option Addr} {c : Nat} {K : List ByteArray} {x : ByteArray} (hX0 : Old X w) (hL : Sl rStr X w a c (K ++ [x])) (hb : K.length ≤ 1000000) :
    Calls Try.prog 13 #[(.slice a ((K ++ [x]).length) c)] w (Ret fun v w' => Evo [] w w' ∧ ∃ a' c', v = .tuple #[.slice a' K.length c', .string x] ∧ Sl rStr X w' a' c' K) := by
  have hl : (K ++ [x]).length = K.length + 1 := by simp
  have hlast : (K ++ [x])[K.length] = x := by simp
  have hXo := hX0
  have E0 : Evo [] w w := RB.refl _ _ _
  refine enter_ Try.func13 rfl 17 [(0, (.slice a ((K ++ [x]).length) c))] (by kernel_rfl) (fun Q hQ => ?_)
  refine seq_ (fun K1 hK1 => ?_)
  refine reg_ ?_
  refine sq (o_pv (.slice none 0 0) rfl (by kernel_rfl) ?_)
  refine sq (o_pv (.string (ByteArray.mk #[])) rfl (by kernel_rfl) ?_)
  refine nil_ ?_
  refine then_normal (hK1 _ _ _ _ ?_)
  refine seq_ (fun K2 hK2 => ?_)
  refine reg_ ?_
  refine sq (o_pv (.slice a ((K ++ [x]).length) c) rfl (by kernel_rfl) ?_)
  refine sq (o_pv (.int .i64 (((K ++ [x]).length : Nat) : Int)) rfl (by kernel_rfl) ?_)
  refine sq (o_pv (.int .i64 ((K.length : Nat) : Int)) rfl (x_sub (a := (((K ++ [x]).length : Nat) : Int)) (b := 1) ((K.length : Nat) : Int) (by kernel_rfl) (by kernel_rfl) (by omega) (wrap_i64 (by omega) (by omega))) ?_)
  refine sq (o_pv (.int .i64 ((K.length : Nat) : Int)) rfl (by kernel_rfl) ?_)
  refine nil_ ?_
  refine then_normal (hK2 _ _ _ _ ?_)
  refine seq_ (fun K3 hK3 => ?_)
  refine reg_drawn (RB w.heap.size []) 10 (by kernel_rfl) (fun w1 hd2 => ?_)
  have e1 := Evo.of_drew hd2
  have z2 : w1.heap.size = w.heap.size := by rw [hd2]
  clear hd2
  have s1 := Step.of0 X e1
  replace E0 := (Evo.then0 E0 e1)
  have zr2 : w.heap.size ≤ w.heap.size := by have := E0.size; omega
  refine r_take 0 (.slice a ((K ++ [x]).length) c) (RB.pre _ _) rfl (by kernel_rfl) (fun _ _ _ h => hQ.panic _ _ _ _ _ h) (.inl ⟨rfl, fun wq hq => (by kernel_rfl)⟩) ?_
  refine r_take 1 (.int .i64 ((K.length : Nat) : Int)) (RB.pre _ _) rfl (by kernel_rfl) (fun _ _ _ h => hQ.panic _ _ _ _ _ h) (.inl ⟨rfl, fun wq hq => (by kernel_rfl)⟩) ?_
  replace hL := (hL.step s1)
  refine r_slice 2 (RB.pre _ _) rfl (by kernel_rfl) (fun _ _ _ _ h => hQ.panic _ _ _ _ _ h) 0 K.length K rfl Try.underlying24 Try.sizeOf9 hL (by kernel_rfl) rfl (.inl ⟨rfl, rfl⟩) (.inr ⟨.i64, by kernel_rfl⟩) (by omega) (by first | omega | simp) (by simp) ?_
  intro a10 c10 hs10
  refine r_take 5 (.slice a ((K ++ [x]).length) c) (RB.pre _ _) rfl (by kernel_rfl) (fun _ _ _ h => hQ.panic _ _ _ _ _ h) (.inl ⟨rfl, fun wq hq => (by kernel_rfl)⟩) ?_
  refine r_take 6 (.int .i64 ((K.length : Nat) : Int)) (RB.pre _ _) rfl (by kernel_rfl) (fun _ _ _ h => hQ.panic _ _ _ _ _ h) (.inl ⟨rfl, fun wq hq => (by kernel_rfl)⟩) ?_
  have hi15 : K.length < (K ++ [x]).length := by omega
  obtain ⟨b15, o15, cs15, ha15, hnx15, hlt15, hok15, hc15⟩ := hL.at _ hi15
  obtain ⟨rfl, hz15⟩ := hok15
  refine r_take 7 (.pointer (some ⟨b15, o15 + K.length * 1, none⟩)) (RB.pre _ _) rfl (by kernel_rfl) (fun _ _ _ h => hQ.panic _ _ _ _ _ h) (.inl ⟨rfl, fun wq hq => (x_indexAddr (m := (K ++ [x]).length) (c := c) (k := .i64) (e := ((K.length : Nat) : Int)) (i := K.length) Try.underlying24 Try.sizeOf9 (by rw [← ha15]; kernel_rfl) (by kernel_rfl) rfl (by omega))⟩) ?_
  refine r_take 8 (.string ((K ++ [x])[K.length])) (RB.pre _ _) rfl (by kernel_rfl) (fun _ _ _ h => hQ.panic _ _ _ _ _ h) (.inl ⟨rfl, fun wq hq => (x_load1 (by kernel_rfl) Try.isAgg9 (hc15.rb hq (by omega) (by simp)).one)⟩) ?_
  refine r_ready [3] (by kernel_rfl) rfl (all_cons ⟨_, _, _, _, _, _, rfl, ?_⟩ all_nil)
  replace hXo := (hXo.step s1)
  have hXq11 := hXo
  refine  (o_call 15 #[(.slice a10 K.length c10)] rfl (x_call Try.call15 (by kernel_rfl)) (clone_str (L := K) hXo hs10 (by omega)) ?_)
  rintro _ w2 ⟨e2, a11, c11, rfl, hg11, hO11⟩
  have s2 := Step.of0 X e2
  have h11 : Sl rStr X w2 a11 c11 K := hO11.sl (fun _ h => List.mem_append_right _ h) (fun b hb hx => by have := hg11 b hb; have := hXq11 b hx; omega)
  refine ⟨fun _ => RB.mono e2 (by have := e2.size; omega) (fun _ h => by cases h), ?_⟩
  refine r_ready [4] (by kernel_rfl) rfl (all_cons ⟨_, _, _, _, _, _, rfl, ?_⟩ all_nil)
  refine  (o_call 14 #[(.slice a11 K.length c11)] rfl (x_call Try.call14 (by kernel_rfl)) (clip_str (L := K) h11) ?_)
  rintro _ w3 ⟨e3, a12, c12, rfl, h12⟩
  have s3 := Step.of0 X e3
  refine ⟨fun _ => RB.mono e3 (by have := e2.size; have := e3.size; omega) (fun _ h => by cases h), ?_⟩
  refine r_take 9 (.slice a12 K.length c12) (RB.pre _ _) rfl (by kernel_rfl) (fun _ _ _ h => hQ.panic _ _ _ _ _ h) (.inl ⟨rfl, fun wq hq => (by kernel_rfl)⟩) ?_
  refine r_ready [10] (by kernel_rfl) rfl (all_cons ⟨_, _, _, _, _, _, rfl, ?_⟩ all_nil)
  refine  (o_pv (.string ((K ++ [x])[K.length])) rfl (by kernel_rfl) ?_)
  refine ⟨fun h => absurd h (by decide), ?_⟩
  refine r_done (by kernel_rfl) ?_
  refine then_normal (hK3 _ _ _ _ ?_)
  refine wp_ret ?_
  refine end_ret hQ (.tuple #[(.slice a12 K.length c12), (.string ((K ++ [x])[K.length]))]) (by kernel_rfl) ?_
  replace E0 := (Evo.then0 (Evo.then0 E0 e2) e3)
  rw [hlast]
  exact ⟨E0, _, _, rfl, h12⟩

set_option maxRecDepth 20000 in
set_option maxHeartbeats 4000000 in
theorem Undo_w0 {X : List Nat} {w : World} {s : ByteArray} {ab : Option Addr} {cb : Nat} {Lb : List ByteArray} {vf : Value} (hX0 : Old X w) (hE : Lb = []) :
    Calls Try.prog 8 #[(.agg #[(.slice ab Lb.length cb), vf]), (.string s)] w (Ret fun v w' => Evo [] w w' ∧ v = .tuple #[.agg #[.slice none 0 0, .slice none 0 0], .string (ByteArray.mk #[]), .int .i64 10]) := by
  have hXo := hX0
  have E0 : Evo [] w w := RB.refl _ _ _
  refine enter_ Try.func8 rfl 30 [(0, (.agg #[(.slice ab Lb.length cb), vf])), (1, (.string s))] (by kernel_rfl) (fun Q hQ => ?_)
  refine seq_ (fun K1 hK1 => ?_)
  refine reg_ ?_
  refine sq (o_new [(.slice ab Lb.length cb), vf] 26 rfl (by kernel_rfl) ?_)
  rintro b2 w1 hb2 e1 k2
  have n2 : w.heap.size ≤ b2 := Nat.le_trans E0.size (Nat.le_of_eq hb2.symm)
  have s1 := Step.fresh X e1 b2 (Nat.le_of_eq hb2.symm) k2.lt
  refine sq (o_new [(.slice none 0 0), (.slice none 0 0)] 26 rfl (by kernel_rfl) ?_)
  rintro b4 w2 hb4 e2 k4
  have n4 : w.heap.size ≤ b4 := Nat.le_trans (Evo.then0 E0 e1).size (Nat.le_of_eq hb4.symm)
  have l2_4 : b2 < b4 := Nat.lt_of_lt_of_eq k2.lt hb4.symm
  have s2 := Step.fresh (b2 :: X) e2 b4 (Nat.le_of_eq hb4.symm) k4.lt
  refine sq (o_pv (.string (ByteArray.mk #[])) rfl (by kernel_rfl) ?_)
  refine sq (o_pv (.int .i64 0) rfl (by kernel_rfl) ?_)
  refine nil_ ?_
  refine then_normal (hK1 _ _ _ _ ?_)
  refine seq_ (fun K2 hK2 => ?_)
  refine seq_ (fun K3 hK3 => ?_)
  refine reg_ ?_
  refine sq (o_pv (.pointer (some ⟨b2, 0, none⟩)) rfl (by kernel_rfl) ?_)
  replace k2 := (k2.evo0 e2)
  refine sq (o_pv (.slice ab Lb.length cb) rfl (x_load1 (by kernel_rfl) Try.isAgg24 (k2.cell' 0 rfl)) ?_)
  refine sq (o_pv (.int .i64 ((Lb.length : Nat) : Int)) rfl (by kernel_rfl) ?_)
  refine sq (o_pv (.bool (decide (((Lb.length : Nat) : Int) = 0))) rfl (by kernel_rfl) ?_)
  refine nil_ ?_
  refine then_normal (hK3 _ _ _ _ ?_)
  refine cond_dt (((Lb.length : Nat) : Int) = 0) (by kernel_rfl) (by rw [hE]; simp) ?_
  refine seq_ (fun K4 hK4 => ?_)
  refine reg_ ?_
  refine sq (o_pv (.agg #[(.slice none 0 0), (.slice none 0 0)]) rfl (by kernel_rfl) ?_)
  refine sq (o_store (o := 0) (v := (.agg #[(.slice none 0 0), (.slice none 0 0)])) [(.slice none 0 0), (.slice none 0 0)] rfl k4 (by kernel_rfl) (by kernel_rfl) Try.sizeOf26 rfl rfl rfl ?_)
  intro w3 e3 kn3
  have s3 := Step.one e3 (X := b4 :: b2 :: X) (List.mem_cons_self)
  clear k4; have k4 := kn3
  refine sq (o_pv (.string (ByteArray.mk #[])) rfl (by kernel_rfl) ?_)
  refine sq (o_pv (.int .i64 10) rfl (by kernel_rfl) ?_)
  refine nil_ ?_
  refine then_normal (hK4 _ _ _ _ ?_)
  refine wp_ret ?_
  refine then_ret ?_
  refine end_ret hQ (.tuple #[(.agg #[(.slice none 0 0), (.slice none 0 0)]), (.string (ByteArray.mk #[])), (.int .i64 10)]) (rs3 Try.results8 (rs_agg [(.slice none 0 0), (.slice none 0 0)] (by kernel_rfl) Try.isAgg26 Try.sizeOf26 (k4.cells' 0 rfl)) (rs_tmp (by kernel_rfl)) (rs_tmp (by kernel_rfl))) ?_
  replace E0 := (Evo.then1 (Evo.then0 (Evo.then0 E0 e1) e2) e3 n4)
  exact ⟨E0, rfl⟩

set_option maxRecDepth 20000 in
set_option maxHeartbeats 4000000 in
theorem Undo_w {X : List Nat} {w : World} {s x : ByteArray} {ab af : Option Addr} {cb cf : Nat} {Lb Lf K M : List ByteArray} (hX0 : Old X w) (hE : Lb = K ++ [x]) (hM : Lf ++ [s] = M) (hB : Sl rStr X w ab cb Lb) (hF : Sl rStr X w af cf Lf) (hs : s.size ≤ maxLen) (hb : Lf.length ≤ 1000000) (hk : K.length ≤ 1000000) :
    Calls Try.prog 8 #[(.agg #[(.slice ab Lb.length cb), (.slice af Lf.length cf)]), (.string s)] w (Ret fun v w' => Evo [] w w' ∧ ∃ a1 c1 a2 c2, v = .tuple #[.agg #[.slice a1 K.length c1, .slice a2 M.length c2], .string x, .int .i64 0] ∧ Sl rStr X w' a1 c1 K ∧ Sl rStr X w' a2 c2 M) := by
  subst hE; subst hM
  have hl : (K ++ [x]).length = K.length + 1 := by simp
  have hXo := hX0
  have E0 : Evo [] w w := RB.refl _ _ _
  refine enter_ Try.func8 rfl 30 [(0, (.agg #[(.slice ab ((K ++ [x]).length) cb), (.slice af Lf.length cf)])), (1, (.string s))] (by kernel_rfl) (fun Q hQ => ?_)
  refine seq_ (fun K1 hK1 => ?_)
  refine reg_ ?_
  refine sq (o_new [(.slice ab ((K ++ [x]).length) cb), (.slice af Lf.length cf)] 26 rfl (by kernel_rfl) ?_)
  rintro b2 w1 hb2 e1 k2
  have n2 : w.heap.size ≤ b2 := Nat.le_trans E0.size (Nat.le_of_eq hb2.symm)
  have s1 := Step.fresh X e1 b2 (Nat.le_of_eq hb2.symm) k2.lt
  refine sq (o_new [(.slice none 0 0), (.slice none 0 0)] 26 rfl (by kernel_rfl) ?_)
  rintro b4 w2 hb4 e2 k4
  have n4 : w.heap.size ≤ b4 := Nat.le_trans (Evo.then0 E0 e1).size (Nat.le_of_eq hb4.symm)
  have l2_4 : b2 < b4 := Nat.lt_of_lt_of_eq k2.lt hb4.symm
  have s2 := Step.fresh (b2 :: X) e2 b4 (Nat.le_of_eq hb4.symm) k4.lt
  refine sq (o_pv (.string (ByteArray.mk #[])) rfl (by kernel_rfl) ?_)
  refine sq (o_pv (.int .i64 0) rfl (by kernel_rfl) ?_)
  refine nil_ ?_
  refine then_normal (hK1 _ _ _ _ ?_)
  refine seq_ (fun K2 hK2 => ?_)
  refine seq_ (fun K3 hK3 => ?_)
  refine reg_ ?_
  refine sq (o_pv (.pointer (some ⟨b2, 0, none⟩)) rfl (by kernel_rfl) ?_)
  replace k2 := (k2.evo0 e2)
  refine sq (o_pv (.slice ab ((K ++ [x]).length) cb) rfl (x_load1 (by kernel_rfl) Try.isAgg24 (k2.cell' 0 rfl)) ?_)
  refine sq (o_pv (.int .i64 (((K ++ [x]).length : Nat) : Int)) rfl (by kernel_rfl) ?_)
  refine sq (o_pv (.bool (decide ((((K ++ [x]).length : Nat) : Int) = 0))) rfl (by kernel_rfl) ?_)
  refine nil_ ?_
  refine then_normal (hK3 _ _ _ _ ?_)
  refine cond_df ((((K ++ [x]).length : Nat) : Int) = 0) (by kernel_rfl) (by omega) ?_
  refine wp_skip ?_
  refine then_normal (hK2 _ _ _ _ ?_)
  refine seq_ (fun K4 hK4 => ?_)
  refine reg_ ?_
  refine sq (o_pv (.pointer (some ⟨b2, 0, none⟩)) rfl (by kernel_rfl) ?_)
  refine sq (o_pv (.slice ab ((K ++ [x]).length) cb) rfl (x_load1 (by kernel_rfl) Try.isAgg24 (k2.cell' 0 rfl)) ?_)
  replace hB := ((hB.step s1).step s2)
  replace hXo := ((hXo.step s1).step s2)
  refine sq (o_call 13 #[(.slice ab ((K ++ [x]).length) cb)] rfl (x_call Try.call13 (by kernel_rfl)) (pop_w (K := K) (x := x) hXo hB (by omega)) ?_)
  rintro _ w3 ⟨e3, a17, c17, rfl, h17⟩
  have s3 := Step.of0 (b4 :: b2 :: X) e3
  refine sq (o_pv (.tuple #[(.slice a17 K.length c17), (.string x)]) rfl (by kernel_rfl) ?_)
  refine sq (o_pv (.slice a17 K.length c17) rfl (by kernel_rfl) ?_)
  refine sq (o_pv (.string x) rfl (by kernel_rfl) ?_)
  refine sq (o_pv (.slice a17 K.length c17) rfl (by kernel_rfl) ?_)
  refine sq (o_pv (.string x) rfl (by kernel_rfl) ?_)
  refine nil_ ?_
  refine then_normal (hK4 _ _ _ _ ?_)
  refine seq_ (fun K5 hK5 => ?_)
  refine reg_ ?_
  refine sq (o_pv (.slice a17 K.length c17) rfl (by kernel_rfl) ?_)
  refine sq (o_pv (.pointer (some ⟨b2, 1, none⟩)) rfl (by kernel_rfl) ?_)
  replace k2 := (k2.evo0 e3)
  refine sq (o_pv (.slice af Lf.length cf) rfl (x_load1 (by kernel_rfl) Try.isAgg24 (k2.cell' 1 rfl)) ?_)
  replace hF := (((hF.step s1).step s2).step s3)
  replace hXo := (hXo.step s3)
  refine sq (o_call 15 #[(.slice af Lf.length cf)] rfl (x_call Try.call15 (by kernel_rfl)) (clone_str (L := Lf) hXo hF (by omega)) ?_)
  rintro _ w4 ⟨e4, a23, c23, rfl, hg23, hO23⟩
  replace k4 := (k4.evo0 e3)
  have s4 := Step.app (b4 :: b2 :: X) (blkL a23) e4 (fun b hb => ⟨hg23 b hb, (hO23.lt b hb).2⟩)
  replace hO23 := hO23.down (base' := w.heap.size) (Evo.then0 (Evo.then0 (Evo.then0 E0 e1) e2) e3).size
  have q2_hO23 : b2 ∉ blkL a23 := fun h => by have := hg23 _ h; have := k2.lt; omega
  have q4_hO23 : b4 ∉ blkL a23 := fun h => by have := hg23 _ h; have := k4.lt; omega
  refine sq (o_pv (.string s) rfl (by kernel_rfl) ?_)
  refine sq (o_row [(.string s)] 9 1 rfl (by kernel_rfl) ?_)
  replace k2 := (k2.evo0 e4)
  replace k4 := (k4.evo0 e4)
  rintro b25 w5 hb25 e5 k25
  have n25 : w.heap.size ≤ b25 := Nat.le_trans (Evo.then0 (Evo.then0 (Evo.then0 (Evo.then0 E0 e1) e2) e3) e4).size (Nat.le_of_eq hb25.symm)
  have l2_25 : b2 < b25 := Nat.lt_of_lt_of_eq k2.lt hb25.symm
  have l4_25 : b4 < b25 := Nat.lt_of_lt_of_eq k4.lt hb25.symm
  have q25_hO23 : b25 ∉ blkL a23 := fun h => by have := (hO23.lt _ h).2; omega
  have s5 := Step.fresh (blkL a23 ++ (b4 :: b2 :: X)) e5 b25 (Nat.le_of_eq hb25.symm) k25.lt
  replace hO23 := (hO23.step s5 (fun _ _ => by simp))
  replace k2 := (k2.evo0 e5)
  replace k4 := (k4.evo0 e5)
  refine sq (o_append (R := rStr) rfl elT24 rfl hO23 (k25.src (c := 1) (Flat.cons1 ⟨rfl, hs⟩ Flat.nil)) (by kernel_rfl) (by kernel_rfl) rfl rfl (by simp; omega) ?_)
  intro a26 c26 w6 X6 s6 hX6 hn6 hO26
  subst hX6
  have hl26 : (Lf ++ ([s])).length = Lf.length + 1 := by simp
  have q2_hO26 : b2 ∉ blkL a26 := fun h => (hn6 _ h).elim q2_hO23 (fun e => by have := k2.lt; omega)
  have q4_hO26 : b4 ∉ blkL a26 := fun h => (hn6 _ h).elim q4_hO23 (fun e => by have := k4.lt; omega)
  have p6 := hO23
  replace hB := ((((hB.step s3).step s4).step s5).step s6)
  replace hF := (((hF.step s4).step s5).step s6)
  replace hXo := (((hXo.step s4).step s5).step s6)
  replace E0 := (Evo.thenO (Evo.then0 (Evo.then0 (Evo.then0 (Evo.then0 (Evo.then0 E0 e1) e2) e3) e4) e5) s6.evo p6 (Nat.le_refl _))
  replace k2 := (k2.evo s6.evo (q2_hO23))
  replace k4 := (k4.evo s6.evo (q4_hO23))
  replace h17 := (((h17.step s4).step s5).step s6)
  have u7 : Sub (b2 :: b4 :: X) (blkL a26 ++ (b25 :: blkL a23 ++ (b4 :: b2 :: X))) := (Sub.of_cons (List.mem_append_right _ (List.mem_cons_of_mem _ (List.mem_append_right _ (List.mem_cons_of_mem _ (List.mem_cons_self))))) (Sub.of_cons (List.mem_append_right _ (List.mem_cons_of_mem _ (List.mem_append_right _ (List.mem_cons_self)))) (Sub.trans (Sub.trans (Sub.trans (Sub.trans (Sub.trans (Sub.refl _) (Sub.cons _ _)) (Sub.cons _ _)) (fun _ h => List.mem_append_right _ h)) (Sub.cons _ _)) (fun _ h => List.mem_append_right _ h))))
  have r7 := hO26.sl u7 (NotIn.cons q2_hO26 (NotIn.cons q4_hO26 (hO26.notin hX0)))
  replace hB := hB.less u7
  replace hF := hF.less u7
  replace hXo := hXo.less u7
  replace h17 := h17.less u7
  refine sq (o_call 14 #[(.slice a26 ((Lf ++ ([s])).length) c26)] rfl (x_call Try.call14 (by kernel_rfl)) (clip_str (L := Lf ++ ([s])) r7) ?_)
  rintro _ w7 ⟨e8, a27, c27, rfl, h27⟩
  have s8 := Step.of0 (b2 :: b4 :: X) e8
  refine sq (o_pv (.agg #[(.slice a17 K.length c17), (.slice a27 ((Lf ++ ([s])).length) c27)]) rfl (by kernel_rfl) ?_)
  refine sq (o_pv (.string x) rfl (by kernel_rfl) ?_)
  replace k4 := (k4.evo0 e8)
  refine sq (o_store (o := 0) (v := (.agg #[(.slice a17 K.length c17), (.slice a27 ((Lf ++ ([s])).length) c27)])) [(.slice a17 K.length c17), (.slice a27 ((Lf ++ ([s])).length) c27)] rfl k4 (by kernel_rfl) (by kernel_rfl) Try.sizeOf26 rfl rfl rfl ?_)
  intro w8 e9 kn9
  have s9 := Step.one e9 (X := b2 :: b4 :: X) (List.mem_cons_of_mem _ (List.mem_cons_self))
  clear k4; have k4 := kn9
  refine sq (o_pv (.string x) rfl (by kernel_rfl) ?_)
  refine sq (o_pv (.int .i64 0) rfl (by kernel_rfl) ?_)
  refine nil_ ?_
  refine then_normal (hK5 _ _ _ _ ?_)
  refine wp_ret ?_
  refine end_ret hQ (.tuple #[(.agg #[(.slice a17 K.length c17), (.slice a27 ((Lf ++ ([s])).length) c27)]), (.string x), (.int .i64 0)]) (rs3 Try.results8 (rs_agg [(.slice a17 K.length c17), (.slice a27 ((Lf ++ ([s])).length) c27)] (by kernel_rfl) Try.isAgg26 Try.sizeOf26 (k4.cells' 0 rfl)) (rs_tmp (by kernel_rfl)) (rs_tmp (by kernel_rfl))) ?_
  replace E0 := (Evo.then1 (Evo.then0 E0 e8) e9 n4)
  replace h17 := ((h17.step s8).step s9)
  replace h27 := (h27.step s9)
  exact ⟨E0, _, _, _, _, rfl, h17.less (Sub.trans (Sub.trans (Sub.refl _) (Sub.cons _ _)) (Sub.cons _ _)), h27.less (Sub.trans (Sub.trans (Sub.refl _) (Sub.cons _ _)) (Sub.cons _ _))⟩

set_option maxRecDepth 20000 in
set_option maxHeartbeats 4000000 in
theorem Redo_w0 {X : List Nat} {w : World} {s : ByteArray} {ab : Option Addr} {cb : Nat} {Lb : List ByteArray} {vf : Value} (hX0 : Old X w) (hE : Lb = []) :
    Calls Try.prog 9 #[(.agg #[vf, (.slice ab Lb.length cb)]), (.string s)] w (Ret fun v w' => Evo [] w w' ∧ v = .tuple #[.agg #[.slice none 0 0, .slice none 0 0], .string (ByteArray.mk #[]), .int .i64 10]) := by
  have hXo := hX0
  have E0 : Evo [] w w := RB.refl _ _ _
  refine enter_ Try.func9 rfl 27 [(0, (.agg #[vf, (.slice ab Lb.length cb)])), (1, (.string s))] (by kernel_rfl) (fun Q hQ => ?_)
  refine seq_ (fun K1 hK1 => ?_)
  refine reg_ ?_
  refine sq (o_new [vf, (.slice ab Lb.length cb)] 26 rfl (by kernel_rfl) ?_)
  rintro b2 w1 hb2 e1 k2
  have n2 : w.heap.size ≤ b2 := Nat.le_trans E0.size (Nat.le_of_eq hb2.symm)
  have s1 := Step.fresh X e1 b2 (Nat.le_of_eq hb2.symm) k2.lt
  refine sq (o_new [(.slice none 0 0), (.slice none 0 0)] 26 rfl (by kernel_rfl) ?_)
  rintro b4 w2 hb4 e2 k4
  have n4 : w.heap.size ≤ b4 := Nat.le_trans (Evo.then0 E0 e1).size (Nat.le_of_eq hb4.symm)
  have l2_4 : b2 < b4 := Nat.lt_of_lt_of_eq k2.lt hb4.symm
  have s2 := Step.fresh (b2 :: X) e2 b4 (Nat.le_of_eq hb4.symm) k4.lt
  refine sq (o_pv (.string (ByteArray.mk #[])) rfl (by kernel_rfl) ?_)
  refine sq (o_pv (.int .i64 0) rfl (by kernel_rfl) ?_)
  refine nil_ ?_
  refine then_normal (hK1 _ _ _ _ ?_)
  refine seq_ (fun K2 hK2 => ?_)
  refine seq_ (fun K3 hK3 => ?_)
  refine reg_ ?_
  refine sq (o_pv (.pointer (some ⟨b2, 1, none⟩)) rfl (by kernel_rfl) ?_)
  replace k2 := (k2.evo0 e2)
  refine sq (o_pv (.slice ab Lb.length cb) rfl (x_load1 (by kernel_rfl) Try.isAgg24 (k2.cell' 1 rfl)) ?_)
  refine sq (o_pv (.int .i64 ((Lb.length : Nat) : Int)) rfl (by kernel_rfl) ?_)
  refine sq (o_pv (.bool (decide (((Lb.length : Nat) : Int) = 0))) rfl (by kernel_rfl) ?_)
  refine nil_ ?_
  refine then_normal (hK3 _ _ _ _ ?_)
  refine cond_dt (((Lb.length : Nat) : Int) = 0) (by kernel_rfl) (by rw [hE]; simp) ?_
  refine seq_ (fun K4 hK4 => ?_)
  refine reg_ ?_
  refine sq (o_pv (.agg #[(.slice none 0 0), (.slice none 0 0)]) rfl (by kernel_rfl) ?_)
  refine sq (o_store (o := 0) (v := (.agg #[(.slice none 0 0), (.slice none 0 0)])) [(.slice none 0 0), (.slice none 0 0)] rfl k4 (by kernel_rfl) (by kernel_rfl) Try.sizeOf26 rfl rfl rfl ?_)
  intro w3 e3 kn3
  have s3 := Step.one e3 (X := b4 :: b2 :: X) (List.mem_cons_self)
  clear k4; have k4 := kn3
  refine sq (o_pv (.string (ByteArray.mk #[])) rfl (by kernel_rfl) ?_)
  refine sq (o_pv (.int .i64 10) rfl (by kernel_rfl) ?_)
  refine nil_ ?_
  refine then_normal (hK4 _ _ _ _ ?_)
  refine wp_ret ?_
  refine then_ret ?_
  refine end_ret hQ (.tuple #[(.agg #[(.slice none 0 0), (.slice none 0 0)]), (.string (ByteArray.mk #[])), (.int .i64 10)]) (rs3 Try.results9 (rs_agg [(.slice none 0 0), (.slice none 0 0)] (by kernel_rfl) Try.isAgg26 Try.sizeOf26 (k4.cells' 0 rfl)) (rs_tmp (by kernel_rfl)) (rs_tmp (by kernel_rfl))) ?_
  replace E0 := (Evo.then1 (Evo.then0 (Evo.then0 E0 e1) e2) e3 n4)
  exact ⟨E0, rfl⟩

set_option maxRecDepth 20000 in
set_option maxHeartbeats 4000000 in
theorem Redo_w {X : List Nat} {w : World} {s x : ByteArray} {ab af : Option Addr} {cb cf : Nat} {Lb Lf K M : List ByteArray} (hX0 : Old X w) (hE : Lf = K ++ [x]) (hM : pushL Lb s = M) (hB : Sl rStr X w ab cb Lb) (hF : Sl rStr X w af cf Lf) (hs : s.size ≤ maxLen) (hb : Lb.length ≤ 1000000) (hk : K.length ≤ 1000000) :
    Calls Try.prog 9 #[(.agg #[(.slice ab Lb.length cb), (.slice af Lf.length cf)]), (.string s)] w (Ret fun v w' => Evo [] w w' ∧ ∃ a1 c1 a2 c2, v = .tuple #[.agg #[.slice a1 M.length c1, .slice a2 K.length c2], .string x, .int .i64 0] ∧ Sl rStr X w' a1 c1 M ∧ Sl rStr X w' a2 c2 K) := by
  subst hE; subst hM
  have hl : (K ++ [x]).length = K.length + 1 := by simp
  have hXo := hX0
  have E0 : Evo [] w w := RB.refl _ _ _
  refine enter_ Try.func9 rfl 27 [(0, (.agg #[(.slice ab Lb.length cb), (.slice af ((K ++ [x]).length) cf)])), (1, (.string s))] (by kernel_rfl) (fun Q hQ => ?_)
  refine seq_ (fun K1 hK1 => ?_)
  refine reg_ ?_
  refine sq (o_new [(.slice ab Lb.length cb), (.slice af ((K ++ [x]).length) cf)] 26 rfl (by kernel_rfl) ?_)
  rintro b2 w1 hb2 e1 k2
  have n2 : w.heap.size ≤ b2 := Nat.le_trans E0.size (Nat.le_of_eq hb2.symm)
  have s1 := Step.fresh X e1 b2 (Nat.le_of_eq hb2.symm) k2.lt
  refine sq (o_new [(.slice none 0 0), (.slice none 0 0)] 26 rfl (by kernel_rfl) ?_)
  rintro b4 w2 hb4 e2 k4
  have n4 : w.heap.size ≤ b4 := Nat.le_trans (Evo.then0 E0 e1).size (Nat.le_of_eq hb4.symm)
  have l2_4 : b2 < b4 := Nat.lt_of_lt_of_eq k2.lt hb4.symm
  have s2 := Step.fresh (b2 :: X) e2 b4 (Nat.le_of_eq hb4.symm) k4.lt
  refine sq (o_pv (.string (ByteArray.mk #[])) rfl (by kernel_rfl) ?_)
  refine sq (o_pv (.int .i64 0) rfl (by kernel_rfl) ?_)
  refine nil_ ?_
  refine then_normal (hK1 _ _ _ _ ?_)
  refine seq_ (fun K2 hK2 => ?_)
  refine seq_ (fun K3 hK3 => ?_)
  refine reg_ ?_
  refine sq (o_pv (.pointer (some ⟨b2, 1, none⟩)) rfl (by kernel_rfl) ?_)
  replace k2 := (k2.evo0 e2)
  refine sq (o_pv (.slice af ((K ++ [x]).length) cf) rfl (x_load1 (by kernel_rfl) Try.isAgg24 (k2.cell' 1 rfl)) ?_)
  refine sq (o_pv (.int .i64 (((K ++ [x]).length : Nat) : Int)) rfl (by kernel_rfl) ?_)
  refine sq (o_pv (.bool (decide ((((K ++ [x]).length : Nat) : Int) = 0))) rfl (by kernel_rfl) ?_)
  refine nil_ ?_
  refine then_normal (hK3 _ _ _ _ ?_)
  refine cond_df ((((K ++ [x]).length : Nat) : Int) = 0) (by kernel_rfl) (by omega) ?_
  refine wp_skip ?_
  refine then_normal (hK2 _ _ _ _ ?_)
  refine seq_ (fun K4 hK4 => ?_)
  refine reg_ ?_
  refine sq (o_pv (.pointer (some ⟨b2, 1, none⟩)) rfl (by kernel_rfl) ?_)
  refine sq (o_pv (.slice af ((K ++ [x]).length) cf) rfl (x_load1 (by kernel_rfl) Try.isAgg24 (k2.cell' 1 rfl)) ?_)
  replace hF := ((hF.step s1).step s2)
  replace hXo := ((hXo.step s1).step s2)
  refine sq (o_call 13 #[(.slice af ((K ++ [x]).length) cf)] rfl (x_call Try.call13 (by kernel_rfl)) (pop_w (K := K) (x := x) hXo hF (by omega)) ?_)
  rintro _ w3 ⟨e3, a17, c17, rfl, h17⟩
  have s3 := Step.of0 (b4 :: b2 :: X) e3
  refine sq (o_pv (.tuple #[(.slice a17 K.length c17), (.string x)]) rfl (by kernel_rfl) ?_)
  refine sq (o_pv (.slice a17 K.length c17) rfl (by kernel_rfl) ?_)
  refine sq (o_pv (.string x) rfl (by kernel_rfl) ?_)
  refine sq (o_pv (.slice a17 K.length c17) rfl (by kernel_rfl) ?_)
  refine sq (o_pv (.string x) rfl (by kernel_rfl) ?_)
  refine nil_ ?_
  refine then_normal (hK4 _ _ _ _ ?_)
  refine seq_ (fun K5 hK5 => ?_)
  refine reg_ ?_
  refine sq (o_pv (.pointer (some ⟨b2, 0, none⟩)) rfl (by kernel_rfl) ?_)
  replace k2 := (k2.evo0 e3)
  refine sq (o_pv (.slice ab Lb.length cb) rfl (x_load1 (by kernel_rfl) Try.isAgg24 (k2.cell' 0 rfl)) ?_)
  refine sq (o_pv (.string s) rfl (by kernel_rfl) ?_)
  replace hB := (((hB.step s1).step s2).step s3)
  replace hXo := (hXo.step s3)
  refine sq (o_call 12 #[(.slice ab Lb.length cb), (.string s)] rfl (x_call Try.call12 (by kernel_rfl)) (push_w (L := Lb) (M := pushL Lb s) hXo rfl hB hs (by omega)) ?_)
  rintro _ w4 ⟨e4, a23, c23, rfl, h23⟩
  have s4 := Step.of0 (b4 :: b2 :: X) e4
  refine sq (o_pv (.slice a17 K.length c17) rfl (by kernel_rfl) ?_)
  refine sq (o_pv (.agg #[(.slice a23 ((pushL Lb s).length) c23), (.slice a17 K.length c17)]) rfl (by kernel_rfl) ?_)
  refine sq (o_pv (.string x) rfl (by kernel_rfl) ?_)
  replace k4 := ((k4.evo0 e3).evo0 e4)
  refine sq (o_store (o := 0) (v := (.agg #[(.slice a23 ((pushL Lb s).length) c23), (.slice a17 K.length c17)])) [(.slice a23 ((pushL Lb s).length) c23), (.slice a17 K.length c17)] rfl k4 (by kernel_rfl) (by kernel_rfl) Try.sizeOf26 rfl rfl rfl ?_)
  intro w5 e5 kn5
  have s5 := Step.one e5 (X := b4 :: b2 :: X) (List.mem_cons_self)
  clear k4; have k4 := kn5
  refine sq (o_pv (.string x) rfl (by kernel_rfl) ?_)
  refine sq (o_pv (.int .i64 0) rfl (by kernel_rfl) ?_)
  refine nil_ ?_
  refine then_normal (hK5 _ _ _ _ ?_)
  refine wp_ret ?_
  refine end_ret hQ (.tuple #[(.agg #[(.slice a23 ((pushL Lb s).length) c23), (.slice a17 K.length c17)]), (.string x), (.int .i64 0)]) (rs3 Try.results9 (rs_agg [(.slice a23 ((pushL Lb s).length) c23), (.slice a17 K.length c17)] (by kernel_rfl) Try.isAgg26 Try.sizeOf26 (k4.cells' 0 rfl)) (rs_tmp (by kernel_rfl)) (rs_tmp (by kernel_rfl))) ?_
  replace E0 := (Evo.then1 (Evo.then0 (Evo.then0 (Evo.then0 (Evo.then0 E0 e1) e2) e3) e4) e5 n4)
  replace h23 := (h23.step s5)
  replace h17 := ((h17.step s4).step s5)
  exact ⟨E0, _, _, _, _, rfl, h23.less (Sub.trans (Sub.trans (Sub.refl _) (Sub.cons _ _)) (Sub.cons _ _)), h17.less (Sub.trans (Sub.trans (Sub.refl _) (Sub.cons _ _)) (Sub.cons _ _))⟩

set_option maxRecDepth 20000 in
set_option maxHeartbeats 4000000 in
theorem texts_w {X : List Nat} {w : World} {a a2 : Option Addr} {c c2 : Nat} {L M : List ByteArray} {b : Bool} (hb : decide (L = M) = b) (hL : Sl rStr X w a c L) (hM : Sl rStr X w a2 c2 M) :
    Calls Try.prog 16 #[(.slice a L.length c), (.slice a2 M.length c2)] w (Ret fun v w' => Evo [] w w' ∧ v = .bool b) := by
  have hz1 := hL.len; have hz2 := hM.len
  have E0 : Evo [] w w := RB.refl _ _ _
  refine enter_ Try.func16 rfl 26 [(0, (.slice a L.length c)), (1, (.slice a2 M.length c2))] (by kernel_rfl) (fun Q hQ => ?_)
  refine seq_ (fun K1 hK1 => ?_)
  refine reg_ ?_
  refine sq (o_pv (.bool false) rfl (by kernel_rfl) ?_)
  refine nil_ ?_
  refine then_normal (hK1 _ _ _ _ ?_)
  refine seq_ (fun K2 hK2 => ?_)
  refine seq_ (fun K3 hK3 => ?_)
  refine reg_ ?_
  refine sq (o_pv (.slice a L.length c) rfl (by kernel_rfl) ?_)
  refine sq (o_pv (.int .i64 ((L.length : Nat) : Int)) rfl (by kernel_rfl) ?_)
  refine sq (o_pv (.slice a2 M.length c2) rfl (by kernel_rfl) ?_)
  refine sq (o_pv (.int .i64 ((M.length : Nat) : Int)) rfl (by kernel_rfl) ?_)
  refine sq (o_pv (.bool (!decide (((L.length : Nat) : Int) = ((M.length : Nat) : Int)))) rfl (by kernel_rfl) ?_)
  refine nil_ ?_
  refine then_normal (hK3 _ _ _ _ ?_)
  refine cond_nd (((L.length : Nat) : Int) = ((M.length : Nat) : Int)) (by kernel_rfl) (fun h10 => ?_) (fun h10 => ?_)
  ·
    refine seq_ (fun K4 hK4 => ?_)
    refine reg_ ?_
    refine sq (o_pv (.bool false) rfl (by kernel_rfl) ?_)
    refine nil_ ?_
    refine then_normal (hK4 _ _ _ _ ?_)
    refine wp_ret ?_
    refine then_ret ?_
    refine end_ret hQ (.bool false) (by kernel_rfl) ?_
    exact ⟨E0, by rw [← hb, decide_eq_false (fun e => h10 (by rw [e]))]⟩
  ·
    refine wp_skip ?_
    refine then_normal (hK2 _ _ _ _ ?_)
    refine seq_ (fun K5 hK5 => ?_)
    refine seq_ (fun K6 hK6 => ?_)
    refine reg_ ?_
    refine sq (o_pv (.int .i64 0) rfl (by kernel_rfl) ?_)
    refine nil_ ?_
    refine then_normal (hK6 _ _ _ _ ?_)
    refine wp_block ?_
    refine loop_ 67106864 (fun kq lq wl0 => ∃ i : Nat, (lq = [(5, (.int .i64 ((i : Nat) : Int)))]) ∧ (kq = L.length - i) ∧ (Evo [] w wl0) ∧ (Sl rStr X wl0 a c L) ∧ (Sl rStr X wl0 a2 c2 M) ∧ (i ≤ L.length) ∧ (L.take i = M.take i)) (L.length - 0) [(5, (.int .i64 0))] (vs_cons (by kernel_rfl) (vs_nil)) ⟨0, rfl, rfl, E0, hL, hM, (by omega), (by simp)⟩ ?_
    rintro k0 l0 wl0 g0 ⟨i, rfl, hk0, E0, hL, hM, hi, ht⟩ Kl0 hA0
    refine seq_ (fun K7 hK7 => ?_)
    refine seq_ (fun K8 hK8 => ?_)
    refine reg_ ?_
    refine sq (o_pv (.int .i64 ((i : Nat) : Int)) rfl (by kernel_rfl) ?_)
    refine sq (o_pv (.slice a L.length c) rfl (by kernel_rfl) ?_)
    refine sq (o_pv (.int .i64 ((L.length : Nat) : Int)) rfl (by kernel_rfl) ?_)
    refine sq (o_pv (.bool (decide (((i : Nat) : Int) < ((L.length : Nat) : Int)))) rfl (by kernel_rfl) ?_)
    refine nil_ ?_
    refine then_normal (hK8 _ _ _ _ ?_)
    refine cond_d (((i : Nat) : Int) < ((L.length : Nat) : Int)) (by kernel_rfl) (fun h14 => ?_) (fun h14 => ?_)
    ·
      refine wp_skip ?_
      refine then_normal (hK7 _ _ _ _ ?_)
      refine seq_ (fun K9 hK9 => ?_)
      refine wp_block ?_
      refine seq_ (fun K10 hK10 => ?_)
      refine reg_drawn (RB wl0.heap.size []) 9 (by kernel_rfl) (fun w1 hd6 => ?_)
      have e1 := Evo.of_drew hd6
      have z6 : w1.heap.size = wl0.heap.size := by rw [hd6]
      clear hd6
      have s1 := Step.of0 X e1
      replace E0 := (Evo.then0 E0 e1)
      have zr6 : w.heap.size ≤ wl0.heap.size := by have := E0.size; omega
      refine r_take 0 (.slice a L.length c) (RB.pre _ _) rfl (by kernel_rfl) (fun _ _ _ h => hQ.panic _ _ _ _ _ h) (.inl ⟨rfl, fun wq hq => (by kernel_rfl)⟩) ?_
      refine r_take 1 (.int .i64 ((i : Nat) : Int)) (RB.pre _ _) rfl (by kernel_rfl) (fun _ _ _ h => hQ.panic _ _ _ _ _ h) (.inl ⟨rfl, fun wq hq => (by kernel_rfl)⟩) ?_
      replace hL := (hL.step s1)
      have hi19 : i < L.length := by omega
      obtain ⟨b19, o19, cs19, ha19, hnx19, hlt19, hok19, hc19⟩ := hL.at _ hi19
      obtain ⟨rfl, hz19⟩ := hok19
      refine r_take 2 (.pointer (some ⟨b19, o19 + i * 1, none⟩)) (RB.pre _ _) rfl (by kernel_rfl) (fun _ _ _ h => hQ.panic _ _ _ _ _ h) (.inl ⟨rfl, fun wq hq => (x_indexAddr (m := L.length) (c := c) (k := .i64) (e := ((i : Nat) : Int)) (i := i) Try.underlying24 Try.sizeOf9 (by rw [← ha19]; kernel_rfl) (by kernel_rfl) rfl (by omega))⟩) ?_
      refine r_take 3 (.string (L[i])) (RB.pre _ _) rfl (by kernel_rfl) (fun _ _ _ h => hQ.panic _ _ _ _ _ h) (.inl ⟨rfl, fun wq hq => (x_load1 (by kernel_rfl) Try.isAgg9 (hc19.rb hq (by omega) (by simp)).one)⟩) ?_
      refine r_take 4 (.slice a2 M.length c2) (RB.pre _ _) rfl (by kernel_rfl) (fun _ _ _ h => hQ.panic _ _ _ _ _ h) (.inl ⟨rfl, fun wq hq => (by kernel_rfl)⟩) ?_
      refine r_take 5 (.int .i64 ((i : Nat) : Int)) (RB.pre _ _) rfl (by kernel_rfl) (fun _ _ _ h => hQ.panic _ _ _ _ _ h) (.inl ⟨rfl, fun wq hq => (by kernel_rfl)⟩) ?_
      replace hM := (hM.step s1)
      have hi23 : i < M.length := by omega
      obtain ⟨b23, o23, cs23, ha23, hnx23, hlt23, hok23, hc23⟩ := hM.at _ hi23
      obtain ⟨rfl, hz23⟩ := hok23
      refine r_take 6 (.pointer (some ⟨b23, o23 + i * 1, none⟩)) (RB.pre _ _) rfl (by kernel_rfl) (fun _ _ _ h => hQ.panic _ _ _ _ _ h) (.inl ⟨rfl, fun wq hq => (x_indexAddr (m := M.length) (c := c2) (k := .i64) (e := ((i : Nat) : Int)) (i := i) Try.underlying24 Try.sizeOf9 (by rw [← ha23]; kernel_rfl) (by kernel_rfl) rfl (by omega))⟩) ?_
      refine r_take 7 (.string (M[i])) (RB.pre _ _) rfl (by kernel_rfl) (fun _ _ _ h => hQ.panic _ _ _ _ _ h) (.inl ⟨rfl, fun wq hq => (x_load1 (by kernel_rfl) Try.isAgg9 (hc23.rb hq (by omega) (by simp)).one)⟩) ?_
      refine r_take 8 (.bool (!decide ((L[i] : ByteArray) = M[i]))) (RB.pre _ _) rfl (by kernel_rfl) (fun _ _ _ h => hQ.panic _ _ _ _ _ h) (.inl ⟨rfl, fun wq hq => (x_strne (by kernel_rfl) (by kernel_rfl))⟩) ?_
      refine r_done (by kernel_rfl) ?_
      refine then_normal (hK10 _ _ _ _ ?_)
      refine cond_nd ((L[i] : ByteArray) = M[i]) (by kernel_rfl) (fun h25 => ?_) (fun h25 => ?_)
      ·
        refine seq_ (fun K11 hK11 => ?_)
        refine reg_ ?_
        refine sq (o_pv (.bool false) rfl (by kernel_rfl) ?_)
        refine nil_ ?_
        refine then_normal (hK11 _ _ _ _ ?_)
        refine wp_ret ?_
        refine blk_ret ?_
        refine then_ret ?_
        refine then_ret ?_
        refine blk_ret ?_
        refine then_ret ?_
        refine end_ret hQ (.bool false) (by kernel_rfl) ?_
        exact ⟨E0, by rw [← hb, decide_eq_false (ne_of_get hi19 hi23 h25)]⟩
      ·
        refine wp_skip ?_
        refine blk_normal ?_
        refine then_normal (hK9 _ _ _ _ ?_)
        refine reg_ ?_
        refine sq (o_pv (.int .i64 ((i : Nat) : Int)) rfl (by kernel_rfl) ?_)
        refine sq (o_pv (.int .i64 ((i + 1 : Nat) : Int)) rfl (x_add (a := ((i : Nat) : Int)) (b := 1) ((i + 1 : Nat) : Int) (by kernel_rfl) (by kernel_rfl) (by omega) (wrap_i64 (by omega) (by omega))) ?_)
        refine sq (o_pv (.int .i64 ((i + 1 : Nat) : Int)) rfl (by kernel_rfl) ?_)
        refine nil_ ?_
        refine then_normal (hA0 _ _ _ ⟨L.length - (i + 1), [(5, (.int .i64 ((i + 1 : Nat) : Int)))], by omega, fit_mk (AgB.mix _ _ _) (by kernel_rfl) (vs_cons (by kernel_rfl) (vs_nil)), ?_⟩)
        exact ⟨(i + 1), rfl, rfl, E0, hL, hM, (by omega), (take_eq_succ ht hi19 hi23 h25)⟩
    ·
      refine wp_exit ?_
      refine then_exit ?_
      refine then_exit ?_
      refine blk_exit ?_
      refine then_normal (hK5 _ _ _ _ ?_)
      refine seq_ (fun K12 hK12 => ?_)
      refine reg_ ?_
      refine sq (o_pv (.bool true) rfl (by kernel_rfl) ?_)
      refine nil_ ?_
      refine then_normal (hK12 _ _ _ _ ?_)
      refine wp_ret ?_
      refine end_ret hQ (.bool true) (by kernel_rfl) ?_
      exact ⟨E0, by rw [← hb, decide_eq_true (eq_of_take ht (by omega) (by omega))]⟩

set_option maxRecDepth 20000 in
set_option maxHeartbeats 4000000 in
theorem equal_w {X : List Nat} {w : World} {a a2 : Option Addr} {c c2 : Nat} {L M : List ByteArray} {b : Bool} (hb : decide (L = M) = b) (hL : Sl rStr X w a c L) (hM : Sl rStr X w a2 c2 M) :
    Calls Try.prog 17 #[(.slice a L.length c), (.slice a2 M.length c2)] w (Ret fun v w' => Evo [] w w' ∧ v = .bool b) := by
  have hz1 := hL.len; have hz2 := hM.len
  have E0 : Evo [] w w := RB.refl _ _ _
  refine enter_ Try.func17 rfl 26 [(0, (.slice a L.length c)), (1, (.slice a2 M.length c2))] (by kernel_rfl) (fun Q hQ => ?_)
  refine seq_ (fun K1 hK1 => ?_)
  refine reg_ ?_
  refine sq (o_pv (.bool false) rfl (by kernel_rfl) ?_)
  refine nil_ ?_
  refine then_normal (hK1 _ _ _ _ ?_)
  refine seq_ (fun K2 hK2 => ?_)
  refine seq_ (fun K3 hK3 => ?_)
  refine reg_ ?_
  refine sq (o_pv (.slice a L.length c) rfl (by kernel_rfl) ?_)
  refine sq (o_pv (.int .i64 ((L.length : Nat) : Int)) rfl (by kernel_rfl) ?_)
  refine sq (o_pv (.slice a2 M.length c2) rfl (by kernel_rfl) ?_)
  refine sq (o_pv (.int .i64 ((M.length : Nat) : Int)) rfl (by kernel_rfl) ?_)
  refine sq (o_pv (.bool (!decide (((L.length : Nat) : Int) = ((M.length : Nat) : Int)))) rfl (by kernel_rfl) ?_)
  refine nil_ ?_
  refine then_normal (hK3 _ _ _ _ ?_)
  refine cond_nd (((L.length : Nat) : Int) = ((M.length : Nat) : Int)) (by kernel_rfl) (fun h10 => ?_) (fun h10 => ?_)
  ·
    refine seq_ (fun K4 hK4 => ?_)
    refine reg_ ?_
    refine sq (o_pv (.bool false) rfl (by kernel_rfl) ?_)
    refine nil_ ?_
    refine then_normal (hK4 _ _ _ _ ?_)
    refine wp_ret ?_
    refine then_ret ?_
    refine end_ret hQ (.bool false) (by kernel_rfl) ?_
    exact ⟨E0, by rw [← hb, decide_eq_false (fun e => h10 (by rw [e]))]⟩
  ·
    refine wp_skip ?_
    refine then_normal (hK2 _ _ _ _ ?_)
    refine seq_ (fun K5 hK5 => ?_)
    refine seq_ (fun K6 hK6 => ?_)
    refine reg_ ?_
    refine sq (o_pv (.slice a L.length c) rfl (by kernel_rfl) ?_)
    refine sq (o_pv (.int .i64 ((L.length : Nat) : Int)) rfl (by kernel_rfl) ?_)
    refine sq (o_pv (.int .i64 0) rfl (by kernel_rfl) ?_)
    refine nil_ ?_
    refine then_normal (hK6 _ _ _ _ ?_)
    refine wp_block ?_
    refine loop_ 67100720 (fun kq lq wl0 => ∃ i : Nat, (lq = [(13, (.int .i64 ((i : Nat) : Int)))]) ∧ (kq = L.length - i) ∧ (Evo [] w wl0) ∧ (Sl rStr X wl0 a c L) ∧ (Sl rStr X wl0 a2 c2 M) ∧ (i ≤ L.length) ∧ (L.take i = M.take i)) (L.length - 0) [(13, (.int .i64 0))] (vs_cons (by kernel_rfl) (vs_nil)) ⟨0, rfl, rfl, E0, hL, hM, (by omega), (by simp)⟩ ?_
    rintro k0 l0 wl0 g0 ⟨i, rfl, hk0, E0, hL, hM, hi, ht⟩ Kl0 hA0
    refine seq_ (fun K7 hK7 => ?_)
    refine reg_ ?_
    refine sq (o_pv (.bool (decide (((i : Nat) : Int) < ((L.length : Nat) : Int)))) rfl (by kernel_rfl) ?_)
    refine nil_ ?_
    refine then_normal (hK7 _ _ _ _ ?_)
    refine seq_ (fun K8 hK8 => ?_)
    refine cond_d (((i : Nat) : Int) < ((L.length : Nat) : Int)) (by kernel_rfl) (fun h14 => ?_) (fun h14 => ?_)
    ·
      refine wp_skip ?_
      refine then_normal (hK8 _ _ _ _ ?_)
      refine seq_ (fun K9 hK9 => ?_)
      refine wp_block ?_
      refine seq_ (fun K10 hK10 => ?_)
      refine reg_ ?_
      refine sq (o_pv (.int .i64 ((i : Nat) : Int)) rfl (by kernel_rfl) ?_)
      refine sq (o_pv (.int .i64 ((i : Nat) : Int)) rfl (by kernel_rfl) ?_)
      refine nil_ ?_
      refine then_normal (hK10 _ _ _ _ ?_)
      refine seq_ (fun K11 hK11 => ?_)
      refine reg_drawn (RB wl0.heap.size []) 9 (by kernel_rfl) (fun w1 hd6 => ?_)
      have e1 := Evo.of_drew hd6
      have z6 : w1.heap.size = wl0.heap.size := by rw [hd6]
      clear hd6
      have s1 := Step.of0 X e1
      replace E0 := (Evo.then0 E0 e1)
      have zr6 : w.heap.size ≤ wl0.heap.size := by have := E0.size; omega
      refine r_take 0 (.slice a L.length c) (RB.pre _ _) rfl (by kernel_rfl) (fun _ _ _ h => hQ.panic _ _ _ _ _ h) (.inl ⟨rfl, fun wq hq => (by kernel_rfl)⟩) ?_
      refine r_take 1 (.int .i64 ((i : Nat) : Int)) (RB.pre _ _) rfl (by kernel_rfl) (fun _ _ _ h => hQ.panic _ _ _ _ _ h) (.inl ⟨rfl, fun wq hq => (by kernel_rfl)⟩) ?_
      replace hL := (hL.step s1)
      have hi18 : i < L.length := by omega
      obtain ⟨b18, o18, cs18, ha18, hnx18, hlt18, hok18, hc18⟩ := hL.at _ hi18
      obtain ⟨rfl, hz18⟩ := hok18
      refine r_take 2 (.pointer (some ⟨b18, o18 + i * 1, none⟩)) (RB.pre _ _) rfl (by kernel_rfl) (fun _ _ _ h => hQ.panic _ _ _ _ _ h) (.inl ⟨rfl, fun wq hq => (x_indexAddr (m := L.length) (c := c) (k := .i64) (e := ((i : Nat) : Int)) (i := i) Try.underlying24 Try.sizeOf9 (by rw [← ha18]; kernel_rfl) (by kernel_rfl) rfl (by omega))⟩) ?_
      refine r_take 3 (.string (L[i])) (RB.pre _ _) rfl (by kernel_rfl) (fun _ _ _ h => hQ.panic _ _ _ _ _ h) (.inl ⟨rfl, fun wq hq => (x_load1 (by kernel_rfl) Try.isAgg9 (hc18.rb hq (by omega) (by simp)).one)⟩) ?_
      refine r_take 4 (.slice a2 M.length c2) (RB.pre _ _) rfl (by kernel_rfl) (fun _ _ _ h => hQ.panic _ _ _ _ _ h) (.inl ⟨rfl, fun wq hq => (by kernel_rfl)⟩) ?_
      refine r_take 5 (.int .i64 ((i : Nat) : Int)) (RB.pre _ _) rfl (by kernel_rfl) (fun _ _ _ h => hQ.panic _ _ _ _ _ h) (.inl ⟨rfl, fun wq hq => (by kernel_rfl)⟩) ?_
      replace hM := (hM.step s1)
      have hi22 : i < M.length := by omega
      obtain ⟨b22, o22, cs22, ha22, hnx22, hlt22, hok22, hc22⟩ := hM.at _ hi22
      obtain ⟨rfl, hz22⟩ := hok22
      refine r_take 6 (.pointer (some ⟨b22, o22 + i * 1, none⟩)) (RB.pre _ _) rfl (by kernel_rfl) (fun _ _ _ h => hQ.panic _ _ _ _ _ h) (.inl ⟨rfl, fun wq hq => (x_indexAddr (m := M.length) (c := c2) (k := .i64) (e := ((i : Nat) : Int)) (i := i) Try.underlying24 Try.sizeOf9 (by rw [← ha22]; kernel_rfl) (by kernel_rfl) rfl (by omega))⟩) ?_
      refine r_take 7 (.string (M[i])) (RB.pre _ _) rfl (by kernel_rfl) (fun _ _ _ h => hQ.panic _ _ _ _ _ h) (.inl ⟨rfl, fun wq hq => (x_load1 (by kernel_rfl) Try.isAgg9 (hc22.rb hq (by omega) (by simp)).one)⟩) ?_
      refine r_take 8 (.bool (!decide ((L[i] : ByteArray) = M[i]))) (RB.pre _ _) rfl (by kernel_rfl) (fun _ _ _ h => hQ.panic _ _ _ _ _ h) (.inl ⟨rfl, fun wq hq => (x_strne (by kernel_rfl) (by kernel_rfl))⟩) ?_
      refine r_done (by kernel_rfl) ?_
      refine then_normal (hK11 _ _ _ _ ?_)
      refine cond_nd ((L[i] : ByteArray) = M[i]) (by kernel_rfl) (fun h24 => ?_) (fun h24 => ?_)
      ·
        refine seq_ (fun K12 hK12 => ?_)
        refine reg_ ?_
        refine sq (o_pv (.bool false) rfl (by kernel_rfl) ?_)
        refine nil_ ?_
        refine then_normal (hK12 _ _ _ _ ?_)
        refine wp_ret ?_
        refine blk_ret ?_
        refine then_ret ?_
        refine then_ret ?_
        refine blk_ret ?_
        refine then_ret ?_
        refine end_ret hQ (.bool false) (by kernel_rfl) ?_
        exact ⟨E0, by rw [← hb, decide_eq_false (ne_of_get hi18 hi22 h24)]⟩
      ·
        refine wp_skip ?_
        refine blk_normal ?_
        refine then_normal (hK9 _ _ _ _ ?_)
        refine reg_ ?_
        refine sq (o_pv (.int .i64 ((i + 1 : Nat) : Int)) rfl (x_add (a := ((i : Nat) : Int)) (b := 1) ((i + 1 : Nat) : Int) (by kernel_rfl) (by kernel_rfl) (by omega) (wrap_i64 (by omega) (by omega))) ?_)
        refine sq (o_pv (.int .i64 ((i + 1 : Nat) : Int)) rfl (by kernel_rfl) ?_)
        refine nil_ ?_
        refine then_normal (hA0 _ _ _ ⟨L.length - (i + 1), [(13, (.int .i64 ((i + 1 : Nat) : Int)))], by omega, fit_mk (AgB.mix _ _ _) (by kernel_rfl) (vs_cons (by kernel_rfl) (vs_nil)), ?_⟩)
        exact ⟨(i + 1), rfl, rfl, E0, hL, hM, (by omega), (take_eq_succ ht hi18 hi22 h24)⟩
    ·
      refine wp_exit ?_
      refine then_exit ?_
      refine then_exit ?_
      refine blk_exit ?_
      refine then_normal (hK5 _ _ _ _ ?_)
      refine seq_ (fun K13 hK13 => ?_)
      refine reg_ ?_
      refine sq (o_pv (.bool true) rfl (by kernel_rfl) ?_)
      refine nil_ ?_
      refine then_normal (hK13 _ _ _ _ ?_)
      refine wp_ret ?_
      refine end_ret hQ (.bool true) (by kernel_rfl) ?_
      exact ⟨E0, by rw [← hb, decide_eq_true (eq_of_take ht (by omega) (by omega))]⟩

set_option maxRecDepth 20000 in
set_option maxHeartbeats 4000000 in
theorem Texts_w {X : List Nat} {w : World} {a a2 : Option Addr} {c c2 : Nat} {L M : List ByteArray} {b : Bool} (hb : decide (L = M) = b) (hL : Sl rStr X w a c L) (hM : Sl rStr X w a2 c2 M) :
    Calls Try.prog 10 #[(.slice a L.length c), (.slice a2 M.length c2)] w (Ret fun v w' => Evo [] w w' ∧ v = .bool b) := by
  have E0 : Evo [] w w := RB.refl _ _ _
  refine enter_ Try.func10 rfl 8 [(0, (.slice a L.length c)), (1, (.slice a2 M.length c2))] (by kernel_rfl) (fun Q hQ => ?_)
  refine seq_ (fun K1 hK1 => ?_)
  refine reg_ ?_
  refine sq (o_pv (.bool false) rfl (by kernel_rfl) ?_)
  refine nil_ ?_
  refine then_normal (hK1 _ _ _ _ ?_)
  refine seq_ (fun K2 hK2 => ?_)
  refine reg_ ?_
  refine sq (o_pv (.slice a L.length c) rfl (by kernel_rfl) ?_)
  refine sq (o_pv (.slice a2 M.length c2) rfl (by kernel_rfl) ?_)
  refine sq (o_call 16 #[(.slice a L.length c), (.slice a2 M.length c2)] rfl (x_call Try.call16 (by kernel_rfl)) (texts_w (L := L) (M := M) rfl hL hM) ?_)
  rintro _ w1 ⟨e1, rfl⟩
  have s1 := Step.of0 X e1
  refine sq (o_pv (.bool (decide (L = M))) rfl (by kernel_rfl) ?_)
  refine nil_ ?_
  refine then_normal (hK2 _ _ _ _ ?_)
  refine wp_ret ?_
  refine end_ret hQ (.bool (decide (L = M))) (by kernel_rfl) ?_
  replace E0 := (Evo.then0 E0 e1)
  exact ⟨E0, by rw [hb]⟩

set_option maxRecDepth 20000 in
set_option maxHeartbeats 4000000 in
theorem Same_w {X : List Nat} {w : World} {ab af ab2 af2 : Option Addr} {cb cf cb2 cf2 : Nat} {Lb Lf Mb Mf : List ByteArray} {b : Bool} (hb : decide (Lb = Mb ∧ Lf = Mf) = b) (hB : Sl rStr X w ab cb Lb) (hF : Sl rStr X w af cf Lf) (hB2 : Sl rStr X w ab2 cb2 Mb) (hF2 : Sl rStr X w af2 cf2 Mf) :
    Calls Try.prog 11 #[(.agg #[(.slice ab Lb.length cb), (.slice af Lf.length cf)]), (.agg #[(.slice ab2 Mb.length cb2), (.slice af2 Mf.length cf2)])] w (Ret fun v w' => Evo [] w w' ∧ v = .bool b) := by
  have E0 : Evo [] w w := RB.refl _ _ _
  refine enter_ Try.func11 rfl 17 [(0, (.agg #[(.slice ab Lb.length cb), (.slice af Lf.length cf)])), (1, (.agg #[(.slice ab2 Mb.length cb2), (.slice af2 Mf.length cf2)]))] (by kernel_rfl) (fun Q hQ => ?_)
  refine seq_ (fun K1 hK1 => ?_)
  refine reg_ ?_
  refine sq (o_new [(.slice ab Lb.length cb), (.slice af Lf.length cf)] 26 rfl (by kernel_rfl) ?_)
  rintro b2 w1 hb2 e1 k2
  have n2 : w.heap.size ≤ b2 := Nat.le_trans E0.size (Nat.le_of_eq hb2.symm)
  have s1 := Step.fresh X e1 b2 (Nat.le_of_eq hb2.symm) k2.lt
  refine sq (o_new [(.slice ab2 Mb.length cb2), (.slice af2 Mf.length cf2)] 26 rfl (by kernel_rfl) ?_)
  rintro b3 w2 hb3 e2 k3
  have n3 : w.heap.size ≤ b3 := Nat.le_trans (Evo.then0 E0 e1).size (Nat.le_of_eq hb3.symm)
  have l2_3 : b2 < b3 := Nat.lt_of_lt_of_eq k2.lt hb3.symm
  have s2 := Step.fresh (b2 :: X) e2 b3 (Nat.le_of_eq hb3.symm) k3.lt
  refine sq (o_pv (.bool false) rfl (by kernel_rfl) ?_)
  refine nil_ ?_
  refine then_normal (hK1 _ _ _ _ ?_)
  refine seq_ (fun K2 hK2 => ?_)
  refine reg_ ?_
  refine sq (o_pv (.pointer (some ⟨b2, 0, none⟩)) rfl (by kernel_rfl) ?_)
  replace k2 := (k2.evo0 e2)
  refine sq (o_pv (.slice ab Lb.length cb) rfl (x_load1 (by kernel_rfl) Try.isAgg24 (k2.cell' 0 rfl)) ?_)
  refine sq (o_pv (.pointer (some ⟨b3, 0, none⟩)) rfl (by kernel_rfl) ?_)
  refine sq (o_pv (.slice ab2 Mb.length cb2) rfl (x_load1 (by kernel_rfl) Try.isAgg24 (k3.cell' 0 rfl)) ?_)
  by_cases h9 : Lb = Mb
  ·
    replace hB := ((hB.step s1).step s2)
    replace hB2 := ((hB2.step s1).step s2)
    refine sq (o_call 17 #[(.slice ab Lb.length cb), (.slice ab2 Mb.length cb2)] rfl (x_call Try.call17 (by kernel_rfl)) (equal_w (L := Lb) (M := Mb) (decide_eq_true h9) hB hB2) ?_)
    rintro _ w3 ⟨e3, rfl⟩
    have s3 := Step.of0 (b3 :: b2 :: X) e3
    refine sq (o_pv (.bool true) rfl (by kernel_rfl) ?_)
    refine sq (o_pv (.pointer (some ⟨b2, 1, none⟩)) (by kernel_rfl) (by kernel_rfl) ?_)
    replace k2 := (k2.evo0 e3)
    refine sq (o_pv (.slice af Lf.length cf) (by kernel_rfl) (x_load1 (by kernel_rfl) Try.isAgg24 (k2.cell' 1 rfl)) ?_)
    refine sq (o_pv (.pointer (some ⟨b3, 1, none⟩)) (by kernel_rfl) (by kernel_rfl) ?_)
    replace k3 := (k3.evo0 e3)
    refine sq (o_pv (.slice af2 Mf.length cf2) (by kernel_rfl) (x_load1 (by kernel_rfl) Try.isAgg24 (k3.cell' 1 rfl)) ?_)
    by_cases h15 : Lf = Mf
    ·
      replace hF := (((hF.step s1).step s2).step s3)
      replace hF2 := (((hF2.step s1).step s2).step s3)
      refine sq (o_call 17 #[(.slice af Lf.length cf), (.slice af2 Mf.length cf2)] (by kernel_rfl) (x_call Try.call17 (by kernel_rfl)) (equal_w (L := Lf) (M := Mf) (decide_eq_true h15) hF hF2) ?_)
      rintro _ w4 ⟨e4, rfl⟩
      have s4 := Step.of0 (b3 :: b2 :: X) e4
      refine sq (o_pv (.bool true) rfl (by kernel_rfl) ?_)
      refine sq (o_pv (.bool true) rfl (by kernel_rfl) ?_)
      refine nil_ ?_
      refine then_normal (hK2 _ _ _ _ ?_)
      refine wp_ret ?_
      refine end_ret hQ (.bool true) (by kernel_rfl) ?_
      replace E0 := (Evo.then0 (Evo.then0 (Evo.then0 (Evo.then0 E0 e1) e2) e3) e4)
      exact ⟨E0, by rw [← hb]; simp [*]⟩
    ·
      replace hF := (((hF.step s1).step s2).step s3)
      replace hF2 := (((hF2.step s1).step s2).step s3)
      refine sq (o_call 17 #[(.slice af Lf.length cf), (.slice af2 Mf.length cf2)] (by kernel_rfl) (x_call Try.call17 (by kernel_rfl)) (equal_w (L := Lf) (M := Mf) (decide_eq_false h15) hF hF2) ?_)
      rintro _ w5 ⟨e5, rfl⟩
      have s5 := Step.of0 (b3 :: b2 :: X) e5
      refine sq (o_pv (.bool false) rfl (by kernel_rfl) ?_)
      refine sq (o_pv (.bool false) rfl (by kernel_rfl) ?_)
      refine nil_ ?_
      refine then_normal (hK2 _ _ _ _ ?_)
      refine wp_ret ?_
      refine end_ret hQ (.bool false) (by kernel_rfl) ?_
      replace E0 := (Evo.then0 (Evo.then0 (Evo.then0 (Evo.then0 E0 e1) e2) e3) e5)
      exact ⟨E0, by rw [← hb]; simp [*]⟩
  ·
    replace hB := ((hB.step s1).step s2)
    replace hB2 := ((hB2.step s1).step s2)
    refine sq (o_call 17 #[(.slice ab Lb.length cb), (.slice ab2 Mb.length cb2)] rfl (x_call Try.call17 (by kernel_rfl)) (equal_w (L := Lb) (M := Mb) (decide_eq_false h9) hB hB2) ?_)
    rintro _ w6 ⟨e6, rfl⟩
    have s6 := Step.of0 (b3 :: b2 :: X) e6
    refine sq (o_pv (.bool false) rfl (by kernel_rfl) ?_)
    refine sq (o_not (by kernel_rfl) ?_)
    refine sq (o_not (by kernel_rfl) ?_)
    refine sq (o_not (by kernel_rfl) ?_)
    refine sq (o_not (by kernel_rfl) ?_)
    refine sq (o_not (by kernel_rfl) ?_)
    refine sq (o_pv (.bool false) rfl (by kernel_rfl) ?_)
    refine sq (o_pv (.bool false) rfl (by kernel_rfl) ?_)
    refine nil_ ?_
    refine then_normal (hK2 _ _ _ _ ?_)
    refine wp_ret ?_
    refine end_ret hQ (.bool false) (by kernel_rfl) ?_
    replace E0 := (Evo.then0 (Evo.then0 (Evo.then0 E0 e1) e2) e6)
    exact ⟨E0, by rw [← hb]; simp [*]⟩

set_option maxRecDepth 20000 in
set_option maxHeartbeats 4000000 in
theorem known_w {X : List Nat} {w : World} (hX0 : Old X w) :
    Calls Try.prog 6 #[] w (Ret fun v w' => Evo [] w w' ∧ v = .bool true) := by
  have hXo := hX0
  have E0 : Evo [] w w := RB.refl _ _ _
  refine enter_ Try.func6 rfl 70 [] (by kernel_rfl) (fun Q hQ => ?_)
  refine seq_ (fun K1 hK1 => ?_)
  refine reg_ ?_
  refine sq (o_pv (.bool false) rfl (by kernel_rfl) ?_)
  refine nil_ ?_
  refine then_normal (hK1 _ _ _ _ ?_)
  refine seq_ (fun K2 hK2 => ?_)
  refine reg_ ?_
  refine sq (o_pv (.agg #[(.slice none 0 0), (.slice none 0 0)]) rfl (by kernel_rfl) ?_)
  refine sq (o_call 7 #[(.agg #[(.slice none 0 0), (.slice none 0 0)]), (.string (ByteArray.mk #[97]))] rfl (x_call Try.call7 (by kernel_rfl)) (Do_w (Lb := []) (M := [(ByteArray.mk #[97])]) hXo rfl Sl.nil (by decide) (by first | omega | (simp <;> omega))) ?_)
  rintro _ w1 ⟨e1, a12, c12, rfl, h12⟩
  have s1 := Step.of0 X e1
  refine sq (o_new [(.slice none 0 0), (.slice none 0 0)] 26 rfl (by kernel_rfl) ?_)
  rintro b1 w2 hb1 e2 k1
  have n1 : w.heap.size ≤ b1 := Nat.le_trans (Evo.then0 E0 e1).size (Nat.le_of_eq hb1.symm)
  have s2 := Step.fresh X e2 b1 (Nat.le_of_eq hb1.symm) k1.lt
  refine sq (o_store (o := 0) (v := (.agg #[(.slice a12 (([(ByteArray.mk #[97])]).length) c12), (.slice none 0 0)])) [(.slice a12 (([(ByteArray.mk #[97])]).length) c12), (.slice none 0 0)] rfl k1 (by kernel_rfl) (by kernel_rfl) Try.sizeOf26 rfl rfl rfl ?_)
  intro w3 e3 kn3
  have s3 := Step.one e3 (X := b1 :: X) (List.mem_cons_self)
  clear k1; have k1 := kn3
  refine nil_ ?_
  refine then_normal (hK2 _ _ _ _ ?_)
  refine seq_ (fun K3 hK3 => ?_)
  refine reg_ ?_
  refine sq (o_pv (.agg #[(.slice a12 (([(ByteArray.mk #[97])]).length) c12), (.slice none 0 0)]) rfl (x_loadN [(.slice a12 (([(ByteArray.mk #[97])]).length) c12), (.slice none 0 0)] (by kernel_rfl) Try.isAgg26 Try.sizeOf26 (k1.cells' 0 rfl)) ?_)
  replace h12 := ((h12.step s2).step s3)
  replace hXo := (((hXo.step s1).step s2).step s3)
  refine sq (o_call 8 #[(.agg #[(.slice a12 (([(ByteArray.mk #[97])]).length) c12), (.slice none 0 0)]), (.string (ByteArray.mk #[98]))] rfl (x_call Try.call8 (by kernel_rfl)) (Undo_w (Lb := [(ByteArray.mk #[97])]) (Lf := []) (K := []) (x := (ByteArray.mk #[97])) (M := [(ByteArray.mk #[98])]) hXo rfl rfl h12 Sl.nil (by decide) (by first | omega | (simp <;> omega)) (by first | omega | (simp <;> omega))) ?_)
  rintro _ w4 ⟨e4, a1_15, c1_15, a2_15, c2_15, rfl, hb15, hf15⟩
  have s4 := Step.of0 (b1 :: X) e4
  refine sq (o_pv (.tuple #[(.agg #[(.slice a1_15 0 c1_15), (.slice a2_15 (([(ByteArray.mk #[98])]).length) c2_15)]), (.string (ByteArray.mk #[97])), (.int .i64 0)]) rfl (by kernel_rfl) ?_)
  refine sq (o_pv (.agg #[(.slice a1_15 0 c1_15), (.slice a2_15 (([(ByteArray.mk #[98])]).length) c2_15)]) rfl (by kernel_rfl) ?_)
  refine sq (o_pv (.string (ByteArray.mk #[97])) rfl (by kernel_rfl) ?_)
  refine sq (o_pv (.int .i64 0) rfl (by kernel_rfl) ?_)
  refine sq (o_new [(.slice none 0 0), (.slice none 0 0)] 26 rfl (by kernel_rfl) ?_)
  replace k1 := (k1.evo0 e4)
  rintro b2 w5 hb2 e5 k2
  have n2 : w.heap.size ≤ b2 := Nat.le_trans (Evo.then0 (Evo.then1 (Evo.then0 (Evo.then0 E0 e1) e2) e3 n1) e4).size (Nat.le_of_eq hb2.symm)
  have l1_2 : b1 < b2 := Nat.lt_of_lt_of_eq k1.lt hb2.symm
  have s5 := Step.fresh (b1 :: X) e5 b2 (Nat.le_of_eq hb2.symm) k2.lt
  refine sq (o_store (o := 0) (v := (.agg #[(.slice a1_15 0 c1_15), (.slice a2_15 (([(ByteArray.mk #[98])]).length) c2_15)])) [(.slice a1_15 0 c1_15), (.slice a2_15 (([(ByteArray.mk #[98])]).length) c2_15)] rfl k2 (by kernel_rfl) (by kernel_rfl) Try.sizeOf26 rfl rfl rfl ?_)
  intro w6 e6 kn6
  have s6 := Step.one e6 (X := b2 :: b1 :: X) (List.mem_cons_self)
  clear k2; have k2 := kn6
  refine sq (o_pv (.string (ByteArray.mk #[97])) rfl (by kernel_rfl) ?_)
  refine sq (o_pv (.int .i64 0) rfl (by kernel_rfl) ?_)
  refine nil_ ?_
  refine then_normal (hK3 _ _ _ _ ?_)
  refine seq_ (fun K4 hK4 => ?_)
  refine reg_ ?_
  refine sq (o_pv (.agg #[(.slice a1_15 0 c1_15), (.slice a2_15 (([(ByteArray.mk #[98])]).length) c2_15)]) rfl (x_loadN [(.slice a1_15 0 c1_15), (.slice a2_15 (([(ByteArray.mk #[98])]).length) c2_15)] (by kernel_rfl) Try.isAgg26 Try.sizeOf26 (k2.cells' 0 rfl)) ?_)
  replace hb15 := ((hb15.step s5).step s6)
  replace hf15 := ((hf15.step s5).step s6)
  replace hXo := (((hXo.step s4).step s5).step s6)
  refine sq (o_call 9 #[(.agg #[(.slice a1_15 0 c1_15), (.slice a2_15 (([(ByteArray.mk #[98])]).length) c2_15)]), (.string (ByteArray.mk #[97]))] rfl (x_call Try.call9 (by kernel_rfl)) (Redo_w (Lb := []) (Lf := [(ByteArray.mk #[98])]) (K := []) (x := (ByteArray.mk #[98])) (M := [(ByteArray.mk #[97])]) hXo rfl rfl hb15 hf15 (by decide) (by first | omega | (simp <;> omega)) (by first | omega | (simp <;> omega))) ?_)
  rintro _ w7 ⟨e7, a1_21, c1_21, a2_21, c2_21, rfl, hb21, hf21⟩
  have s7 := Step.of0 (b2 :: b1 :: X) e7
  refine sq (o_pv (.tuple #[(.agg #[(.slice a1_21 (([(ByteArray.mk #[97])]).length) c1_21), (.slice a2_21 0 c2_21)]), (.string (ByteArray.mk #[98])), (.int .i64 0)]) rfl (by kernel_rfl) ?_)
  refine sq (o_pv (.agg #[(.slice a1_21 (([(ByteArray.mk #[97])]).length) c1_21), (.slice a2_21 0 c2_21)]) rfl (by kernel_rfl) ?_)
  refine sq (o_pv (.string (ByteArray.mk #[98])) rfl (by kernel_rfl) ?_)
  refine sq (o_pv (.int .i64 0) rfl (by kernel_rfl) ?_)
  refine sq (o_new [(.slice none 0 0), (.slice none 0 0)] 26 rfl (by kernel_rfl) ?_)
  replace k1 := (((k1.evo0 e5).evo1 e6 (Nat.ne_of_lt l1_2)).evo0 e7)
  replace k2 := (k2.evo0 e7)
  rintro b5 w8 hb5 e8 k5
  have n5 : w.heap.size ≤ b5 := Nat.le_trans (Evo.then0 (Evo.then1 (Evo.then0 (Evo.then0 (Evo.then1 (Evo.then0 (Evo.then0 E0 e1) e2) e3 n1) e4) e5) e6 n2) e7).size (Nat.le_of_eq hb5.symm)
  have l1_5 : b1 < b5 := Nat.lt_of_lt_of_eq k1.lt hb5.symm
  have l2_5 : b2 < b5 := Nat.lt_of_lt_of_eq k2.lt hb5.symm
  have s8 := Step.fresh (b2 :: b1 :: X) e8 b5 (Nat.le_of_eq hb5.symm) k5.lt
  refine sq (o_store (o := 0) (v := (.agg #[(.slice a1_21 (([(ByteArray.mk #[97])]).length) c1_21), (.slice a2_21 0 c2_21)])) [(.slice a1_21 (([(ByteArray.mk #[97])]).length) c1_21), (.slice a2_21 0 c2_21)] rfl k5 (by kernel_rfl) (by kernel_rfl) Try.sizeOf26 rfl rfl rfl ?_)
  intro w9 e9 kn9
  have s9 := Step.one e9 (X := b5 :: b2 :: b1 :: X) (List.mem_cons_self)
  clear k5; have k5 := kn9
  refine sq (o_pv (.string (ByteArray.mk #[98])) rfl (by kernel_rfl) ?_)
  refine sq (o_pv (.int .i64 0) rfl (by kernel_rfl) ?_)
  refine nil_ ?_
  refine then_normal (hK4 _ _ _ _ ?_)
  refine seq_ (fun K5 hK5 => ?_)
  refine reg_ ?_
  refine sq (o_pv (.agg #[(.slice a1_21 (([(ByteArray.mk #[97])]).length) c1_21), (.slice a2_21 0 c2_21)]) rfl (x_loadN [(.slice a1_21 (([(ByteArray.mk #[97])]).length) c1_21), (.slice a2_21 0 c2_21)] (by kernel_rfl) Try.isAgg26 Try.sizeOf26 (k5.cells' 0 rfl)) ?_)
  replace hf21 := ((hf21.step s8).step s9)
  replace hXo := (((hXo.step s7).step s8).step s9)
  refine sq (o_call 9 #[(.agg #[(.slice a1_21 (([(ByteArray.mk #[97])]).length) c1_21), (.slice a2_21 0 c2_21)]), (.string (ByteArray.mk #[120]))] rfl (x_call Try.call9 (by kernel_rfl)) (Redo_w0 (Lb := []) hXo rfl) ?_)
  rintro _ w10 ⟨e10, rfl⟩
  have s10 := Step.of0 (b5 :: b2 :: b1 :: X) e10
  refine sq (o_pv (.tuple #[(.agg #[(.slice none 0 0), (.slice none 0 0)]), (.string (ByteArray.mk #[])), (.int .i64 10)]) rfl (by kernel_rfl) ?_)
  refine sq (o_pv (.agg #[(.slice none 0 0), (.slice none 0 0)]) rfl (by kernel_rfl) ?_)
  refine sq (o_pv (.string (ByteArray.mk #[])) rfl (by kernel_rfl) ?_)
  refine sq (o_pv (.int .i64 10) rfl (by kernel_rfl) ?_)
  refine sq (o_new [(.slice none 0 0), (.slice none 0 0)] 26 rfl (by kernel_rfl) ?_)
  replace k1 := (((k1.evo0 e8).evo1 e9 (Nat.ne_of_lt l1_5)).evo0 e10)
  replace k2 := (((k2.evo0 e8).evo1 e9 (Nat.ne_of_lt l2_5)).evo0 e10)
  replace k5 := (k5.evo0 e10)
  rintro b8 w11 hb8 e11 k8
  have n8 : w.heap.size ≤ b8 := Nat.le_trans (Evo.then0 (Evo.then1 (Evo.then0 (Evo.then0 (Evo.then1 (Evo.then0 (Evo.then0 (Evo.then1 (Evo.then0 (Evo.then0 E0 e1) e2) e3 n1) e4) e5) e6 n2) e7) e8) e9 n5) e10).size (Nat.le_of_eq hb8.symm)
  have l1_8 : b1 < b8 := Nat.lt_of_lt_of_eq k1.lt hb8.symm
  have l2_8 : b2 < b8 := Nat.lt_of_lt_of_eq k2.lt hb8.symm
  have l5_8 : b5 < b8 := Nat.lt_of_lt_of_eq k5.lt hb8.symm
  have s11 := Step.fresh (b5 :: b2 :: b1 :: X) e11 b8 (Nat.le_of_eq hb8.symm) k8.lt
  refine sq (o_store (o := 0) (v := (.agg #[(.slice none 0 0), (.slice none 0 0)])) [(.slice none 0 0), (.slice none 0 0)] rfl k8 (by kernel_rfl) (by kernel_rfl) Try.sizeOf26 rfl rfl rfl ?_)
  intro w12 e12 kn12
  have s12 := Step.one e12 (X := b8 :: b5 :: b2 :: b1 :: X) (List.mem_cons_self)
  clear k8; have k8 := kn12
  refine sq (o_pv (.string (ByteArray.mk #[])) rfl (by kernel_rfl) ?_)
  refine sq (o_pv (.int .i64 10) rfl (by kernel_rfl) ?_)
  refine nil_ ?_
  refine then_normal (hK5 _ _ _ _ ?_)
  refine seq_ (fun K6 hK6 => ?_)
  refine reg_ ?_
  refine sq (o_pv (.int .i64 0) rfl (by kernel_rfl) ?_)
  refine sq (o_pv (.int .i64 0) rfl (by kernel_rfl) ?_)
  refine sq (o_pv (.int .i64 0) rfl (x_add (a := 0) (b := 0) 0 (by kernel_rfl) (by kernel_rfl) (by omega) (wrap_i64 (by omega) (by omega))) ?_)
  refine sq (o_pv (.bool true) rfl (x_dt (p := (0 : Int) = 0) (by kernel_rfl) (by decide)) ?_)
  refine sq (o_pv (.bool true) rfl (by kernel_rfl) ?_)
  refine sq (o_pv (.string (ByteArray.mk #[97])) (by kernel_rfl) (by kernel_rfl) ?_)
  refine sq (o_pv (.bool true) (by kernel_rfl) (x_dt (p := ((ByteArray.mk #[97]) : ByteArray) = (ByteArray.mk #[97])) (x_streq (by kernel_rfl) (by kernel_rfl)) (by decide)) ?_)
  refine sq (o_pv (.bool true) rfl (by kernel_rfl) ?_)
  refine sq (o_pv (.bool true) rfl (by kernel_rfl) ?_)
  refine sq (o_pv (.string (ByteArray.mk #[98])) (by kernel_rfl) (by kernel_rfl) ?_)
  refine sq (o_pv (.bool true) (by kernel_rfl) (x_dt (p := ((ByteArray.mk #[98]) : ByteArray) = (ByteArray.mk #[98])) (x_streq (by kernel_rfl) (by kernel_rfl)) (by decide)) ?_)
  refine sq (o_pv (.bool true) rfl (by kernel_rfl) ?_)
  refine sq (o_pv (.bool true) rfl (by kernel_rfl) ?_)
  refine sq (o_pv (.int .i64 10) (by kernel_rfl) (by kernel_rfl) ?_)
  refine sq (o_pv (.bool true) (by kernel_rfl) (x_dt (p := (10 : Int) = 10) (by kernel_rfl) (by decide)) ?_)
  refine sq (o_pv (.bool true) rfl (by kernel_rfl) ?_)
  refine sq (o_pv (.bool true) rfl (by kernel_rfl) ?_)
  refine sq (o_pv (.pointer (some ⟨b1, 0, none⟩)) (by kernel_rfl) (by kernel_rfl) ?_)
  replace k1 := ((k1.evo0 e11).evo1 e12 (Nat.ne_of_lt l1_8))
  refine sq (o_pv (.slice a12 (([(ByteArray.mk #[97])]).length) c12) (by kernel_rfl) (x_load1 (by kernel_rfl) Try.isAgg24 (k1.cell' 0 rfl)) ?_)
  refine sq (o_pv (.int .i64 ((([(ByteArray.mk #[97])]).length : Nat) : Int)) (by kernel_rfl) (by kernel_rfl) ?_)
  refine sq (o_pv (.bool true) (by kernel_rfl) (x_dt (p := ((([(ByteArray.mk #[97])]).length : Nat) : Int) = 1) (by kernel_rfl) rfl) ?_)
  refine sq (o_pv (.bool true) rfl (by kernel_rfl) ?_)
  refine sq (o_pv (.bool true) rfl (by kernel_rfl) ?_)
  refine sq (o_pv (.pointer (some ⟨b2, 1, none⟩)) (by kernel_rfl) (by kernel_rfl) ?_)
  replace k2 := ((k2.evo0 e11).evo1 e12 (Nat.ne_of_lt l2_8))
  refine sq (o_pv (.slice a2_15 (([(ByteArray.mk #[98])]).length) c2_15) (by kernel_rfl) (x_load1 (by kernel_rfl) Try.isAgg24 (k2.cell' 1 rfl)) ?_)
  refine sq (o_pv (.int .i64 ((([(ByteArray.mk #[98])]).length : Nat) : Int)) (by kernel_rfl) (by kernel_rfl) ?_)
  refine sq (o_pv (.bool true) (by kernel_rfl) (x_dt (p := ((([(ByteArray.mk #[98])]).length : Nat) : Int) = 1) (by kernel_rfl) rfl) ?_)
  refine sq (o_pv (.bool true) rfl (by kernel_rfl) ?_)
  refine sq (o_pv (.bool true) rfl (by kernel_rfl) ?_)
  refine sq (o_pv (.pointer (some ⟨b5, 0, none⟩)) (by kernel_rfl) (by kernel_rfl) ?_)
  replace k5 := ((k5.evo0 e11).evo1 e12 (Nat.ne_of_lt l5_8))
  refine sq (o_pv (.slice a1_21 (([(ByteArray.mk #[97])]).length) c1_21) (by kernel_rfl) (x_load1 (by kernel_rfl) Try.isAgg24 (k5.cell' 0 rfl)) ?_)
  refine sq (o_pv (.int .i64 ((([(ByteArray.mk #[97])]).length : Nat) : Int)) (by kernel_rfl) (by kernel_rfl) ?_)
  refine sq (o_pv (.bool true) (by kernel_rfl) (x_dt (p := ((([(ByteArray.mk #[97])]).length : Nat) : Int) = 1) (by kernel_rfl) rfl) ?_)
  refine sq (o_pv (.bool true) rfl (by kernel_rfl) ?_)
  refine sq (o_pv (.bool true) rfl (by kernel_rfl) ?_)
  refine sq (o_pv (.agg #[(.slice a1_21 (([(ByteArray.mk #[97])]).length) c1_21), (.slice a2_21 0 c2_21)]) (by kernel_rfl) (x_loadN [(.slice a1_21 (([(ByteArray.mk #[97])]).length) c1_21), (.slice a2_21 0 c2_21)] (by kernel_rfl) Try.isAgg26 Try.sizeOf26 (k5.cells' 0 rfl)) ?_)
  refine sq (o_pv (.agg #[(.slice a12 (([(ByteArray.mk #[97])]).length) c12), (.slice none 0 0)]) (by kernel_rfl) (x_loadN [(.slice a12 (([(ByteArray.mk #[97])]).length) c12), (.slice none 0 0)] (by kernel_rfl) Try.isAgg26 Try.sizeOf26 (k1.cells' 0 rfl)) ?_)
  replace hb21 := (((((hb21.step s8).step s9).step s10).step s11).step s12)
  replace hf21 := (((hf21.step s10).step s11).step s12)
  replace h12 := (((((((((h12.step s4).step s5).step s6).step s7).step s8).step s9).step s10).step s11).step s12)
  refine sq (o_call 11 #[(.agg #[(.slice a1_21 (([(ByteArray.mk #[97])]).length) c1_21), (.slice a2_21 0 c2_21)]), (.agg #[(.slice a12 (([(ByteArray.mk #[97])]).length) c12), (.slice none 0 0)])] (by kernel_rfl) (x_call Try.call11 (by kernel_rfl)) (Same_w (Lb := [(ByteArray.mk #[97])]) (Lf := []) (Mb := [(ByteArray.mk #[97])]) (Mf := []) (decide_eq_true ⟨rfl, rfl⟩) hb21 hf21 h12 Sl.nil) ?_)
  rintro _ w13 ⟨e13, rfl⟩
  have s13 := Step.of0 (b8 :: b5 :: b2 :: b1 :: X) e13
  refine sq (o_pv (.bool true) rfl (by kernel_rfl) ?_)
  refine sq (o_pv (.bool true) rfl (by kernel_rfl) ?_)
  refine nil_ ?_
  refine then_normal (hK6 _ _ _ _ ?_)
  refine wp_ret ?_
  refine end_ret hQ (.bool true) (by kernel_rfl) ?_
  replace E0 := (Evo.then0 (Evo.then1 (Evo.then0 (Evo.then0 (Evo.then1 (Evo.then0 (Evo.then0 (Evo.then1 (Evo.then0 (Evo.then0 (Evo.then1 (Evo.then0 (Evo.then0 E0 e1) e2) e3 n1) e4) e5) e6 n2) e7) e8) e9 n5) e10) e11) e12 n8) e13)
  exact ⟨E0, rfl⟩

end Go.Proofs.Ytjbdamojffgmaaa
