/- Walks of functions: what each asks and computes, as a plain predicate, and the contract from it. -/
import Derived.Test.YtjejeipdndddpaaChecked
import Derived.Test.YtjejeipdndddpaaFull
namespace Go.Proofs.Ytjejeipdndddpaa
open Go

theorem elT22 : ElemT Try.prog 22 5 1 1 := elemT_mk (i := Try.t5) (z := (.int .u8 0)) (by kernel_rfl) (by kernel_rfl) (by kernel_rfl) (by kernel_rfl) Try.underlying22 Try.sizeOf5 (by decide) (by decide)
def slices_Clone_byte_byte_p (s : (List Int)) (Q : (List Int) → Prop) : Prop :=
  ((s.length ≤ 9223372036854775807) → ((s.length * 1 ≤ 140737488355328) ∧ Q s))
set_option maxRecDepth 20000 in
set_option maxHeartbeats 4000000 in
theorem slices_Clone_byte_byte_w {X : List Nat} {w : World} {s : (List Int)} {as1 : Option Addr} {cs2 : Nat} {Q : (List Int) → Prop} (hX0 : Old X w) (hs3 : Sq (rInt .u8) X w as1 cs2 s) (hp : slices_Clone_byte_byte_p s Q) :
    Calls Try.prog 21 #[(.slice as1 s.length cs2)] w (Ret fun v w' => ∃ (r0 : (List Int)), Q r0 ∧ Evo [] w w' ∧ ∃ (a0 : Option Addr) (c0 : Nat), v = .slice a0 r0.length c0 ∧ OS (rInt .u8) [] w.heap.size (blkL a0 ++ X) w' 5 a0 r0.length c0 r0) := by
  have hXo := hX0
  have E0 : Evo [] w w := RB.refl _ _ _
  have hS : Sub X X := Sub.refl _
  unfold slices_Clone_byte_byte_p at hp
  refine enter_ Try.func21 rfl 8 [(0, (.slice as1 s.length cs2))] (by kernel_rfl) (fun Qe hQ => ?_)
  replace hp := hp (Sq.len hs3)
  refine seq_ (fun _ K4 => ?_)
  refine reg_ ?_
  refine sq (o_pv (.slice none 0 0) rfl (by kernel_rfl) ?_)
  refine nil_ ?_
  refine then_normal (K4 _ _ _ _ ?_)
  refine seq_ (fun _ K5 => ?_)
  refine seq_ (fun _ K6 => ?_)
  refine reg_ ?_
  refine sq (o_pv (.slice as1 s.length cs2) rfl (by kernel_rfl) ?_)
  rcases as1 with _ | ad
  ·
    obtain rfl : s = [] := hs3.2.elim (fun h => h.1) (fun ⟨b, o, xs, h, _⟩ => by cases h)
    replace hp := hp.2
    refine sq (o_pv (.bool true) rfl (by kernel_rfl) ?_)
    refine nil_ ?_
    refine then_normal (K6 _ _ _ _ ?_)
    refine cond_t (by kernel_rfl) ?_
    refine seq_ (fun _ K7 => ?_)
    refine reg_ ?_
    refine sq (o_pv (.slice none 0 0) rfl (by kernel_rfl) ?_)
    refine nil_ ?_
    refine then_normal (K7 _ _ _ _ ?_)
    refine wp_ret ?_
    refine then_ret ?_
    refine end_ret hQ (.slice none 0 0) (by kernel_rfl) ?_
    exact ⟨([] : List Int), hp, E0, none, 0, rfl, (OS.nil _ _ _ _)⟩
  ·
    refine sq (o_pv (.bool false) rfl (by kernel_rfl) ?_)
    refine nil_ ?_
    refine then_normal (K6 _ _ _ _ ?_)
    refine cond_f (by kernel_rfl) ?_
    refine wp_skip ?_
    refine then_normal (K5 _ _ _ _ ?_)
    refine seq_ (fun _ K8 => ?_)
    refine reg_ ?_
    refine sq (o_rowX (R := (rInt .u8)) [] ([] : List Int) 5 0 (X := X) (B := w.heap.size) E0.size rfl (by kernel_rfl) Flat.nil rfl (by decide) ?_)
    intro b9 w10 X11 s12 O13 n14
    refine sq (o_pv (.slice (some ad) s.length cs2) rfl (by kernel_rfl) ?_)
    obtain ⟨h15, hp⟩ := hp
    have hs16 := (Sq.step hs3 s12)
    have E17 := (Evo.then0 E0 (Step.evo s12))
    refine sq (o_appX (R := (rInt .u8)) (X := X11) (B := w.heap.size) (L := ([] : List Int)) (M := s) rfl elT22 rfl E17.size O13 (Sq.src hs16) rfl (by kernel_rfl) (by kernel_rfl) (by simpa using h15) ?_)
    intro a18 n19 c20 w21 X22 s23 O24 gr25
    rw [List.nil_append] at O24
    refine sq (o_pv (.slice a18 n19 c20) rfl (by kernel_rfl) ?_)
    refine nil_ ?_
    refine then_normal (K8 _ _ _ _ ?_)
    refine wp_ret ?_
    have hS26 := (Sub.trans (Sub.trans hS (Step.up s12)) (Step.up s23))
    have E27 := (Evo.thenW E17 (Step.evo s23) O13.2.2)
    refine end_ret hQ (.slice a18 n19 c20) (by kernel_rfl) ?_
    exact ⟨s, hp, E27, a18, c20, by rw [show n19 = s.length from O24.1], (OS.give O24 hS26)⟩

def sha_first_p (Q : (List Int) → Prop) : Prop :=
  (∀ l13 : List Int, l13 = ([1779033703, 3144134277, 1013904242, 2773480762, 1359893119, 2600822924, 528734635, 1541459225] : List Int) → Q l13)
set_option maxRecDepth 20000 in
set_option maxHeartbeats 4000000 in
theorem sha_first_w {X : List Nat} {w : World} {Q : (List Int) → Prop} (hX0 : Old X w) (hp : sha_first_p Q) :
    Calls Try.prog 22 #[] w (Ret fun v w' => ∃ (r0 : (List Int)), Q r0 ∧ Evo [] w w' ∧ v = (.agg (r0.map (Value.int .u32)).toArray) ∧ okArr .u32 8 r0) := by
  have hXo := hX0
  have E0 : Evo [] w w := RB.refl _ _ _
  have hS : Sub X X := Sub.refl _
  unfold sha_first_p at hp
  refine enter_ Try.func22 rfl 2 [] (by kernel_rfl) (fun Qe hQ => ?_)
  refine seq_ (fun _ K1 => ?_)
  refine reg_ ?_
  refine sq (o_newX ((List.replicate 8 (0 : Int)).map (Value.int .u32)) 51 (X := X) (B := w.heap.size) E0.size rfl (by kernel_rfl) ?_)
  intro b2 w3 X4 s5 k6 n7
  refine nil_ ?_
  refine then_normal (K1 _ _ _ _ ?_)
  refine seq_ (fun _ K8 => ?_)
  refine reg_ ?_
  refine sq (o_pv (.agg (([1779033703, 3144134277, 1013904242, 2773480762, 1359893119, 2600822924, 528734635, 1541459225] : List Int).map (Value.int .u32)).toArray) rfl (by kernel_rfl) ?_)
  have E9 := (Evo.then0 E0 (Step.evo s5))
  refine sq (o_stW (k := .u32) (e := (List.replicate 8 (0 : Int))) (e' := ([1779033703, 3144134277, 1013904242, 2773480762, 1359893119, 2600822924, 528734635, 1541459225] : List Int)) rfl k6 (by kernel_rfl) (by kernel_rfl) Try.sizeOf51 (okArr_rep _ _) (okArr_lit (by decide)) ?_)
  intro w10 s11 k12
  obtain ⟨l13, ql13⟩ : ∃ y, y = ([1779033703, 3144134277, 1013904242, 2773480762, 1359893119, 2600822924, 528734635, 1541459225] : List Int) := ⟨_, rfl⟩
  replace hp := hp l13 ql13
  rw [← ql13] at k12
  have ok14 : okArr .u32 8 l13 := by rw [ql13]; exact (okArr_lit (by decide))
  refine nil_ ?_
  refine then_normal (K8 _ _ _ _ ?_)
  refine wp_ret ?_
  have E15 := (Evo.thenW E9 (Step.evo s11) k6.2.2)
  refine end_ret hQ (.agg (l13.map (Value.int .u32)).toArray) (rs_single Try.results22 (rs_aggA (e := l13) (by kernel_rfl) Try.isAgg51 Try.sizeOf51 ok14 k12.2.1)) ?_
  exact ⟨l13, hp, E15, rfl, ok14⟩

def sha_table_p (Q : (List Int) → Prop) : Prop :=
  (∀ l13 : List Int, l13 = ([1116352408, 1899447441, 3049323471, 3921009573, 961987163, 1508970993, 2453635748, 2870763221, 3624381080, 310598401, 607225278, 1426881987, 1925078388, 2162078206, 2614888103, 3248222580, 3835390401, 4022224774, 264347078, 604807628, 770255983, 1249150122, 1555081692, 1996064986, 2554220882, 2821834349, 2952996808, 3210313671, 3336571891, 3584528711, 113926993, 338241895, 666307205, 773529912, 1294757372, 1396182291, 1695183700, 1986661051, 2177026350, 2456956037, 2730485921, 2820302411, 3259730800, 3345764771, 3516065817, 3600352804, 4094571909, 275423344, 430227734, 506948616, 659060556, 883997877, 958139571, 1322822218, 1537002063, 1747873779, 1955562222, 2024104815, 2227730452, 2361852424, 2428436474, 2756734187, 3204031479, 3329325298] : List Int) → Q l13)
set_option maxRecDepth 20000 in
set_option maxHeartbeats 4000000 in
theorem sha_table_w {X : List Nat} {w : World} {Q : (List Int) → Prop} (hX0 : Old X w) (hp : sha_table_p Q) :
    Calls Try.prog 23 #[] w (Ret fun v w' => ∃ (r0 : (List Int)), Q r0 ∧ Evo [] w w' ∧ v = (.agg (r0.map (Value.int .u32)).toArray) ∧ okArr .u32 64 r0) := by
  have hXo := hX0
  have E0 : Evo [] w w := RB.refl _ _ _
  have hS : Sub X X := Sub.refl _
  unfold sha_table_p at hp
  refine enter_ Try.func23 rfl 2 [] (by kernel_rfl) (fun Qe hQ => ?_)
  refine seq_ (fun _ K1 => ?_)
  refine reg_ ?_
  refine sq (o_newX ((List.replicate 64 (0 : Int)).map (Value.int .u32)) 53 (X := X) (B := w.heap.size) E0.size rfl (by kernel_rfl) ?_)
  intro b2 w3 X4 s5 k6 n7
  refine nil_ ?_
  refine then_normal (K1 _ _ _ _ ?_)
  refine seq_ (fun _ K8 => ?_)
  refine reg_ ?_
  refine sq (o_pv (.agg (([1116352408, 1899447441, 3049323471, 3921009573, 961987163, 1508970993, 2453635748, 2870763221, 3624381080, 310598401, 607225278, 1426881987, 1925078388, 2162078206, 2614888103, 3248222580, 3835390401, 4022224774, 264347078, 604807628, 770255983, 1249150122, 1555081692, 1996064986, 2554220882, 2821834349, 2952996808, 3210313671, 3336571891, 3584528711, 113926993, 338241895, 666307205, 773529912, 1294757372, 1396182291, 1695183700, 1986661051, 2177026350, 2456956037, 2730485921, 2820302411, 3259730800, 3345764771, 3516065817, 3600352804, 4094571909, 275423344, 430227734, 506948616, 659060556, 883997877, 958139571, 1322822218, 1537002063, 1747873779, 1955562222, 2024104815, 2227730452, 2361852424, 2428436474, 2756734187, 3204031479, 3329325298] : List Int).map (Value.int .u32)).toArray) rfl (by kernel_rfl) ?_)
  have E9 := (Evo.then0 E0 (Step.evo s5))
  refine sq (o_stW (k := .u32) (e := (List.replicate 64 (0 : Int))) (e' := ([1116352408, 1899447441, 3049323471, 3921009573, 961987163, 1508970993, 2453635748, 2870763221, 3624381080, 310598401, 607225278, 1426881987, 1925078388, 2162078206, 2614888103, 3248222580, 3835390401, 4022224774, 264347078, 604807628, 770255983, 1249150122, 1555081692, 1996064986, 2554220882, 2821834349, 2952996808, 3210313671, 3336571891, 3584528711, 113926993, 338241895, 666307205, 773529912, 1294757372, 1396182291, 1695183700, 1986661051, 2177026350, 2456956037, 2730485921, 2820302411, 3259730800, 3345764771, 3516065817, 3600352804, 4094571909, 275423344, 430227734, 506948616, 659060556, 883997877, 958139571, 1322822218, 1537002063, 1747873779, 1955562222, 2024104815, 2227730452, 2361852424, 2428436474, 2756734187, 3204031479, 3329325298] : List Int)) rfl k6 (by kernel_rfl) (by kernel_rfl) Try.sizeOf53 (okArr_rep _ _) (okArr_lit (by decide)) ?_)
  intro w10 s11 k12
  obtain ⟨l13, ql13⟩ : ∃ y, y = ([1116352408, 1899447441, 3049323471, 3921009573, 961987163, 1508970993, 2453635748, 2870763221, 3624381080, 310598401, 607225278, 1426881987, 1925078388, 2162078206, 2614888103, 3248222580, 3835390401, 4022224774, 264347078, 604807628, 770255983, 1249150122, 1555081692, 1996064986, 2554220882, 2821834349, 2952996808, 3210313671, 3336571891, 3584528711, 113926993, 338241895, 666307205, 773529912, 1294757372, 1396182291, 1695183700, 1986661051, 2177026350, 2456956037, 2730485921, 2820302411, 3259730800, 3345764771, 3516065817, 3600352804, 4094571909, 275423344, 430227734, 506948616, 659060556, 883997877, 958139571, 1322822218, 1537002063, 1747873779, 1955562222, 2024104815, 2227730452, 2361852424, 2428436474, 2756734187, 3204031479, 3329325298] : List Int) := ⟨_, rfl⟩
  replace hp := hp l13 ql13
  rw [← ql13] at k12
  have ok14 : okArr .u32 64 l13 := by rw [ql13]; exact (okArr_lit (by decide))
  refine nil_ ?_
  refine then_normal (K8 _ _ _ _ ?_)
  refine wp_ret ?_
  have E15 := (Evo.thenW E9 (Step.evo s11) k6.2.2)
  refine end_ret hQ (.agg (l13.map (Value.int .u32)).toArray) (rs_single Try.results23 (rs_aggA (e := l13) (by kernel_rfl) Try.isAgg53 Try.sizeOf53 ok14 k12.2.1)) ?_
  exact ⟨l13, hp, E15, rfl, ok14⟩

def math_bits_RotateLeft32_p (x : Int) (k : Int) (Q : Int → Prop) : Prop :=
  ((inR .u32 x) → ((inR .i64 k) → (∀ y6 : Int, y6 = (((32 : Int) - (iand .u64 (iwrap .u64 k) (31 : Int))) % 18446744073709551616) → (∀ y8 : Int, y8 = (ior .u32 (ishl .u32 x (iand .u64 (iwrap .u64 k) (31 : Int))) (ishr .u32 x y6)) → Q y8))))
set_option maxRecDepth 20000 in
set_option maxHeartbeats 4000000 in
theorem math_bits_RotateLeft32_w {X : List Nat} {w : World} {x : Int} {k : Int} {Q : Int → Prop} (hX0 : Old X w) (rx1 : inR .u32 x) (rk2 : inR .i64 k) (hp : math_bits_RotateLeft32_p x k Q) :
    Calls Try.prog 43 #[(.int .u32 x), (.int .i64 k)] w (Ret fun v w' => ∃ (r0 : Int), Q r0 ∧ Evo [] w w' ∧ v = (.int .u32 r0) ∧ inR .u32 r0) := by
  have hXo := hX0
  have E0 : Evo [] w w := RB.refl _ _ _
  have hS : Sub X X := Sub.refl _
  unfold math_bits_RotateLeft32_p at hp
  refine enter_ Try.func43 rfl 17 [(0, (.int .u32 x)), (1, (.int .i64 k))] (by kernel_rfl) (fun Qe hQ => ?_)
  replace hp := hp rx1
  replace hp := hp rk2
  refine seq_ (fun _ K3 => ?_)
  refine reg_ ?_
  refine sq (o_pv (.int .u32 (0 : Int)) rfl (by kernel_rfl) ?_)
  refine nil_ ?_
  refine then_normal (K3 _ _ _ _ ?_)
  refine seq_ (fun _ K4 => ?_)
  refine reg_ ?_
  refine sq (o_pv (.int .i64 k) rfl (by kernel_rfl) ?_)
  refine sq (o_pv (.int .u64 (iwrap .u64 k)) rfl (x_convw (k := .i64) Try.underlying3 Try.underlying56 (by kernel_rfl)) ?_)
  refine sq (o_pv (.int .u64 (iand .u64 (iwrap .u64 k) (31 : Int))) rfl (x_and (k := .u64) (a := iwrap .u64 k) (b := (31 : Int)) (by kernel_rfl) (by kernel_rfl)) ?_)
  refine sq (o_pv (.int .u64 (iand .u64 (iwrap .u64 k) (31 : Int))) rfl (by kernel_rfl) ?_)
  refine nil_ ?_
  refine then_normal (K4 _ _ _ _ ?_)
  refine seq_ (fun _ K5 => ?_)
  refine reg_ ?_
  refine sq (o_pv (.int .u32 x) rfl (by kernel_rfl) ?_)
  refine sq (o_pv (.int .u64 (iand .u64 (iwrap .u64 k) (31 : Int))) rfl (by kernel_rfl) ?_)
  refine sq (o_pv (.int .u32 (ishl .u32 x (iand .u64 (iwrap .u64 k) (31 : Int)))) rfl (x_shl (k := .u32) (k' := .u64) (a := x) (b := iand .u64 (iwrap .u64 k) (31 : Int)) (by kernel_rfl) (by kernel_rfl) (inR_nn (inR_iand _ _ _))) ?_)
  refine sq (o_pv (.int .u32 x) rfl (by kernel_rfl) ?_)
  refine sq (o_pv (.int .u64 (iand .u64 (iwrap .u64 k) (31 : Int))) rfl (by kernel_rfl) ?_)
  obtain ⟨y6, qy6⟩ : ∃ y, y = (((32 : Int) - (iand .u64 (iwrap .u64 k) (31 : Int))) % 18446744073709551616) := ⟨_, rfl⟩
  replace hp := hp y6 qy6
  have r7 : inR .u64 y6 := by rw [qy6]; exact (inR_u64_mod _)
  refine sq (o_pv (.int .u64 y6) rfl (by rw [qy6]; exact (x_sub2 (k := .u64) (a := (32 : Int)) (b := iand .u64 (iwrap .u64 k) (31 : Int)) (((32 : Int) - (iand .u64 (iwrap .u64 k) (31 : Int))) % 18446744073709551616) (by kernel_rfl) (by kernel_rfl) (wrap_u64_mod _))) ?_)
  refine sq (o_pv (.int .u32 (ishr .u32 x y6)) rfl (x_shr (k := .u32) (k' := .u64) (a := x) (b := y6) (by kernel_rfl) (by kernel_rfl) (inR_nn r7)) ?_)
  obtain ⟨y8, qy8⟩ : ∃ y, y = (ior .u32 (ishl .u32 x (iand .u64 (iwrap .u64 k) (31 : Int))) (ishr .u32 x y6)) := ⟨_, rfl⟩
  replace hp := hp y8 qy8
  have r9 : inR .u32 y8 := by rw [qy8]; exact (inR_ior _ _ _)
  refine sq (o_pv (.int .u32 y8) rfl (by rw [qy8]; exact (x_or (k := .u32) (a := ishl .u32 x (iand .u64 (iwrap .u64 k) (31 : Int))) (b := ishr .u32 x y6) (by kernel_rfl) (by kernel_rfl))) ?_)
  refine sq (o_pv (.int .u32 y8) rfl (by kernel_rfl) ?_)
  refine nil_ ?_
  refine then_normal (K5 _ _ _ _ ?_)
  refine wp_ret ?_
  refine end_ret hQ (.int .u32 y8) (by kernel_rfl) ?_
  exact ⟨y8, hp, E0, rfl, r9⟩

def sha_right_p (w_ : Int) (n_ : Int) (Q : Int → Prop) : Prop :=
  ((inR .u32 w_) → ((inR .i64 n_) → ((inR .i64 (-n_)) ∧ (math_bits_RotateLeft32_p w_ (-n_) (fun (r6 : Int) => ((inR .u32 r6) → Q r6))))))
set_option maxRecDepth 20000 in
set_option maxHeartbeats 4000000 in
theorem sha_right_w {X : List Nat} {w : World} {w_ : Int} {n_ : Int} {Q : Int → Prop} (hX0 : Old X w) (rw_1 : inR .u32 w_) (rn_2 : inR .i64 n_) (hp : sha_right_p w_ n_ Q) :
    Calls Try.prog 38 #[(.int .u32 w_), (.int .i64 n_)] w (Ret fun v w' => ∃ (r0 : Int), Q r0 ∧ Evo [] w w' ∧ v = (.int .u32 r0) ∧ inR .u32 r0) := by
  have hXo := hX0
  have E0 : Evo [] w w := RB.refl _ _ _
  have hS : Sub X X := Sub.refl _
  unfold sha_right_p at hp
  refine enter_ Try.func38 rfl 9 [(0, (.int .u32 w_)), (1, (.int .i64 n_))] (by kernel_rfl) (fun Qe hQ => ?_)
  replace hp := hp rw_1
  replace hp := hp rn_2
  refine seq_ (fun _ K3 => ?_)
  refine reg_ ?_
  refine sq (o_pv (.int .u32 (0 : Int)) rfl (by kernel_rfl) ?_)
  refine nil_ ?_
  refine then_normal (K3 _ _ _ _ ?_)
  refine seq_ (fun _ K4 => ?_)
  refine reg_ ?_
  refine sq (o_pv (.int .u32 w_) rfl (by kernel_rfl) ?_)
  refine sq (o_pv (.int .i64 n_) rfl (by kernel_rfl) ?_)
  obtain ⟨h5, hp⟩ := hp
  refine sq (o_pv (.int .i64 (-n_)) rfl (x_neg (k := .i64) (a := n_) (-n_) (by kernel_rfl) (wrap_inR h5)) ?_)
  refine sq (o_call 43 #[(.int .u32 w_), (.int .i64 (-n_))] rfl (x_call Try.call43 (by kernel_rfl)) (math_bits_RotateLeft32_w (X := []) (x := w_) (k := -n_) (Old.nil _) rw_1 h5 hp) ?_)
  rintro _ w7 ⟨r6, hp, e8, rfl, rr10⟩
  have s9 := Step.of0 X e8
  replace hp := hp rr10
  refine sq (o_pv (.int .u32 r6) rfl (by kernel_rfl) ?_)
  refine nil_ ?_
  refine then_normal (K4 _ _ _ _ ?_)
  refine wp_ret ?_
  have E11 := (Evo.then0 E0 e8)
  refine end_ret hQ (.int .u32 r6) (by kernel_rfl) ?_
  exact ⟨r6, hp, E11, rfl, rr10⟩

def sha_words_p (b : (List Int)) (Q : (List Int) → Prop) : Prop :=
  ((b.length ≤ 9223372036854775807) → (∃ (I197 : Int → (List Int) → Prop) (m198 : Int → (List Int) → Nat), (I197 (0 : Int) (List.replicate 64 (0 : Int))) ∧ ∀ (s108 : Int) (f110 : (List Int)), (I197 s108 f110) → (inR .i64 s108) → (okArr .u32 64 f110) → (((s108 < (16 : Int)) → ((inR .i64 ((4 : Int) * s108)) ∧ ((inL b ((4 : Int) * s108)) ∧ ((inR .u8 (lget b ((4 : Int) * s108))) → ((inR .i64 ((4 : Int) * s108)) ∧ ((inR .i64 (((4 : Int) * s108) + (1 : Int))) ∧ ((inL b (((4 : Int) * s108) + (1 : Int))) ∧ ((inR .u8 (lget b (((4 : Int) * s108) + (1 : Int)))) → (∀ y259 : Int, y259 = (ior .u32 (ishl .u32 (lget b ((4 : Int) * s108)) (24 : Int)) (ishl .u32 (lget b (((4 : Int) * s108) + (1 : Int))) (16 : Int))) → ((inR .i64 ((4 : Int) * s108)) ∧ ((inR .i64 (((4 : Int) * s108) + (2 : Int))) ∧ ((inL b (((4 : Int) * s108) + (2 : Int))) ∧ ((inR .u8 (lget b (((4 : Int) * s108) + (2 : Int)))) → (∀ y274 : Int, y274 = (ior .u32 y259 (ishl .u32 (lget b (((4 : Int) * s108) + (2 : Int))) (8 : Int))) → ((inR .i64 ((4 : Int) * s108)) ∧ ((inR .i64 (((4 : Int) * s108) + (3 : Int))) ∧ ((inL b (((4 : Int) * s108) + (3 : Int))) ∧ ((inR .u8 (lget b (((4 : Int) * s108) + (3 : Int)))) → ((0 ≤ s108 ∧ s108 < 64) ∧ (∀ l293 : List Int, l293 = (lset f110 s108 (ior .u32 y274 (lget b (((4 : Int) * s108) + (3 : Int))))) → ((inR .i64 (s108 + (1 : Int))) ∧ ((I197 (s108 + (1 : Int)) l293) ∧ m198 (s108 + (1 : Int)) l293 < m198 s108 f110)))))))))))))))))))))) ∧ ((¬ (s108 < (16 : Int))) → (∃ (I466 : Int → (List Int) → Prop) (m467 : Int → (List Int) → Nat), (I466 (16 : Int) f110) ∧ ∀ (i383 : Int) (f385 : (List Int)), (I466 i383 f385) → (inR .i64 i383) → (okArr .u32 64 f385) → (((i383 < (64 : Int)) → ((inR .i64 (i383 - (15 : Int))) ∧ ((0 ≤ (i383 - (15 : Int)) ∧ (i383 - (15 : Int)) < 64) ∧ ((inR .i64 (i383 - (2 : Int))) ∧ ((0 ≤ (i383 - (2 : Int)) ∧ (i383 - (2 : Int)) < 64) ∧ ((inR .i64 (i383 - (16 : Int))) ∧ ((0 ≤ (i383 - (16 : Int)) ∧ (i383 - (16 : Int)) < 64) ∧ ((inR .i64 (i383 - (7 : Int))) ∧ ((0 ≤ (i383 - (7 : Int)) ∧ (i383 - (7 : Int)) < 64) ∧ (sha_right_p (lget f385 (i383 - (15 : Int))) (7 : Int) (fun (r515 : Int) => ((inR .u32 r515) → (sha_right_p (lget f385 (i383 - (15 : Int))) (18 : Int) (fun (r521 : Int) => ((inR .u32 r521) → (∀ y527 : Int, y527 = (ixor .u32 (ixor .u32 r515 r521) (ishr .u32 (lget f385 (i383 - (15 : Int))) (3 : Int))) → (∀ y529 : Int, y529 = (((((lget f385 (i383 - (16 : Int))) + y527) % 4294967296) + (lget f385 (i383 - (7 : Int)))) % 4294967296) → (sha_right_p (lget f385 (i383 - (2 : Int))) (17 : Int) (fun (r531 : Int) => ((inR .u32 r531) → (sha_right_p (lget f385 (i383 - (2 : Int))) (19 : Int) (fun (r537 : Int) => ((inR .u32 r537) → (∀ y543 : Int, y543 = (ixor .u32 (ixor .u32 r531 r537) (ishr .u32 (lget f385 (i383 - (2 : Int))) (10 : Int))) → ((0 ≤ i383 ∧ i383 < 64) ∧ ((inR .i64 (i383 + (1 : Int))) ∧ ((I466 (i383 + (1 : Int)) (lset f385 i383 ((y529 + y543) % 4294967296))) ∧ m467 (i383 + (1 : Int)) (lset f385 i383 ((y529 + y543) % 4294967296)) < m467 i383 f385))))))))))))))))))))))))))) ∧ ((¬ (i383 < (64 : Int))) → Q f385)))))))
set_option maxRecDepth 20000 in
set_option maxHeartbeats 4000000 in
theorem sha_words_w {X : List Nat} {w : World} {b : (List Int)} {ab1 : Option Addr} {cb2 : Nat} {Q : (List Int) → Prop} (hX0 : Old X w) (hb3 : Sl (rInt .u8) X w ab1 cb2 b) (hp : sha_words_p b Q) :
    Calls Try.prog 37 #[(.slice ab1 b.length cb2)] w (Ret fun v w' => ∃ (r0 : (List Int)), Q r0 ∧ Evo [] w w' ∧ v = (.agg (r0.map (Value.int .u32)).toArray) ∧ okArr .u32 64 r0) := by
  have hXo := hX0
  have E0 : Evo [] w w := RB.refl _ _ _
  have hS : Sub X X := Sub.refl _
  unfold sha_words_p at hp
  refine enter_ Try.func37 rfl 89 [(0, (.slice ab1 b.length cb2))] (by kernel_rfl) (fun Qe hQ => ?_)
  replace hp := hp (Sl.len hb3)
  refine seq_ (fun _ K4 => ?_)
  refine reg_ ?_
  refine sq (o_newX ((List.replicate 64 (0 : Int)).map (Value.int .u32)) 53 (X := X) (B := w.heap.size) E0.size rfl (by kernel_rfl) ?_)
  intro b5 w6 X7 s8 k9 n10
  refine nil_ ?_
  refine then_normal (K4 _ _ _ _ ?_)
  refine seq_ (fun _ K11 => ?_)
  refine reg_ ?_
  have E18 := (Evo.then0 E0 (Step.evo s8))
  refine sq (o_newX ((List.replicate 64 (0 : Int)).map (Value.int .u32)) 53 (X := X7) (B := w.heap.size) E18.size rfl (by kernel_rfl) ?_)
  intro b12 w13 X14 s15 k16 n17
  have p19 := n17 _ (OB.old k9)
  refine nil_ ?_
  refine then_normal (K11 _ _ _ _ ?_)
  refine seq_ (fun _ K20 => ?_)
  refine seq_ (fun _ K21 => ?_)
  refine reg_ ?_
  refine sq (o_pv (.int .i64 (0 : Int)) rfl (by kernel_rfl) ?_)
  refine nil_ ?_
  refine then_normal (K21 _ _ _ _ ?_)
  refine wp_block ?_
  have hb207 := (Sl.step (Sl.step hb3 s8) s15)
  have hXo208 := (Old.step (Old.step hXo s8) s15)
  have E209 := (Evo.then0 E18 (Step.evo s15))
  have hS210 := (Sub.trans (Sub.trans hS (Step.up s8)) (Step.up s15))
  have k211 := (OB.step0 k9 s15)
  obtain ⟨I197, m198, hI199, hp⟩ := hp
  refine loop_ 140737488355088 (fun kq lq w201 => ∃ (X202 : List Nat) (s108 : Int) (f110 : (List Int)), (lq = [(8, (.int .i64 s108))]) ∧ (kq = m198 s108 f110) ∧ (Evo [] w w201) ∧ (Old X202 w201) ∧ (Sub X X202) ∧ (Sl (rInt .u8) X202 w201 ab1 cb2 b) ∧ (OB ([]) w.heap.size X202 w201 b5 ((List.replicate 64 (0 : Int)).map (Value.int .u32)) 53) ∧ (OB ([]) w.heap.size X202 w201 b12 (f110.map (Value.int .u32)) 53) ∧ (inR .i64 s108) ∧ (okArr .u32 64 f110) ∧ (I197 s108 f110)) (m198 (0 : Int) (List.replicate 64 (0 : Int))) [(8, (.int .i64 (0 : Int)))] (vs_cons (by kernel_rfl) vs_nil) ⟨X14, (0 : Int), (List.replicate 64 (0 : Int)), rfl, rfl, E209, hXo208, hS210, hb207, k211, k16, (by decide), (okArr_rep _ _), hI199⟩ ?_
  rintro _ _ w201 g204 ⟨X202, s108, f110, rfl, rfl, E212, hXo213, hS214, hb215, k216, k112, rs109, kf111, hI200⟩ Kl205 hA206
  replace hp := hp s108 f110 hI200 rs109 kf111
  refine seq_ (fun _ K217 => ?_)
  refine reg_ ?_
  refine sq (o_pv (.bool (decide (s108 < (16 : Int)))) rfl (by kernel_rfl) ?_)
  refine nil_ ?_
  refine then_normal (K217 _ _ _ _ ?_)
  refine seq_ (fun _ K218 => ?_)
  refine cond_d (s108 < (16 : Int)) (by kernel_rfl) (fun h219 => ?_) (fun h219 => ?_)
  ·
    replace hp := hp.1 h219
    refine wp_skip ?_
    refine then_normal (K218 _ _ _ _ ?_)
    refine seq_ (fun _ K220 => ?_)
    refine wp_block ?_
    refine seq_ (fun _ K221 => ?_)
    refine reg_ ?_
    refine sq (o_pv (.int .i64 s108) rfl (by kernel_rfl) ?_)
    refine sq (o_pv (.int .i64 s108) rfl (by kernel_rfl) ?_)
    refine nil_ ?_
    refine then_normal (K221 _ _ _ _ ?_)
    refine reg_drawn (RB w201.heap.size []) 35 (by kernel_rfl) (fun w222 hd223 => ?_)
    have e224 := Evo.of_drew hd223
    have z225 : w222.heap.size = w201.heap.size := by rw [hd223]
    clear hd223
    have s227 := Step.of0 X202 e224
    have er226 := RB.refl w201.heap.size [] w222
    have E228 := (Evo.then0 E212 (Step.evo s227))
    have hXo229 := (Old.step hXo213 s227)
    have hS230 := (Sub.trans hS214 (Step.up s227))
    have hb231 := (Sl.step hb215 s227)
    have k232 := (OB.step0 k216 s227)
    have k233 := (OB.step0 k112 s227)
    refine r_take 0 (.int .i64 s108) (RB.pre _ _) rfl (by kernel_rfl) (fun _ _ _ h => hQ.panic _ _ _ _ _ h) (.inl ⟨rfl, fun wq hq => (by kernel_rfl)⟩) ?_
    refine r_take 1 (.slice ab1 b.length cb2) (RB.pre _ _) rfl (by kernel_rfl) (fun _ _ _ h => hQ.panic _ _ _ _ _ h) (.inl ⟨rfl, fun wq hq => (by kernel_rfl)⟩) ?_
    refine r_take 2 (.int .i64 s108) (RB.pre _ _) rfl (by kernel_rfl) (fun _ _ _ h => hQ.panic _ _ _ _ _ h) (.inl ⟨rfl, fun wq hq => (by kernel_rfl)⟩) ?_
    obtain ⟨h234, hp⟩ := hp
    refine r_take 3 (.int .i64 ((4 : Int) * s108)) (RB.pre _ _) rfl (by kernel_rfl) (fun _ _ _ h => hQ.panic _ _ _ _ _ h) (.inl ⟨rfl, fun wq hq => (x_mul2 (k := .i64) (a := (4 : Int)) (b := s108) ((4 : Int) * s108) (by kernel_rfl) (by kernel_rfl) (wrap_inR h234))⟩) ?_
    obtain ⟨h235, hp⟩ := hp
    obtain ⟨b236, o237, cs238, ha239, nx240, lt241, ok242, hc243⟩ := Sl.atI hb231 ((4 : Int) * s108) h235
    obtain ⟨rfl, re244⟩ := ok242
    replace hp := hp re244
    refine r_take 4 (.pointer (some ⟨b236, o237 + ((4 : Int) * s108).toNat * 1, none⟩)) (RB.pre _ _) rfl (by kernel_rfl) (fun _ _ _ h => hQ.panic _ _ _ _ _ h) (.inl ⟨rfl, fun wq hq => (x_ixA (m := b.length) (c := cb2) (k := .i64) (i := (4 : Int) * s108) Try.underlying22 Try.sizeOf5 (by rw [← ha239]; kernel_rfl) (by kernel_rfl) h235)⟩) ?_
    refine r_take 5 (.int .u8 (lget b ((4 : Int) * s108))) (RB.pre _ _) rfl (by kernel_rfl) (fun _ _ _ h => hQ.panic _ _ _ _ _ h) (.inl ⟨rfl, fun wq hq => (x_load1 (by kernel_rfl) Try.isAgg5 ((CellsAt.rb hc243 (RB.trans er226 hq) (Nat.lt_of_lt_of_eq lt241 z225) (fun h => by cases h)) 0 _ rfl))⟩) ?_
    have r245 : inR .u32 (lget b ((4 : Int) * s108)) := inR_up (by decide) (by decide) re244
    refine r_take 6 (.int .u32 (lget b ((4 : Int) * s108))) (RB.pre _ _) rfl (by kernel_rfl) (fun _ _ _ h => hQ.panic _ _ _ _ _ h) (.inl ⟨rfl, fun wq hq => (x_conv (k := .u8) Try.underlying5 Try.underlying50 (by kernel_rfl) (wrap_inR r245))⟩) ?_
    refine r_take 7 (.int .u32 (ishl .u32 (lget b ((4 : Int) * s108)) (24 : Int))) (RB.pre _ _) rfl (by kernel_rfl) (fun _ _ _ h => hQ.panic _ _ _ _ _ h) (.inl ⟨rfl, fun wq hq => (x_shl (k := .u32) (k' := .u64) (a := lget b ((4 : Int) * s108)) (b := (24 : Int)) (by kernel_rfl) (by kernel_rfl) (by decide))⟩) ?_
    refine r_take 8 (.slice ab1 b.length cb2) (RB.pre _ _) rfl (by kernel_rfl) (fun _ _ _ h => hQ.panic _ _ _ _ _ h) (.inl ⟨rfl, fun wq hq => (by kernel_rfl)⟩) ?_
    refine r_take 9 (.int .i64 s108) (RB.pre _ _) rfl (by kernel_rfl) (fun _ _ _ h => hQ.panic _ _ _ _ _ h) (.inl ⟨rfl, fun wq hq => (by kernel_rfl)⟩) ?_
    obtain ⟨h246, hp⟩ := hp
    refine r_take 10 (.int .i64 ((4 : Int) * s108)) (RB.pre _ _) rfl (by kernel_rfl) (fun _ _ _ h => hQ.panic _ _ _ _ _ h) (.inl ⟨rfl, fun wq hq => (x_mul2 (k := .i64) (a := (4 : Int)) (b := s108) ((4 : Int) * s108) (by kernel_rfl) (by kernel_rfl) (wrap_inR h246))⟩) ?_
    obtain ⟨h247, hp⟩ := hp
    refine r_take 11 (.int .i64 (((4 : Int) * s108) + (1 : Int))) (RB.pre _ _) rfl (by kernel_rfl) (fun _ _ _ h => hQ.panic _ _ _ _ _ h) (.inl ⟨rfl, fun wq hq => (x_add2 (k := .i64) (a := (4 : Int) * s108) (b := (1 : Int)) (((4 : Int) * s108) + (1 : Int)) (by kernel_rfl) (by kernel_rfl) (wrap_inR h247))⟩) ?_
    obtain ⟨h248, hp⟩ := hp
    obtain ⟨b249, o250, cs251, ha252, nx253, lt254, ok255, hc256⟩ := Sl.atI hb231 (((4 : Int) * s108) + (1 : Int)) h248
    obtain ⟨rfl, re257⟩ := ok255
    replace hp := hp re257
    refine r_take 12 (.pointer (some ⟨b249, o250 + (((4 : Int) * s108) + (1 : Int)).toNat * 1, none⟩)) (RB.pre _ _) rfl (by kernel_rfl) (fun _ _ _ h => hQ.panic _ _ _ _ _ h) (.inl ⟨rfl, fun wq hq => (x_ixA (m := b.length) (c := cb2) (k := .i64) (i := ((4 : Int) * s108) + (1 : Int)) Try.underlying22 Try.sizeOf5 (by rw [← ha252]; kernel_rfl) (by kernel_rfl) h248)⟩) ?_
    refine r_take 13 (.int .u8 (lget b (((4 : Int) * s108) + (1 : Int)))) (RB.pre _ _) rfl (by kernel_rfl) (fun _ _ _ h => hQ.panic _ _ _ _ _ h) (.inl ⟨rfl, fun wq hq => (x_load1 (by kernel_rfl) Try.isAgg5 ((CellsAt.rb hc256 (RB.trans er226 hq) (Nat.lt_of_lt_of_eq lt254 z225) (fun h => by cases h)) 0 _ rfl))⟩) ?_
    have r258 : inR .u32 (lget b (((4 : Int) * s108) + (1 : Int))) := inR_up (by decide) (by decide) re257
    refine r_take 14 (.int .u32 (lget b (((4 : Int) * s108) + (1 : Int)))) (RB.pre _ _) rfl (by kernel_rfl) (fun _ _ _ h => hQ.panic _ _ _ _ _ h) (.inl ⟨rfl, fun wq hq => (x_conv (k := .u8) Try.underlying5 Try.underlying50 (by kernel_rfl) (wrap_inR r258))⟩) ?_
    refine r_take 15 (.int .u32 (ishl .u32 (lget b (((4 : Int) * s108) + (1 : Int))) (16 : Int))) (RB.pre _ _) rfl (by kernel_rfl) (fun _ _ _ h => hQ.panic _ _ _ _ _ h) (.inl ⟨rfl, fun wq hq => (x_shl (k := .u32) (k' := .u64) (a := lget b (((4 : Int) * s108) + (1 : Int))) (b := (16 : Int)) (by kernel_rfl) (by kernel_rfl) (by decide))⟩) ?_
    obtain ⟨y259, qy259⟩ : ∃ y, y = (ior .u32 (ishl .u32 (lget b ((4 : Int) * s108)) (24 : Int)) (ishl .u32 (lget b (((4 : Int) * s108) + (1 : Int))) (16 : Int))) := ⟨_, rfl⟩
    replace hp := hp y259 qy259
    have r260 : inR .u32 y259 := by rw [qy259]; exact (inR_ior _ _ _)
    refine r_take 16 (.int .u32 y259) (RB.pre _ _) rfl (by kernel_rfl) (fun _ _ _ h => hQ.panic _ _ _ _ _ h) (.inl ⟨rfl, fun wq hq => (by rw [qy259]; exact (x_or (k := .u32) (a := ishl .u32 (lget b ((4 : Int) * s108)) (24 : Int)) (b := ishl .u32 (lget b (((4 : Int) * s108) + (1 : Int))) (16 : Int)) (by kernel_rfl) (by kernel_rfl)))⟩) ?_
    refine r_take 17 (.slice ab1 b.length cb2) (RB.pre _ _) rfl (by kernel_rfl) (fun _ _ _ h => hQ.panic _ _ _ _ _ h) (.inl ⟨rfl, fun wq hq => (by kernel_rfl)⟩) ?_
    refine r_take 18 (.int .i64 s108) (RB.pre _ _) rfl (by kernel_rfl) (fun _ _ _ h => hQ.panic _ _ _ _ _ h) (.inl ⟨rfl, fun wq hq => (by kernel_rfl)⟩) ?_
    obtain ⟨h261, hp⟩ := hp
    refine r_take 19 (.int .i64 ((4 : Int) * s108)) (RB.pre _ _) rfl (by kernel_rfl) (fun _ _ _ h => hQ.panic _ _ _ _ _ h) (.inl ⟨rfl, fun wq hq => (x_mul2 (k := .i64) (a := (4 : Int)) (b := s108) ((4 : Int) * s108) (by kernel_rfl) (by kernel_rfl) (wrap_inR h261))⟩) ?_
    obtain ⟨h262, hp⟩ := hp
    refine r_take 20 (.int .i64 (((4 : Int) * s108) + (2 : Int))) (RB.pre _ _) rfl (by kernel_rfl) (fun _ _ _ h => hQ.panic _ _ _ _ _ h) (.inl ⟨rfl, fun wq hq => (x_add2 (k := .i64) (a := (4 : Int) * s108) (b := (2 : Int)) (((4 : Int) * s108) + (2 : Int)) (by kernel_rfl) (by kernel_rfl) (wrap_inR h262))⟩) ?_
    obtain ⟨h263, hp⟩ := hp
    obtain ⟨b264, o265, cs266, ha267, nx268, lt269, ok270, hc271⟩ := Sl.atI hb231 (((4 : Int) * s108) + (2 : Int)) h263
    obtain ⟨rfl, re272⟩ := ok270
    replace hp := hp re272
    refine r_take 21 (.pointer (some ⟨b264, o265 + (((4 : Int) * s108) + (2 : Int)).toNat * 1, none⟩)) (RB.pre _ _) rfl (by kernel_rfl) (fun _ _ _ h => hQ.panic _ _ _ _ _ h) (.inl ⟨rfl, fun wq hq => (x_ixA (m := b.length) (c := cb2) (k := .i64) (i := ((4 : Int) * s108) + (2 : Int)) Try.underlying22 Try.sizeOf5 (by rw [← ha267]; kernel_rfl) (by kernel_rfl) h263)⟩) ?_
    refine r_take 22 (.int .u8 (lget b (((4 : Int) * s108) + (2 : Int)))) (RB.pre _ _) rfl (by kernel_rfl) (fun _ _ _ h => hQ.panic _ _ _ _ _ h) (.inl ⟨rfl, fun wq hq => (x_load1 (by kernel_rfl) Try.isAgg5 ((CellsAt.rb hc271 (RB.trans er226 hq) (Nat.lt_of_lt_of_eq lt269 z225) (fun h => by cases h)) 0 _ rfl))⟩) ?_
    have r273 : inR .u32 (lget b (((4 : Int) * s108) + (2 : Int))) := inR_up (by decide) (by decide) re272
    refine r_take 23 (.int .u32 (lget b (((4 : Int) * s108) + (2 : Int)))) (RB.pre _ _) rfl (by kernel_rfl) (fun _ _ _ h => hQ.panic _ _ _ _ _ h) (.inl ⟨rfl, fun wq hq => (x_conv (k := .u8) Try.underlying5 Try.underlying50 (by kernel_rfl) (wrap_inR r273))⟩) ?_
    refine r_take 24 (.int .u32 (ishl .u32 (lget b (((4 : Int) * s108) + (2 : Int))) (8 : Int))) (RB.pre _ _) rfl (by kernel_rfl) (fun _ _ _ h => hQ.panic _ _ _ _ _ h) (.inl ⟨rfl, fun wq hq => (x_shl (k := .u32) (k' := .u64) (a := lget b (((4 : Int) * s108) + (2 : Int))) (b := (8 : Int)) (by kernel_rfl) (by kernel_rfl) (by decide))⟩) ?_
    obtain ⟨y274, qy274⟩ : ∃ y, y = (ior .u32 y259 (ishl .u32 (lget b (((4 : Int) * s108) + (2 : Int))) (8 : Int))) := ⟨_, rfl⟩
    replace hp := hp y274 qy274
    have r275 : inR .u32 y274 := by rw [qy274]; exact (inR_ior _ _ _)
    refine r_take 25 (.int .u32 y274) (RB.pre _ _) rfl (by kernel_rfl) (fun _ _ _ h => hQ.panic _ _ _ _ _ h) (.inl ⟨rfl, fun wq hq => (by rw [qy274]; exact (x_or (k := .u32) (a := y259) (b := ishl .u32 (lget b (((4 : Int) * s108) + (2 : Int))) (8 : Int)) (by kernel_rfl) (by kernel_rfl)))⟩) ?_
    refine r_take 26 (.slice ab1 b.length cb2) (RB.pre _ _) rfl (by kernel_rfl) (fun _ _ _ h => hQ.panic _ _ _ _ _ h) (.inl ⟨rfl, fun wq hq => (by kernel_rfl)⟩) ?_
    refine r_take 27 (.int .i64 s108) (RB.pre _ _) rfl (by kernel_rfl) (fun _ _ _ h => hQ.panic _ _ _ _ _ h) (.inl ⟨rfl, fun wq hq => (by kernel_rfl)⟩) ?_
    obtain ⟨h276, hp⟩ := hp
    refine r_take 28 (.int .i64 ((4 : Int) * s108)) (RB.pre _ _) rfl (by kernel_rfl) (fun _ _ _ h => hQ.panic _ _ _ _ _ h) (.inl ⟨rfl, fun wq hq => (x_mul2 (k := .i64) (a := (4 : Int)) (b := s108) ((4 : Int) * s108) (by kernel_rfl) (by kernel_rfl) (wrap_inR h276))⟩) ?_
    obtain ⟨h277, hp⟩ := hp
    refine r_take 29 (.int .i64 (((4 : Int) * s108) + (3 : Int))) (RB.pre _ _) rfl (by kernel_rfl) (fun _ _ _ h => hQ.panic _ _ _ _ _ h) (.inl ⟨rfl, fun wq hq => (x_add2 (k := .i64) (a := (4 : Int) * s108) (b := (3 : Int)) (((4 : Int) * s108) + (3 : Int)) (by kernel_rfl) (by kernel_rfl) (wrap_inR h277))⟩) ?_
    obtain ⟨h278, hp⟩ := hp
    obtain ⟨b279, o280, cs281, ha282, nx283, lt284, ok285, hc286⟩ := Sl.atI hb231 (((4 : Int) * s108) + (3 : Int)) h278
    obtain ⟨rfl, re287⟩ := ok285
    replace hp := hp re287
    refine r_take 30 (.pointer (some ⟨b279, o280 + (((4 : Int) * s108) + (3 : Int)).toNat * 1, none⟩)) (RB.pre _ _) rfl (by kernel_rfl) (fun _ _ _ h => hQ.panic _ _ _ _ _ h) (.inl ⟨rfl, fun wq hq => (x_ixA (m := b.length) (c := cb2) (k := .i64) (i := ((4 : Int) * s108) + (3 : Int)) Try.underlying22 Try.sizeOf5 (by rw [← ha282]; kernel_rfl) (by kernel_rfl) h278)⟩) ?_
    refine r_take 31 (.int .u8 (lget b (((4 : Int) * s108) + (3 : Int)))) (RB.pre _ _) rfl (by kernel_rfl) (fun _ _ _ h => hQ.panic _ _ _ _ _ h) (.inl ⟨rfl, fun wq hq => (x_load1 (by kernel_rfl) Try.isAgg5 ((CellsAt.rb hc286 (RB.trans er226 hq) (Nat.lt_of_lt_of_eq lt284 z225) (fun h => by cases h)) 0 _ rfl))⟩) ?_
    have r288 : inR .u32 (lget b (((4 : Int) * s108) + (3 : Int))) := inR_up (by decide) (by decide) re287
    refine r_take 32 (.int .u32 (lget b (((4 : Int) * s108) + (3 : Int)))) (RB.pre _ _) rfl (by kernel_rfl) (fun _ _ _ h => hQ.panic _ _ _ _ _ h) (.inl ⟨rfl, fun wq hq => (x_conv (k := .u8) Try.underlying5 Try.underlying50 (by kernel_rfl) (wrap_inR r288))⟩) ?_
    refine r_take 33 (.int .u32 (ior .u32 y274 (lget b (((4 : Int) * s108) + (3 : Int))))) (RB.pre _ _) rfl (by kernel_rfl) (fun _ _ _ h => hQ.panic _ _ _ _ _ h) (.inl ⟨rfl, fun wq hq => (x_or (k := .u32) (a := y274) (b := lget b (((4 : Int) * s108) + (3 : Int))) (by kernel_rfl) (by kernel_rfl))⟩) ?_
    obtain ⟨h289, hp⟩ := hp
    refine r_take 34 (.pointer (some ⟨b12, s108.toNat, none⟩)) (RB.pre _ _) rfl (by kernel_rfl) (fun _ _ _ h => hQ.panic _ _ _ _ _ h) (.inl ⟨rfl, fun wq hq => (x_ixR (k := .i64) (i := s108) Try.underlying53 Try.sizeOf50 (by kernel_rfl) (by kernel_rfl) h289)⟩) ?_
    refine r_ready [35] (by kernel_rfl) rfl (all_cons ⟨_, _, _, _, _, _, rfl, ?_⟩ all_nil)
    refine o_stA (k := .u32) (i := s108) (v := ior .u32 y274 (lget b (((4 : Int) * s108) + (3 : Int)))) (e := f110) rfl k233 (by kernel_rfl) (by kernel_rfl) Try.sizeOf50 kf111 h289 ?_
    intro w290 s291 k292
    refine ⟨fun h => absurd h (by decide), ?_⟩
    obtain ⟨l293, ql293⟩ : ∃ y, y = (lset f110 s108 (ior .u32 y274 (lget b (((4 : Int) * s108) + (3 : Int))))) := ⟨_, rfl⟩
    replace hp := hp l293 ql293
    rw [← ql293] at k292
    have ok294 : okArr .u32 64 l293 := by rw [ql293]; exact (okArr_set kf111 (inR_ior _ _ _))
    refine r_done (by kernel_rfl) ?_
    refine blk_normal ?_
    refine then_normal (K220 _ _ _ _ ?_)
    refine reg_ ?_
    obtain ⟨h295, hp⟩ := hp
    refine sq (o_pv (.int .i64 (s108 + (1 : Int))) rfl (x_add2 (k := .i64) (a := s108) (b := (1 : Int)) (s108 + (1 : Int)) (by kernel_rfl) (by kernel_rfl) (wrap_inR h295)) ?_)
    refine sq (o_pv (.int .i64 (s108 + (1 : Int))) rfl (by kernel_rfl) ?_)
    refine nil_ ?_
    have E296 := (Evo.thenW E228 (Step.evo s291) k233.2.2)
    have hXo297 := (Old.step hXo229 s291)
    have hS298 := (Sub.trans hS230 (Step.up s291))
    have hb299 := (Sl.step hb231 s291)
    have k300 := (OB.step k232 s291 p19)
    refine then_normal (hA206 _ _ _ ⟨_, [(8, (.int .i64 (s108 + (1 : Int))))], hp.2, fit_mk (AgB.mix _ _ _) (by kernel_rfl) (vs_cons (by kernel_rfl) vs_nil), ?_⟩)
    exact ⟨X202, (s108 + (1 : Int)), l293, rfl, rfl, E296, hXo297, hS298, hb299, k300, k292, h295, ok294, hp.1⟩
  ·
    replace hp := hp.2 h219
    refine wp_exit ?_
    refine then_exit ?_
    refine then_exit ?_
    refine blk_exit ?_
    refine then_normal (K20 _ _ _ _ ?_)
    refine seq_ (fun _ K301 => ?_)
    refine seq_ (fun _ K302 => ?_)
    refine reg_ ?_
    refine sq (o_pv (.int .i64 (16 : Int)) rfl (by kernel_rfl) ?_)
    refine nil_ ?_
    refine then_normal (K302 _ _ _ _ ?_)
    refine wp_block ?_
    obtain ⟨I466, m467, hI468, hp⟩ := hp
    refine loop_ 309485009821204331236425952 (fun kq lq w470 => ∃ (X471 : List Nat) (i383 : Int) (f385 : (List Int)), (lq = [(5, (.int .i64 i383))]) ∧ (kq = m467 i383 f385) ∧ (Evo [] w w470) ∧ (Old X471 w470) ∧ (Sub X X471) ∧ (OB ([]) w.heap.size X471 w470 b5 ((List.replicate 64 (0 : Int)).map (Value.int .u32)) 53) ∧ (OB ([]) w.heap.size X471 w470 b12 (f385.map (Value.int .u32)) 53) ∧ (inR .i64 i383) ∧ (okArr .u32 64 f385) ∧ (I466 i383 f385)) (m467 (16 : Int) f110) [(5, (.int .i64 (16 : Int)))] (vs_cons (by kernel_rfl) vs_nil) ⟨X202, (16 : Int), f110, rfl, rfl, E212, hXo213, hS214, k216, k112, (by decide), kf111, hI468⟩ ?_
    rintro _ _ w470 g473 ⟨X471, i383, f385, rfl, rfl, E476, hXo477, hS478, k479, k387, ri384, kf386, hI469⟩ Kl474 hA475
    replace hp := hp i383 f385 hI469 ri384 kf386
    refine seq_ (fun _ K480 => ?_)
    refine seq_ (fun _ K481 => ?_)
    refine reg_ ?_
    refine sq (o_pv (.int .i64 i383) rfl (by kernel_rfl) ?_)
    refine sq (o_pv (.bool (decide (i383 < (64 : Int)))) rfl (by kernel_rfl) ?_)
    refine nil_ ?_
    refine then_normal (K481 _ _ _ _ ?_)
    refine cond_d (i383 < (64 : Int)) (by kernel_rfl) (fun h482 => ?_) (fun h482 => ?_)
    ·
      replace hp := hp.1 h482
      refine wp_skip ?_
      refine then_normal (K480 _ _ _ _ ?_)
      refine seq_ (fun _ K483 => ?_)
      refine wp_block ?_
      refine seq_ (fun _ K484 => ?_)
      refine reg_drawn (RB w470.heap.size []) 9 (by kernel_rfl) (fun w485 hd486 => ?_)
      have e487 := Evo.of_drew hd486
      have z488 : w485.heap.size = w470.heap.size := by rw [hd486]
      clear hd486
      have s490 := Step.of0 X471 e487
      have er489 := RB.refl w470.heap.size [] w485
      have E491 := (Evo.then0 E476 (Step.evo s490))
      have hXo492 := (Old.step hXo477 s490)
      have hS493 := (Sub.trans hS478 (Step.up s490))
      have k494 := (OB.step0 k479 s490)
      have k495 := (OB.step0 k387 s490)
      refine r_take 0 (.int .i64 i383) (RB.pre _ _) rfl (by kernel_rfl) (fun _ _ _ h => hQ.panic _ _ _ _ _ h) (.inl ⟨rfl, fun wq hq => (by kernel_rfl)⟩) ?_
      obtain ⟨h496, hp⟩ := hp
      refine r_take 1 (.int .i64 (i383 - (15 : Int))) (RB.pre _ _) rfl (by kernel_rfl) (fun _ _ _ h => hQ.panic _ _ _ _ _ h) (.inl ⟨rfl, fun wq hq => (x_sub2 (k := .i64) (a := i383) (b := (15 : Int)) (i383 - (15 : Int)) (by kernel_rfl) (by kernel_rfl) (wrap_inR h496))⟩) ?_
      obtain ⟨h497, hp⟩ := hp
      refine r_take 2 (.pointer (some ⟨b12, (i383 - (15 : Int)).toNat, none⟩)) (RB.pre _ _) rfl (by kernel_rfl) (fun _ _ _ h => hQ.panic _ _ _ _ _ h) (.inl ⟨rfl, fun wq hq => (x_ixR (k := .i64) (i := i383 - (15 : Int)) Try.underlying53 Try.sizeOf50 (by kernel_rfl) (by kernel_rfl) h497)⟩) ?_
      refine r_take 3 (.int .u32 (lget f385 (i383 - (15 : Int)))) (RB.pre _ _) rfl (by kernel_rfl) (fun _ _ _ h => hQ.panic _ _ _ _ _ h) (.inl ⟨rfl, fun wq hq => (x_load1 (by kernel_rfl) Try.isAgg50 (Blk.acell (Blk.rb k495.2.1 (RB.trans er489 hq) (Nat.lt_of_lt_of_eq (Blk.lt k495.2.1) z488) (fun h => by cases h)) kf386 h497))⟩) ?_
      refine r_take 4 (.int .i64 i383) (RB.pre _ _) rfl (by kernel_rfl) (fun _ _ _ h => hQ.panic _ _ _ _ _ h) (.inl ⟨rfl, fun wq hq => (by kernel_rfl)⟩) ?_
      obtain ⟨h498, hp⟩ := hp
      refine r_take 5 (.int .i64 (i383 - (2 : Int))) (RB.pre _ _) rfl (by kernel_rfl) (fun _ _ _ h => hQ.panic _ _ _ _ _ h) (.inl ⟨rfl, fun wq hq => (x_sub2 (k := .i64) (a := i383) (b := (2 : Int)) (i383 - (2 : Int)) (by kernel_rfl) (by kernel_rfl) (wrap_inR h498))⟩) ?_
      obtain ⟨h499, hp⟩ := hp
      refine r_take 6 (.pointer (some ⟨b12, (i383 - (2 : Int)).toNat, none⟩)) (RB.pre _ _) rfl (by kernel_rfl) (fun _ _ _ h => hQ.panic _ _ _ _ _ h) (.inl ⟨rfl, fun wq hq => (x_ixR (k := .i64) (i := i383 - (2 : Int)) Try.underlying53 Try.sizeOf50 (by kernel_rfl) (by kernel_rfl) h499)⟩) ?_
      refine r_take 7 (.int .u32 (lget f385 (i383 - (2 : Int)))) (RB.pre _ _) rfl (by kernel_rfl) (fun _ _ _ h => hQ.panic _ _ _ _ _ h) (.inl ⟨rfl, fun wq hq => (x_load1 (by kernel_rfl) Try.isAgg50 (Blk.acell (Blk.rb k495.2.1 (RB.trans er489 hq) (Nat.lt_of_lt_of_eq (Blk.lt k495.2.1) z488) (fun h => by cases h)) kf386 h499))⟩) ?_
      refine r_take 8 (.int .u32 (lget f385 (i383 - (15 : Int)))) (RB.pre _ _) rfl (by kernel_rfl) (fun _ _ _ h => hQ.panic _ _ _ _ _ h) (.inl ⟨rfl, fun wq hq => (by kernel_rfl)⟩) ?_
      refine r_ready [9] (by kernel_rfl) rfl (all_cons ⟨_, _, _, _, _, _, rfl, ?_⟩ all_nil)
      refine o_pv (.int .u32 (lget f385 (i383 - (2 : Int)))) rfl (by kernel_rfl) ?_
      refine ⟨fun h => absurd h (by decide), ?_⟩
      refine r_done (by kernel_rfl) ?_
      refine then_normal (K484 _ _ _ _ ?_)
      refine reg_drawn (RB w485.heap.size []) 29 (by kernel_rfl) (fun w500 hd501 => ?_)
      have e502 := Evo.of_drew hd501
      have z503 : w500.heap.size = w485.heap.size := by rw [hd501]
      clear hd501
      have s505 := Step.of0 X471 e502
      have er504 := RB.refl w485.heap.size [] w500
      have E506 := (Evo.then0 E491 (Step.evo s505))
      have hXo507 := (Old.step hXo492 s505)
      have hS508 := (Sub.trans hS493 (Step.up s505))
      have k509 := (OB.step0 k494 s505)
      have k510 := (OB.step0 k495 s505)
      refine r_take 0 (.int .i64 i383) (RB.pre _ _) rfl (by kernel_rfl) (fun _ _ _ h => hQ.panic _ _ _ _ _ h) (.inl ⟨rfl, fun wq hq => (by kernel_rfl)⟩) ?_
      refine r_take 1 (.int .i64 i383) (RB.pre _ _) rfl (by kernel_rfl) (fun _ _ _ h => hQ.panic _ _ _ _ _ h) (.inl ⟨rfl, fun wq hq => (by kernel_rfl)⟩) ?_
      obtain ⟨h511, hp⟩ := hp
      refine r_take 2 (.int .i64 (i383 - (16 : Int))) (RB.pre _ _) rfl (by kernel_rfl) (fun _ _ _ h => hQ.panic _ _ _ _ _ h) (.inl ⟨rfl, fun wq hq => (x_sub2 (k := .i64) (a := i383) (b := (16 : Int)) (i383 - (16 : Int)) (by kernel_rfl) (by kernel_rfl) (wrap_inR h511))⟩) ?_
      obtain ⟨h512, hp⟩ := hp
      refine r_take 3 (.pointer (some ⟨b12, (i383 - (16 : Int)).toNat, none⟩)) (RB.pre _ _) rfl (by kernel_rfl) (fun _ _ _ h => hQ.panic _ _ _ _ _ h) (.inl ⟨rfl, fun wq hq => (x_ixR (k := .i64) (i := i383 - (16 : Int)) Try.underlying53 Try.sizeOf50 (by kernel_rfl) (by kernel_rfl) h512)⟩) ?_
      refine r_take 4 (.int .u32 (lget f385 (i383 - (16 : Int)))) (RB.pre _ _) rfl (by kernel_rfl) (fun _ _ _ h => hQ.panic _ _ _ _ _ h) (.inl ⟨rfl, fun wq hq => (x_load1 (by kernel_rfl) Try.isAgg50 (Blk.acell (Blk.rb k510.2.1 (RB.trans er504 hq) (Nat.lt_of_lt_of_eq (Blk.lt k510.2.1) z503) (fun h => by cases h)) kf386 h512))⟩) ?_
      refine r_take 5 (.int .u32 (lget f385 (i383 - (15 : Int)))) (RB.pre _ _) rfl (by kernel_rfl) (fun _ _ _ h => hQ.panic _ _ _ _ _ h) (.inl ⟨rfl, fun wq hq => (by kernel_rfl)⟩) ?_
      refine r_take 7 (.int .u32 (lget f385 (i383 - (15 : Int)))) (RB.pre _ _) rfl (by kernel_rfl) (fun _ _ _ h => hQ.panic _ _ _ _ _ h) (.inl ⟨rfl, fun wq hq => (by kernel_rfl)⟩) ?_
      refine r_take 10 (.int .u32 (lget f385 (i383 - (15 : Int)))) (RB.pre _ _) rfl (by kernel_rfl) (fun _ _ _ h => hQ.panic _ _ _ _ _ h) (.inl ⟨rfl, fun wq hq => (by kernel_rfl)⟩) ?_
      refine r_take 11 (.int .u32 (ishr .u32 (lget f385 (i383 - (15 : Int))) (3 : Int))) (RB.pre _ _) rfl (by kernel_rfl) (fun _ _ _ h => hQ.panic _ _ _ _ _ h) (.inl ⟨rfl, fun wq hq => (x_shr (k := .u32) (k' := .u64) (a := lget f385 (i383 - (15 : Int))) (b := (3 : Int)) (by kernel_rfl) (by kernel_rfl) (by decide))⟩) ?_
      refine r_take 14 (.int .i64 i383) (RB.pre _ _) rfl (by kernel_rfl) (fun _ _ _ h => hQ.panic _ _ _ _ _ h) (.inl ⟨rfl, fun wq hq => (by kernel_rfl)⟩) ?_
      obtain ⟨h513, hp⟩ := hp
      refine r_take 15 (.int .i64 (i383 - (7 : Int))) (RB.pre _ _) rfl (by kernel_rfl) (fun _ _ _ h => hQ.panic _ _ _ _ _ h) (.inl ⟨rfl, fun wq hq => (x_sub2 (k := .i64) (a := i383) (b := (7 : Int)) (i383 - (7 : Int)) (by kernel_rfl) (by kernel_rfl) (wrap_inR h513))⟩) ?_
      obtain ⟨h514, hp⟩ := hp
      refine r_take 16 (.pointer (some ⟨b12, (i383 - (7 : Int)).toNat, none⟩)) (RB.pre _ _) rfl (by kernel_rfl) (fun _ _ _ h => hQ.panic _ _ _ _ _ h) (.inl ⟨rfl, fun wq hq => (x_ixR (k := .i64) (i := i383 - (7 : Int)) Try.underlying53 Try.sizeOf50 (by kernel_rfl) (by kernel_rfl) h514)⟩) ?_
      refine r_take 17 (.int .u32 (lget f385 (i383 - (7 : Int)))) (RB.pre _ _) rfl (by kernel_rfl) (fun _ _ _ h => hQ.panic _ _ _ _ _ h) (.inl ⟨rfl, fun wq hq => (x_load1 (by kernel_rfl) Try.isAgg50 (Blk.acell (Blk.rb k510.2.1 (RB.trans er504 hq) (Nat.lt_of_lt_of_eq (Blk.lt k510.2.1) z503) (fun h => by cases h)) kf386 h514))⟩) ?_
      refine r_take 19 (.int .u32 (lget f385 (i383 - (2 : Int)))) (RB.pre _ _) rfl (by kernel_rfl) (fun _ _ _ h => hQ.panic _ _ _ _ _ h) (.inl ⟨rfl, fun wq hq => (by kernel_rfl)⟩) ?_
      refine r_take 21 (.int .u32 (lget f385 (i383 - (2 : Int)))) (RB.pre _ _) rfl (by kernel_rfl) (fun _ _ _ h => hQ.panic _ _ _ _ _ h) (.inl ⟨rfl, fun wq hq => (by kernel_rfl)⟩) ?_
      refine r_take 24 (.int .u32 (lget f385 (i383 - (2 : Int)))) (RB.pre _ _) rfl (by kernel_rfl) (fun _ _ _ h => hQ.panic _ _ _ _ _ h) (.inl ⟨rfl, fun wq hq => (by kernel_rfl)⟩) ?_
      refine r_take 25 (.int .u32 (ishr .u32 (lget f385 (i383 - (2 : Int))) (10 : Int))) (RB.pre _ _) rfl (by kernel_rfl) (fun _ _ _ h => hQ.panic _ _ _ _ _ h) (.inl ⟨rfl, fun wq hq => (x_shr (k := .u32) (k' := .u64) (a := lget f385 (i383 - (2 : Int))) (b := (10 : Int)) (by kernel_rfl) (by kernel_rfl) (by decide))⟩) ?_
      refine r_ready [6] (by kernel_rfl) rfl (all_cons ⟨_, _, _, _, _, _, rfl, ?_⟩ all_nil)
      refine o_call 38 #[(.int .u32 (lget f385 (i383 - (15 : Int)))), (.int .i64 (7 : Int))] rfl (x_call Try.call38 (by kernel_rfl)) (sha_right_w (X := []) (w_ := lget f385 (i383 - (15 : Int))) (n_ := (7 : Int)) (Old.nil _) (okArr_get kf386 h497) (by decide) hp) ?_
      rintro _ w516 ⟨r515, hp, e517, rfl, rr519⟩
      have rm := RB.mono (F' := []) e517 (Nat.le_trans (Nat.le_of_eq z503.symm) (RB.size er504)) (fun _ h => by cases h)
      have er520 := RB.trans er504 rm
      refine ⟨fun _ => rm, ?_⟩
      have s518 := Step.of0 X471 e517
      replace hp := hp rr519
      refine r_ready [8] (by kernel_rfl) rfl (all_cons ⟨_, _, _, _, _, _, rfl, ?_⟩ all_nil)
      refine o_call 38 #[(.int .u32 (lget f385 (i383 - (15 : Int)))), (.int .i64 (18 : Int))] rfl (x_call Try.call38 (by kernel_rfl)) (sha_right_w (X := []) (w_ := lget f385 (i383 - (15 : Int))) (n_ := (18 : Int)) (Old.nil _) (okArr_get kf386 h497) (by decide) hp) ?_
      rintro _ w522 ⟨r521, hp, e523, rfl, rr525⟩
      have rm := RB.mono (F' := []) e523 (Nat.le_trans (Nat.le_of_eq z503.symm) (RB.size er520)) (fun _ h => by cases h)
      have er526 := RB.trans er520 rm
      refine ⟨fun _ => rm, ?_⟩
      have s524 := Step.of0 X471 e523
      replace hp := hp rr525
      refine r_take 9 (.int .u32 (ixor .u32 r515 r521)) (RB.pre _ _) rfl (by kernel_rfl) (fun _ _ _ h => hQ.panic _ _ _ _ _ h) (.inl ⟨rfl, fun wq hq => (x_xor (k := .u32) (a := r515) (b := r521) (by kernel_rfl) (by kernel_rfl))⟩) ?_
      obtain ⟨y527, qy527⟩ : ∃ y, y = (ixor .u32 (ixor .u32 r515 r521) (ishr .u32 (lget f385 (i383 - (15 : Int))) (3 : Int))) := ⟨_, rfl⟩
      replace hp := hp y527 qy527
      have r528 : inR .u32 y527 := by rw [qy527]; exact (inR_ixor _ _ _)
      refine r_take 12 (.int .u32 y527) (RB.pre _ _) rfl (by kernel_rfl) (fun _ _ _ h => hQ.panic _ _ _ _ _ h) (.inl ⟨rfl, fun wq hq => (by rw [qy527]; exact (x_xor (k := .u32) (a := ixor .u32 r515 r521) (b := ishr .u32 (lget f385 (i383 - (15 : Int))) (3 : Int)) (by kernel_rfl) (by kernel_rfl)))⟩) ?_
      refine r_take 13 (.int .u32 (((lget f385 (i383 - (16 : Int))) + y527) % 4294967296)) (RB.pre _ _) rfl (by kernel_rfl) (fun _ _ _ h => hQ.panic _ _ _ _ _ h) (.inl ⟨rfl, fun wq hq => (x_add2 (k := .u32) (a := lget f385 (i383 - (16 : Int))) (b := y527) (((lget f385 (i383 - (16 : Int))) + y527) % 4294967296) (by kernel_rfl) (by kernel_rfl) (wrap_u32_mod _))⟩) ?_
      obtain ⟨y529, qy529⟩ : ∃ y, y = (((((lget f385 (i383 - (16 : Int))) + y527) % 4294967296) + (lget f385 (i383 - (7 : Int)))) % 4294967296) := ⟨_, rfl⟩
      replace hp := hp y529 qy529
      have r530 : inR .u32 y529 := by rw [qy529]; exact (inR_u32_mod _)
      refine r_take 18 (.int .u32 y529) (RB.pre _ _) rfl (by kernel_rfl) (fun _ _ _ h => hQ.panic _ _ _ _ _ h) (.inl ⟨rfl, fun wq hq => (by rw [qy529]; exact (x_add2 (k := .u32) (a := ((lget f385 (i383 - (16 : Int))) + y527) % 4294967296) (b := lget f385 (i383 - (7 : Int))) (((((lget f385 (i383 - (16 : Int))) + y527) % 4294967296) + (lget f385 (i383 - (7 : Int)))) % 4294967296) (by kernel_rfl) (by kernel_rfl) (wrap_u32_mod _)))⟩) ?_
      refine r_ready [20] (by kernel_rfl) rfl (all_cons ⟨_, _, _, _, _, _, rfl, ?_⟩ all_nil)
      refine o_call 38 #[(.int .u32 (lget f385 (i383 - (2 : Int)))), (.int .i64 (17 : Int))] rfl (x_call Try.call38 (by kernel_rfl)) (sha_right_w (X := []) (w_ := lget f385 (i383 - (2 : Int))) (n_ := (17 : Int)) (Old.nil _) (okArr_get kf386 h499) (by decide) hp) ?_
      rintro _ w532 ⟨r531, hp, e533, rfl, rr535⟩
      have rm := RB.mono (F' := []) e533 (Nat.le_trans (Nat.le_of_eq z503.symm) (RB.size er526)) (fun _ h => by cases h)
      have er536 := RB.trans er526 rm
      refine ⟨fun _ => rm, ?_⟩
      have s534 := Step.of0 X471 e533
      replace hp := hp rr535
      refine r_ready [22] (by kernel_rfl) rfl (all_cons ⟨_, _, _, _, _, _, rfl, ?_⟩ all_nil)
      refine o_call 38 #[(.int .u32 (lget f385 (i383 - (2 : Int)))), (.int .i64 (19 : Int))] rfl (x_call Try.call38 (by kernel_rfl)) (sha_right_w (X := []) (w_ := lget f385 (i383 - (2 : Int))) (n_ := (19 : Int)) (Old.nil _) (okArr_get kf386 h499) (by decide) hp) ?_
      rintro _ w538 ⟨r537, hp, e539, rfl, rr541⟩
      have rm := RB.mono (F' := []) e539 (Nat.le_trans (Nat.le_of_eq z503.symm) (RB.size er536)) (fun _ h => by cases h)
      have er542 := RB.trans er536 rm
      refine ⟨fun _ => rm, ?_⟩
      have s540 := Step.of0 X471 e539
      replace hp := hp rr541
      refine r_take 23 (.int .u32 (ixor .u32 r531 r537)) (RB.pre _ _) rfl (by kernel_rfl) (fun _ _ _ h => hQ.panic _ _ _ _ _ h) (.inl ⟨rfl, fun wq hq => (x_xor (k := .u32) (a := r531) (b := r537) (by kernel_rfl) (by kernel_rfl))⟩) ?_
      obtain ⟨y543, qy543⟩ : ∃ y, y = (ixor .u32 (ixor .u32 r531 r537) (ishr .u32 (lget f385 (i383 - (2 : Int))) (10 : Int))) := ⟨_, rfl⟩
      replace hp := hp y543 qy543
      have r544 : inR .u32 y543 := by rw [qy543]; exact (inR_ixor _ _ _)
      refine r_take 26 (.int .u32 y543) (RB.pre _ _) rfl (by kernel_rfl) (fun _ _ _ h => hQ.panic _ _ _ _ _ h) (.inl ⟨rfl, fun wq hq => (by rw [qy543]; exact (x_xor (k := .u32) (a := ixor .u32 r531 r537) (b := ishr .u32 (lget f385 (i383 - (2 : Int))) (10 : Int)) (by kernel_rfl) (by kernel_rfl)))⟩) ?_
      refine r_take 27 (.int .u32 ((y529 + y543) % 4294967296)) (RB.pre _ _) rfl (by kernel_rfl) (fun _ _ _ h => hQ.panic _ _ _ _ _ h) (.inl ⟨rfl, fun wq hq => (x_add2 (k := .u32) (a := y529) (b := y543) ((y529 + y543) % 4294967296) (by kernel_rfl) (by kernel_rfl) (wrap_u32_mod _))⟩) ?_
      obtain ⟨h545, hp⟩ := hp
      refine r_take 28 (.pointer (some ⟨b12, i383.toNat, none⟩)) (RB.pre _ _) rfl (by kernel_rfl) (fun _ _ _ h => hQ.panic _ _ _ _ _ h) (.inl ⟨rfl, fun wq hq => (x_ixR (k := .i64) (i := i383) Try.underlying53 Try.sizeOf50 (by kernel_rfl) (by kernel_rfl) h545)⟩) ?_
      refine r_ready [29] (by kernel_rfl) rfl (all_cons ⟨_, _, _, _, _, _, rfl, ?_⟩ all_nil)
      have k546 := (OB.step0 (OB.step0 (OB.step0 (OB.step0 k509 s518) s524) s534) s540)
      have k547 := (OB.step0 (OB.step0 (OB.step0 (OB.step0 k510 s518) s524) s534) s540)
      have E548 := (Evo.then0 (Evo.then0 (Evo.then0 (Evo.then0 E506 e517) e523) e533) e539)
      refine o_stA (k := .u32) (i := i383) (v := (y529 + y543) % 4294967296) (e := f385) rfl k547 (by kernel_rfl) (by kernel_rfl) Try.sizeOf50 kf386 h545 ?_
      intro w549 s550 k551
      refine ⟨fun h => absurd h (by decide), ?_⟩
      refine r_done (by kernel_rfl) ?_
      refine blk_normal ?_
      refine then_normal (K483 _ _ _ _ ?_)
      refine reg_ ?_
      refine sq (o_pv (.int .i64 i383) rfl (by kernel_rfl) ?_)
      obtain ⟨h552, hp⟩ := hp
      refine sq (o_pv (.int .i64 (i383 + (1 : Int))) rfl (x_add2 (k := .i64) (a := i383) (b := (1 : Int)) (i383 + (1 : Int)) (by kernel_rfl) (by kernel_rfl) (wrap_inR h552)) ?_)
      refine sq (o_pv (.int .i64 (i383 + (1 : Int))) rfl (by kernel_rfl) ?_)
      refine nil_ ?_
      have E553 := (Evo.thenW E548 (Step.evo s550) k547.2.2)
      have hXo554 := (Old.step (Old.step (Old.step (Old.step (Old.step hXo507 s518) s524) s534) s540) s550)
      have hS555 := (Sub.trans (Sub.trans (Sub.trans (Sub.trans (Sub.trans hS508 (Step.up s518)) (Step.up s524)) (Step.up s534)) (Step.up s540)) (Step.up s550))
      have k556 := (OB.step k546 s550 p19)
      refine then_normal (hA475 _ _ _ ⟨_, [(5, (.int .i64 (i383 + (1 : Int))))], hp.2, fit_mk (AgB.mix _ _ _) (by kernel_rfl) (vs_cons (by kernel_rfl) vs_nil), ?_⟩)
      exact ⟨X471, (i383 + (1 : Int)), (lset f385 i383 ((y529 + y543) % 4294967296)), rfl, rfl, E553, hXo554, hS555, k556, k551, h552, (okArr_set kf386 (inR_u32_mod _)), hp.1⟩
    ·
      replace hp := hp.2 h482
      refine wp_exit ?_
      refine then_exit ?_
      refine then_exit ?_
      refine blk_exit ?_
      refine then_normal (K301 _ _ _ _ ?_)
      refine seq_ (fun _ K557 => ?_)
      refine reg_ ?_
      refine sq (o_pv (.agg (f385.map (Value.int .u32)).toArray) rfl (x_loadA f385 (by kernel_rfl) Try.isAgg53 Try.sizeOf53 kf386 (Blk.awhole k387.2.1)) ?_)
      refine sq (o_stW (k := .u32) (e := (List.replicate 64 (0 : Int))) (e' := f385) rfl k479 (by kernel_rfl) (by kernel_rfl) Try.sizeOf53 (okArr_rep _ _) kf386 ?_)
      intro w558 s559 k560
      refine nil_ ?_
      refine then_normal (K557 _ _ _ _ ?_)
      refine wp_ret ?_
      have E561 := (Evo.thenW E476 (Step.evo s559) k479.2.2)
      refine end_ret hQ (.agg (f385.map (Value.int .u32)).toArray) (rs_single Try.results37 (rs_aggA (e := f385) (by kernel_rfl) Try.isAgg53 Try.sizeOf53 kf386 k560.2.1)) ?_
      exact ⟨f385, hp, E561, rfl, kf386⟩

def sha_turn_p (h : (List Int)) (b : (List Int)) (k : (List Int)) (Q : (List Int) → Prop) : Prop :=
  ((okArr .u32 8 h) → ((b.length ≤ 9223372036854775807) → ((okArr .u32 64 k) → (∀ k345 : (List Int) → Prop, (∀ (f341 : (List Int)), ((okArr .u32 64 f341) → (∃ (I970 : Int → (List Int) → Prop) (m971 : Int → (List Int) → Nat), (I970 (0 : Int) h) ∧ ∀ (s842 : Int) (f844 : (List Int)), (I970 s842 f844) → (inR .i64 s842) → (okArr .u32 8 f844) → (((s842 < (64 : Int)) → (∀ y1026 : Int, y1026 = (ixor .u32 (iand .u32 (lget f844 (4 : Int)) (lget f844 (5 : Int))) (iand .u32 (inot .u32 (lget f844 (4 : Int))) (lget f844 (6 : Int)))) → ((0 ≤ s842 ∧ s842 < 64) ∧ ((0 ≤ s842 ∧ s842 < 64) ∧ (sha_right_p (lget f844 (4 : Int)) (6 : Int) (fun (r1030 : Int) => ((inR .u32 r1030) → (sha_right_p (lget f844 (4 : Int)) (11 : Int) (fun (r1036 : Int) => ((inR .u32 r1036) → (sha_right_p (lget f844 (4 : Int)) (25 : Int) (fun (r1042 : Int) => ((inR .u32 r1042) → (∀ y1048 : Int, y1048 = (((lget f844 (7 : Int)) + (ixor .u32 (ixor .u32 r1030 r1036) r1042)) % 4294967296) → (∀ y1050 : Int, y1050 = ((((((y1048 + y1026) % 4294967296) + (lget k s842)) % 4294967296) + (lget f341 s842)) % 4294967296) → (∀ y1075 : Int, y1075 = (ixor .u32 (iand .u32 (lget f844 (0 : Int)) (lget f844 (1 : Int))) (iand .u32 (lget f844 (0 : Int)) (lget f844 (2 : Int)))) → (∀ y1077 : Int, y1077 = (ixor .u32 y1075 (iand .u32 (lget f844 (1 : Int)) (lget f844 (2 : Int)))) → (sha_right_p (lget f844 (0 : Int)) (2 : Int) (fun (r1079 : Int) => ((inR .u32 r1079) → (sha_right_p (lget f844 (0 : Int)) (13 : Int) (fun (r1085 : Int) => ((inR .u32 r1085) → (sha_right_p (lget f844 (0 : Int)) (22 : Int) (fun (r1091 : Int) => ((inR .u32 r1091) → (∀ y1097 : Int, y1097 = ((y1050 + (((ixor .u32 (ixor .u32 r1079 r1085) r1091) + y1077) % 4294967296)) % 4294967296) → (∀ l1108 : List Int, l1108 = ([y1097, lget f844 (0 : Int), lget f844 (1 : Int), lget f844 (2 : Int), ((lget f844 (3 : Int)) + y1050) % 4294967296, lget f844 (4 : Int), lget f844 (5 : Int), lget f844 (6 : Int)] : List Int) → ((inR .i64 (s842 + (1 : Int))) ∧ ((I970 (s842 + (1 : Int)) l1108) ∧ m971 (s842 + (1 : Int)) l1108 < m971 s842 f844)))))))))))))))))))))))))))))) ∧ ((¬ (s842 < (64 : Int))) → (∃ (I1189 : Int → (List Int) → Prop) (m1190 : Int → (List Int) → Nat), (I1189 (0 : Int) h) ∧ ∀ (s1153 : Int) (f1155 : (List Int)), (I1189 s1153 f1155) → (inR .i64 s1153) → (okArr .u32 8 f1155) → (((s1153 < (8 : Int)) → ((0 ≤ s1153 ∧ s1153 < 8) ∧ ((0 ≤ s1153 ∧ s1153 < 8) ∧ ((0 ≤ s1153 ∧ s1153 < 8) ∧ (∀ l1227 : List Int, l1227 = (lset f1155 s1153 (((lget f1155 s1153) + (lget f844 s1153)) % 4294967296)) → ((inR .i64 (s1153 + (1 : Int))) ∧ ((I1189 (s1153 + (1 : Int)) l1227) ∧ m1190 (s1153 + (1 : Int)) l1227 < m1190 s1153 f1155))))))) ∧ ((¬ (s1153 < (8 : Int))) → Q f1155))))))) → k345 f341) → (sha_words_p b (fun (r384 : (List Int)) => ((okArr .u32 64 r384) → (k345 r384))))))))
set_option maxRecDepth 20000 in
set_option maxHeartbeats 4000000 in
theorem sha_turn_w {X : List Nat} {w : World} {h : (List Int)} {b : (List Int)} {k : (List Int)} {ab2 : Option Addr} {cb3 : Nat} {Q : (List Int) → Prop} (hX0 : Old X w) (kh1 : okArr .u32 8 h) (hb4 : Sl (rInt .u8) X w ab2 cb3 b) (kk5 : okArr .u32 64 k) (hp : sha_turn_p h b k Q) :
    Calls Try.prog 24 #[(.agg (h.map (Value.int .u32)).toArray), (.slice ab2 b.length cb3), (.agg (k.map (Value.int .u32)).toArray)] w (Ret fun v w' => ∃ (r0 : (List Int)), Q r0 ∧ Evo [] w w' ∧ v = (.agg (r0.map (Value.int .u32)).toArray) ∧ okArr .u32 8 r0) := by
  have hXo := hX0
  have E0 : Evo [] w w := RB.refl _ _ _
  have hS : Sub X X := Sub.refl _
  unfold sha_turn_p at hp
  refine enter_ Try.func24 rfl 113 [(0, (.agg (h.map (Value.int .u32)).toArray)), (1, (.slice ab2 b.length cb3)), (2, (.agg (k.map (Value.int .u32)).toArray))] (by kernel_rfl) (fun Qe hQ => ?_)
  replace hp := hp kh1
  replace hp := hp (Sl.len hb4)
  replace hp := hp kk5
  refine seq_ (fun _ K6 => ?_)
  refine reg_ ?_
  refine sq (o_newX (h.map (Value.int .u32)) 51 (X := X) (B := w.heap.size) E0.size rfl (by kernel_rfl) ?_)
  intro b7 w8 X9 s10 k11 n12
  have E19 := (Evo.then0 E0 (Step.evo s10))
  refine sq (o_newX (k.map (Value.int .u32)) 53 (X := X9) (B := w.heap.size) E19.size rfl (by kernel_rfl) ?_)
  intro b13 w14 X15 s16 k17 n18
  have p20 := n18 _ (OB.old k11)
  have k27 := (OB.step0 k11 s16)
  have E28 := (Evo.then0 E19 (Step.evo s16))
  refine sq (o_newX ((List.replicate 8 (0 : Int)).map (Value.int .u32)) 51 (X := X15) (B := w.heap.size) E28.size rfl (by kernel_rfl) ?_)
  intro b21 w22 X23 s24 k25 n26
  have p29 := n26 _ (OB.old k27)
  have p30 := n26 _ (OB.old k17)
  refine nil_ ?_
  refine then_normal (K6 _ _ _ _ ?_)
  refine seq_ (fun _ K31 => ?_)
  have hb352 := (Sl.step (Sl.step (Sl.step hb4 s10) s16) s24)
  have hXo353 := (Old.step (Old.step (Old.step hXo s10) s16) s24)
  have E354 := (Evo.then0 E28 (Step.evo s24))
  have hS355 := (Sub.trans (Sub.trans (Sub.trans hS (Step.up s10)) (Step.up s16)) (Step.up s24))
  have k356 := (OB.step0 k27 s24)
  have k357 := (OB.step0 k17 s24)
  obtain ⟨k345, hk346, hp⟩ := yon1 hp
  refine ground_ ?_
  refine join_ 229760 (fun lq w347 => ∃ (X348 : List Nat) (f341 : (List Int)) (b339 : Nat) (b343 : Nat), (lq = [(7, (.pointer (some ⟨b339, 0, none⟩))), (8, (.pointer (some ⟨b343, 0, none⟩)))]) ∧ (Evo [] w w347) ∧ (Old X348 w347) ∧ (Sub X X348) ∧ (OB ([]) w.heap.size X348 w347 b7 (h.map (Value.int .u32)) 51) ∧ (OB ([]) w.heap.size X348 w347 b13 (k.map (Value.int .u32)) 53) ∧ (OB ([]) w.heap.size X348 w347 b21 ((List.replicate 8 (0 : Int)).map (Value.int .u32)) 51) ∧ (OB ([]) w.heap.size X348 w347 b339 (f341.map (Value.int .u32)) 53) ∧ (OB ([]) w.heap.size X348 w347 b343 (h.map (Value.int .u32)) 51) ∧ (Ap ([b7]) ([b339])) ∧ (Ap ([b7]) ([b343])) ∧ (Ap ([b13]) ([b339])) ∧ (Ap ([b13]) ([b343])) ∧ (Ap ([b21]) ([b339])) ∧ (Ap ([b21]) ([b343])) ∧ (Ap ([b339]) ([b343])) ∧ (okArr .u32 64 f341) ∧ (k345 f341)) (fun Kj349 hJ350 => ?_) ?_
  ·
    refine reg_drawn (RB w22.heap.size []) 6 (by kernel_rfl) (fun w371 hd372 => ?_)
    have e373 := Evo.of_drew hd372
    have z374 : w371.heap.size = w22.heap.size := by rw [hd372]
    clear hd372
    have s376 := Step.of0 X23 e373
    have er375 := RB.refl w22.heap.size [] w371
    have hb377 := (Sl.step hb352 s376)
    have hXo378 := (Old.step hXo353 s376)
    have E379 := (Evo.then0 E354 (Step.evo s376))
    have hS380 := (Sub.trans hS355 (Step.up s376))
    have k381 := (OB.step0 k356 s376)
    have k382 := (OB.step0 k357 s376)
    have k383 := (OB.step0 k25 s376)
    refine r_take 0 (.slice ab2 b.length cb3) (RB.pre _ _) rfl (by kernel_rfl) (fun _ _ _ h => hQ.panic _ _ _ _ _ h) (.inl ⟨rfl, fun wq hq => (by kernel_rfl)⟩) ?_
    refine r_take 2 (.agg (h.map (Value.int .u32)).toArray) (RB.pre _ _) rfl (by kernel_rfl) (fun _ _ _ h => hQ.panic _ _ _ _ _ h) (.inl ⟨rfl, fun wq hq => (x_loadA h (by kernel_rfl) Try.isAgg51 Try.sizeOf51 kh1 (Blk.awhole (Blk.rb k381.2.1 (RB.trans er375 hq) (Nat.lt_of_lt_of_eq (Blk.lt k381.2.1) z374) (fun h => by cases h))))⟩) ?_
    refine r_ready [1, 3, 4] (by kernel_rfl) rfl (all_cons ⟨_, _, _, _, _, _, rfl, ?_⟩ (all_cons ⟨_, _, _, _, _, _, rfl, ?_⟩ (all_cons ⟨_, _, _, _, _, _, rfl, ?_⟩ all_nil)))
    ·
      refine o_call 37 #[(.slice ab2 b.length cb3)] rfl (x_call Try.call37 (by kernel_rfl)) (sha_words_w (X := []) (b := b) (Old.nil _) (Sl.less hb377 (Sub.nil _)) hp) ?_
      rintro _ w385 ⟨r384, hp, e386, rfl, kr388⟩
      have rm := RB.mono (F' := []) e386 (Nat.le_trans (Nat.le_of_eq z374.symm) (RB.size er375)) (fun _ h => by cases h)
      have er389 := RB.trans er375 rm
      refine ⟨fun _ => rm, ?_⟩
      have s387 := Step.of0 X23 e386
      replace hp := hp kr388
      refine r_ready [3, 4] (by kernel_rfl) rfl (all_cons ⟨_, _, _, _, _, _, rfl, ?_⟩ (all_cons ⟨_, _, _, _, _, _, rfl, ?_⟩ all_nil))
      ·
        have k396 := (OB.step0 k381 s387)
        have k397 := (OB.step0 k382 s387)
        have k398 := (OB.step0 k383 s387)
        have E399 := (Evo.then0 E379 e386)
        refine o_newX ((List.replicate 64 (0 : Int)).map (Value.int .u32)) 53 (X := X23) (B := w.heap.size) E399.size rfl (by kernel_rfl) ?_
        intro b390 w391 X392 s393 k394 n395
        have rm := RB.mono (F' := []) (Step.evo s393) (Nat.le_trans (Nat.le_of_eq z374.symm) (RB.size er389)) (fun _ h => by cases h)
        have er400 := RB.trans er389 rm
        refine ⟨fun _ => rm, ?_⟩
        have gb401 := apge n395 (Nat.le_trans (Nat.le_of_eq z374.symm) (RB.size er389))
        have p402 := n395 _ (OB.old k396)
        have p403 := n395 _ (OB.old k397)
        have p404 := n395 _ (OB.old k398)
        refine r_ready [4] (by kernel_rfl) rfl (all_cons ⟨_, _, _, _, _, _, rfl, ?_⟩ all_nil)
        have k411 := (OB.step0 k396 s393)
        have k412 := (OB.step0 k397 s393)
        have k413 := (OB.step0 k398 s393)
        have E414 := (Evo.then0 E399 (Step.evo s393))
        refine o_newX ((List.replicate 8 (0 : Int)).map (Value.int .u32)) 51 (X := X392) (B := w.heap.size) E414.size rfl (by kernel_rfl) ?_
        intro b405 w406 X407 s408 k409 n410
        have rm := RB.mono (F' := []) (Step.evo s408) (Nat.le_trans (Nat.le_of_eq z374.symm) (RB.size er400)) (fun _ h => by cases h)
        have er415 := RB.trans er400 rm
        refine ⟨fun _ => rm, ?_⟩
        have gb416 := apge n410 (Nat.le_trans (Nat.le_of_eq z374.symm) (RB.size er400))
        have p417 := n410 _ (OB.old k411)
        have p418 := n410 _ (OB.old k412)
        have p419 := n410 _ (OB.old k413)
        have p420 := n410 _ (OB.old k394)
        refine r_ready [5] (by kernel_rfl) rfl (all_cons ⟨_, _, _, _, _, _, rfl, ?_⟩ all_nil)
        have k421 := (OB.step0 k411 s408)
        have k422 := (OB.step0 k412 s408)
        have k423 := (OB.step0 k413 s408)
        have k424 := (OB.step0 k394 s408)
        have E425 := (Evo.then0 E414 (Step.evo s408))
        refine o_stW (k := .u32) (e := (List.replicate 64 (0 : Int))) (e' := r384) rfl k424 (by kernel_rfl) (by kernel_rfl) Try.sizeOf53 (okArr_rep _ _) kr388 ?_
        intro w426 s427 k428
        have rm := RB.mono (F' := []) (Step.evo s427) (Nat.le_trans (Nat.le_of_eq z374.symm) (RB.size er415)) (fun x hx => .inr (by simp at hx; subst hx; exact gb401))
        have er429 := RB.trans er415 rm
        refine ⟨fun _ => rm, ?_⟩
        refine r_ready [6] (by kernel_rfl) rfl (all_cons ⟨_, _, _, _, _, _, rfl, ?_⟩ all_nil)
        have k430 := (OB.step k421 s427 p402)
        have k431 := (OB.step k422 s427 p403)
        have k432 := (OB.step k423 s427 p404)
        have k433 := (OB.step k409 s427 (Ap.symm p420))
        have E434 := (Evo.thenW E425 (Step.evo s427) k424.2.2)
        refine o_stW (k := .u32) (e := (List.replicate 8 (0 : Int))) (e' := h) rfl k433 (by kernel_rfl) (by kernel_rfl) Try.sizeOf51 (okArr_rep _ _) kh1 ?_
        intro w435 s436 k437
        refine ⟨fun h => absurd h (by decide), ?_⟩
        refine r_done (by kernel_rfl) ?_
        have E438 := (Evo.thenW E434 (Step.evo s436) k433.2.2)
        have hXo439 := (Old.step (Old.step (Old.step (Old.step (Old.step hXo378 s387) s393) s408) s427) s436)
        have hS440 := (Sub.trans (Sub.trans (Sub.trans (Sub.trans (Sub.trans hS380 (Step.up s387)) (Step.up s393)) (Step.up s408)) (Step.up s427)) (Step.up s436))
        have k441 := (OB.step k430 s436 p417)
        have k442 := (OB.step k431 s436 p418)
        have k443 := (OB.step k432 s436 p419)
        have k444 := (OB.step k428 s436 p420)
        refine then_normal (hJ350 _ _ _ ⟨[(7, (.pointer (some ⟨b390, 0, none⟩))), (8, (.pointer (some ⟨b405, 0, none⟩)))], fit_mk (fun _ _ => rfl) (by kernel_rfl) (vs_cons (by kernel_rfl) (vs_cons (by kernel_rfl) vs_nil)), ?_⟩)
        exact ⟨X407, r384, b390, b405, rfl, E438, hXo439, hS440, k441, k442, k443, k444, k437, p402, p417, p403, p418, p404, p419, p420, kr388, hp⟩
      ·
        have k451 := (OB.step0 k381 s387)
        have k452 := (OB.step0 k382 s387)
        have k453 := (OB.step0 k383 s387)
        have E454 := (Evo.then0 E379 e386)
        refine o_newX ((List.replicate 8 (0 : Int)).map (Value.int .u32)) 51 (X := X23) (B := w.heap.size) E454.size rfl (by kernel_rfl) ?_
        intro b445 w446 X447 s448 k449 n450
        have rm := RB.mono (F' := []) (Step.evo s448) (Nat.le_trans (Nat.le_of_eq z374.symm) (RB.size er389)) (fun _ h => by cases h)
        have er455 := RB.trans er389 rm
        refine ⟨fun _ => rm, ?_⟩
        have gb456 := apge n450 (Nat.le_trans (Nat.le_of_eq z374.symm) (RB.size er389))
        have p457 := n450 _ (OB.old k451)
        have p458 := n450 _ (OB.old k452)
        have p459 := n450 _ (OB.old k453)
        refine r_ready [3] (by kernel_rfl) rfl (all_cons ⟨_, _, _, _, _, _, rfl, ?_⟩ all_nil)
        have k466 := (OB.step0 k451 s448)
        have k467 := (OB.step0 k452 s448)
        have k468 := (OB.step0 k453 s448)
        have E469 := (Evo.then0 E454 (Step.evo s448))
        refine o_newX ((List.replicate 64 (0 : Int)).map (Value.int .u32)) 53 (X := X447) (B := w.heap.size) E469.size rfl (by kernel_rfl) ?_
        intro b460 w461 X462 s463 k464 n465
        have rm := RB.mono (F' := []) (Step.evo s463) (Nat.le_trans (Nat.le_of_eq z374.symm) (RB.size er455)) (fun _ h => by cases h)
        have er470 := RB.trans er455 rm
        refine ⟨fun _ => rm, ?_⟩
        have gb471 := apge n465 (Nat.le_trans (Nat.le_of_eq z374.symm) (RB.size er455))
        have p472 := n465 _ (OB.old k466)
        have p473 := n465 _ (OB.old k467)
        have p474 := n465 _ (OB.old k468)
        have p475 := n465 _ (OB.old k449)
        refine r_ready [5] (by kernel_rfl) rfl (all_cons ⟨_, _, _, _, _, _, rfl, ?_⟩ all_nil)
        have k476 := (OB.step0 k466 s463)
        have k477 := (OB.step0 k467 s463)
        have k478 := (OB.step0 k468 s463)
        have k479 := (OB.step0 k449 s463)
        have E480 := (Evo.then0 E469 (Step.evo s463))
        refine o_stW (k := .u32) (e := (List.replicate 64 (0 : Int))) (e' := r384) rfl k464 (by kernel_rfl) (by kernel_rfl) Try.sizeOf53 (okArr_rep _ _) kr388 ?_
        intro w481 s482 k483
        have rm := RB.mono (F' := []) (Step.evo s482) (Nat.le_trans (Nat.le_of_eq z374.symm) (RB.size er470)) (fun x hx => .inr (by simp at hx; subst hx; exact gb471))
        have er484 := RB.trans er470 rm
        refine ⟨fun _ => rm, ?_⟩
        refine r_ready [6] (by kernel_rfl) rfl (all_cons ⟨_, _, _, _, _, _, rfl, ?_⟩ all_nil)
        have k485 := (OB.step k476 s482 p472)
        have k486 := (OB.step k477 s482 p473)
        have k487 := (OB.step k478 s482 p474)
        have k488 := (OB.step k479 s482 p475)
        have E489 := (Evo.thenW E480 (Step.evo s482) k464.2.2)
        refine o_stW (k := .u32) (e := (List.replicate 8 (0 : Int))) (e' := h) rfl k488 (by kernel_rfl) (by kernel_rfl) Try.sizeOf51 (okArr_rep _ _) kh1 ?_
        intro w490 s491 k492
        refine ⟨fun h => absurd h (by decide), ?_⟩
        refine r_done (by kernel_rfl) ?_
        have E493 := (Evo.thenW E489 (Step.evo s491) k488.2.2)
        have hXo494 := (Old.step (Old.step (Old.step (Old.step (Old.step hXo378 s387) s448) s463) s482) s491)
        have hS495 := (Sub.trans (Sub.trans (Sub.trans (Sub.trans (Sub.trans hS380 (Step.up s387)) (Step.up s448)) (Step.up s463)) (Step.up s482)) (Step.up s491))
        have k496 := (OB.step k485 s491 p457)
        have k497 := (OB.step k486 s491 p458)
        have k498 := (OB.step k487 s491 p459)
        have k499 := (OB.step k483 s491 (Ap.symm p475))
        refine then_normal (hJ350 _ _ _ ⟨[(7, (.pointer (some ⟨b460, 0, none⟩))), (8, (.pointer (some ⟨b445, 0, none⟩)))], fit_mk (fun _ _ => rfl) (by kernel_rfl) (vs_cons (by kernel_rfl) (vs_cons (by kernel_rfl) vs_nil)), ?_⟩)
        exact ⟨X462, r384, b460, b445, rfl, E493, hXo494, hS495, k496, k497, k498, k499, k492, p472, p457, p473, p458, p474, p459, (Ap.symm p475), kr388, hp⟩
    ·
      refine o_newX ((List.replicate 64 (0 : Int)).map (Value.int .u32)) 53 (X := X23) (B := w.heap.size) E379.size rfl (by kernel_rfl) ?_
      intro b500 w501 X502 s503 k504 n505
      have rm := RB.mono (F' := []) (Step.evo s503) (Nat.le_trans (Nat.le_of_eq z374.symm) (RB.size er375)) (fun _ h => by cases h)
      have er506 := RB.trans er375 rm
      refine ⟨fun _ => rm, ?_⟩
      have gb507 := apge n505 (Nat.le_trans (Nat.le_of_eq z374.symm) (RB.size er375))
      have p508 := n505 _ (OB.old k381)
      have p509 := n505 _ (OB.old k382)
      have p510 := n505 _ (OB.old k383)
      refine r_ready [1, 4] (by kernel_rfl) rfl (all_cons ⟨_, _, _, _, _, _, rfl, ?_⟩ (all_cons ⟨_, _, _, _, _, _, rfl, ?_⟩ all_nil))
      ·
        have hb511 := (Sl.step hb377 s503)
        refine o_call 37 #[(.slice ab2 b.length cb3)] rfl (x_call Try.call37 (by kernel_rfl)) (sha_words_w (X := []) (b := b) (Old.nil _) (Sl.less hb511 (Sub.nil _)) hp) ?_
        rintro _ w513 ⟨r512, hp, e514, rfl, kr516⟩
        have rm := RB.mono (F' := []) e514 (Nat.le_trans (Nat.le_of_eq z374.symm) (RB.size er506)) (fun _ h => by cases h)
        have er517 := RB.trans er506 rm
        refine ⟨fun _ => rm, ?_⟩
        have s515 := Step.of0 X502 e514
        replace hp := hp kr516
        refine r_ready [4] (by kernel_rfl) rfl (all_cons ⟨_, _, _, _, _, _, rfl, ?_⟩ all_nil)
        have k524 := (OB.step0 (OB.step0 k381 s503) s515)
        have k525 := (OB.step0 (OB.step0 k382 s503) s515)
        have k526 := (OB.step0 (OB.step0 k383 s503) s515)
        have k527 := (OB.step0 k504 s515)
        have E528 := (Evo.then0 (Evo.then0 E379 (Step.evo s503)) e514)
        refine o_newX ((List.replicate 8 (0 : Int)).map (Value.int .u32)) 51 (X := X502) (B := w.heap.size) E528.size rfl (by kernel_rfl) ?_
        intro b518 w519 X520 s521 k522 n523
        have rm := RB.mono (F' := []) (Step.evo s521) (Nat.le_trans (Nat.le_of_eq z374.symm) (RB.size er517)) (fun _ h => by cases h)
        have er529 := RB.trans er517 rm
        refine ⟨fun _ => rm, ?_⟩
        have gb530 := apge n523 (Nat.le_trans (Nat.le_of_eq z374.symm) (RB.size er517))
        have p531 := n523 _ (OB.old k524)
        have p532 := n523 _ (OB.old k525)
        have p533 := n523 _ (OB.old k526)
        have p534 := n523 _ (OB.old k527)
        refine r_ready [5] (by kernel_rfl) rfl (all_cons ⟨_, _, _, _, _, _, rfl, ?_⟩ all_nil)
        have k535 := (OB.step0 k524 s521)
        have k536 := (OB.step0 k525 s521)
        have k537 := (OB.step0 k526 s521)
        have k538 := (OB.step0 k527 s521)
        have E539 := (Evo.then0 E528 (Step.evo s521))
        refine o_stW (k := .u32) (e := (List.replicate 64 (0 : Int))) (e' := r512) rfl k538 (by kernel_rfl) (by kernel_rfl) Try.sizeOf53 (okArr_rep _ _) kr516 ?_
        intro w540 s541 k542
        have rm := RB.mono (F' := []) (Step.evo s541) (Nat.le_trans (Nat.le_of_eq z374.symm) (RB.size er529)) (fun x hx => .inr (by simp at hx; subst hx; exact gb507))
        have er543 := RB.trans er529 rm
        refine ⟨fun _ => rm, ?_⟩
        refine r_ready [6] (by kernel_rfl) rfl (all_cons ⟨_, _, _, _, _, _, rfl, ?_⟩ all_nil)
        have k544 := (OB.step k535 s541 p508)
        have k545 := (OB.step k536 s541 p509)
        have k546 := (OB.step k537 s541 p510)
        have k547 := (OB.step k522 s541 (Ap.symm p534))
        have E548 := (Evo.thenW E539 (Step.evo s541) k538.2.2)
        refine o_stW (k := .u32) (e := (List.replicate 8 (0 : Int))) (e' := h) rfl k547 (by kernel_rfl) (by kernel_rfl) Try.sizeOf51 (okArr_rep _ _) kh1 ?_
        intro w549 s550 k551
        refine ⟨fun h => absurd h (by decide), ?_⟩
        refine r_done (by kernel_rfl) ?_
        have E552 := (Evo.thenW E548 (Step.evo s550) k547.2.2)
        have hXo553 := (Old.step (Old.step (Old.step (Old.step (Old.step hXo378 s503) s515) s521) s541) s550)
        have hS554 := (Sub.trans (Sub.trans (Sub.trans (Sub.trans (Sub.trans hS380 (Step.up s503)) (Step.up s515)) (Step.up s521)) (Step.up s541)) (Step.up s550))
        have k555 := (OB.step k544 s550 p531)
        have k556 := (OB.step k545 s550 p532)
        have k557 := (OB.step k546 s550 p533)
        have k558 := (OB.step k542 s550 p534)
        refine then_normal (hJ350 _ _ _ ⟨[(7, (.pointer (some ⟨b500, 0, none⟩))), (8, (.pointer (some ⟨b518, 0, none⟩)))], fit_mk (fun _ _ => rfl) (by kernel_rfl) (vs_cons (by kernel_rfl) (vs_cons (by kernel_rfl) vs_nil)), ?_⟩)
        exact ⟨X520, r512, b500, b518, rfl, E552, hXo553, hS554, k555, k556, k557, k558, k551, p508, p531, p509, p532, p510, p533, p534, kr516, hp⟩
      ·
        have k565 := (OB.step0 k381 s503)
        have k566 := (OB.step0 k382 s503)
        have k567 := (OB.step0 k383 s503)
        have E568 := (Evo.then0 E379 (Step.evo s503))
        refine o_newX ((List.replicate 8 (0 : Int)).map (Value.int .u32)) 51 (X := X502) (B := w.heap.size) E568.size rfl (by kernel_rfl) ?_
        intro b559 w560 X561 s562 k563 n564
        have rm := RB.mono (F' := []) (Step.evo s562) (Nat.le_trans (Nat.le_of_eq z374.symm) (RB.size er506)) (fun _ h => by cases h)
        have er569 := RB.trans er506 rm
        refine ⟨fun _ => rm, ?_⟩
        have gb570 := apge n564 (Nat.le_trans (Nat.le_of_eq z374.symm) (RB.size er506))
        have p571 := n564 _ (OB.old k565)
        have p572 := n564 _ (OB.old k566)
        have p573 := n564 _ (OB.old k567)
        have p574 := n564 _ (OB.old k504)
        refine r_ready [1] (by kernel_rfl) rfl (all_cons ⟨_, _, _, _, _, _, rfl, ?_⟩ all_nil)
        have hb575 := (Sl.step (Sl.step hb377 s503) s562)
        refine o_call 37 #[(.slice ab2 b.length cb3)] rfl (x_call Try.call37 (by kernel_rfl)) (sha_words_w (X := []) (b := b) (Old.nil _) (Sl.less hb575 (Sub.nil _)) hp) ?_
        rintro _ w577 ⟨r576, hp, e578, rfl, kr580⟩
        have rm := RB.mono (F' := []) e578 (Nat.le_trans (Nat.le_of_eq z374.symm) (RB.size er569)) (fun _ h => by cases h)
        have er581 := RB.trans er569 rm
        refine ⟨fun _ => rm, ?_⟩
        have s579 := Step.of0 X561 e578
        replace hp := hp kr580
        refine r_ready [5] (by kernel_rfl) rfl (all_cons ⟨_, _, _, _, _, _, rfl, ?_⟩ all_nil)
        have k582 := (OB.step0 (OB.step0 k565 s562) s579)
        have k583 := (OB.step0 (OB.step0 k566 s562) s579)
        have k584 := (OB.step0 (OB.step0 k567 s562) s579)
        have k585 := (OB.step0 (OB.step0 k504 s562) s579)
        have k586 := (OB.step0 k563 s579)
        have E587 := (Evo.then0 (Evo.then0 E568 (Step.evo s562)) e578)
        refine o_stW (k := .u32) (e := (List.replicate 64 (0 : Int))) (e' := r576) rfl k585 (by kernel_rfl) (by kernel_rfl) Try.sizeOf53 (okArr_rep _ _) kr580 ?_
        intro w588 s589 k590
        have rm := RB.mono (F' := []) (Step.evo s589) (Nat.le_trans (Nat.le_of_eq z374.symm) (RB.size er581)) (fun x hx => .inr (by simp at hx; subst hx; exact gb507))
        have er591 := RB.trans er581 rm
        refine ⟨fun _ => rm, ?_⟩
        refine r_ready [6] (by kernel_rfl) rfl (all_cons ⟨_, _, _, _, _, _, rfl, ?_⟩ all_nil)
        have k592 := (OB.step k582 s589 p508)
        have k593 := (OB.step k583 s589 p509)
        have k594 := (OB.step k584 s589 p510)
        have k595 := (OB.step k586 s589 (Ap.symm p574))
        have E596 := (Evo.thenW E587 (Step.evo s589) k585.2.2)
        refine o_stW (k := .u32) (e := (List.replicate 8 (0 : Int))) (e' := h) rfl k595 (by kernel_rfl) (by kernel_rfl) Try.sizeOf51 (okArr_rep _ _) kh1 ?_
        intro w597 s598 k599
        refine ⟨fun h => absurd h (by decide), ?_⟩
        refine r_done (by kernel_rfl) ?_
        have E600 := (Evo.thenW E596 (Step.evo s598) k595.2.2)
        have hXo601 := (Old.step (Old.step (Old.step (Old.step (Old.step hXo378 s503) s562) s579) s589) s598)
        have hS602 := (Sub.trans (Sub.trans (Sub.trans (Sub.trans (Sub.trans hS380 (Step.up s503)) (Step.up s562)) (Step.up s579)) (Step.up s589)) (Step.up s598))
        have k603 := (OB.step k592 s598 p571)
        have k604 := (OB.step k593 s598 p572)
        have k605 := (OB.step k594 s598 p573)
        have k606 := (OB.step k590 s598 p574)
        refine then_normal (hJ350 _ _ _ ⟨[(7, (.pointer (some ⟨b500, 0, none⟩))), (8, (.pointer (some ⟨b559, 0, none⟩)))], fit_mk (fun _ _ => rfl) (by kernel_rfl) (vs_cons (by kernel_rfl) (vs_cons (by kernel_rfl) vs_nil)), ?_⟩)
        exact ⟨X561, r576, b500, b559, rfl, E600, hXo601, hS602, k603, k604, k605, k606, k599, p508, p571, p509, p572, p510, p573, p574, kr580, hp⟩
    ·
      refine o_newX ((List.replicate 8 (0 : Int)).map (Value.int .u32)) 51 (X := X23) (B := w.heap.size) E379.size rfl (by kernel_rfl) ?_
      intro b607 w608 X609 s610 k611 n612
      have rm := RB.mono (F' := []) (Step.evo s610) (Nat.le_trans (Nat.le_of_eq z374.symm) (RB.size er375)) (fun _ h => by cases h)
      have er613 := RB.trans er375 rm
      refine ⟨fun _ => rm, ?_⟩
      have gb614 := apge n612 (Nat.le_trans (Nat.le_of_eq z374.symm) (RB.size er375))
      have p615 := n612 _ (OB.old k381)
      have p616 := n612 _ (OB.old k382)
      have p617 := n612 _ (OB.old k383)
      refine r_ready [1, 3] (by kernel_rfl) rfl (all_cons ⟨_, _, _, _, _, _, rfl, ?_⟩ (all_cons ⟨_, _, _, _, _, _, rfl, ?_⟩ all_nil))
      ·
        have hb618 := (Sl.step hb377 s610)
        refine o_call 37 #[(.slice ab2 b.length cb3)] rfl (x_call Try.call37 (by kernel_rfl)) (sha_words_w (X := []) (b := b) (Old.nil _) (Sl.less hb618 (Sub.nil _)) hp) ?_
        rintro _ w620 ⟨r619, hp, e621, rfl, kr623⟩
        have rm := RB.mono (F' := []) e621 (Nat.le_trans (Nat.le_of_eq z374.symm) (RB.size er613)) (fun _ h => by cases h)
        have er624 := RB.trans er613 rm
        refine ⟨fun _ => rm, ?_⟩
        have s622 := Step.of0 X609 e621
        replace hp := hp kr623
        refine r_ready [3] (by kernel_rfl) rfl (all_cons ⟨_, _, _, _, _, _, rfl, ?_⟩ all_nil)
        have k631 := (OB.step0 (OB.step0 k381 s610) s622)
        have k632 := (OB.step0 (OB.step0 k382 s610) s622)
        have k633 := (OB.step0 (OB.step0 k383 s610) s622)
        have k634 := (OB.step0 k611 s622)
        have E635 := (Evo.then0 (Evo.then0 E379 (Step.evo s610)) e621)
        refine o_newX ((List.replicate 64 (0 : Int)).map (Value.int .u32)) 53 (X := X609) (B := w.heap.size) E635.size rfl (by kernel_rfl) ?_
        intro b625 w626 X627 s628 k629 n630
        have rm := RB.mono (F' := []) (Step.evo s628) (Nat.le_trans (Nat.le_of_eq z374.symm) (RB.size er624)) (fun _ h => by cases h)
        have er636 := RB.trans er624 rm
        refine ⟨fun _ => rm, ?_⟩
        have gb637 := apge n630 (Nat.le_trans (Nat.le_of_eq z374.symm) (RB.size er624))
        have p638 := n630 _ (OB.old k631)
        have p639 := n630 _ (OB.old k632)
        have p640 := n630 _ (OB.old k633)
        have p641 := n630 _ (OB.old k634)
        refine r_ready [5] (by kernel_rfl) rfl (all_cons ⟨_, _, _, _, _, _, rfl, ?_⟩ all_nil)
        have k642 := (OB.step0 k631 s628)
        have k643 := (OB.step0 k632 s628)
        have k644 := (OB.step0 k633 s628)
        have k645 := (OB.step0 k634 s628)
        have E646 := (Evo.then0 E635 (Step.evo s628))
        refine o_stW (k := .u32) (e := (List.replicate 64 (0 : Int))) (e' := r619) rfl k629 (by kernel_rfl) (by kernel_rfl) Try.sizeOf53 (okArr_rep _ _) kr623 ?_
        intro w647 s648 k649
        have rm := RB.mono (F' := []) (Step.evo s648) (Nat.le_trans (Nat.le_of_eq z374.symm) (RB.size er636)) (fun x hx => .inr (by simp at hx; subst hx; exact gb637))
        have er650 := RB.trans er636 rm
        refine ⟨fun _ => rm, ?_⟩
        refine r_ready [6] (by kernel_rfl) rfl (all_cons ⟨_, _, _, _, _, _, rfl, ?_⟩ all_nil)
        have k651 := (OB.step k642 s648 p638)
        have k652 := (OB.step k643 s648 p639)
        have k653 := (OB.step k644 s648 p640)
        have k654 := (OB.step k645 s648 p641)
        have E655 := (Evo.thenW E646 (Step.evo s648) k629.2.2)
        refine o_stW (k := .u32) (e := (List.replicate 8 (0 : Int))) (e' := h) rfl k654 (by kernel_rfl) (by kernel_rfl) Try.sizeOf51 (okArr_rep _ _) kh1 ?_
        intro w656 s657 k658
        refine ⟨fun h => absurd h (by decide), ?_⟩
        refine r_done (by kernel_rfl) ?_
        have E659 := (Evo.thenW E655 (Step.evo s657) k654.2.2)
        have hXo660 := (Old.step (Old.step (Old.step (Old.step (Old.step hXo378 s610) s622) s628) s648) s657)
        have hS661 := (Sub.trans (Sub.trans (Sub.trans (Sub.trans (Sub.trans hS380 (Step.up s610)) (Step.up s622)) (Step.up s628)) (Step.up s648)) (Step.up s657))
        have k662 := (OB.step k651 s657 p615)
        have k663 := (OB.step k652 s657 p616)
        have k664 := (OB.step k653 s657 p617)
        have k665 := (OB.step k649 s657 (Ap.symm p641))
        refine then_normal (hJ350 _ _ _ ⟨[(7, (.pointer (some ⟨b625, 0, none⟩))), (8, (.pointer (some ⟨b607, 0, none⟩)))], fit_mk (fun _ _ => rfl) (by kernel_rfl) (vs_cons (by kernel_rfl) (vs_cons (by kernel_rfl) vs_nil)), ?_⟩)
        exact ⟨X627, r619, b625, b607, rfl, E659, hXo660, hS661, k662, k663, k664, k665, k658, p638, p615, p639, p616, p640, p617, (Ap.symm p641), kr623, hp⟩
      ·
        have k672 := (OB.step0 k381 s610)
        have k673 := (OB.step0 k382 s610)
        have k674 := (OB.step0 k383 s610)
        have E675 := (Evo.then0 E379 (Step.evo s610))
        refine o_newX ((List.replicate 64 (0 : Int)).map (Value.int .u32)) 53 (X := X609) (B := w.heap.size) E675.size rfl (by kernel_rfl) ?_
        intro b666 w667 X668 s669 k670 n671
        have rm := RB.mono (F' := []) (Step.evo s669) (Nat.le_trans (Nat.le_of_eq z374.symm) (RB.size er613)) (fun _ h => by cases h)
        have er676 := RB.trans er613 rm
        refine ⟨fun _ => rm, ?_⟩
        have gb677 := apge n671 (Nat.le_trans (Nat.le_of_eq z374.symm) (RB.size er613))
        have p678 := n671 _ (OB.old k672)
        have p679 := n671 _ (OB.old k673)
        have p680 := n671 _ (OB.old k674)
        have p681 := n671 _ (OB.old k611)
        refine r_ready [1] (by kernel_rfl) rfl (all_cons ⟨_, _, _, _, _, _, rfl, ?_⟩ all_nil)
        have hb682 := (Sl.step (Sl.step hb377 s610) s669)
        refine o_call 37 #[(.slice ab2 b.length cb3)] rfl (x_call Try.call37 (by kernel_rfl)) (sha_words_w (X := []) (b := b) (Old.nil _) (Sl.less hb682 (Sub.nil _)) hp) ?_
        rintro _ w684 ⟨r683, hp, e685, rfl, kr687⟩
        have rm := RB.mono (F' := []) e685 (Nat.le_trans (Nat.le_of_eq z374.symm) (RB.size er676)) (fun _ h => by cases h)
        have er688 := RB.trans er676 rm
        refine ⟨fun _ => rm, ?_⟩
        have s686 := Step.of0 X668 e685
        replace hp := hp kr687
        refine r_ready [5] (by kernel_rfl) rfl (all_cons ⟨_, _, _, _, _, _, rfl, ?_⟩ all_nil)
        have k689 := (OB.step0 (OB.step0 k672 s669) s686)
        have k690 := (OB.step0 (OB.step0 k673 s669) s686)
        have k691 := (OB.step0 (OB.step0 k674 s669) s686)
        have k692 := (OB.step0 (OB.step0 k611 s669) s686)
        have k693 := (OB.step0 k670 s686)
        have E694 := (Evo.then0 (Evo.then0 E675 (Step.evo s669)) e685)
        refine o_stW (k := .u32) (e := (List.replicate 64 (0 : Int))) (e' := r683) rfl k693 (by kernel_rfl) (by kernel_rfl) Try.sizeOf53 (okArr_rep _ _) kr687 ?_
        intro w695 s696 k697
        have rm := RB.mono (F' := []) (Step.evo s696) (Nat.le_trans (Nat.le_of_eq z374.symm) (RB.size er688)) (fun x hx => .inr (by simp at hx; subst hx; exact gb677))
        have er698 := RB.trans er688 rm
        refine ⟨fun _ => rm, ?_⟩
        refine r_ready [6] (by kernel_rfl) rfl (all_cons ⟨_, _, _, _, _, _, rfl, ?_⟩ all_nil)
        have k699 := (OB.step k689 s696 p678)
        have k700 := (OB.step k690 s696 p679)
        have k701 := (OB.step k691 s696 p680)
        have k702 := (OB.step k692 s696 p681)
        have E703 := (Evo.thenW E694 (Step.evo s696) k693.2.2)
        refine o_stW (k := .u32) (e := (List.replicate 8 (0 : Int))) (e' := h) rfl k702 (by kernel_rfl) (by kernel_rfl) Try.sizeOf51 (okArr_rep _ _) kh1 ?_
        intro w704 s705 k706
        refine ⟨fun h => absurd h (by decide), ?_⟩
        refine r_done (by kernel_rfl) ?_
        have E707 := (Evo.thenW E703 (Step.evo s705) k702.2.2)
        have hXo708 := (Old.step (Old.step (Old.step (Old.step (Old.step hXo378 s610) s669) s686) s696) s705)
        have hS709 := (Sub.trans (Sub.trans (Sub.trans (Sub.trans (Sub.trans hS380 (Step.up s610)) (Step.up s669)) (Step.up s686)) (Step.up s696)) (Step.up s705))
        have k710 := (OB.step k699 s705 p615)
        have k711 := (OB.step k700 s705 p616)
        have k712 := (OB.step k701 s705 p617)
        have k713 := (OB.step k697 s705 (Ap.symm p681))
        refine then_normal (hJ350 _ _ _ ⟨[(7, (.pointer (some ⟨b666, 0, none⟩))), (8, (.pointer (some ⟨b607, 0, none⟩)))], fit_mk (fun _ _ => rfl) (by kernel_rfl) (vs_cons (by kernel_rfl) (vs_cons (by kernel_rfl) vs_nil)), ?_⟩)
        exact ⟨X668, r683, b666, b607, rfl, E707, hXo708, hS709, k710, k711, k712, k713, k706, p678, p615, p679, p616, p680, p617, (Ap.symm p681), kr687, hp⟩
  ·
    rintro _ w347 g714 ⟨X348, f341, b339, b343, rfl, E358, hXo359, hS360, k361, k362, k363, k340, k344, p364, p365, p366, p367, p368, p369, p370, kf342, hv351⟩
    replace hp := hk346 f341 hv351 kf342
    refine then_normal (K31 _ _ _ _ ?_)
    refine seq_ (fun _ K715 => ?_)
    refine seq_ (fun _ K716 => ?_)
    refine reg_ ?_
    refine sq (o_pv (.int .i64 (0 : Int)) rfl (by kernel_rfl) ?_)
    refine nil_ ?_
    refine then_normal (K716 _ _ _ _ ?_)
    refine wp_block ?_
    obtain ⟨I970, m971, hI972, hp⟩ := hp
    refine loop_ 1267650600228229401496702959104 (fun kq lq w974 => ∃ (X975 : List Nat) (s842 : Int) (f844 : (List Int)), (lq = [(18, (.int .i64 s842))]) ∧ (kq = m971 s842 f844) ∧ (Evo [] w w974) ∧ (Old X975 w974) ∧ (Sub X X975) ∧ (OB ([]) w.heap.size X975 w974 b7 (h.map (Value.int .u32)) 51) ∧ (OB ([]) w.heap.size X975 w974 b13 (k.map (Value.int .u32)) 53) ∧ (OB ([]) w.heap.size X975 w974 b21 ((List.replicate 8 (0 : Int)).map (Value.int .u32)) 51) ∧ (OB ([]) w.heap.size X975 w974 b339 (f341.map (Value.int .u32)) 53) ∧ (OB ([]) w.heap.size X975 w974 b343 (f844.map (Value.int .u32)) 51) ∧ (Ap ([b7]) ([b339])) ∧ (Ap ([b13]) ([b339])) ∧ (Ap ([b21]) ([b339])) ∧ (Ap ([b339]) ([b343])) ∧ (inR .i64 s842) ∧ (okArr .u32 8 f844) ∧ (I970 s842 f844)) (m971 (0 : Int) h) [(18, (.int .i64 (0 : Int)))] (vs_cons (by kernel_rfl) vs_nil) ⟨X348, (0 : Int), h, rfl, rfl, E358, hXo359, hS360, k361, k362, k363, k340, k344, p364, p366, p368, p370, (by decide), kh1, hI972⟩ ?_
    rintro _ _ w974 g977 ⟨X975, s842, f844, rfl, rfl, E980, hXo981, hS982, k983, k984, k985, k986, k846, p987, p988, p989, p990, rs843, kf845, hI973⟩ Kl978 hA979
    replace hp := hp s842 f844 hI973 rs843 kf845
    refine seq_ (fun _ K991 => ?_)
    refine reg_ ?_
    refine sq (o_pv (.bool (decide (s842 < (64 : Int)))) rfl (by kernel_rfl) ?_)
    refine nil_ ?_
    refine then_normal (K991 _ _ _ _ ?_)
    refine seq_ (fun _ K992 => ?_)
    refine cond_d (s842 < (64 : Int)) (by kernel_rfl) (fun h993 => ?_) (fun h993 => ?_)
    ·
      replace hp := hp.1 h993
      refine wp_skip ?_
      refine then_normal (K992 _ _ _ _ ?_)
      refine seq_ (fun _ K994 => ?_)
      refine wp_block ?_
      refine seq_ (fun _ K995 => ?_)
      refine reg_ ?_
      refine sq (o_pv (.int .i64 s842) rfl (by kernel_rfl) ?_)
      refine sq (o_pv (.int .i64 s842) rfl (by kernel_rfl) ?_)
      refine nil_ ?_
      refine then_normal (K995 _ _ _ _ ?_)
      refine seq_ (fun _ K996 => ?_)
      refine reg_drawn (RB w974.heap.size []) 5 (by kernel_rfl) (fun w997 hd998 => ?_)
      have e999 := Evo.of_drew hd998
      have z1000 : w997.heap.size = w974.heap.size := by rw [hd998]
      clear hd998
      have s1002 := Step.of0 X975 e999
      have er1001 := RB.refl w974.heap.size [] w997
      have E1003 := (Evo.then0 E980 (Step.evo s1002))
      have hXo1004 := (Old.step hXo981 s1002)
      have hS1005 := (Sub.trans hS982 (Step.up s1002))
      have k1006 := (OB.step0 k983 s1002)
      have k1007 := (OB.step0 k984 s1002)
      have k1008 := (OB.step0 k985 s1002)
      have k1009 := (OB.step0 k986 s1002)
      have k1010 := (OB.step0 k846 s1002)
      refine r_take 0 (.pointer (some ⟨b343, (4 : Int).toNat, none⟩)) (RB.pre _ _) rfl (by kernel_rfl) (fun _ _ _ h => hQ.panic _ _ _ _ _ h) (.inl ⟨rfl, fun wq hq => (x_ixR (k := .i64) (i := (4 : Int)) Try.underlying51 Try.sizeOf50 (by kernel_rfl) (by kernel_rfl) (by decide))⟩) ?_
      refine r_take 1 (.int .u32 (lget f844 (4 : Int))) (RB.pre _ _) rfl (by kernel_rfl) (fun _ _ _ h => hQ.panic _ _ _ _ _ h) (.inl ⟨rfl, fun wq hq => (x_load1 (by kernel_rfl) Try.isAgg50 (Blk.acell (Blk.rb k1010.2.1 (RB.trans er1001 hq) (Nat.lt_of_lt_of_eq (Blk.lt k1010.2.1) z1000) (fun h => by cases h)) kf845 (by decide)))⟩) ?_
      refine r_take 2 (.pointer (some ⟨b343, (0 : Int).toNat, none⟩)) (RB.pre _ _) rfl (by kernel_rfl) (fun _ _ _ h => hQ.panic _ _ _ _ _ h) (.inl ⟨rfl, fun wq hq => (x_ixR (k := .i64) (i := (0 : Int)) Try.underlying51 Try.sizeOf50 (by kernel_rfl) (by kernel_rfl) (by decide))⟩) ?_
      refine r_take 3 (.int .u32 (lget f844 (0 : Int))) (RB.pre _ _) rfl (by kernel_rfl) (fun _ _ _ h => hQ.panic _ _ _ _ _ h) (.inl ⟨rfl, fun wq hq => (x_load1 (by kernel_rfl) Try.isAgg50 (Blk.acell (Blk.rb k1010.2.1 (RB.trans er1001 hq) (Nat.lt_of_lt_of_eq (Blk.lt k1010.2.1) z1000) (fun h => by cases h)) kf845 (by decide)))⟩) ?_
      refine r_take 4 (.int .u32 (lget f844 (4 : Int))) (RB.pre _ _) rfl (by kernel_rfl) (fun _ _ _ h => hQ.panic _ _ _ _ _ h) (.inl ⟨rfl, fun wq hq => (by kernel_rfl)⟩) ?_
      refine r_ready [5] (by kernel_rfl) rfl (all_cons ⟨_, _, _, _, _, _, rfl, ?_⟩ all_nil)
      refine o_pv (.int .u32 (lget f844 (0 : Int))) rfl (by kernel_rfl) ?_
      refine ⟨fun h => absurd h (by decide), ?_⟩
      refine r_done (by kernel_rfl) ?_
      refine then_normal (K996 _ _ _ _ ?_)
      refine seq_ (fun _ K1011 => ?_)
      refine reg_drawn (RB w997.heap.size []) 30 (by kernel_rfl) (fun w1012 hd1013 => ?_)
      have e1014 := Evo.of_drew hd1013
      have z1015 : w1012.heap.size = w997.heap.size := by rw [hd1013]
      clear hd1013
      have s1017 := Step.of0 X975 e1014
      have er1016 := RB.refl w997.heap.size [] w1012
      have E1018 := (Evo.then0 E1003 (Step.evo s1017))
      have hXo1019 := (Old.step hXo1004 s1017)
      have hS1020 := (Sub.trans hS1005 (Step.up s1017))
      have k1021 := (OB.step0 k1006 s1017)
      have k1022 := (OB.step0 k1007 s1017)
      have k1023 := (OB.step0 k1008 s1017)
      have k1024 := (OB.step0 k1009 s1017)
      have k1025 := (OB.step0 k1010 s1017)
      refine r_take 0 (.pointer (some ⟨b343, (7 : Int).toNat, none⟩)) (RB.pre _ _) rfl (by kernel_rfl) (fun _ _ _ h => hQ.panic _ _ _ _ _ h) (.inl ⟨rfl, fun wq hq => (x_ixR (k := .i64) (i := (7 : Int)) Try.underlying51 Try.sizeOf50 (by kernel_rfl) (by kernel_rfl) (by decide))⟩) ?_
      refine r_take 1 (.int .u32 (lget f844 (7 : Int))) (RB.pre _ _) rfl (by kernel_rfl) (fun _ _ _ h => hQ.panic _ _ _ _ _ h) (.inl ⟨rfl, fun wq hq => (x_load1 (by kernel_rfl) Try.isAgg50 (Blk.acell (Blk.rb k1025.2.1 (RB.trans er1016 hq) (Nat.lt_of_lt_of_eq (Blk.lt k1025.2.1) z1015) (fun h => by cases h)) kf845 (by decide)))⟩) ?_
      refine r_take 2 (.int .u32 (lget f844 (4 : Int))) (RB.pre _ _) rfl (by kernel_rfl) (fun _ _ _ h => hQ.panic _ _ _ _ _ h) (.inl ⟨rfl, fun wq hq => (by kernel_rfl)⟩) ?_
      refine r_take 4 (.int .u32 (lget f844 (4 : Int))) (RB.pre _ _) rfl (by kernel_rfl) (fun _ _ _ h => hQ.panic _ _ _ _ _ h) (.inl ⟨rfl, fun wq hq => (by kernel_rfl)⟩) ?_
      refine r_take 7 (.int .u32 (lget f844 (4 : Int))) (RB.pre _ _) rfl (by kernel_rfl) (fun _ _ _ h => hQ.panic _ _ _ _ _ h) (.inl ⟨rfl, fun wq hq => (by kernel_rfl)⟩) ?_
      refine r_take 11 (.int .u32 (lget f844 (4 : Int))) (RB.pre _ _) rfl (by kernel_rfl) (fun _ _ _ h => hQ.panic _ _ _ _ _ h) (.inl ⟨rfl, fun wq hq => (by kernel_rfl)⟩) ?_
      refine r_take 12 (.pointer (some ⟨b343, (5 : Int).toNat, none⟩)) (RB.pre _ _) rfl (by kernel_rfl) (fun _ _ _ h => hQ.panic _ _ _ _ _ h) (.inl ⟨rfl, fun wq hq => (x_ixR (k := .i64) (i := (5 : Int)) Try.underlying51 Try.sizeOf50 (by kernel_rfl) (by kernel_rfl) (by decide))⟩) ?_
      refine r_take 13 (.int .u32 (lget f844 (5 : Int))) (RB.pre _ _) rfl (by kernel_rfl) (fun _ _ _ h => hQ.panic _ _ _ _ _ h) (.inl ⟨rfl, fun wq hq => (x_load1 (by kernel_rfl) Try.isAgg50 (Blk.acell (Blk.rb k1025.2.1 (RB.trans er1016 hq) (Nat.lt_of_lt_of_eq (Blk.lt k1025.2.1) z1015) (fun h => by cases h)) kf845 (by decide)))⟩) ?_
      refine r_take 14 (.int .u32 (iand .u32 (lget f844 (4 : Int)) (lget f844 (5 : Int)))) (RB.pre _ _) rfl (by kernel_rfl) (fun _ _ _ h => hQ.panic _ _ _ _ _ h) (.inl ⟨rfl, fun wq hq => (x_and (k := .u32) (a := lget f844 (4 : Int)) (b := lget f844 (5 : Int)) (by kernel_rfl) (by kernel_rfl))⟩) ?_
      refine r_take 15 (.int .u32 (lget f844 (4 : Int))) (RB.pre _ _) rfl (by kernel_rfl) (fun _ _ _ h => hQ.panic _ _ _ _ _ h) (.inl ⟨rfl, fun wq hq => (by kernel_rfl)⟩) ?_
      refine r_take 16 (.int .u32 (inot .u32 (lget f844 (4 : Int)))) (RB.pre _ _) rfl (by kernel_rfl) (fun _ _ _ h => hQ.panic _ _ _ _ _ h) (.inl ⟨rfl, fun wq hq => (x_bnot (k := .u32) (a := lget f844 (4 : Int)) (by kernel_rfl))⟩) ?_
      refine r_take 17 (.pointer (some ⟨b343, (6 : Int).toNat, none⟩)) (RB.pre _ _) rfl (by kernel_rfl) (fun _ _ _ h => hQ.panic _ _ _ _ _ h) (.inl ⟨rfl, fun wq hq => (x_ixR (k := .i64) (i := (6 : Int)) Try.underlying51 Try.sizeOf50 (by kernel_rfl) (by kernel_rfl) (by decide))⟩) ?_
      refine r_take 18 (.int .u32 (lget f844 (6 : Int))) (RB.pre _ _) rfl (by kernel_rfl) (fun _ _ _ h => hQ.panic _ _ _ _ _ h) (.inl ⟨rfl, fun wq hq => (x_load1 (by kernel_rfl) Try.isAgg50 (Blk.acell (Blk.rb k1025.2.1 (RB.trans er1016 hq) (Nat.lt_of_lt_of_eq (Blk.lt k1025.2.1) z1015) (fun h => by cases h)) kf845 (by decide)))⟩) ?_
      refine r_take 19 (.int .u32 (iand .u32 (inot .u32 (lget f844 (4 : Int))) (lget f844 (6 : Int)))) (RB.pre _ _) rfl (by kernel_rfl) (fun _ _ _ h => hQ.panic _ _ _ _ _ h) (.inl ⟨rfl, fun wq hq => (x_and (k := .u32) (a := inot .u32 (lget f844 (4 : Int))) (b := lget f844 (6 : Int)) (by kernel_rfl) (by kernel_rfl))⟩) ?_
      obtain ⟨y1026, qy1026⟩ : ∃ y, y = (ixor .u32 (iand .u32 (lget f844 (4 : Int)) (lget f844 (5 : Int))) (iand .u32 (inot .u32 (lget f844 (4 : Int))) (lget f844 (6 : Int)))) := ⟨_, rfl⟩
      replace hp := hp y1026 qy1026
      have r1027 : inR .u32 y1026 := by rw [qy1026]; exact (inR_ixor _ _ _)
      refine r_take 20 (.int .u32 y1026) (RB.pre _ _) rfl (by kernel_rfl) (fun _ _ _ h => hQ.panic _ _ _ _ _ h) (.inl ⟨rfl, fun wq hq => (by rw [qy1026]; exact (x_xor (k := .u32) (a := iand .u32 (lget f844 (4 : Int)) (lget f844 (5 : Int))) (b := iand .u32 (inot .u32 (lget f844 (4 : Int))) (lget f844 (6 : Int))) (by kernel_rfl) (by kernel_rfl)))⟩) ?_
      refine r_take 22 (.int .i64 s842) (RB.pre _ _) rfl (by kernel_rfl) (fun _ _ _ h => hQ.panic _ _ _ _ _ h) (.inl ⟨rfl, fun wq hq => (by kernel_rfl)⟩) ?_
      obtain ⟨h1028, hp⟩ := hp
      refine r_take 23 (.pointer (some ⟨b13, s842.toNat, none⟩)) (RB.pre _ _) rfl (by kernel_rfl) (fun _ _ _ h => hQ.panic _ _ _ _ _ h) (.inl ⟨rfl, fun wq hq => (x_ixR (k := .i64) (i := s842) Try.underlying53 Try.sizeOf50 (by kernel_rfl) (by kernel_rfl) h1028)⟩) ?_
      refine r_take 24 (.int .u32 (lget k s842)) (RB.pre _ _) rfl (by kernel_rfl) (fun _ _ _ h => hQ.panic _ _ _ _ _ h) (.inl ⟨rfl, fun wq hq => (x_load1 (by kernel_rfl) Try.isAgg50 (Blk.acell (Blk.rb k1022.2.1 (RB.trans er1016 hq) (Nat.lt_of_lt_of_eq (Blk.lt k1022.2.1) z1015) (fun h => by cases h)) kk5 h1028))⟩) ?_
      refine r_take 26 (.int .i64 s842) (RB.pre _ _) rfl (by kernel_rfl) (fun _ _ _ h => hQ.panic _ _ _ _ _ h) (.inl ⟨rfl, fun wq hq => (by kernel_rfl)⟩) ?_
      obtain ⟨h1029, hp⟩ := hp
      refine r_take 27 (.pointer (some ⟨b339, s842.toNat, none⟩)) (RB.pre _ _) rfl (by kernel_rfl) (fun _ _ _ h => hQ.panic _ _ _ _ _ h) (.inl ⟨rfl, fun wq hq => (x_ixR (k := .i64) (i := s842) Try.underlying53 Try.sizeOf50 (by kernel_rfl) (by kernel_rfl) h1029)⟩) ?_
      refine r_take 28 (.int .u32 (lget f341 s842)) (RB.pre _ _) rfl (by kernel_rfl) (fun _ _ _ h => hQ.panic _ _ _ _ _ h) (.inl ⟨rfl, fun wq hq => (x_load1 (by kernel_rfl) Try.isAgg50 (Blk.acell (Blk.rb k1024.2.1 (RB.trans er1016 hq) (Nat.lt_of_lt_of_eq (Blk.lt k1024.2.1) z1015) (fun h => by cases h)) kf342 h1029))⟩) ?_
      refine r_ready [3] (by kernel_rfl) rfl (all_cons ⟨_, _, _, _, _, _, rfl, ?_⟩ all_nil)
      refine o_call 38 #[(.int .u32 (lget f844 (4 : Int))), (.int .i64 (6 : Int))] rfl (x_call Try.call38 (by kernel_rfl)) (sha_right_w (X := []) (w_ := lget f844 (4 : Int)) (n_ := (6 : Int)) (Old.nil _) (okArr_get kf845 (by decide)) (by decide) hp) ?_
      rintro _ w1031 ⟨r1030, hp, e1032, rfl, rr1034⟩
      have rm := RB.mono (F' := []) e1032 (Nat.le_trans (Nat.le_of_eq z1015.symm) (RB.size er1016)) (fun _ h => by cases h)
      have er1035 := RB.trans er1016 rm
      refine ⟨fun _ => rm, ?_⟩
      have s1033 := Step.of0 X975 e1032
      replace hp := hp rr1034
      refine r_ready [5] (by kernel_rfl) rfl (all_cons ⟨_, _, _, _, _, _, rfl, ?_⟩ all_nil)
      refine o_call 38 #[(.int .u32 (lget f844 (4 : Int))), (.int .i64 (11 : Int))] rfl (x_call Try.call38 (by kernel_rfl)) (sha_right_w (X := []) (w_ := lget f844 (4 : Int)) (n_ := (11 : Int)) (Old.nil _) (okArr_get kf845 (by decide)) (by decide) hp) ?_
      rintro _ w1037 ⟨r1036, hp, e1038, rfl, rr1040⟩
      have rm := RB.mono (F' := []) e1038 (Nat.le_trans (Nat.le_of_eq z1015.symm) (RB.size er1035)) (fun _ h => by cases h)
      have er1041 := RB.trans er1035 rm
      refine ⟨fun _ => rm, ?_⟩
      have s1039 := Step.of0 X975 e1038
      replace hp := hp rr1040
      refine r_take 6 (.int .u32 (ixor .u32 r1030 r1036)) (RB.pre _ _) rfl (by kernel_rfl) (fun _ _ _ h => hQ.panic _ _ _ _ _ h) (.inl ⟨rfl, fun wq hq => (x_xor (k := .u32) (a := r1030) (b := r1036) (by kernel_rfl) (by kernel_rfl))⟩) ?_
      refine r_ready [8] (by kernel_rfl) rfl (all_cons ⟨_, _, _, _, _, _, rfl, ?_⟩ all_nil)
      refine o_call 38 #[(.int .u32 (lget f844 (4 : Int))), (.int .i64 (25 : Int))] rfl (x_call Try.call38 (by kernel_rfl)) (sha_right_w (X := []) (w_ := lget f844 (4 : Int)) (n_ := (25 : Int)) (Old.nil _) (okArr_get kf845 (by decide)) (by decide) hp) ?_
      rintro _ w1043 ⟨r1042, hp, e1044, rfl, rr1046⟩
      have rm := RB.mono (F' := []) e1044 (Nat.le_trans (Nat.le_of_eq z1015.symm) (RB.size er1041)) (fun _ h => by cases h)
      have er1047 := RB.trans er1041 rm
      refine ⟨fun _ => rm, ?_⟩
      have s1045 := Step.of0 X975 e1044
      replace hp := hp rr1046
      refine r_take 9 (.int .u32 (ixor .u32 (ixor .u32 r1030 r1036) r1042)) (RB.pre _ _) rfl (by kernel_rfl) (fun _ _ _ h => hQ.panic _ _ _ _ _ h) (.inl ⟨rfl, fun wq hq => (x_xor (k := .u32) (a := ixor .u32 r1030 r1036) (b := r1042) (by kernel_rfl) (by kernel_rfl))⟩) ?_
      obtain ⟨y1048, qy1048⟩ : ∃ y, y = (((lget f844 (7 : Int)) + (ixor .u32 (ixor .u32 r1030 r1036) r1042)) % 4294967296) := ⟨_, rfl⟩
      replace hp := hp y1048 qy1048
      have r1049 : inR .u32 y1048 := by rw [qy1048]; exact (inR_u32_mod _)
      refine r_take 10 (.int .u32 y1048) (RB.pre _ _) rfl (by kernel_rfl) (fun _ _ _ h => hQ.panic _ _ _ _ _ h) (.inl ⟨rfl, fun wq hq => (by rw [qy1048]; exact (x_add2 (k := .u32) (a := lget f844 (7 : Int)) (b := ixor .u32 (ixor .u32 r1030 r1036) r1042) (((lget f844 (7 : Int)) + (ixor .u32 (ixor .u32 r1030 r1036) r1042)) % 4294967296) (by kernel_rfl) (by kernel_rfl) (wrap_u32_mod _)))⟩) ?_
      refine r_take 21 (.int .u32 ((y1048 + y1026) % 4294967296)) (RB.pre _ _) rfl (by kernel_rfl) (fun _ _ _ h => hQ.panic _ _ _ _ _ h) (.inl ⟨rfl, fun wq hq => (x_add2 (k := .u32) (a := y1048) (b := y1026) ((y1048 + y1026) % 4294967296) (by kernel_rfl) (by kernel_rfl) (wrap_u32_mod _))⟩) ?_
      refine r_take 25 (.int .u32 ((((y1048 + y1026) % 4294967296) + (lget k s842)) % 4294967296)) (RB.pre _ _) rfl (by kernel_rfl) (fun _ _ _ h => hQ.panic _ _ _ _ _ h) (.inl ⟨rfl, fun wq hq => (x_add2 (k := .u32) (a := (y1048 + y1026) % 4294967296) (b := lget k s842) ((((y1048 + y1026) % 4294967296) + (lget k s842)) % 4294967296) (by kernel_rfl) (by kernel_rfl) (wrap_u32_mod _))⟩) ?_
      obtain ⟨y1050, qy1050⟩ : ∃ y, y = ((((((y1048 + y1026) % 4294967296) + (lget k s842)) % 4294967296) + (lget f341 s842)) % 4294967296) := ⟨_, rfl⟩
      replace hp := hp y1050 qy1050
      have r1051 : inR .u32 y1050 := by rw [qy1050]; exact (inR_u32_mod _)
      refine r_take 29 (.int .u32 y1050) (RB.pre _ _) rfl (by kernel_rfl) (fun _ _ _ h => hQ.panic _ _ _ _ _ h) (.inl ⟨rfl, fun wq hq => (by rw [qy1050]; exact (x_add2 (k := .u32) (a := (((y1048 + y1026) % 4294967296) + (lget k s842)) % 4294967296) (b := lget f341 s842) ((((((y1048 + y1026) % 4294967296) + (lget k s842)) % 4294967296) + (lget f341 s842)) % 4294967296) (by kernel_rfl) (by kernel_rfl) (wrap_u32_mod _)))⟩) ?_
      refine r_ready [30] (by kernel_rfl) rfl (all_cons ⟨_, _, _, _, _, _, rfl, ?_⟩ all_nil)
      refine o_pv (.int .u32 y1050) rfl (by kernel_rfl) ?_
      refine ⟨fun h => absurd h (by decide), ?_⟩
      refine r_done (by kernel_rfl) ?_
      refine then_normal (K1011 _ _ _ _ ?_)
      refine seq_ (fun _ K1052 => ?_)
      have E1053 := (Evo.then0 (Evo.then0 (Evo.then0 E1018 e1032) e1038) e1044)
      have hXo1054 := (Old.step (Old.step (Old.step hXo1019 s1033) s1039) s1045)
      have hS1055 := (Sub.trans (Sub.trans (Sub.trans hS1020 (Step.up s1033)) (Step.up s1039)) (Step.up s1045))
      have k1056 := (OB.step0 (OB.step0 (OB.step0 k1021 s1033) s1039) s1045)
      have k1057 := (OB.step0 (OB.step0 (OB.step0 k1022 s1033) s1039) s1045)
      have k1058 := (OB.step0 (OB.step0 (OB.step0 k1023 s1033) s1039) s1045)
      have k1059 := (OB.step0 (OB.step0 (OB.step0 k1024 s1033) s1039) s1045)
      have k1060 := (OB.step0 (OB.step0 (OB.step0 k1025 s1033) s1039) s1045)
      refine reg_drawn (RB w1043.heap.size []) 24 (by kernel_rfl) (fun w1061 hd1062 => ?_)
      have e1063 := Evo.of_drew hd1062
      have z1064 : w1061.heap.size = w1043.heap.size := by rw [hd1062]
      clear hd1062
      have s1066 := Step.of0 X975 e1063
      have er1065 := RB.refl w1043.heap.size [] w1061
      have E1067 := (Evo.then0 E1053 (Step.evo s1066))
      have hXo1068 := (Old.step hXo1054 s1066)
      have hS1069 := (Sub.trans hS1055 (Step.up s1066))
      have k1070 := (OB.step0 k1056 s1066)
      have k1071 := (OB.step0 k1057 s1066)
      have k1072 := (OB.step0 k1058 s1066)
      have k1073 := (OB.step0 k1059 s1066)
      have k1074 := (OB.step0 k1060 s1066)
      refine r_take 0 (.int .u32 (lget f844 (0 : Int))) (RB.pre _ _) rfl (by kernel_rfl) (fun _ _ _ h => hQ.panic _ _ _ _ _ h) (.inl ⟨rfl, fun wq hq => (by kernel_rfl)⟩) ?_
      refine r_take 2 (.int .u32 (lget f844 (0 : Int))) (RB.pre _ _) rfl (by kernel_rfl) (fun _ _ _ h => hQ.panic _ _ _ _ _ h) (.inl ⟨rfl, fun wq hq => (by kernel_rfl)⟩) ?_
      refine r_take 5 (.int .u32 (lget f844 (0 : Int))) (RB.pre _ _) rfl (by kernel_rfl) (fun _ _ _ h => hQ.panic _ _ _ _ _ h) (.inl ⟨rfl, fun wq hq => (by kernel_rfl)⟩) ?_
      refine r_take 8 (.int .u32 (lget f844 (0 : Int))) (RB.pre _ _) rfl (by kernel_rfl) (fun _ _ _ h => hQ.panic _ _ _ _ _ h) (.inl ⟨rfl, fun wq hq => (by kernel_rfl)⟩) ?_
      refine r_take 9 (.pointer (some ⟨b343, (1 : Int).toNat, none⟩)) (RB.pre _ _) rfl (by kernel_rfl) (fun _ _ _ h => hQ.panic _ _ _ _ _ h) (.inl ⟨rfl, fun wq hq => (x_ixR (k := .i64) (i := (1 : Int)) Try.underlying51 Try.sizeOf50 (by kernel_rfl) (by kernel_rfl) (by decide))⟩) ?_
      refine r_take 10 (.int .u32 (lget f844 (1 : Int))) (RB.pre _ _) rfl (by kernel_rfl) (fun _ _ _ h => hQ.panic _ _ _ _ _ h) (.inl ⟨rfl, fun wq hq => (x_load1 (by kernel_rfl) Try.isAgg50 (Blk.acell (Blk.rb k1074.2.1 (RB.trans er1065 hq) (Nat.lt_of_lt_of_eq (Blk.lt k1074.2.1) z1064) (fun h => by cases h)) kf845 (by decide)))⟩) ?_
      refine r_take 11 (.int .u32 (iand .u32 (lget f844 (0 : Int)) (lget f844 (1 : Int)))) (RB.pre _ _) rfl (by kernel_rfl) (fun _ _ _ h => hQ.panic _ _ _ _ _ h) (.inl ⟨rfl, fun wq hq => (x_and (k := .u32) (a := lget f844 (0 : Int)) (b := lget f844 (1 : Int)) (by kernel_rfl) (by kernel_rfl))⟩) ?_
      refine r_take 12 (.int .u32 (lget f844 (0 : Int))) (RB.pre _ _) rfl (by kernel_rfl) (fun _ _ _ h => hQ.panic _ _ _ _ _ h) (.inl ⟨rfl, fun wq hq => (by kernel_rfl)⟩) ?_
      refine r_take 13 (.pointer (some ⟨b343, (2 : Int).toNat, none⟩)) (RB.pre _ _) rfl (by kernel_rfl) (fun _ _ _ h => hQ.panic _ _ _ _ _ h) (.inl ⟨rfl, fun wq hq => (x_ixR (k := .i64) (i := (2 : Int)) Try.underlying51 Try.sizeOf50 (by kernel_rfl) (by kernel_rfl) (by decide))⟩) ?_
      refine r_take 14 (.int .u32 (lget f844 (2 : Int))) (RB.pre _ _) rfl (by kernel_rfl) (fun _ _ _ h => hQ.panic _ _ _ _ _ h) (.inl ⟨rfl, fun wq hq => (x_load1 (by kernel_rfl) Try.isAgg50 (Blk.acell (Blk.rb k1074.2.1 (RB.trans er1065 hq) (Nat.lt_of_lt_of_eq (Blk.lt k1074.2.1) z1064) (fun h => by cases h)) kf845 (by decide)))⟩) ?_
      refine r_take 15 (.int .u32 (iand .u32 (lget f844 (0 : Int)) (lget f844 (2 : Int)))) (RB.pre _ _) rfl (by kernel_rfl) (fun _ _ _ h => hQ.panic _ _ _ _ _ h) (.inl ⟨rfl, fun wq hq => (x_and (k := .u32) (a := lget f844 (0 : Int)) (b := lget f844 (2 : Int)) (by kernel_rfl) (by kernel_rfl))⟩) ?_
      obtain ⟨y1075, qy1075⟩ : ∃ y, y = (ixor .u32 (iand .u32 (lget f844 (0 : Int)) (lget f844 (1 : Int))) (iand .u32 (lget f844 (0 : Int)) (lget f844 (2 : Int)))) := ⟨_, rfl⟩
      replace hp := hp y1075 qy1075
      have r1076 : inR .u32 y1075 := by rw [qy1075]; exact (inR_ixor _ _ _)
      refine r_take 16 (.int .u32 y1075) (RB.pre _ _) rfl (by kernel_rfl) (fun _ _ _ h => hQ.panic _ _ _ _ _ h) (.inl ⟨rfl, fun wq hq => (by rw [qy1075]; exact (x_xor (k := .u32) (a := iand .u32 (lget f844 (0 : Int)) (lget f844 (1 : Int))) (b := iand .u32 (lget f844 (0 : Int)) (lget f844 (2 : Int))) (by kernel_rfl) (by kernel_rfl)))⟩) ?_
      refine r_take 17 (.pointer (some ⟨b343, (1 : Int).toNat, none⟩)) (RB.pre _ _) rfl (by kernel_rfl) (fun _ _ _ h => hQ.panic _ _ _ _ _ h) (.inl ⟨rfl, fun wq hq => (x_ixR (k := .i64) (i := (1 : Int)) Try.underlying51 Try.sizeOf50 (by kernel_rfl) (by kernel_rfl) (by decide))⟩) ?_
      refine r_take 18 (.int .u32 (lget f844 (1 : Int))) (RB.pre _ _) rfl (by kernel_rfl) (fun _ _ _ h => hQ.panic _ _ _ _ _ h) (.inl ⟨rfl, fun wq hq => (x_load1 (by kernel_rfl) Try.isAgg50 (Blk.acell (Blk.rb k1074.2.1 (RB.trans er1065 hq) (Nat.lt_of_lt_of_eq (Blk.lt k1074.2.1) z1064) (fun h => by cases h)) kf845 (by decide)))⟩) ?_
      refine r_take 19 (.pointer (some ⟨b343, (2 : Int).toNat, none⟩)) (RB.pre _ _) rfl (by kernel_rfl) (fun _ _ _ h => hQ.panic _ _ _ _ _ h) (.inl ⟨rfl, fun wq hq => (x_ixR (k := .i64) (i := (2 : Int)) Try.underlying51 Try.sizeOf50 (by kernel_rfl) (by kernel_rfl) (by decide))⟩) ?_
      refine r_take 20 (.int .u32 (lget f844 (2 : Int))) (RB.pre _ _) rfl (by kernel_rfl) (fun _ _ _ h => hQ.panic _ _ _ _ _ h) (.inl ⟨rfl, fun wq hq => (x_load1 (by kernel_rfl) Try.isAgg50 (Blk.acell (Blk.rb k1074.2.1 (RB.trans er1065 hq) (Nat.lt_of_lt_of_eq (Blk.lt k1074.2.1) z1064) (fun h => by cases h)) kf845 (by decide)))⟩) ?_
      refine r_take 21 (.int .u32 (iand .u32 (lget f844 (1 : Int)) (lget f844 (2 : Int)))) (RB.pre _ _) rfl (by kernel_rfl) (fun _ _ _ h => hQ.panic _ _ _ _ _ h) (.inl ⟨rfl, fun wq hq => (x_and (k := .u32) (a := lget f844 (1 : Int)) (b := lget f844 (2 : Int)) (by kernel_rfl) (by kernel_rfl))⟩) ?_
      obtain ⟨y1077, qy1077⟩ : ∃ y, y = (ixor .u32 y1075 (iand .u32 (lget f844 (1 : Int)) (lget f844 (2 : Int)))) := ⟨_, rfl⟩
      replace hp := hp y1077 qy1077
      have r1078 : inR .u32 y1077 := by rw [qy1077]; exact (inR_ixor _ _ _)
      refine r_take 22 (.int .u32 y1077) (RB.pre _ _) rfl (by kernel_rfl) (fun _ _ _ h => hQ.panic _ _ _ _ _ h) (.inl ⟨rfl, fun wq hq => (by rw [qy1077]; exact (x_xor (k := .u32) (a := y1075) (b := iand .u32 (lget f844 (1 : Int)) (lget f844 (2 : Int))) (by kernel_rfl) (by kernel_rfl)))⟩) ?_
      refine r_ready [1] (by kernel_rfl) rfl (all_cons ⟨_, _, _, _, _, _, rfl, ?_⟩ all_nil)
      refine o_call 38 #[(.int .u32 (lget f844 (0 : Int))), (.int .i64 (2 : Int))] rfl (x_call Try.call38 (by kernel_rfl)) (sha_right_w (X := []) (w_ := lget f844 (0 : Int)) (n_ := (2 : Int)) (Old.nil _) (okArr_get kf845 (by decide)) (by decide) hp) ?_
      rintro _ w1080 ⟨r1079, hp, e1081, rfl, rr1083⟩
      have rm := RB.mono (F' := []) e1081 (Nat.le_trans (Nat.le_of_eq z1064.symm) (RB.size er1065)) (fun _ h => by cases h)
      have er1084 := RB.trans er1065 rm
      refine ⟨fun _ => rm, ?_⟩
      have s1082 := Step.of0 X975 e1081
      replace hp := hp rr1083
      refine r_ready [3] (by kernel_rfl) rfl (all_cons ⟨_, _, _, _, _, _, rfl, ?_⟩ all_nil)
      refine o_call 38 #[(.int .u32 (lget f844 (0 : Int))), (.int .i64 (13 : Int))] rfl (x_call Try.call38 (by kernel_rfl)) (sha_right_w (X := []) (w_ := lget f844 (0 : Int)) (n_ := (13 : Int)) (Old.nil _) (okArr_get kf845 (by decide)) (by decide) hp) ?_
      rintro _ w1086 ⟨r1085, hp, e1087, rfl, rr1089⟩
      have rm := RB.mono (F' := []) e1087 (Nat.le_trans (Nat.le_of_eq z1064.symm) (RB.size er1084)) (fun _ h => by cases h)
      have er1090 := RB.trans er1084 rm
      refine ⟨fun _ => rm, ?_⟩
      have s1088 := Step.of0 X975 e1087
      replace hp := hp rr1089
      refine r_take 4 (.int .u32 (ixor .u32 r1079 r1085)) (RB.pre _ _) rfl (by kernel_rfl) (fun _ _ _ h => hQ.panic _ _ _ _ _ h) (.inl ⟨rfl, fun wq hq => (x_xor (k := .u32) (a := r1079) (b := r1085) (by kernel_rfl) (by kernel_rfl))⟩) ?_
      refine r_ready [6] (by kernel_rfl) rfl (all_cons ⟨_, _, _, _, _, _, rfl, ?_⟩ all_nil)
      refine o_call 38 #[(.int .u32 (lget f844 (0 : Int))), (.int .i64 (22 : Int))] rfl (x_call Try.call38 (by kernel_rfl)) (sha_right_w (X := []) (w_ := lget f844 (0 : Int)) (n_ := (22 : Int)) (Old.nil _) (okArr_get kf845 (by decide)) (by decide) hp) ?_
      rintro _ w1092 ⟨r1091, hp, e1093, rfl, rr1095⟩
      have rm := RB.mono (F' := []) e1093 (Nat.le_trans (Nat.le_of_eq z1064.symm) (RB.size er1090)) (fun _ h => by cases h)
      have er1096 := RB.trans er1090 rm
      refine ⟨fun _ => rm, ?_⟩
      have s1094 := Step.of0 X975 e1093
      replace hp := hp rr1095
      refine r_take 7 (.int .u32 (ixor .u32 (ixor .u32 r1079 r1085) r1091)) (RB.pre _ _) rfl (by kernel_rfl) (fun _ _ _ h => hQ.panic _ _ _ _ _ h) (.inl ⟨rfl, fun wq hq => (x_xor (k := .u32) (a := ixor .u32 r1079 r1085) (b := r1091) (by kernel_rfl) (by kernel_rfl))⟩) ?_
      refine r_take 23 (.int .u32 (((ixor .u32 (ixor .u32 r1079 r1085) r1091) + y1077) % 4294967296)) (RB.pre _ _) rfl (by kernel_rfl) (fun _ _ _ h => hQ.panic _ _ _ _ _ h) (.inl ⟨rfl, fun wq hq => (x_add2 (k := .u32) (a := ixor .u32 (ixor .u32 r1079 r1085) r1091) (b := y1077) (((ixor .u32 (ixor .u32 r1079 r1085) r1091) + y1077) % 4294967296) (by kernel_rfl) (by kernel_rfl) (wrap_u32_mod _))⟩) ?_
      refine r_ready [24] (by kernel_rfl) rfl (all_cons ⟨_, _, _, _, _, _, rfl, ?_⟩ all_nil)
      refine o_pv (.int .u32 (((ixor .u32 (ixor .u32 r1079 r1085) r1091) + y1077) % 4294967296)) rfl (by kernel_rfl) ?_
      refine ⟨fun h => absurd h (by decide), ?_⟩
      refine r_done (by kernel_rfl) ?_
      refine then_normal (K1052 _ _ _ _ ?_)
      refine reg_ ?_
      refine sq (o_pv (.int .u32 y1050) rfl (by kernel_rfl) ?_)
      refine sq (o_pv (.int .u32 (((ixor .u32 (ixor .u32 r1079 r1085) r1091) + y1077) % 4294967296)) rfl (by kernel_rfl) ?_)
      obtain ⟨y1097, qy1097⟩ : ∃ y, y = ((y1050 + (((ixor .u32 (ixor .u32 r1079 r1085) r1091) + y1077) % 4294967296)) % 4294967296) := ⟨_, rfl⟩
      replace hp := hp y1097 qy1097
      have r1098 : inR .u32 y1097 := by rw [qy1097]; exact (inR_u32_mod _)
      refine sq (o_pv (.int .u32 y1097) rfl (by rw [qy1097]; exact (x_add2 (k := .u32) (a := y1050) (b := ((ixor .u32 (ixor .u32 r1079 r1085) r1091) + y1077) % 4294967296) ((y1050 + (((ixor .u32 (ixor .u32 r1079 r1085) r1091) + y1077) % 4294967296)) % 4294967296) (by kernel_rfl) (by kernel_rfl) (wrap_u32_mod _))) ?_)
      refine sq (o_pv (.pointer (some ⟨b343, (0 : Int).toNat, none⟩)) rfl (x_ixR (k := .i64) (i := (0 : Int)) Try.underlying51 Try.sizeOf50 (by kernel_rfl) (by kernel_rfl) (by decide)) ?_)
      have k1099 := (OB.step0 (OB.step0 (OB.step0 k1074 s1082) s1088) s1094)
      refine sq (o_pv (.int .u32 (lget f844 (0 : Int))) rfl (x_load1 (by kernel_rfl) Try.isAgg50 (Blk.acell k1099.2.1 kf845 (by decide))) ?_)
      refine sq (o_pv (.pointer (some ⟨b343, (1 : Int).toNat, none⟩)) rfl (x_ixR (k := .i64) (i := (1 : Int)) Try.underlying51 Try.sizeOf50 (by kernel_rfl) (by kernel_rfl) (by decide)) ?_)
      refine sq (o_pv (.int .u32 (lget f844 (1 : Int))) rfl (x_load1 (by kernel_rfl) Try.isAgg50 (Blk.acell k1099.2.1 kf845 (by decide))) ?_)
      refine sq (o_pv (.pointer (some ⟨b343, (2 : Int).toNat, none⟩)) rfl (x_ixR (k := .i64) (i := (2 : Int)) Try.underlying51 Try.sizeOf50 (by kernel_rfl) (by kernel_rfl) (by decide)) ?_)
      refine sq (o_pv (.int .u32 (lget f844 (2 : Int))) rfl (x_load1 (by kernel_rfl) Try.isAgg50 (Blk.acell k1099.2.1 kf845 (by decide))) ?_)
      refine sq (o_pv (.pointer (some ⟨b343, (3 : Int).toNat, none⟩)) rfl (x_ixR (k := .i64) (i := (3 : Int)) Try.underlying51 Try.sizeOf50 (by kernel_rfl) (by kernel_rfl) (by decide)) ?_)
      refine sq (o_pv (.int .u32 (lget f844 (3 : Int))) rfl (x_load1 (by kernel_rfl) Try.isAgg50 (Blk.acell k1099.2.1 kf845 (by decide))) ?_)
      refine sq (o_pv (.int .u32 y1050) rfl (by kernel_rfl) ?_)
      refine sq (o_pv (.int .u32 (((lget f844 (3 : Int)) + y1050) % 4294967296)) rfl (x_add2 (k := .u32) (a := lget f844 (3 : Int)) (b := y1050) (((lget f844 (3 : Int)) + y1050) % 4294967296) (by kernel_rfl) (by kernel_rfl) (wrap_u32_mod _)) ?_)
      refine sq (o_pv (.pointer (some ⟨b343, (4 : Int).toNat, none⟩)) rfl (x_ixR (k := .i64) (i := (4 : Int)) Try.underlying51 Try.sizeOf50 (by kernel_rfl) (by kernel_rfl) (by decide)) ?_)
      refine sq (o_pv (.int .u32 (lget f844 (4 : Int))) rfl (x_load1 (by kernel_rfl) Try.isAgg50 (Blk.acell k1099.2.1 kf845 (by decide))) ?_)
      refine sq (o_pv (.pointer (some ⟨b343, (5 : Int).toNat, none⟩)) rfl (x_ixR (k := .i64) (i := (5 : Int)) Try.underlying51 Try.sizeOf50 (by kernel_rfl) (by kernel_rfl) (by decide)) ?_)
      refine sq (o_pv (.int .u32 (lget f844 (5 : Int))) rfl (x_load1 (by kernel_rfl) Try.isAgg50 (Blk.acell k1099.2.1 kf845 (by decide))) ?_)
      refine sq (o_pv (.pointer (some ⟨b343, (6 : Int).toNat, none⟩)) rfl (x_ixR (k := .i64) (i := (6 : Int)) Try.underlying51 Try.sizeOf50 (by kernel_rfl) (by kernel_rfl) (by decide)) ?_)
      refine sq (o_pv (.int .u32 (lget f844 (6 : Int))) rfl (x_load1 (by kernel_rfl) Try.isAgg50 (Blk.acell k1099.2.1 kf845 (by decide))) ?_)
      refine sq (o_pv (.agg (([y1097, lget f844 (0 : Int), lget f844 (1 : Int), lget f844 (2 : Int), ((lget f844 (3 : Int)) + y1050) % 4294967296, lget f844 (4 : Int), lget f844 (5 : Int), lget f844 (6 : Int)] : List Int).map (Value.int .u32)).toArray) rfl (by kernel_rfl) ?_)
      have k1100 := (OB.step0 (OB.step0 (OB.step0 k1070 s1082) s1088) s1094)
      have k1101 := (OB.step0 (OB.step0 (OB.step0 k1071 s1082) s1088) s1094)
      have k1102 := (OB.step0 (OB.step0 (OB.step0 k1072 s1082) s1088) s1094)
      have k1103 := (OB.step0 (OB.step0 (OB.step0 k1073 s1082) s1088) s1094)
      have E1104 := (Evo.then0 (Evo.then0 (Evo.then0 E1067 e1081) e1087) e1093)
      refine sq (o_stW (k := .u32) (e := f844) (e' := ([y1097, lget f844 (0 : Int), lget f844 (1 : Int), lget f844 (2 : Int), ((lget f844 (3 : Int)) + y1050) % 4294967296, lget f844 (4 : Int), lget f844 (5 : Int), lget f844 (6 : Int)] : List Int)) rfl k1099 (by kernel_rfl) (by kernel_rfl) Try.sizeOf51 kf845 (okArr_cons r1098 (okArr_cons (okArr_get kf845 (by decide)) (okArr_cons (okArr_get kf845 (by decide)) (okArr_cons (okArr_get kf845 (by decide)) (okArr_cons (inR_u32_mod _) (okArr_cons (okArr_get kf845 (by decide)) (okArr_cons (okArr_get kf845 (by decide)) (okArr_cons (okArr_get kf845 (by decide)) (okArr_nil _))))))))) ?_)
      intro w1105 s1106 k1107
      obtain ⟨l1108, ql1108⟩ : ∃ y, y = ([y1097, lget f844 (0 : Int), lget f844 (1 : Int), lget f844 (2 : Int), ((lget f844 (3 : Int)) + y1050) % 4294967296, lget f844 (4 : Int), lget f844 (5 : Int), lget f844 (6 : Int)] : List Int) := ⟨_, rfl⟩
      replace hp := hp l1108 ql1108
      rw [← ql1108] at k1107
      have ok1109 : okArr .u32 8 l1108 := by rw [ql1108]; exact (okArr_cons r1098 (okArr_cons (okArr_get kf845 (by decide)) (okArr_cons (okArr_get kf845 (by decide)) (okArr_cons (okArr_get kf845 (by decide)) (okArr_cons (inR_u32_mod _) (okArr_cons (okArr_get kf845 (by decide)) (okArr_cons (okArr_get kf845 (by decide)) (okArr_cons (okArr_get kf845 (by decide)) (okArr_nil _)))))))))
      refine nil_ ?_
      refine blk_normal ?_
      refine then_normal (K994 _ _ _ _ ?_)
      refine reg_ ?_
      obtain ⟨h1110, hp⟩ := hp
      refine sq (o_pv (.int .i64 (s842 + (1 : Int))) rfl (x_add2 (k := .i64) (a := s842) (b := (1 : Int)) (s842 + (1 : Int)) (by kernel_rfl) (by kernel_rfl) (wrap_inR h1110)) ?_)
      refine sq (o_pv (.int .i64 (s842 + (1 : Int))) rfl (by kernel_rfl) ?_)
      refine nil_ ?_
      have E1111 := (Evo.thenW E1104 (Step.evo s1106) k1099.2.2)
      have hXo1112 := (Old.step (Old.step (Old.step (Old.step hXo1068 s1082) s1088) s1094) s1106)
      have hS1113 := (Sub.trans (Sub.trans (Sub.trans (Sub.trans hS1069 (Step.up s1082)) (Step.up s1088)) (Step.up s1094)) (Step.up s1106))
      have k1114 := (OB.step k1100 s1106 p365)
      have k1115 := (OB.step k1101 s1106 p367)
      have k1116 := (OB.step k1102 s1106 p369)
      have k1117 := (OB.step k1103 s1106 p990)
      refine then_normal (hA979 _ _ _ ⟨_, [(18, (.int .i64 (s842 + (1 : Int))))], hp.2, fit_mk (AgB.mix _ _ _) (by kernel_rfl) (vs_cons (by kernel_rfl) vs_nil), ?_⟩)
      exact ⟨X975, (s842 + (1 : Int)), l1108, rfl, rfl, E1111, hXo1112, hS1113, k1114, k1115, k1116, k1117, k1107, p987, p988, p989, p990, h1110, ok1109, hp.1⟩
    ·
      replace hp := hp.2 h993
      refine wp_exit ?_
      refine then_exit ?_
      refine then_exit ?_
      refine blk_exit ?_
      refine then_normal (K715 _ _ _ _ ?_)
      refine seq_ (fun _ K1118 => ?_)
      refine seq_ (fun _ K1119 => ?_)
      refine reg_ ?_
      refine sq (o_pv (.int .i64 (0 : Int)) rfl (by kernel_rfl) ?_)
      refine nil_ ?_
      refine then_normal (K1119 _ _ _ _ ?_)
      refine wp_block ?_
      obtain ⟨I1189, m1190, hI1191, hp⟩ := hp
      refine loop_ 5191029207934599399128999626031104 (fun kq lq w1193 => ∃ (X1194 : List Nat) (s1153 : Int) (f1155 : (List Int)), (lq = [(100, (.int .i64 s1153))]) ∧ (kq = m1190 s1153 f1155) ∧ (Evo [] w w1193) ∧ (Old X1194 w1193) ∧ (Sub X X1194) ∧ (OB ([]) w.heap.size X1194 w1193 b21 ((List.replicate 8 (0 : Int)).map (Value.int .u32)) 51) ∧ (OB ([]) w.heap.size X1194 w1193 b343 (f844.map (Value.int .u32)) 51) ∧ (OB ([]) w.heap.size X1194 w1193 b7 (f1155.map (Value.int .u32)) 51) ∧ (inR .i64 s1153) ∧ (okArr .u32 8 f1155) ∧ (I1189 s1153 f1155)) (m1190 (0 : Int) h) [(100, (.int .i64 (0 : Int)))] (vs_cons (by kernel_rfl) vs_nil) ⟨X975, (0 : Int), h, rfl, rfl, E980, hXo981, hS982, k985, k846, k983, (by decide), kh1, hI1191⟩ ?_
      rintro _ _ w1193 g1196 ⟨X1194, s1153, f1155, rfl, rfl, E1199, hXo1200, hS1201, k1202, k1203, k1157, rs1154, kf1156, hI1192⟩ Kl1197 hA1198
      replace hp := hp s1153 f1155 hI1192 rs1154 kf1156
      refine seq_ (fun _ K1204 => ?_)
      refine reg_ ?_
      refine sq (o_pv (.bool (decide (s1153 < (8 : Int)))) rfl (by kernel_rfl) ?_)
      refine nil_ ?_
      refine then_normal (K1204 _ _ _ _ ?_)
      refine seq_ (fun _ K1205 => ?_)
      refine cond_d (s1153 < (8 : Int)) (by kernel_rfl) (fun h1206 => ?_) (fun h1206 => ?_)
      ·
        replace hp := hp.1 h1206
        refine wp_skip ?_
        refine then_normal (K1205 _ _ _ _ ?_)
        refine seq_ (fun _ K1207 => ?_)
        refine wp_block ?_
        refine seq_ (fun _ K1208 => ?_)
        refine reg_ ?_
        refine sq (o_pv (.int .i64 s1153) rfl (by kernel_rfl) ?_)
        refine sq (o_pv (.int .i64 s1153) rfl (by kernel_rfl) ?_)
        refine nil_ ?_
        refine then_normal (K1208 _ _ _ _ ?_)
        refine reg_drawn (RB w1193.heap.size []) 8 (by kernel_rfl) (fun w1209 hd1210 => ?_)
        have e1211 := Evo.of_drew hd1210
        have z1212 : w1209.heap.size = w1193.heap.size := by rw [hd1210]
        clear hd1210
        have s1214 := Step.of0 X1194 e1211
        have er1213 := RB.refl w1193.heap.size [] w1209
        have E1215 := (Evo.then0 E1199 (Step.evo s1214))
        have hXo1216 := (Old.step hXo1200 s1214)
        have hS1217 := (Sub.trans hS1201 (Step.up s1214))
        have k1218 := (OB.step0 k1202 s1214)
        have k1219 := (OB.step0 k1203 s1214)
        have k1220 := (OB.step0 k1157 s1214)
        refine r_take 0 (.int .i64 s1153) (RB.pre _ _) rfl (by kernel_rfl) (fun _ _ _ h => hQ.panic _ _ _ _ _ h) (.inl ⟨rfl, fun wq hq => (by kernel_rfl)⟩) ?_
        obtain ⟨h1221, hp⟩ := hp
        refine r_take 1 (.pointer (some ⟨b7, s1153.toNat, none⟩)) (RB.pre _ _) rfl (by kernel_rfl) (fun _ _ _ h => hQ.panic _ _ _ _ _ h) (.inl ⟨rfl, fun wq hq => (x_ixR (k := .i64) (i := s1153) Try.underlying51 Try.sizeOf50 (by kernel_rfl) (by kernel_rfl) h1221)⟩) ?_
        refine r_take 2 (.int .u32 (lget f1155 s1153)) (RB.pre _ _) rfl (by kernel_rfl) (fun _ _ _ h => hQ.panic _ _ _ _ _ h) (.inl ⟨rfl, fun wq hq => (x_load1 (by kernel_rfl) Try.isAgg50 (Blk.acell (Blk.rb k1220.2.1 (RB.trans er1213 hq) (Nat.lt_of_lt_of_eq (Blk.lt k1220.2.1) z1212) (fun h => by cases h)) kf1156 h1221))⟩) ?_
        refine r_take 3 (.int .i64 s1153) (RB.pre _ _) rfl (by kernel_rfl) (fun _ _ _ h => hQ.panic _ _ _ _ _ h) (.inl ⟨rfl, fun wq hq => (by kernel_rfl)⟩) ?_
        obtain ⟨h1222, hp⟩ := hp
        refine r_take 4 (.pointer (some ⟨b343, s1153.toNat, none⟩)) (RB.pre _ _) rfl (by kernel_rfl) (fun _ _ _ h => hQ.panic _ _ _ _ _ h) (.inl ⟨rfl, fun wq hq => (x_ixR (k := .i64) (i := s1153) Try.underlying51 Try.sizeOf50 (by kernel_rfl) (by kernel_rfl) h1222)⟩) ?_
        refine r_take 5 (.int .u32 (lget f844 s1153)) (RB.pre _ _) rfl (by kernel_rfl) (fun _ _ _ h => hQ.panic _ _ _ _ _ h) (.inl ⟨rfl, fun wq hq => (x_load1 (by kernel_rfl) Try.isAgg50 (Blk.acell (Blk.rb k1219.2.1 (RB.trans er1213 hq) (Nat.lt_of_lt_of_eq (Blk.lt k1219.2.1) z1212) (fun h => by cases h)) kf845 h1222))⟩) ?_
        refine r_take 6 (.int .u32 (((lget f1155 s1153) + (lget f844 s1153)) % 4294967296)) (RB.pre _ _) rfl (by kernel_rfl) (fun _ _ _ h => hQ.panic _ _ _ _ _ h) (.inl ⟨rfl, fun wq hq => (x_add2 (k := .u32) (a := lget f1155 s1153) (b := lget f844 s1153) (((lget f1155 s1153) + (lget f844 s1153)) % 4294967296) (by kernel_rfl) (by kernel_rfl) (wrap_u32_mod _))⟩) ?_
        obtain ⟨h1223, hp⟩ := hp
        refine r_take 7 (.pointer (some ⟨b7, s1153.toNat, none⟩)) (RB.pre _ _) rfl (by kernel_rfl) (fun _ _ _ h => hQ.panic _ _ _ _ _ h) (.inl ⟨rfl, fun wq hq => (x_ixR (k := .i64) (i := s1153) Try.underlying51 Try.sizeOf50 (by kernel_rfl) (by kernel_rfl) h1223)⟩) ?_
        refine r_ready [8] (by kernel_rfl) rfl (all_cons ⟨_, _, _, _, _, _, rfl, ?_⟩ all_nil)
        refine o_stA (k := .u32) (i := s1153) (v := ((lget f1155 s1153) + (lget f844 s1153)) % 4294967296) (e := f1155) rfl k1220 (by kernel_rfl) (by kernel_rfl) Try.sizeOf50 kf1156 h1223 ?_
        intro w1224 s1225 k1226
        refine ⟨fun h => absurd h (by decide), ?_⟩
        obtain ⟨l1227, ql1227⟩ : ∃ y, y = (lset f1155 s1153 (((lget f1155 s1153) + (lget f844 s1153)) % 4294967296)) := ⟨_, rfl⟩
        replace hp := hp l1227 ql1227
        rw [← ql1227] at k1226
        have ok1228 : okArr .u32 8 l1227 := by rw [ql1227]; exact (okArr_set kf1156 (inR_u32_mod _))
        refine r_done (by kernel_rfl) ?_
        refine blk_normal ?_
        refine then_normal (K1207 _ _ _ _ ?_)
        refine reg_ ?_
        obtain ⟨h1229, hp⟩ := hp
        refine sq (o_pv (.int .i64 (s1153 + (1 : Int))) rfl (x_add2 (k := .i64) (a := s1153) (b := (1 : Int)) (s1153 + (1 : Int)) (by kernel_rfl) (by kernel_rfl) (wrap_inR h1229)) ?_)
        refine sq (o_pv (.int .i64 (s1153 + (1 : Int))) rfl (by kernel_rfl) ?_)
        refine nil_ ?_
        have E1230 := (Evo.thenW E1215 (Step.evo s1225) k1220.2.2)
        have hXo1231 := (Old.step hXo1216 s1225)
        have hS1232 := (Sub.trans hS1217 (Step.up s1225))
        have k1233 := (OB.step k1218 s1225 (Ap.symm p29))
        have k1234 := (OB.step k1219 s1225 (Ap.symm p365))
        refine then_normal (hA1198 _ _ _ ⟨_, [(100, (.int .i64 (s1153 + (1 : Int))))], hp.2, fit_mk (AgB.mix _ _ _) (by kernel_rfl) (vs_cons (by kernel_rfl) vs_nil), ?_⟩)
        exact ⟨X1194, (s1153 + (1 : Int)), l1227, rfl, rfl, E1230, hXo1231, hS1232, k1233, k1234, k1226, h1229, ok1228, hp.1⟩
      ·
        replace hp := hp.2 h1206
        refine wp_exit ?_
        refine then_exit ?_
        refine then_exit ?_
        refine blk_exit ?_
        refine then_normal (K1118 _ _ _ _ ?_)
        refine seq_ (fun _ K1235 => ?_)
        refine reg_ ?_
        refine sq (o_pv (.agg (f1155.map (Value.int .u32)).toArray) rfl (x_loadA f1155 (by kernel_rfl) Try.isAgg51 Try.sizeOf51 kf1156 (Blk.awhole k1157.2.1)) ?_)
        refine sq (o_stW (k := .u32) (e := (List.replicate 8 (0 : Int))) (e' := f1155) rfl k1202 (by kernel_rfl) (by kernel_rfl) Try.sizeOf51 (okArr_rep _ _) kf1156 ?_)
        intro w1236 s1237 k1238
        refine nil_ ?_
        refine then_normal (K1235 _ _ _ _ ?_)
        refine wp_ret ?_
        have E1239 := (Evo.thenW E1199 (Step.evo s1237) k1202.2.2)
        refine end_ret hQ (.agg (f1155.map (Value.int .u32)).toArray) (rs_single Try.results24 (rs_aggA (e := f1155) (by kernel_rfl) Try.isAgg51 Try.sizeOf51 kf1156 k1238.2.1)) ?_
        exact ⟨f1155, hp, E1239, rfl, kf1156⟩

end Go.Proofs.Ytjejeipdndddpaa
