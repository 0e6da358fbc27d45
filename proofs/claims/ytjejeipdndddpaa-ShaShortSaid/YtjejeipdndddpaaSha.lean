/- Sums of bytes (SHA-256), plainly: words, rounds, blocks. No program stands here. -/
import Derived.Test.YtjejeipdndddpaaFull
namespace Go.Proofs.Ytjejeipdndddpaa
open Go
theorem iand_u32 {x y : Nat} (hx : x < 4294967296) (hy : y < 4294967296) : iand .u32 x y = ((x &&& y : Nat) : Int) := by
  unfold iand
  rw [show IntKind.u32.bits = 32 from rfl, BitVec.toNat_and, ofInt_nat 32 x (by simpa using hx), ofInt_nat 32 y (by simpa using hy), wrap_u32_mod]
  have := Nat.and_le_left (n := x) (m := y); omega
theorem ior_u32 {x y : Nat} (hx : x < 4294967296) (hy : y < 4294967296) : ior .u32 x y = ((x ||| y : Nat) : Int) := by
  unfold ior
  rw [show IntKind.u32.bits = 32 from rfl, BitVec.toNat_or, ofInt_nat 32 x (by simpa using hx), ofInt_nat 32 y (by simpa using hy), wrap_u32_mod]
  have := Nat.or_lt_two_pow (n := 32) (x := x) (y := y) (by simpa using hx) (by simpa using hy); omega
theorem ixor_u32 {x y : Nat} (hx : x < 4294967296) (hy : y < 4294967296) : ixor .u32 x y = ((x ^^^ y : Nat) : Int) := by
  unfold ixor
  rw [show IntKind.u32.bits = 32 from rfl, BitVec.toNat_xor, ofInt_nat 32 x (by simpa using hx), ofInt_nat 32 y (by simpa using hy), wrap_u32_mod]
  have := Nat.xor_lt_two_pow (n := 32) (x := x) (y := y) (by simpa using hx) (by simpa using hy); omega
theorem and_lt32 {x y : Nat} (hx : x < 4294967296) : x &&& y < 4294967296 := Nat.lt_of_le_of_lt Nat.and_le_left hx
theorem or_lt32 {x y : Nat} (hx : x < 4294967296) (hy : y < 4294967296) : x ||| y < 4294967296 := Nat.or_lt_two_pow (n := 32) hx hy
theorem xor_lt32 {x y : Nat} (hx : x < 4294967296) (hy : y < 4294967296) : x ^^^ y < 4294967296 := Nat.xor_lt_two_pow (n := 32) hx hy
theorem inot_u32 {x : Nat} (hx : x < 4294967296) : inot .u32 x = ((4294967295 - x : Nat) : Int) := by
  unfold inot
  rw [show IntKind.u32.bits = 32 from rfl, show IntKind.u32.signed = false from rfl, if_neg (by decide), show IntKind.u32.max = ((4294967295 : Nat) : Int) from by decide, BitVec.toNat_xor, ofInt_nat 32 x (by simpa using hx), ofInt_nat 32 4294967295 (by decide), wrap_u32_mod]
  rw [Nat.xor_comm, show (4294967295 : Nat) = 2 ^ 32 - 1 from rfl, xor_ones 32 (by simpa using hx)]
  omega
theorem ishl_u32 (x y : Nat) (hy : y ≤ 32) : ishl .u32 x y = ((x * 2 ^ y % 4294967296 : Nat) : Int) := by
  unfold ishl
  rw [Int.toNat_natCast, show IntKind.u32.bits = 32 from rfl, Nat.min_eq_left hy, wrap_u32_mod, Int.natCast_emod, Int.natCast_mul, Int.natCast_pow]; rfl
theorem div_lt32 {x : Nat} (n : Nat) (hx : x < 4294967296) : x / n < 4294967296 := Nat.lt_of_le_of_lt (Nat.div_le_self _ _) hx
theorem mod_lt32 (x : Nat) : x % 4294967296 < 4294967296 := Nat.mod_lt _ (by decide)
/-- A number that is looked at first (so that the kernel has it as a number). -/
def force {α : Type} (x : Nat) (k : Nat → α) : α := match x with | 0 => k 0 | n + 1 => k (n + 1)
theorem force_eq {α : Type} (x : Nat) (k : Nat → α) : force x k = k x := by cases x <;> rfl
def rotr (x n : Nat) : Nat := (x * 2 ^ (32 - n) % 4294967296) ||| (x / 2 ^ n)
theorem rotr_lt {x : Nat} (n : Nat) (hx : x < 4294967296) : rotr x n < 4294967296 := or_lt32 (mod_lt32 _) (div_lt32 _ hx)
def ssig0 (x : Nat) : Nat := rotr x 7 ^^^ rotr x 18 ^^^ x / 8
def ssig1 (x : Nat) : Nat := rotr x 17 ^^^ rotr x 19 ^^^ x / 1024
def bsig0 (x : Nat) : Nat := rotr x 2 ^^^ rotr x 13 ^^^ rotr x 22
def bsig1 (x : Nat) : Nat := rotr x 6 ^^^ rotr x 11 ^^^ rotr x 25
def chW (e f g : Nat) : Nat := (e &&& f) ^^^ ((4294967295 - e) &&& g)
def majW (a b c : Nat) : Nat := (a &&& b) ^^^ (a &&& c) ^^^ (b &&& c)
theorem bsig0_lt {x : Nat} (h : x < 4294967296) : bsig0 x < 4294967296 := xor_lt32 (xor_lt32 (rotr_lt _ h) (rotr_lt _ h)) (rotr_lt _ h)
theorem bsig1_lt {x : Nat} (h : x < 4294967296) : bsig1 x < 4294967296 := xor_lt32 (xor_lt32 (rotr_lt _ h) (rotr_lt _ h)) (rotr_lt _ h)
/-- A word of a block, and of what is drawn out of it. -/
def word0 (x : List Int) (i : Nat) : Nat :=
  (lget x ((4 * i : Nat) : Int)).toNat * 16777216 % 4294967296 ||| (lget x ((4 * i + 1 : Nat) : Int)).toNat * 65536 % 4294967296 ||| (lget x ((4 * i + 2 : Nat) : Int)).toNat * 256 % 4294967296 ||| (lget x ((4 * i + 3 : Nat) : Int)).toNat % 4294967296
theorem word0_lt (x : List Int) (i : Nat) : word0 x i < 4294967296 := or_lt32 (or_lt32 (or_lt32 (mod_lt32 _) (mod_lt32 _)) (mod_lt32 _)) (mod_lt32 _)
def nextW (w : List Nat) : Nat := (w.getD 15 0 + ssig0 (w.getD 14 0) + w.getD 6 0 + ssig1 (w.getD 1 0)) % 4294967296
/-- the first n words, the latest first -/
def wl (x : List Int) : Nat → List Nat
  | 0 => []
  | n + 1 => force (if n < 16 then word0 x n else nextW (wl x n)) fun v => v :: wl x n
def wn (x : List Int) (j : Nat) : Nat := (wl x (j + 1)).getD 0 0
theorem wl_succ (x : List Int) (n : Nat) : wl x (n + 1) = wn x n :: wl x n := by
  unfold wn; simp only [wl, force_eq, List.getD_cons_zero]
theorem wl_get (x : List Int) : ∀ (n k : Nat), k < n → (wl x n).getD k 0 = wn x (n - 1 - k)
  | 0, k, h => absurd h (Nat.not_lt_zero _)
  | n + 1, 0, _ => by rw [wl_succ]; rfl
  | n + 1, k + 1, h => by
    rw [wl_succ, List.getD_cons_succ, wl_get x n k (by omega)]
    congr 1; omega
theorem wn_lo (x : List Int) {j : Nat} (h : j < 16) : wn x j = word0 x j := by
  unfold wn; simp only [wl, force_eq, if_pos h, List.getD_cons_zero]
theorem wn_hi (x : List Int) {j : Nat} (h : 16 ≤ j) : wn x j = (wn x (j - 16) + ssig0 (wn x (j - 15)) + wn x (j - 7) + ssig1 (wn x (j - 2))) % 4294967296 := by
  have : wn x j = nextW (wl x j) := by
    unfold wn; simp only [wl, force_eq, if_neg (show ¬ j < 16 by omega), List.getD_cons_zero]
  rw [this]; unfold nextW
  rw [wl_get x j 15 (by omega), wl_get x j 14 (by omega), wl_get x j 6 (by omega), wl_get x j 1 (by omega)]
  rw [show j - 1 - 15 = j - 16 from by omega, show j - 1 - 14 = j - 15 from by omega, show j - 1 - 6 = j - 7 from by omega, show j - 1 - 1 = j - 2 from by omega]
theorem wn_lt (x : List Int) (j : Nat) : wn x j < 4294967296 := by
  rcases Nat.lt_or_ge j 16 with h | h
  · rw [wn_lo x h]; exact word0_lt x j
  · rw [wn_hi x h]; exact mod_lt32 _
def kTab : List Nat := [1116352408, 1899447441, 3049323471, 3921009573, 961987163, 1508970993, 2453635748, 2870763221, 3624381080, 310598401, 607225278, 1426881987, 1925078388, 2162078206, 2614888103, 3248222580, 3835390401, 4022224774, 264347078, 604807628, 770255983, 1249150122, 1555081692, 1996064986, 2554220882, 2821834349, 2952996808, 3210313671, 3336571891, 3584528711, 113926993, 338241895, 666307205, 773529912, 1294757372, 1396182291, 1695183700, 1986661051, 2177026350, 2456956037, 2730485921, 2820302411, 3259730800, 3345764771, 3516065817, 3600352804, 4094571909, 275423344, 430227734, 506948616, 659060556, 883997877, 958139571, 1322822218, 1537002063, 1747873779, 1955562222, 2024104815, 2227730452, 2361852424, 2428436474, 2756734187, 3204031479, 3329325298]
def hTab : List Nat := [1779033703, 3144134277, 1013904242, 2773480762, 1359893119, 2600822924, 528734635, 1541459225]
/-- One round. -/
def rnd (k w : Nat) (s : List Nat) : List Nat := match s with
  | [a, b, c, d, e, f, g, h] => force ((h + bsig1 e + chW e f g + k + w) % 4294967296) fun t => force ((bsig0 a + majW a b c) % 4294967296) fun y => [(t + y) % 4294967296, a, b, c, (d + t) % 4294967296, e, f, g]
  | _ => s
def stR (x : List Int) (H : List Nat) : Nat → List Nat
  | 0 => H
  | n + 1 => rnd (kTab.getD n 0) (wn x n) (stR x H n)
/-- Eight words. -/
def ok8 (s : List Nat) : Prop := s.length = 8 ∧ ∀ y ∈ s, y < 4294967296
theorem ok8_cases {s : List Nat} (h : ok8 s) : ∃ a b c d e f g i, s = [a, b, c, d, e, f, g, i] ∧ a < 4294967296 ∧ b < 4294967296 ∧ c < 4294967296 ∧ d < 4294967296 ∧ e < 4294967296 ∧ f < 4294967296 ∧ g < 4294967296 ∧ i < 4294967296 := by
  obtain ⟨h1, h2⟩ := h
  match s, h1 with
  | [a, b, c, d, e, f, g, i], _ => exact ⟨a, b, c, d, e, f, g, i, rfl, h2 a (by simp), h2 b (by simp), h2 c (by simp), h2 d (by simp), h2 e (by simp), h2 f (by simp), h2 g (by simp), h2 i (by simp)⟩
theorem rnd_ok {k w : Nat} {s : List Nat} (h : ok8 s) : ok8 (rnd k w s) := by
  obtain ⟨a, b, c, d, e, f, g, i, rfl, h1, h2, h3, h4, h5, h6, h7, h8⟩ := ok8_cases h
  unfold rnd; simp only [force_eq]
  refine ⟨rfl, fun y hy => ?_⟩
  simp only [List.mem_cons, List.not_mem_nil, or_false] at hy
  rcases hy with rfl | rfl | rfl | rfl | rfl | rfl | rfl | rfl <;> first | assumption | exact mod_lt32 _
theorem stR_ok (x : List Int) {H : List Nat} (h : ok8 H) : ∀ n, ok8 (stR x H n)
  | 0 => h
  | n + 1 => rnd_ok (stR_ok x h n)
def addW (H S : List Nat) : List Nat := List.zipWith (fun a b => (a + b) % 4294967296) H S
def turnS (H : List Nat) (x : List Int) : List Nat := addW H (stR x H 64)
theorem addW_ok {H S : List Nat} (h : ok8 H) (k : ok8 S) : ok8 (addW H S) := by
  obtain ⟨a, b, c, d, e, f, g, i, rfl, _⟩ := ok8_cases h
  obtain ⟨a', b', c', d', e', f', g', i', rfl, _⟩ := ok8_cases k
  refine ⟨rfl, fun y hy => ?_⟩
  simp only [addW, List.zipWith_cons_cons, List.zipWith_nil_left, List.mem_cons, List.not_mem_nil, or_false] at hy
  rcases hy with rfl | rfl | rfl | rfl | rfl | rfl | rfl | rfl <;> exact mod_lt32 _
theorem turnS_ok {H : List Nat} (x : List Int) (h : ok8 H) : ok8 (turnS H x) := addW_ok h (stR_ok x h 64)
def hashS : Nat → List Int → List Nat → List Nat
  | 0, _, H => H
  | n + 1, x, H => hashS n (x.drop 64) (turnS H x)
/-- Bytes with what is laid behind them. -/
def zerosN (n : Nat) : Nat := (119 - n % 64) % 64
def lenB (n k : Nat) : Int := (((n * 8 % 18446744073709551616) / 2 ^ (8 * k) % 256 : Nat) : Int)
def padS (b : List Int) : List Int := b ++ [128] ++ List.replicate (zerosN b.length) 0 ++ (List.range 8).map (fun k => lenB b.length (7 - k))
theorem padS_len (b : List Int) : (padS b).length = 64 * ((padS b).length / 64) := by
  unfold padS zerosN; simp; omega
theorem padS_size (b : List Int) : (padS b).length ≤ b.length + 73 := by
  unfold padS zerosN; simp; omega
def outS (H : List Nat) : List Int := (List.range 32).map fun i => (((H.getD (i / 4) 0) / 2 ^ (24 - 8 * (i % 4)) % 256 : Nat) : Int)
def sumS (b : List Int) : List Int := outS (hashS ((padS b).length / 64) (padS b) hTab)
theorem outS_ok (H : List Nat) : okArr .u8 32 (outS H) := ⟨by simp [outS], fun x hx => by
  unfold outS at hx
  obtain ⟨i, _, rfl⟩ := List.mem_map.1 hx
  rw [inR_u8]; omega⟩
theorem sumS_ok (b : List Int) : okArr .u8 32 (sumS b) := outS_ok _
theorem sum_abc : sumS [97, 98, 99] = [186, 120, 22, 191, 143, 1, 207, 234, 65, 65, 64, 222, 93, 174, 34, 35, 176, 3, 97, 163, 150, 23, 122, 156, 180, 16, 255, 97, 242, 0, 21, 173] := by decide +kernel
/-! digits -/
def digS (id : List Int) (i : Nat) : Nat := if i % 2 = 0 then (lget id ((i / 2 : Nat) : Int)).toNat / 16 else (lget id ((i / 2 : Nat) : Int)).toNat % 16
def hexC (d : Nat) : Int := if d < 10 then ((48 + d : Nat) : Int) else ((87 + d : Nat) : Int)
theorem okArr_nat {id : List Int} (h : okArr .u8 32 id) {i : Nat} (hi : i < 32) : ∃ v : Nat, lget id (i : Int) = v ∧ v < 256 := by
  have := okArr_get h (i := (i : Int)) ⟨by omega, by omega⟩
  rw [inR_u8] at this
  exact ⟨(lget id (i : Int)).toNat, by omega, by omega⟩
theorem digS_lt {id : List Int} (h : okArr .u8 32 id) {i : Nat} (hi : i < 64) : digS id i < 16 := by
  obtain ⟨v, hv, hl⟩ := okArr_nat h (i := i / 2) (by omega)
  unfold digS; rw [hv]; split <;> simp <;> omega
def hexS (id : List Int) : ByteArray := strOfNums ((List.range 64).map fun i => hexC (digS id i))
theorem hexS_size (id : List Int) : (hexS id).size = 64 := by unfold hexS; rw [strOfNums_size]; simp
theorem bget_strOfNums (L : List Int) (h : ∀ x ∈ L, inR .u8 x) {i : Nat} (hi : i < L.length) : bget (strOfNums L) (i : Int) = lget L (i : Int) := by
  have h1 : inR .u8 (L[i]) := h _ (List.getElem_mem _)
  rw [inR_u8] at h1
  rw [lget_lt hi]
  unfold bget strOfNums
  simp only [Int.toNat_natCast, Array.getD_eq_getD_getElem?, List.getElem?_toArray, List.getElem?_map, List.getElem?_eq_getElem hi, Option.map_some, Option.getD_some]
  simp only [UInt8.toNat_ofNat']
  omega
theorem hexC_u8 (d : Nat) (h : d < 16) : inR .u8 (hexC d) := by rw [inR_u8]; unfold hexC; split <;> omega
theorem hexS_get {id : List Int} (h : okArr .u8 32 id) {i : Nat} (hi : i < 64) : bget (hexS id) (i : Int) = hexC (digS id i) := by
  unfold hexS
  rw [bget_strOfNums _ (fun x hx => ?_) (by simpa using hi), lget_lt (by simpa using hi)]
  · simp
  · obtain ⟨j, hj, rfl⟩ := List.mem_map.1 hx
    exact hexC_u8 _ (digS_lt h (List.mem_range.1 hj))
theorem hexC_inj {a b : Nat} (_ha : a < 16) (_hb : b < 16) (h : hexC a = hexC b) : a = b := by
  unfold hexC at h; split at h <;> split at h <;> omega
/-- How many digits are the same. -/
def shrF (a b : List Int) : Nat → Nat → Nat
  | 0, i => i
  | n + 1, i => if digS a i = digS b i then shrF a b n (i + 1) else i
def shrS (a b : List Int) : Nat := shrF a b 64 0
theorem shrF_le (a b : List Int) : ∀ n i, shrF a b n i ≤ n + i
  | 0, i => by simp [shrF]
  | n + 1, i => by
    unfold shrF; split
    · have := shrF_le a b n (i + 1); omega
    · omega
theorem shrF_all (a b : List Int) : ∀ n i, shrF a b n i = n + i → ∀ j, i ≤ j → j < n + i → digS a j = digS b j
  | 0, i, _, j, h1, h2 => by omega
  | n + 1, i, h, j, h1, h2 => by
    unfold shrF at h; split at h
    · rename_i hd
      rcases Nat.eq_or_lt_of_le h1 with rfl | h3
      · exact hd
      · exact shrF_all a b n (i + 1) (by omega) j h3 (by omega)
    · omega
theorem shrF_self (a : List Int) : ∀ n i, shrF a a n i = n + i
  | 0, i => by simp [shrF]
  | n + 1, i => by unfold shrF; rw [if_pos rfl, shrF_self a n (i + 1)]; omega
theorem dig_eq {a b : List Int} (ha : okArr .u8 32 a) (hb : okArr .u8 32 b) (h : ∀ j, j < 64 → digS a j = digS b j) : a = b := by
  refine List.ext_getElem (by rw [ha.1, hb.1]) fun i h1 h2 => ?_
  rw [ha.1] at h1
  obtain ⟨v, hv, hvl⟩ := okArr_nat ha h1
  obtain ⟨u, hu, hul⟩ := okArr_nat hb h1
  have e0 := h (2 * i) (by omega)
  have e1 := h (2 * i + 1) (by omega)
  unfold digS at e0 e1
  rw [if_pos (by omega), if_pos (by omega), show 2 * i / 2 = i from by omega, hv, hu] at e0
  rw [if_neg (by omega), if_neg (by omega), show (2 * i + 1) / 2 = i from by omega, hv, hu] at e1
  rw [lget_lt (by rw [ha.1]; exact h1)] at hv
  rw [lget_lt (by rw [hb.1]; exact h1)] at hu
  rw [hv, hu]; simp at e0 e1 ⊢; omega
theorem shrS_lt {a b : List Int} (ha : okArr .u8 32 a) (hb : okArr .u8 32 b) (h : a ≠ b) : shrS a b < 64 := by
  rcases Nat.lt_or_ge (shrS a b) 64 with h1 | h1
  · exact h1
  · have := shrF_le a b 64 0
    exact absurd (dig_eq ha hb fun j hj => shrF_all a b 64 0 (by unfold shrS at h1; omega) j (Nat.zero_le _) hj) h
theorem shrS_self (a : List Int) : shrS a a = 64 := shrF_self a 64 0
theorem shrS_le (a b : List Int) : shrS a b ≤ 64 := shrF_le a b 64 0
/-- How few digits tell one from all others. -/
def shortF (id : List Int) : List (List Int) → Int → Int
  | [], n => n
  | x :: l, n => shortF id l (if x = id then n else max n ((shrS x id : Nat) + 1 : Int))
def shortS (all : List (List Int)) (id : List Int) (least : Int) : Int := shortF id all (min (max least 0) 64)
end Go.Proofs.Ytjejeipdndddpaa
