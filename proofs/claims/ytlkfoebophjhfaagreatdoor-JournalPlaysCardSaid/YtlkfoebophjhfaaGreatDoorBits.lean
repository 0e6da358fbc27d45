/- Plain laws of Go's numbers by their bits. No program stands here. -/
import Derived.Test.YtlkfoebophjhfaaGreatDoorOps3
namespace Go.Proofs.YtlkfoebophjhfaaGreatDoor
open Go
theorem wrap_u8_mod (x : Int) : IntKind.u8.wrap x = x % 256 := by rw [IntKind.wrap_u8]
theorem wrap_u64_mod (x : Int) : IntKind.u64.wrap x = x % 18446744073709551616 := by rw [IntKind.wrap_u64]
theorem ofInt_nat (n x : Nat) (h : x < 2 ^ n) : (BitVec.ofInt n (x : Int)).toNat = x := by
  rw [BitVec.toNat_ofInt, Int.emod_eq_of_lt (Int.natCast_nonneg _) (by exact_mod_cast h)]; simp
theorem iand_u64 {x y : Nat} (hx : x < 18446744073709551616) (hy : y < 18446744073709551616) : iand .u64 x y = ((x &&& y : Nat) : Int) := by
  unfold iand
  rw [show IntKind.u64.bits = 64 from rfl, BitVec.toNat_and, ofInt_nat 64 x (by simpa using hx), ofInt_nat 64 y (by simpa using hy), wrap_u64_mod]
  have := Nat.and_le_left (n := x) (m := y); omega
theorem ior_u64 {x y : Nat} (hx : x < 18446744073709551616) (hy : y < 18446744073709551616) : ior .u64 x y = ((x ||| y : Nat) : Int) := by
  unfold ior
  rw [show IntKind.u64.bits = 64 from rfl, BitVec.toNat_or, ofInt_nat 64 x (by simpa using hx), ofInt_nat 64 y (by simpa using hy), wrap_u64_mod]
  have := Nat.or_lt_two_pow (n := 64) (x := x) (y := y) (by simpa using hx) (by simpa using hy); omega
theorem ixor_u64 {x y : Nat} (hx : x < 18446744073709551616) (hy : y < 18446744073709551616) : ixor .u64 x y = ((x ^^^ y : Nat) : Int) := by
  unfold ixor
  rw [show IntKind.u64.bits = 64 from rfl, BitVec.toNat_xor, ofInt_nat 64 x (by simpa using hx), ofInt_nat 64 y (by simpa using hy), wrap_u64_mod]
  have := Nat.xor_lt_two_pow (n := 64) (x := x) (y := y) (by simpa using hx) (by simpa using hy); omega
theorem iand_u8 {x y : Nat} (hx : x < 256) (hy : y < 256) : iand .u8 x y = ((x &&& y : Nat) : Int) := by
  unfold iand
  rw [show IntKind.u8.bits = 8 from rfl, BitVec.toNat_and, ofInt_nat 8 x (by simpa using hx), ofInt_nat 8 y (by simpa using hy), wrap_u8_mod]
  have := Nat.and_le_left (n := x) (m := y); omega
theorem ior_u8 {x y : Nat} (hx : x < 256) (hy : y < 256) : ior .u8 x y = ((x ||| y : Nat) : Int) := by
  unfold ior
  rw [show IntKind.u8.bits = 8 from rfl, BitVec.toNat_or, ofInt_nat 8 x (by simpa using hx), ofInt_nat 8 y (by simpa using hy), wrap_u8_mod]
  have := Nat.or_lt_two_pow (n := 8) (x := x) (y := y) (by simpa using hx) (by simpa using hy); omega
theorem ishr_nat (k : IntKind) (x y : Nat) (hy : y ≤ k.bits) : ishr k x y = ((x / 2 ^ y : Nat) : Int) := by
  unfold ishr
  rw [Int.toNat_natCast, Nat.min_eq_left hy, Int.fdiv_eq_ediv_of_nonneg _ (by exact Int.pow_nonneg (by decide))]
  rw [Int.natCast_ediv, Int.natCast_pow]; rfl
theorem ishl_u64 (x y : Nat) (hy : y ≤ 64) : ishl .u64 x y = ((x * 2 ^ y % 18446744073709551616 : Nat) : Int) := by
  unfold ishl
  rw [Int.toNat_natCast, show IntKind.u64.bits = 64 from rfl, Nat.min_eq_left hy, wrap_u64_mod, Int.natCast_emod, Int.natCast_mul, Int.natCast_pow]; rfl
theorem and127 (x : Nat) : x &&& 127 = x % 128 := Nat.and_two_pow_sub_one_eq_mod x 7
theorem and1 (x : Nat) : x &&& 1 = x % 2 := Nat.and_two_pow_sub_one_eq_mod x 1
theorem or_disj {n x y : Nat} (h : x < 2 ^ n) : x ||| (y * 2 ^ n) = x + y * 2 ^ n := by
  have := Nat.two_pow_add_eq_or_of_lt h y
  rw [Nat.mul_comm (2 ^ n) y] at this
  rw [Nat.or_comm, ← this, Nat.add_comm]
theorem xor_ones {x : Nat} (n : Nat) (h : x < 2 ^ n) : x ^^^ (2 ^ n - 1) = 2 ^ n - 1 - x := by
  apply Nat.eq_of_testBit_eq
  intro i
  rw [Nat.testBit_xor, Nat.testBit_two_pow_sub_one, show 2 ^ n - 1 - x = 2 ^ n - (x + 1) from by omega, Nat.testBit_two_pow_sub_succ h]
  by_cases hi : i < n
  · simp [hi]
  · have : x.testBit i = false := Nat.testBit_lt_two_pow (Nat.lt_of_lt_of_le h (Nat.pow_le_pow_right (by decide) (by omega)))
    simp [hi, this]
/-! numbers with signs, as numbers without -/
def zz (n : Int) : Nat := if n < 0 then 2 * (-(n + 1)).toNat + 1 else 2 * n.toNat
def uz (v : Nat) : Int := if v % 2 = 1 then -((v / 2 : Nat) : Int) - 1 else ((v / 2 : Nat) : Int)
theorem uz_zz (n : Int) : uz (zz n) = n := by
  unfold uz zz
  by_cases h : n < 0
  · rw [if_pos h, if_pos (by omega)]; omega
  · rw [if_neg h, if_neg (by omega)]; omega
theorem zz_lt {n : Int} (h : inR .i64 n) : zz n < 18446744073709551616 := by
  rw [inR_i64] at h
  unfold zz; split <;> omega
theorem enc_zz {n : Int} (h : inR .i64 n) : ixor .u64 (ishl .u64 (iwrap .u64 n) (1 : Int)) (iwrap .u64 (ishr .i64 n (63 : Int))) = ((zz n : Nat) : Int) := by
  rw [inR_i64] at h
  have h1 : iwrap .u64 n = ((n % 18446744073709551616).toNat : Int) := by unfold iwrap; rw [wrap_u64_mod]; omega
  have h2 : ishr .i64 n (63 : Int) = if n < 0 then -1 else 0 := by
    unfold ishr
    rw [show min (63 : Int).toNat IntKind.i64.bits = 63 from rfl, Int.fdiv_eq_ediv_of_nonneg _ (by decide)]
    split <;> omega
  rw [h1, show (1 : Int) = ((1 : Nat) : Int) from rfl, ishl_u64 _ 1 (by decide), h2]
  by_cases hn : n < 0
  · rw [if_pos hn, show iwrap .u64 (-1) = ((2 ^ 64 - 1 : Nat) : Int) from by decide, ixor_u64 (Nat.mod_lt _ (by decide)) (by decide), xor_ones 64 (by rw [show 2 ^ 64 = 18446744073709551616 from by decide]; exact Nat.mod_lt _ (by decide))]
    unfold zz; rw [if_pos hn]; omega
  · rw [if_neg hn, show iwrap .u64 0 = ((0 : Nat) : Int) from by decide, ixor_u64 (Nat.mod_lt _ (by decide)) (by decide), Nat.xor_zero]
    unfold zz; rw [if_neg hn]; omega
theorem ofInt_neg1 : BitVec.ofInt 64 (-1) = BitVec.allOnes 64 := by decide
theorem dec_uz {v : Nat} (h : v < 18446744073709551616) : ixor .i64 (iwrap .i64 (ishr .u64 (v : Int) (1 : Int))) (-(iwrap .i64 (iand .u64 (v : Int) (1 : Int)))) = uz v := by
  have h1 : iand .u64 (v : Int) (1 : Int) = ((v % 2 : Nat) : Int) := by rw [← and1]; exact iand_u64 h (by decide)
  have h2 : ishr .u64 (v : Int) (1 : Int) = ((v / 2 : Nat) : Int) := by
    have := ishr_nat .u64 v 1 (by decide); rw [Nat.pow_one] at this; exact this
  have h3 : iwrap .i64 ((v / 2 : Nat) : Int) = ((v / 2 : Nat) : Int) := by unfold iwrap; rw [IntKind.wrap_i64]; omega
  have h4 : iwrap .i64 ((v % 2 : Nat) : Int) = ((v % 2 : Nat) : Int) := by unfold iwrap; rw [IntKind.wrap_i64]; omega
  rw [h1, h2, h3, h4]
  unfold ixor
  rw [show IntKind.i64.bits = 64 from rfl, BitVec.toNat_xor, ofInt_nat 64 (v / 2) (by rw [show 2 ^ 64 = 18446744073709551616 from by decide]; omega)]
  unfold uz
  by_cases ho : v % 2 = 1
  · rw [if_pos ho, ho, show (-((1 : Nat) : Int)) = -1 from rfl, ofInt_neg1, BitVec.toNat_allOnes, xor_ones 64 (by rw [show 2 ^ 64 = 18446744073709551616 from by decide]; omega), IntKind.wrap_i64]
    omega
  · have : v % 2 = 0 := by omega
    rw [if_neg ho, this, show (-((0 : Nat) : Int)) = ((0 : Nat) : Int) from rfl, ofInt_nat 64 0 (by decide), Nat.xor_zero, IntKind.wrap_i64]
    omega
/-! numbers, seven bits a byte -/
def vb (u : Nat) : List Int := if h : u < 128 then [(u : Int)] else ((u % 128 + 128 : Nat) : Int) :: vb (u / 128)
termination_by u
decreasing_by omega
theorem vb_lt {u : Nat} (h : u < 128) : vb u = [(u : Int)] := by rw [vb, dif_pos h]
theorem vb_ge {u : Nat} (h : ¬ u < 128) : vb u = ((u % 128 + 128 : Nat) : Int) :: vb (u / 128) := by rw [vb, dif_neg h]
theorem vb_len_le : ∀ (n u : Nat), u < 128 ^ (n + 1) → (vb u).length ≤ n + 1
  | 0, u, h => by rw [vb_lt (by simpa using h)]; simp
  | n + 1, u, h => by
    by_cases hu : u < 128
    · rw [vb_lt hu]; simp
    · rw [vb_ge hu]
      have := vb_len_le n (u / 128) (by rw [Nat.div_lt_iff_lt_mul (by decide), ← Nat.pow_succ]; exact h)
      simp; omega
theorem vb_pos (u : Nat) : 0 < (vb u).length := by
  by_cases hu : u < 128
  · rw [vb_lt hu]; simp
  · rw [vb_ge hu]; simp
theorem vb_ten {u : Nat} (h : u < 18446744073709551616) : (vb u).length ≤ 10 := vb_len_le 9 u (Nat.lt_of_lt_of_le h (by decide))
theorem ior128 {v : Nat} (h : v < 18446744073709551616) : ior .u8 (iwrap .u8 (iand .u64 (v : Int) (127 : Int))) (128 : Int) = ((v % 128 + 128 : Nat) : Int) := by
  have h1 : iand .u64 (v : Int) (127 : Int) = ((v % 128 : Nat) : Int) := by rw [← and127]; exact iand_u64 h (by decide)
  have h2 : iwrap .u8 ((v % 128 : Nat) : Int) = ((v % 128 : Nat) : Int) := by unfold iwrap; rw [wrap_u8_mod]; omega
  rw [h1, h2]
  have := ior_u8 (x := v % 128) (y := 128) (by omega) (by decide)
  rw [or_disj (n := 7) (x := v % 128) (y := 1) (by omega)] at this
  exact this
theorem shr7 (v : Nat) : ishr .u64 (v : Int) (7 : Int) = ((v / 128 : Nat) : Int) := ishr_nat .u64 v 7 (by decide)
theorem iwrap8 {v : Nat} (h : v < 128) : iwrap .u8 (v : Int) = (v : Int) := by unfold iwrap; rw [wrap_u8_mod]; omega
end Go.Proofs.YtlkfoebophjhfaaGreatDoor
